/- The laws of the tracker of samples: their bodies. No condition. -/
import Derived.Test.YtjhmajcakhdcnaaCRefTrack
namespace Go.Proofs.Ytjhmajcakhdcnaa.I
open Go Go.RowKit
set_option linter.unusedVariables false
set_option linter.unusedSimpArgs false

theorem gaps (H : Heap) : ICalls Try.prog 16 [] H fun v H' => v = .bool true ∧ Eqv H' H := by
  refine IBody.calls (by kernel_rfl) (IBody.left ?_)
  refine IBody.of Try.func16 rfl (by rw [Try.ntmps16]; simp) ?_
  rw [Try.ntmps16]
  refine IWp.seq ?_
  refine IWp.run [] ?_
  simp [go_sem, -getElem?_pos, List.getElem?_cons_zero, List.getElem?_cons_succ, Go.IntWalk.iteOmega, Go.IntWalk.toNatUp]
  refine IWp.seq ?_
  refine IWp.run [1] ?_
  simp [go_sem, -getElem?_pos, List.getElem?_cons_zero, List.getElem?_cons_succ, Go.IntWalk.iteOmega, Go.IntWalk.toNatUp]
  refine ICalls.mono (new_tracker H 1) ?_
  rintro v H1 ⟨rfl, hT, hs, hn⟩
  try simp [go_sem, -getElem?_pos, List.getElem?_cons_zero, List.getElem?_cons_succ, Go.IntWalk.iteOmega, Go.IntWalk.toNatUp]
  refine IWp.seq ?_
  refine IWp.run [1, 2, 3] ?_
  simp [go_sem, -getElem?_pos, List.getElem?_cons_zero, List.getElem?_cons_succ, Go.IntWalk.iteOmega, Go.IntWalk.toNatUp]
  refine ICalls.mono (next_new H1 _ _ [⟨0, false, 0, 0⟩] 0 250 0 false hT (by simp) (by simp) (by simp) (by simp)) ?_
  rintro v H2 ⟨rfl, e2⟩
  try simp [go_sem, -getElem?_pos, List.getElem?_cons_zero, List.getElem?_cons_succ, Go.IntWalk.iteOmega, Go.IntWalk.toNatUp]
  refine IWp.seq ?_
  refine IWp.run [2, 3, 4, 5] ?_
  simp [go_sem, -getElem?_pos, List.getElem?_cons_zero, List.getElem?_cons_succ, Go.IntWalk.iteOmega, Go.IntWalk.toNatUp]
  refine ICalls.mono (next_new H2 _ _ [⟨250, true, 1, 0⟩] 0 2 0 false ((hT.set [⟨250, true, 1, 0⟩] rfl).eqv e2) (by simp) (by simp) (by simp) (by simp)) ?_
  rintro v H3 ⟨rfl, e3⟩
  try simp [go_sem, -getElem?_pos, List.getElem?_cons_zero, List.getElem?_cons_succ, Go.IntWalk.iteOmega, Go.IntWalk.toNatUp]
  refine IWp.seq ?_
  refine IWp.run [0] ?_
  simp [go_sem, -getElem?_pos, List.getElem?_cons_zero, List.getElem?_cons_succ, Go.IntWalk.iteOmega, Go.IntWalk.toNatUp]
  refine IWp.ret ?_
  simp [go_sem, -getElem?_pos, List.getElem?_cons_zero, List.getElem?_cons_succ, Go.IntWalk.iteOmega, Go.IntWalk.toNatUp, Try.results16]
  intro H4 hg hn4
  have h1 := e3.next
  have h2 := e2.next
  simp only [next_set] at h1 h2
  refine ⟨⟨by decide, by decide⟩, left_get hg (fun b hb => ?_) (Nat.le_refl _) (by omega)⟩
  rw [e3.get, get_set, if_neg (by omega), e2.get, get_set, if_neg (by omega), hs b hb]

/-- What the tracker knows of the third signal behind i rounds: `o` is left out where it is neither the first nor the last of k. -/
def runAt (first : Int) (k o i : Nat) : Last :=
  if i = 0 then ⟨0, false, 0, 0⟩
  else if 0 < o ∧ o + 1 < k ∧ o < i then
    (if i = o + 1 then ⟨(first + (o : Int) - 1) % 256, true, (o : Int), 0⟩ else ⟨(first + (i : Int) - 1) % 256, true, (i : Int) - 1, 1⟩)
  else ⟨(first + (i : Int) - 1) % 256, true, (i : Int), 0⟩

def lostAt (k o i : Nat) : Int := if 0 < o ∧ o + 1 < k ∧ o < i then 1 else 0

theorem sampleRuns (H : Heap) (first n out : Int) (h1 : 0 ≤ first ∧ first < 256) (h2 : 0 ≤ n ∧ n < 65536) (h3 : 0 ≤ out ∧ out < 65536) :
    IBody Try.prog 6 [.int .u8 first, .int .u16 n, .int .u16 out] H fun v _ => v = .bool true := by
  obtain ⟨k, hk, hkn⟩ : ∃ k : Nat, n.tmod 600 = (k : Int) ∧ k < 600 := ⟨(n % 600).toNat, by rw [Int.tmod_eq_emod_of_nonneg h2.1]; omega, by omega⟩
  obtain ⟨o, rfl⟩ : ∃ o : Nat, out = o := ⟨out.toNat, by omega⟩
  have w1 := IntWalk.u16_in (k : Int) (by omega)
  have w2 := IntWalk.i64_in (k : Int) (by omega)
  refine IBody.of Try.func6 rfl (by rw [Try.ntmps6]; simp) ?_
  rw [Try.ntmps6]
  refine IWp.seq ?_
  refine IWp.run [0, 1, 2] ?_
  simp [go_sem, -getElem?_pos, List.getElem?_cons_zero, List.getElem?_cons_succ, Go.IntWalk.iteOmega, Go.IntWalk.toNatUp, hk, w1, w2]
  refine IWp.seq ?_
  refine IWp.seq ?_
  refine IWp.run [0, 1, 2, 21] ?_
  simp [go_sem, -getElem?_pos, List.getElem?_cons_zero, List.getElem?_cons_succ, Go.IntWalk.iteOmega, Go.IntWalk.toNatUp, hk, w1, w2]
  refine ICalls.mono (gaps H) ?_
  rintro v H1 ⟨rfl, e1⟩
  try simp [go_sem, -getElem?_pos, List.getElem?_cons_zero, List.getElem?_cons_succ, Go.IntWalk.iteOmega, Go.IntWalk.toNatUp, hk, w1, w2]
  refine IWp.cond ?_
  simp [go_sem, -getElem?_pos, List.getElem?_cons_zero, List.getElem?_cons_succ, Go.IntWalk.iteOmega, Go.IntWalk.toNatUp, hk, w1, w2]
  refine IWp.skip ?_
  simp [go_sem, -getElem?_pos, List.getElem?_cons_zero, List.getElem?_cons_succ, Go.IntWalk.iteOmega, Go.IntWalk.toNatUp, hk, w1, w2]
  refine IWp.seq ?_
  refine IWp.run [0, 2, 7] ?_
  simp [go_sem, -getElem?_pos, List.getElem?_cons_zero, List.getElem?_cons_succ, Go.IntWalk.iteOmega, Go.IntWalk.toNatUp, hk, w1, w2]
  refine IWp.seq ?_
  refine IWp.run [0, 2, 7, 8] ?_
  simp [go_sem, -getElem?_pos, List.getElem?_cons_zero, List.getElem?_cons_succ, Go.IntWalk.iteOmega, Go.IntWalk.toNatUp, hk, w1, w2]
  refine ICalls.mono (new_tracker H1 3) ?_
  rintro v H2 ⟨rfl, hT, hs, hn⟩
  try simp [go_sem, -getElem?_pos, List.getElem?_cons_zero, List.getElem?_cons_succ, Go.IntWalk.iteOmega, Go.IntWalk.toNatUp, hk, w1, w2]
  refine IWp.seq ?_
  refine IWp.run [0, 2, 7, 8, 9] ?_
  simp [go_sem, -getElem?_pos, List.getElem?_cons_zero, List.getElem?_cons_succ, Go.IntWalk.iteOmega, Go.IntWalk.toNatUp, hk, w1, w2]
  refine IWp.seq ?_
  refine IWp.seq ?_
  refine IWp.run [0, 2, 7, 8, 9, 10] ?_
  simp [go_sem, -getElem?_pos, List.getElem?_cons_zero, List.getElem?_cons_succ, Go.IntWalk.iteOmega, Go.IntWalk.toNatUp, hk, w1, w2]
  refine IWp.block ?_
  -- LOOP live [0, 2, 7, 8, 9, 10]
  refine IWp.loop (fun j e K => ∃ i, j = k - i ∧ i ≤ k ∧ e = [(0, .int .u8 first), (2, .int .u16 (o : Int)), (7, .int .i64 (k : Int)), (8, .pointer (some ⟨H1.next + 1, 0, none⟩)), (9, .int .i64 (lostAt k o i)), (10, .int .i64 (i : Int))] ∧
    IsTracker K (H1.next + 1) H1.next [⟨0, false, 0, 0⟩, ⟨0, false, 0, 0⟩, runAt first k o i] ∧ H2.next ≤ K.next) k ⟨0, rfl, Nat.zero_le _, by simp [lostAt], hT, Nat.le_refl _⟩ ?_
  rintro j e K ⟨i, rfl, hi, rfl, hK, hn2⟩
  by_cases hik : i < k
  · have w3 := IntWalk.i64_in ((i : Int) + 1) (by omega)
    have w4 : IntKind.u8.wrap (first + IntKind.u8.wrap (i : Int)) = (first + i) % 256 := by rw [IntKind.wrap_u8, IntKind.wrap_u8]; omega
    have w5 := IntWalk.i64_in ((k : Int) - 1) (by omega)
    have w6 := IntWalk.i64_in (o : Int) (by omega)
    by_cases hsk : i = o ∧ 0 < i ∧ i + 1 < k
    · obtain ⟨rfl, hs1, hs2⟩ := hsk
      refine IWp.seq ?_
      refine IWp.seq ?_
      refine IWp.run [0, 2, 7, 8, 9, 10, 28] ?_
      simp [go_sem, -getElem?_pos, List.getElem?_cons_zero, List.getElem?_cons_succ, Go.IntWalk.iteOmega, Go.IntWalk.toNatUp, hik, w3, w5, w6, hs1, show ((i : Int) < (k : Int) - 1) by omega]
      refine IWp.cond ?_
      simp [go_sem, -getElem?_pos, List.getElem?_cons_zero, List.getElem?_cons_succ, Go.IntWalk.iteOmega, Go.IntWalk.toNatUp, hik, w3, w5, w6, hs1, show ((i : Int) < (k : Int) - 1) by omega]
      refine IWp.skip ?_
      simp [go_sem, -getElem?_pos, List.getElem?_cons_zero, List.getElem?_cons_succ, Go.IntWalk.iteOmega, Go.IntWalk.toNatUp, hik, w3, w5, w6, hs1, show ((i : Int) < (k : Int) - 1) by omega]
      refine IWp.seq ?_
      refine IWp.block ?_
      refine IWp.seq ?_
      refine IWp.seq ?_
      refine IWp.run [0, 2, 7, 8, 9, 10, 44] ?_
      simp [go_sem, -getElem?_pos, List.getElem?_cons_zero, List.getElem?_cons_succ, Go.IntWalk.iteOmega, Go.IntWalk.toNatUp, hik, w3, w5, w6, hs1, show ((i : Int) < (k : Int) - 1) by omega]
      refine IWp.cond ?_
      simp [go_sem, -getElem?_pos, List.getElem?_cons_zero, List.getElem?_cons_succ, Go.IntWalk.iteOmega, Go.IntWalk.toNatUp, hik, w3, w5, w6, hs1, show ((i : Int) < (k : Int) - 1) by omega]
      refine IWp.seq ?_
      refine IWp.run [0, 2, 7, 8, 9, 10] ?_
      simp [go_sem, -getElem?_pos, List.getElem?_cons_zero, List.getElem?_cons_succ, Go.IntWalk.iteOmega, Go.IntWalk.toNatUp, hik, w3, w5, w6, hs1, show ((i : Int) < (k : Int) - 1) by omega]
      refine IWp.exit ?_
      simp [go_sem, -getElem?_pos, List.getElem?_cons_zero, List.getElem?_cons_succ, Go.IntWalk.iteOmega, Go.IntWalk.toNatUp, hik, w3, w5, w6, hs1, show ((i : Int) < (k : Int) - 1) by omega]
      refine IWp.run [0, 2, 7, 8, 9, 10] ?_
      simp [go_sem, -getElem?_pos, List.getElem?_cons_zero, List.getElem?_cons_succ, Go.IntWalk.iteOmega, Go.IntWalk.toNatUp, hik, w3, w5, w6, hs1, show ((i : Int) < (k : Int) - 1) by omega]
      have hsame : runAt first k i (i + 1) = runAt first k i i := by
        have hz : ¬ i = 0 := by omega
        simp [runAt, hs1, hs2, hz]
      refine ⟨k - (i + 1), by omega, i + 1, rfl, by omega, ⟨by simp [lostAt, hs1, hs2], rfl⟩, ?_, hn2⟩
      rw [hsame]; exact hK
    · have hd : ¬ ((runAt first k o i).there = true ∧ (runAt first k o i).seq = (first + i) % 256) := by
        unfold runAt
        split
        · simp
        · split
          · split
            · simp only [true_and]; omega
            · simp only [true_and]; omega
          · simp only [true_and]; omega
      have hf : 0 ≤ (runAt first k o i).fresh ∧ (runAt first k o i).fresh < 2 ^ 40 := by
        unfold runAt
        split
        · simp
        · split
          · split
            · simp only; omega
            · simp only; omega
          · simp only; omega
      have hm : 0 ≤ (runAt first k o i).missed ∧ (runAt first k o i).missed < 2 ^ 40 := by
        unfold runAt
        split
        · simp
        · split
          · split <;> simp
          · simp
      have hnx : (runAt first k o i).next ((first + i) % 256) = runAt first k o (i + 1) := by
        by_cases hz : i = 0
        · subst hz
          simp [runAt, Last.next, Last.gap]
          intro hA _ hB
          omega
        · by_cases hA : 0 < o ∧ o + 1 < k ∧ o < i
          · have hB : 0 < o ∧ o + 1 < k ∧ o < i + 1 := by omega
            have hC : ¬ i = o := by omega
            by_cases hD : i = o + 1
            · subst hD
              simp [runAt, Last.next, Last.gap, hA, hB, IntKind.wrap_u8]
              omega
            · simp [runAt, Last.next, Last.gap, hA, hB, hC, hD, hz, IntKind.wrap_u8]
              omega
          · have hB : ¬ (0 < o ∧ o + 1 < k ∧ o < i + 1) := by omega
            simp only [runAt, Last.next, Last.gap, if_neg hz, if_neg hA, if_neg hB, if_true, IntKind.wrap_u8, Nat.add_eq_zero_iff, Nat.succ_ne_zero, and_false, if_false, Last.mk.injEq, true_and]
            omega
      have hl1 : lostAt k o i = lostAt k o (i + 1) := by unfold lostAt; split <;> split <;> omega
      by_cases ho : i = o
      · by_cases hz : 0 < i
        · have hk2 : ¬ ((i : Int) < (k : Int) - 1) := by omega
          subst ho
          refine IWp.seq ?_
          refine IWp.seq ?_
          refine IWp.run [0, 2, 7, 8, 9, 10, 28] ?_
          simp [go_sem, -getElem?_pos, List.getElem?_cons_zero, List.getElem?_cons_succ, Go.IntWalk.iteOmega, Go.IntWalk.toNatUp, hik, w3, w4, w5, w6, hz, hk2]
          refine IWp.cond ?_
          simp [go_sem, -getElem?_pos, List.getElem?_cons_zero, List.getElem?_cons_succ, Go.IntWalk.iteOmega, Go.IntWalk.toNatUp, hik, w3, w4, w5, w6, hz, hk2]
          refine IWp.skip ?_
          simp [go_sem, -getElem?_pos, List.getElem?_cons_zero, List.getElem?_cons_succ, Go.IntWalk.iteOmega, Go.IntWalk.toNatUp, hik, w3, w4, w5, w6, hz, hk2]
          refine IWp.seq ?_
          refine IWp.block ?_
          refine IWp.seq ?_
          refine IWp.seq ?_
          refine IWp.run [0, 2, 7, 8, 9, 10, 44] ?_
          simp [go_sem, -getElem?_pos, List.getElem?_cons_zero, List.getElem?_cons_succ, Go.IntWalk.iteOmega, Go.IntWalk.toNatUp, hik, w3, w4, w5, w6, hz, hk2]
          refine IWp.cond ?_
          simp [go_sem, -getElem?_pos, List.getElem?_cons_zero, List.getElem?_cons_succ, Go.IntWalk.iteOmega, Go.IntWalk.toNatUp, hik, w3, w4, w5, w6, hz, hk2]
          refine IWp.skip ?_
          simp [go_sem, -getElem?_pos, List.getElem?_cons_zero, List.getElem?_cons_succ, Go.IntWalk.iteOmega, Go.IntWalk.toNatUp, hik, w3, w4, w5, w6, hz, hk2]
          refine IWp.seq ?_
          refine IWp.run [0, 2, 7, 8, 9, 10, 12] ?_
          simp [go_sem, -getElem?_pos, List.getElem?_cons_zero, List.getElem?_cons_succ, Go.IntWalk.iteOmega, Go.IntWalk.toNatUp, hik, w3, w4, w5, w6, hz, hk2]
          refine ICalls.mono (next_new K _ _ [⟨0, false, 0, 0⟩, ⟨0, false, 0, 0⟩, runAt first k i i] 2 ((first + i) % 256) 0 false hK (by simp) hd hf hm) ?_
          rintro v K2 ⟨rfl, e2⟩
          try simp [go_sem, -getElem?_pos, List.getElem?_cons_zero, List.getElem?_cons_succ, Go.IntWalk.iteOmega, Go.IntWalk.toNatUp, hik, w3, w4, w5, w6, hz, hk2]
          refine IWp.seq ?_
          refine IWp.run [0, 2, 7, 8, 9, 10, 56] ?_
          simp [go_sem, -getElem?_pos, List.getElem?_cons_zero, List.getElem?_cons_succ, Go.IntWalk.iteOmega, Go.IntWalk.toNatUp, hik, w3, w4, w5, w6, hz, hk2]
          refine IWp.cond ?_
          simp [go_sem, -getElem?_pos, List.getElem?_cons_zero, List.getElem?_cons_succ, Go.IntWalk.iteOmega, Go.IntWalk.toNatUp, hik, w3, w4, w5, w6, hz, hk2]
          refine IWp.skip ?_
          simp [go_sem, -getElem?_pos, List.getElem?_cons_zero, List.getElem?_cons_succ, Go.IntWalk.iteOmega, Go.IntWalk.toNatUp, hik, w3, w4, w5, w6, hz, hk2]
          refine IWp.run [0, 2, 7, 8, 9, 10] ?_
          simp [go_sem, -getElem?_pos, List.getElem?_cons_zero, List.getElem?_cons_succ, Go.IntWalk.iteOmega, Go.IntWalk.toNatUp, hik, w3, w4, w5, w6, hz, hk2]
          refine ⟨k - (i + 1), by omega, i + 1, rfl, by omega, ⟨hl1, rfl⟩, ?_, ?_⟩
          · exact (hK.set [⟨0, false, 0, 0⟩, ⟨0, false, 0, 0⟩, runAt first k i (i + 1)] rfl).eqv (by rw [← hnx]; exact e2)
          · have := e2.next; simp only [next_set] at this; omega
        · subst ho
          refine IWp.seq ?_
          refine IWp.seq ?_
          refine IWp.run [0, 2, 7, 8, 9, 10, 28] ?_
          simp [go_sem, -getElem?_pos, List.getElem?_cons_zero, List.getElem?_cons_succ, Go.IntWalk.iteOmega, Go.IntWalk.toNatUp, hik, w3, w4, w5, w6, hz]
          refine IWp.cond ?_
          simp [go_sem, -getElem?_pos, List.getElem?_cons_zero, List.getElem?_cons_succ, Go.IntWalk.iteOmega, Go.IntWalk.toNatUp, hik, w3, w4, w5, w6, hz]
          refine IWp.skip ?_
          simp [go_sem, -getElem?_pos, List.getElem?_cons_zero, List.getElem?_cons_succ, Go.IntWalk.iteOmega, Go.IntWalk.toNatUp, hik, w3, w4, w5, w6, hz]
          refine IWp.seq ?_
          refine IWp.block ?_
          refine IWp.seq ?_
          refine IWp.seq ?_
          refine IWp.run [0, 2, 7, 8, 9, 10, 44] ?_
          simp [go_sem, -getElem?_pos, List.getElem?_cons_zero, List.getElem?_cons_succ, Go.IntWalk.iteOmega, Go.IntWalk.toNatUp, hik, w3, w4, w5, w6, hz]
          refine IWp.cond ?_
          simp [go_sem, -getElem?_pos, List.getElem?_cons_zero, List.getElem?_cons_succ, Go.IntWalk.iteOmega, Go.IntWalk.toNatUp, hik, w3, w4, w5, w6, hz]
          refine IWp.skip ?_
          simp [go_sem, -getElem?_pos, List.getElem?_cons_zero, List.getElem?_cons_succ, Go.IntWalk.iteOmega, Go.IntWalk.toNatUp, hik, w3, w4, w5, w6, hz]
          refine IWp.seq ?_
          refine IWp.run [0, 2, 7, 8, 9, 10, 12] ?_
          simp [go_sem, -getElem?_pos, List.getElem?_cons_zero, List.getElem?_cons_succ, Go.IntWalk.iteOmega, Go.IntWalk.toNatUp, hik, w3, w4, w5, w6, hz]
          refine ICalls.mono (next_new K _ _ [⟨0, false, 0, 0⟩, ⟨0, false, 0, 0⟩, runAt first k i i] 2 ((first + i) % 256) 0 false hK (by simp) hd hf hm) ?_
          rintro v K2 ⟨rfl, e2⟩
          try simp [go_sem, -getElem?_pos, List.getElem?_cons_zero, List.getElem?_cons_succ, Go.IntWalk.iteOmega, Go.IntWalk.toNatUp, hik, w3, w4, w5, w6, hz]
          refine IWp.seq ?_
          refine IWp.run [0, 2, 7, 8, 9, 10, 56] ?_
          simp [go_sem, -getElem?_pos, List.getElem?_cons_zero, List.getElem?_cons_succ, Go.IntWalk.iteOmega, Go.IntWalk.toNatUp, hik, w3, w4, w5, w6, hz]
          refine IWp.cond ?_
          simp [go_sem, -getElem?_pos, List.getElem?_cons_zero, List.getElem?_cons_succ, Go.IntWalk.iteOmega, Go.IntWalk.toNatUp, hik, w3, w4, w5, w6, hz]
          refine IWp.skip ?_
          simp [go_sem, -getElem?_pos, List.getElem?_cons_zero, List.getElem?_cons_succ, Go.IntWalk.iteOmega, Go.IntWalk.toNatUp, hik, w3, w4, w5, w6, hz]
          refine IWp.run [0, 2, 7, 8, 9, 10] ?_
          simp [go_sem, -getElem?_pos, List.getElem?_cons_zero, List.getElem?_cons_succ, Go.IntWalk.iteOmega, Go.IntWalk.toNatUp, hik, w3, w4, w5, w6, hz]
          refine ⟨k - (i + 1), by omega, i + 1, rfl, by omega, ⟨hl1, rfl⟩, ?_, ?_⟩
          · exact (hK.set [⟨0, false, 0, 0⟩, ⟨0, false, 0, 0⟩, runAt first k i (i + 1)] rfl).eqv (by rw [← hnx]; exact e2)
          · have := e2.next; simp only [next_set] at this; omega
      · skip
        refine IWp.seq ?_
        refine IWp.seq ?_
        refine IWp.run [0, 2, 7, 8, 9, 10, 28] ?_
        simp [go_sem, -getElem?_pos, List.getElem?_cons_zero, List.getElem?_cons_succ, Go.IntWalk.iteOmega, Go.IntWalk.toNatUp, hik, w3, w4, w5, w6, ho, show ¬ ((i : Int) = (o : Int)) by omega]
        refine IWp.cond ?_
        simp [go_sem, -getElem?_pos, List.getElem?_cons_zero, List.getElem?_cons_succ, Go.IntWalk.iteOmega, Go.IntWalk.toNatUp, hik, w3, w4, w5, w6, ho, show ¬ ((i : Int) = (o : Int)) by omega]
        refine IWp.skip ?_
        simp [go_sem, -getElem?_pos, List.getElem?_cons_zero, List.getElem?_cons_succ, Go.IntWalk.iteOmega, Go.IntWalk.toNatUp, hik, w3, w4, w5, w6, ho, show ¬ ((i : Int) = (o : Int)) by omega]
        refine IWp.seq ?_
        refine IWp.block ?_
        refine IWp.seq ?_
        refine IWp.seq ?_
        refine IWp.run [0, 2, 7, 8, 9, 10, 44] ?_
        simp [go_sem, -getElem?_pos, List.getElem?_cons_zero, List.getElem?_cons_succ, Go.IntWalk.iteOmega, Go.IntWalk.toNatUp, hik, w3, w4, w5, w6, ho, show ¬ ((i : Int) = (o : Int)) by omega]
        refine IWp.cond ?_
        simp [go_sem, -getElem?_pos, List.getElem?_cons_zero, List.getElem?_cons_succ, Go.IntWalk.iteOmega, Go.IntWalk.toNatUp, hik, w3, w4, w5, w6, ho, show ¬ ((i : Int) = (o : Int)) by omega]
        refine IWp.skip ?_
        simp [go_sem, -getElem?_pos, List.getElem?_cons_zero, List.getElem?_cons_succ, Go.IntWalk.iteOmega, Go.IntWalk.toNatUp, hik, w3, w4, w5, w6, ho, show ¬ ((i : Int) = (o : Int)) by omega]
        refine IWp.seq ?_
        refine IWp.run [0, 2, 7, 8, 9, 10, 12] ?_
        simp [go_sem, -getElem?_pos, List.getElem?_cons_zero, List.getElem?_cons_succ, Go.IntWalk.iteOmega, Go.IntWalk.toNatUp, hik, w3, w4, w5, w6, ho, show ¬ ((i : Int) = (o : Int)) by omega]
        refine ICalls.mono (next_new K _ _ [⟨0, false, 0, 0⟩, ⟨0, false, 0, 0⟩, runAt first k o i] 2 ((first + i) % 256) 0 false hK (by simp) hd hf hm) ?_
        rintro v K2 ⟨rfl, e2⟩
        try simp [go_sem, -getElem?_pos, List.getElem?_cons_zero, List.getElem?_cons_succ, Go.IntWalk.iteOmega, Go.IntWalk.toNatUp, hik, w3, w4, w5, w6, ho, show ¬ ((i : Int) = (o : Int)) by omega]
        refine IWp.seq ?_
        refine IWp.run [0, 2, 7, 8, 9, 10, 56] ?_
        simp [go_sem, -getElem?_pos, List.getElem?_cons_zero, List.getElem?_cons_succ, Go.IntWalk.iteOmega, Go.IntWalk.toNatUp, hik, w3, w4, w5, w6, ho, show ¬ ((i : Int) = (o : Int)) by omega]
        refine IWp.cond ?_
        simp [go_sem, -getElem?_pos, List.getElem?_cons_zero, List.getElem?_cons_succ, Go.IntWalk.iteOmega, Go.IntWalk.toNatUp, hik, w3, w4, w5, w6, ho, show ¬ ((i : Int) = (o : Int)) by omega]
        refine IWp.skip ?_
        simp [go_sem, -getElem?_pos, List.getElem?_cons_zero, List.getElem?_cons_succ, Go.IntWalk.iteOmega, Go.IntWalk.toNatUp, hik, w3, w4, w5, w6, ho, show ¬ ((i : Int) = (o : Int)) by omega]
        refine IWp.run [0, 2, 7, 8, 9, 10] ?_
        simp [go_sem, -getElem?_pos, List.getElem?_cons_zero, List.getElem?_cons_succ, Go.IntWalk.iteOmega, Go.IntWalk.toNatUp, hik, w3, w4, w5, w6, ho, show ¬ ((i : Int) = (o : Int)) by omega]
        refine ⟨k - (i + 1), by omega, i + 1, rfl, by omega, ⟨hl1, rfl⟩, ?_, ?_⟩
        · exact (hK.set [⟨0, false, 0, 0⟩, ⟨0, false, 0, 0⟩, runAt first k o (i + 1)] rfl).eqv (by rw [← hnx]; exact e2)
        · have := e2.next; simp only [next_set] at this; omega
  · have he : i = k := by omega
    subst he
    have hf : (runAt first i o i).fresh = (i : Int) - lostAt i o i := by
      unfold runAt lostAt
      split
      · subst_vars; simp
      · split
        · split
          · omega
          · rfl
        · simp
    have hm : (runAt first i o i).missed = lostAt i o i := by
      unfold runAt lostAt
      split
      · subst_vars; simp
      · split
        · split
          · omega
          · rfl
        · rfl
    have w7 := IntWalk.i64_in ((i : Int) - lostAt i o i) (by unfold lostAt; split <;> omega)
    refine IWp.seq ?_
    refine IWp.seq ?_
    refine IWp.run [0, 2, 7, 8, 9, 10, 28] ?_
    simp [go_sem, -getElem?_pos, List.getElem?_cons_zero, List.getElem?_cons_succ, Go.IntWalk.iteOmega, Go.IntWalk.toNatUp]
    refine IWp.cond ?_
    simp [go_sem, -getElem?_pos, List.getElem?_cons_zero, List.getElem?_cons_succ, Go.IntWalk.iteOmega, Go.IntWalk.toNatUp]
    refine IWp.exit ?_
    simp [go_sem, -getElem?_pos, List.getElem?_cons_zero, List.getElem?_cons_succ, Go.IntWalk.iteOmega, Go.IntWalk.toNatUp]
    refine IWp.seq ?_
    refine IWp.run [7, 8, 9, 13, 14] ?_
    simp [go_sem, -getElem?_pos, List.getElem?_cons_zero, List.getElem?_cons_succ, Go.IntWalk.iteOmega, Go.IntWalk.toNatUp, hf, hm, w7, IntWalk.i64_in 0 (by decide)]
    refine ICalls.mono (count_some K _ _ [⟨0, false, 0, 0⟩, ⟨0, false, 0, 0⟩, runAt first i o i] 2 hK (by simp)) ?_
    rintro v K1 ⟨rfl, rfl⟩
    try simp [go_sem, -getElem?_pos, List.getElem?_cons_zero, List.getElem?_cons_succ, Go.IntWalk.iteOmega, Go.IntWalk.toNatUp, hf, hm, w7, IntWalk.i64_in 0 (by decide)]
    refine IWp.seq ?_
    refine IWp.run [7, 9, 13, 14, 15, 16] ?_
    simp [go_sem, -getElem?_pos, List.getElem?_cons_zero, List.getElem?_cons_succ, Go.IntWalk.iteOmega, Go.IntWalk.toNatUp, hf, hm, w7, IntWalk.i64_in 0 (by decide)]
    refine ICalls.mono (count_some K1 _ _ [⟨0, false, 0, 0⟩, ⟨0, false, 0, 0⟩, runAt first i o i] 0 hK (by simp)) ?_
    rintro v K2 ⟨rfl, rfl⟩
    try simp [go_sem, -getElem?_pos, List.getElem?_cons_zero, List.getElem?_cons_succ, Go.IntWalk.iteOmega, Go.IntWalk.toNatUp, hf, hm, w7, IntWalk.i64_in 0 (by decide)]
    refine IWp.seq ?_
    refine IWp.run [7, 9, 13, 14, 15, 16, 17] ?_
    simp [go_sem, -getElem?_pos, List.getElem?_cons_zero, List.getElem?_cons_succ, Go.IntWalk.iteOmega, Go.IntWalk.toNatUp, hf, hm, w7, IntWalk.i64_in 0 (by decide)]
    refine IWp.seq ?_
    refine IWp.run [7, 9, 13, 14, 15, 16, 18, 19] ?_
    simp [go_sem, -getElem?_pos, List.getElem?_cons_zero, List.getElem?_cons_succ, Go.IntWalk.iteOmega, Go.IntWalk.toNatUp, hf, hm, w7, IntWalk.i64_in 0 (by decide)]
    refine ICalls.mono (next_nil K2 0 0 0 false) ?_
    rintro v K3 ⟨rfl, e3⟩
    try simp [go_sem, -getElem?_pos, List.getElem?_cons_zero, List.getElem?_cons_succ, Go.IntWalk.iteOmega, Go.IntWalk.toNatUp, hf, hm, w7, IntWalk.i64_in 0 (by decide)]
    refine IWp.seq ?_
    refine IWp.run [6] ?_
    simp [go_sem, -getElem?_pos, List.getElem?_cons_zero, List.getElem?_cons_succ, Go.IntWalk.iteOmega, Go.IntWalk.toNatUp, hf, hm, w7, IntWalk.i64_in 0 (by decide)]
    refine IWp.ret ?_
    simp [go_sem, -getElem?_pos, List.getElem?_cons_zero, List.getElem?_cons_succ, Go.IntWalk.iteOmega, Go.IntWalk.toNatUp, hf, hm, w7, IntWalk.i64_in 0 (by decide), Try.results6]

end Go.Proofs.Ytjhmajcakhdcnaa.I
