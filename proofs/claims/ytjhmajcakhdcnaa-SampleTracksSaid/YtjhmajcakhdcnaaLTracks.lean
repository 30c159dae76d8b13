/- The law of the tracker at samples of any signals. No condition. -/
import Derived.Test.YtjhmajcakhdcnaaLRuns
import Derived.Test.YtjhmajcakhdcnaaILaw
namespace Go.Proofs.Ytjhmajcakhdcnaa.I
open Go Go.RowKit
set_option linter.unusedVariables false
set_option linter.unusedSimpArgs false

def Samp.ty : Ty := .recd [.int .i64, .int .u8, .int .i64, .bool]
def Samp.wf (x : Samp) : Prop := (Lit.int .i64 x.sig).wf = true ∧ (Lit.int .u8 x.seq).wf = true ∧ (Lit.int .i64 x.val).wf = true
theorem Samp.ofLay {H : Heap} {d : Dt} {cs : List Value} (h : Lay H Samp.ty d cs) : ∃ x : Samp, cs = x.cells ∧ x.wf := by
  cases h with
  | recd h =>
    obtain _ | ⟨h0, h⟩ := h
    obtain _ | ⟨h1, h⟩ := h
    obtain _ | ⟨h2, h⟩ := h
    obtain _ | ⟨h3, h⟩ := h
    cases h
    cases h0
    cases h1
    cases h2
    cases h3
    exact ⟨⟨_, _, _, _⟩, rfl, by assumption, by assumption, by assumption⟩
theorem Samp.ofLayS {H : Heap} : ∀ {xs : List Dt} {css : List (List Value)}, LayS H Samp.ty xs css → ∃ L : List Samp, css = L.map Samp.cells ∧ xs.length = L.length ∧ ∀ x ∈ L, x.wf
  | _, _, .nil _ => ⟨[], rfl, rfl, fun _ h => (by cases h)⟩
  | _, _, .cons h hs => by
    obtain ⟨x, rfl, hx⟩ := Samp.ofLay h
    obtain ⟨L, rfl, hl, hw⟩ := Samp.ofLayS hs
    exact ⟨x :: L, rfl, by simp [hl], fun y hy => by rcases List.mem_cons.1 hy with rfl | hy; exact hx; exact hw y hy⟩
theorem Samp.ofRow {H : Heap} {d : Dt} {v : Value} (h : LayV H (.row Samp.ty 4) d v) : ∃ (L : List Samp) (p : Option Addr) (c : Nat), v = .slice p L.length c ∧ (L.length = 0 ∨ ∃ b, p = some ⟨b, 0, some 4⟩ ∧ H.get b = some ⟨Samp.row L, false⟩) ∧ (∀ x ∈ L, x.wf) ∧ L.length ≤ maxLen := by
  have h := layV_row h
  cases h with
  | nil => exact ⟨[], none, 0, rfl, .inl rfl, fun _ h => (by cases h), Nat.zero_le _⟩
  | away => exact ⟨[], _, 1, rfl, .inl rfl, fun _ h => (by cases h), Nat.zero_le _⟩
  | row hn hm hg hs hz =>
    obtain ⟨L, rfl, hl, hw⟩ := Samp.ofLayS hs
    exact ⟨L, _, 1, by rw [hl], .inr ⟨_, rfl, by rw [hg]; simp [Samp.row, List.flatMap]⟩, hw, by omega⟩

theorem Samp.wf.toOk {x : Samp} (h : x.wf) : x.ok := wf_u8 h.2.1

/-- What the tracker knows fits what came. -/
structure Fits (n : Nat) (L : List Last) (C : List Samp) : Prop where
  len : L.length = n
  ins : ∀ x ∈ C, 0 ≤ x.sig ∧ x.sig < n
  oks : ∀ x ∈ C, x.ok
  ask : ∀ (i : Nat) (h : i < L.length) (s : Samp), s.sig = i → seen C C.length s = if (L[i]).there = true then (if (L[i]).seq = s.seq then (0, false) else ((s.seq - (L[i]).seq - 1) % 256, true)) else (0, true)
  rng : ∀ (i : Nat) (h : i < L.length), (L[i]).there = true → 0 ≤ (L[i]).seq ∧ (L[i]).seq < 256
  cnt : ∀ (i : Nat) (h : i < L.length), (L[i]).fresh = (tally C i C.length).1 ∧ (L[i]).missed = (tally C i C.length).2

theorem tally_out (C : List Samp) (sg : Int) (h : ∀ x ∈ C, x.sig ≠ sg) : ∀ m, tally C sg m = (0, 0)
  | 0 => rfl
  | m + 1 => by
    simp only [tally]
    cases ht : C[m]? with
    | none => simp [tally_out C sg h m]
    | some x => simp [h x (List.mem_of_getElem? ht), tally_out C sg h m]

theorem tally_take (C D : List Samp) (sg : Int) : ∀ m, m ≤ C.length → tally (C ++ D) sg m = tally C sg m
  | 0, _ => rfl
  | m + 1, h => by
    have e : (C ++ D)[m]? = C[m]? := List.getElem?_append_left (by omega)
    have e2 : ∀ x, seen (C ++ D) m x = seen C m x := fun x => by unfold seen; rw [List.take_append_of_le_length (by omega)]
    simp only [tally, e, e2]
    rw [tally_take C D sg m (by omega)]

theorem seen_snoc (C : List Samp) (x s : Samp) : seen (C ++ [x]) (C ++ [x]).length s = if x.sig = s.sig then (if x.seq = s.seq then (0, false) else ((s.seq - x.seq - 1) % 256, true)) else seen C C.length s := by
  unfold seen
  rw [List.take_length, List.take_length, rnext_snoc]

theorem tally_snoc (C : List Samp) (x : Samp) (sg : Int) : tally (C ++ [x]) sg (C ++ [x]).length = if x.sig = sg then ((tally C sg C.length).1 + 1, (tally C sg C.length).2 + (seen C C.length x).1) else tally C sg C.length := by
  have e : (C ++ [x])[C.length]? = some x := by simp
  have e2 : seen (C ++ [x]) C.length x = seen C C.length x := by unfold seen; rw [List.take_append_of_le_length (Nat.le_refl _)]
  rw [show (C ++ [x]).length = C.length + 1 by simp]
  simp only [tally, e, Option.map_some, Option.some.injEq, Option.getD_some, e2, tally_take C [x] sg C.length (Nat.le_refl _)]

theorem Fits.start (n : Nat) : Fits n (List.replicate n ⟨0, false, 0, 0⟩) [] := by
  refine ⟨by simp, fun _ h => (by cases h), fun _ h => (by cases h), fun i h s hs => ?_, fun i h => ?_, fun i h => ?_⟩
  · simp [seen, rnext]
  · simp
  · simp [tally]

theorem Fits.gap {n : Nat} {L : List Last} {C : List Samp} (f : Fits n L C) (i : Nat) (h : i < L.length) (s : Samp) (hs : s.sig = i) (hok : s.ok) (hd : ¬ ((L[i]).there = true ∧ (L[i]).seq = s.seq)) : seen C C.length s = ((L[i]).gap s.seq, true) := by
  rw [f.ask i h s hs]
  unfold Last.gap
  by_cases ht : (L[i]).there = true
  · rw [if_pos ht, if_pos ht, if_neg (fun e => hd ⟨ht, e⟩), IntKind.wrap_u8, IntKind.wrap_u8]
    congr 1
    omega
  · rw [if_neg ht, if_neg ht]

theorem Fits.next {n : Nat} {L : List Last} {C : List Samp} (f : Fits n L C) (i : Nat) (h : i < L.length) (s : Samp) (hs : s.sig = i) (hok : s.ok) (hd : ¬ ((L[i]).there = true ∧ (L[i]).seq = s.seq)) : Fits n (L.set i ((L[i]).next s.seq)) (C ++ [s]) := by
  have hg := f.gap i h s hs hok hd
  have hl := f.len
  refine ⟨by simpa using f.len, fun x hx => ?_, fun x hx => ?_, fun j hj s' hs' => ?_, fun j hj ht => ?_, fun j hj => ?_⟩
  · rcases List.mem_append.1 hx with hx | hx
    · exact f.ins x hx
    · rw [List.mem_singleton.1 hx, hs]; omega
  · rcases List.mem_append.1 hx with hx | hx
    · exact f.oks x hx
    · rw [List.mem_singleton.1 hx]; exact hok
  · rw [seen_snoc]
    by_cases e : i = j
    · subst e
      rw [if_pos (by rw [hs, hs'])]
      simp [Last.next]
    · have hj' : j < L.length := by simpa using hj
      rw [if_neg (by rw [hs, hs']; omega), f.ask j hj' s' hs']
      simp [e]
  · by_cases e : i = j
    · subst e
      simp [Last.next]; exact hok
    · have hj' : j < L.length := by simpa using hj
      simp [e] at ht ⊢
      exact f.rng j hj' ht
  · rw [tally_snoc]
    by_cases e : i = j
    · subst e
      rw [if_pos hs, hg]
      simp [Last.next, f.cnt i h]
    · have hj' : j < L.length := by simpa using hj
      rw [if_neg (by rw [hs]; omega)]
      simp [e, f.cnt j hj']

theorem eqv_same {H : Heap} {l : Nat} {cs : List Value} (h : H.get l = some ⟨cs, true⟩) : Eqv H (H.set l cs) :=
  ⟨fun b => by
    rw [get_set]
    by_cases e : b = l
    · subst e; rw [if_pos rfl, h]; rfl
    · rw [if_neg e], Nat.le_refl _⟩

/-- What a tracker that has `n` signals tells of a sample. -/
def told (n : Nat) (C : List Samp) (s : Samp) : Int × Bool := if 0 ≤ s.sig ∧ s.sig < n then seen C C.length s else (0, false)

theorem next_fits (H : Heap) (t l n : Nat) (L : List Last) (C : List Samp) (s : Samp) (hT : IsTracker H t l L) (hF : Fits n L C) (hok : s.ok) (hC : C.length ≤ 1000) :
    ICalls Try.prog 18 [.pointer (some ⟨t, 0, none⟩), .agg #[.int .i64 s.sig, .int .u8 s.seq, .int .i64 s.val, .bool s.bad]] H fun v H' => v = .tuple #[.int .i64 (told n C s).1, .bool (told n C s).2] ∧
      ∃ L', Fits n L' (if (told n C s).2 = true then C ++ [s] else C) ∧ L'.length = L.length ∧ Eqv H' (H.set l (Last.row L')) := by
  by_cases hin : 0 ≤ s.sig ∧ s.sig < n
  · obtain ⟨i, hi⟩ : ∃ i : Nat, s.sig = i := ⟨s.sig.toNat, by omega⟩
    have hl : i < L.length := by rw [hF.len]; omega
    have ht : told n C s = seen C C.length s := by unfold told; rw [if_pos hin]
    have hr := tally_range C i hF.oks C.length
    have hc := hF.cnt i hl
    by_cases hd : (L[i]).there = true ∧ (L[i]).seq = s.seq
    · have hs : seen C C.length s = (0, false) := by rw [hF.ask i hl s hi, if_pos hd.1, if_pos hd.2]
      rw [ht, hs, hi]
      refine ICalls.mono (next_same H t l L i s.seq s.val s.bad hT hl hd.1 hd.2) ?_
      rintro v H' ⟨rfl, e⟩
      exact ⟨rfl, L, by simpa using hF, rfl, e.trans (eqv_same hT.row)⟩
    · have hs := hF.gap i hl s hi hok hd
      rw [ht, hs, hi]
      refine ICalls.mono (next_new H t l L i s.seq s.val s.bad hT hl hd (by omega) (by omega)) ?_
      rintro v H' ⟨rfl, e⟩
      exact ⟨rfl, _, by simpa using hF.next i hl s hi hok hd, by simp, e⟩
  · have ht : told n C s = (0, false) := by unfold told; rw [if_neg hin]
    rw [ht]
    refine ICalls.mono (next_none H t l L s.sig s.seq s.val s.bad hT (by rw [hF.len]; exact hin)) ?_
    rintro v H' ⟨rfl, e⟩
    exact ⟨rfl, L, by simpa using hF, rfl, e.trans (eqv_same hT.row)⟩

/-- The counts at any number. -/
theorem count_fits (H : Heap) (t l n : Nat) (L : List Last) (C : List Samp) (i : Int) (hT : IsTracker H t l L) (hF : Fits n L C) :
    ICalls Try.prog 20 [.pointer (some ⟨t, 0, none⟩), .int .i64 i] H fun v H' => v = .tuple #[.int .i64 (tally C i C.length).1, .int .i64 (tally C i C.length).2] ∧ H' = H := by
  by_cases hin : 0 ≤ i ∧ i < n
  · obtain ⟨k, rfl⟩ : ∃ k : Nat, i = k := ⟨i.toNat, by omega⟩
    have hl : k < L.length := by rw [hF.len]; omega
    have hc := hF.cnt k hl
    rw [← hc.1, ← hc.2]
    exact count_some H t l L k hT hl
  · rw [tally_out C i (fun x hx e => hin (e ▸ hF.ins x hx))]
    exact count_none H t l L i hT (by rw [hF.len]; exact hin)

/-- The row of what came, as the law holds it. -/
def Came (K : Heap) (t l m : Nat) (p : Option Addr) (c : Nat) (C : List Samp) : Prop :=
  (p = none ∧ c = 0 ∧ C = []) ∨ (∃ q, p = some ⟨q, 0, some 4⟩ ∧ c = 1 ∧ K.get q = some ⟨Samp.row C, true⟩ ∧ q ≠ t ∧ q ≠ l ∧ m ≤ q ∧ C ≠ [])

theorem Came.ref {K : Heap} {t l m : Nat} {p : Option Addr} {c : Nat} {C : List Samp} (h : Came K t l m p c C) : C.length = 0 ∨ ∃ b, p = some ⟨b, 0, some 4⟩ ∧ K.get b = some ⟨Samp.row C, true⟩ := by
  rcases h with ⟨_, _, rfl⟩ | ⟨q, h1, _, h2, _⟩
  · exact .inl rfl
  · exact .inr ⟨q, h1, h2⟩

theorem Came.next {K X2 X3 : Heap} {t l m : Nat} {p : Option Addr} {c : Nat} {C : List Samp} {cs ds : List Value} (h : Came K t l m p c C) (hX : Eqv X2 (K.alloc cs)) (e3 : Eqv X3 (X2.set l ds)) : Came X3 t l m p c C := by
  rcases h with h | ⟨q, h1, h2, h3, h4, h5, h6⟩
  · exact .inl h
  · refine .inr ⟨q, h1, h2, ?_, h4, h5, h6⟩
    have := Heap.lt_of_get h3
    rw [e3.get, get_set, if_neg h5, hX.get, get_alloc, if_neg (by omega)]; exact h3
theorem Came.eqv {K X : Heap} {t l m : Nat} {p : Option Addr} {c : Nat} {C : List Samp} (h : Came K t l m p c C) (e : Eqv X K) : Came X t l m p c C := by
  rcases h with h | ⟨q, h1, h2, h3, h4, h5, h6⟩
  · exact .inl h
  · exact .inr ⟨q, h1, h2, by rw [e.get]; exact h3, h4, h5, h6⟩
theorem IsTracker.kill {H : Heap} {t l q : Nat} {L : List Last} (h : IsTracker H t l L) (h1 : q ≠ t) (h2 : q ≠ l) : IsTracker (H.kill q) t l L :=
  ⟨by rw [get_kill, if_neg (Ne.symm h1)]; exact h.head, by rw [get_kill, if_neg (Ne.symm h2)]; exact h.row, h.ne⟩
theorem eqv_alloc (K : Heap) (cs ds : List Value) : Eqv ((K.alloc cs).set K.next ds) (K.alloc ds) :=
  ⟨fun b => by
    rw [get_set, get_alloc, get_alloc, get_alloc]
    by_cases e : b = K.next
    · subst e; simp
    · simp [e], Nat.le_refl _⟩

set_option maxRecDepth 100000 in
theorem sampleTracks (H : Heap) (n : Int) (p : Option Addr) (c : Nat) (T : List Samp) (near : Bool) (hn : -9223372036854775808 ≤ n ∧ n < 9223372036854775808) (hp : T.length = 0 ∨ ∃ b, p = some ⟨b, 0, some 4⟩ ∧ H.get b = some ⟨Samp.row T, false⟩) (hw : ∀ x ∈ T, x.wf) :
    IBody Try.prog 5 [.int .i64 n, .slice p T.length c, .bool near] H fun v _ => v = .bool true := by
  by_cases h80 : 80 < T.length
  · skip
    refine IBody.of Try.func5 rfl (by rw [Try.ntmps5]; simp) ?_
    rw [Try.ntmps5]
    refine IWp.seq ?_
    refine IWp.run [0, 1, 2] ?_
    simp [go_sem, -getElem?_pos, List.getElem?_cons_zero, List.getElem?_cons_succ, Go.IntWalk.iteOmega, Go.IntWalk.toNatUp, h80, show ((80 : Int) < T.length) by omega]
    refine IWp.seq ?_
    refine IWp.seq ?_
    refine IWp.run [0, 1, 2, 26] ?_
    simp [go_sem, -getElem?_pos, List.getElem?_cons_zero, List.getElem?_cons_succ, Go.IntWalk.iteOmega, Go.IntWalk.toNatUp, h80, show ((80 : Int) < T.length) by omega]
    refine ICalls.mono (gaps H) ?_
    rintro v H1 ⟨rfl, e1⟩
    try simp [go_sem, -getElem?_pos, List.getElem?_cons_zero, List.getElem?_cons_succ, Go.IntWalk.iteOmega, Go.IntWalk.toNatUp, h80, show ((80 : Int) < T.length) by omega]
    refine IWp.cond ?_
    simp [go_sem, -getElem?_pos, List.getElem?_cons_zero, List.getElem?_cons_succ, Go.IntWalk.iteOmega, Go.IntWalk.toNatUp, h80, show ((80 : Int) < T.length) by omega]
    refine IWp.seq ?_
    refine IWp.run [6] ?_
    simp [go_sem, -getElem?_pos, List.getElem?_cons_zero, List.getElem?_cons_succ, Go.IntWalk.iteOmega, Go.IntWalk.toNatUp, h80, show ((80 : Int) < T.length) by omega]
    refine ICalls.mono (gaps H1) ?_
    rintro v H2 ⟨rfl, e2⟩
    try simp [go_sem, -getElem?_pos, List.getElem?_cons_zero, List.getElem?_cons_succ, Go.IntWalk.iteOmega, Go.IntWalk.toNatUp, h80, show ((80 : Int) < T.length) by omega]
    refine IWp.ret ?_
    simp [go_sem, -getElem?_pos, List.getElem?_cons_zero, List.getElem?_cons_succ, Go.IntWalk.iteOmega, Go.IntWalk.toNatUp, h80, show ((80 : Int) < T.length) by omega, Try.results5]
  · skip
    refine IBody.of Try.func5 rfl (by rw [Try.ntmps5]; simp) ?_
    rw [Try.ntmps5]
    refine IWp.seq ?_
    refine IWp.run [0, 1, 2] ?_
    simp [go_sem, -getElem?_pos, List.getElem?_cons_zero, List.getElem?_cons_succ, Go.IntWalk.iteOmega, Go.IntWalk.toNatUp, h80, show ¬ ((80 : Int) < T.length) by omega]
    refine IWp.seq ?_
    refine IWp.seq ?_
    refine IWp.run [0, 1, 2, 26] ?_
    simp [go_sem, -getElem?_pos, List.getElem?_cons_zero, List.getElem?_cons_succ, Go.IntWalk.iteOmega, Go.IntWalk.toNatUp, h80, show ¬ ((80 : Int) < T.length) by omega]
    refine ICalls.mono (gaps H) ?_
    rintro v H1 ⟨rfl, e1⟩
    try simp [go_sem, -getElem?_pos, List.getElem?_cons_zero, List.getElem?_cons_succ, Go.IntWalk.iteOmega, Go.IntWalk.toNatUp, h80, show ¬ ((80 : Int) < T.length) by omega]
    refine IWp.cond ?_
    simp [go_sem, -getElem?_pos, List.getElem?_cons_zero, List.getElem?_cons_succ, Go.IntWalk.iteOmega, Go.IntWalk.toNatUp, h80, show ¬ ((80 : Int) < T.length) by omega]
    refine IWp.trim [0, 1, 2] (IWp.skip ?_)
    simp [go_sem, -getElem?_pos, List.getElem?_cons_zero, List.getElem?_cons_succ, Go.IntWalk.iteOmega, Go.IntWalk.toNatUp, h80, show ¬ ((80 : Int) < T.length) by omega]
    refine IWp.seq ?_
    refine IWp.run [0, 1, 2, 7] ?_
    simp [go_sem, -getElem?_pos, List.getElem?_cons_zero, List.getElem?_cons_succ, Go.IntWalk.iteOmega, Go.IntWalk.toNatUp, h80, show ¬ ((80 : Int) < T.length) by omega]
    refine ICalls.mono (new_tracker H1 n) ?_
    rintro v H2 ⟨rfl, hT, hs, hn2⟩
    try simp [go_sem, -getElem?_pos, List.getElem?_cons_zero, List.getElem?_cons_succ, Go.IntWalk.iteOmega, Go.IntWalk.toNatUp, h80, show ¬ ((80 : Int) < T.length) by omega]
    -- CUT live [0, 1, 2, 7]
    refine IWp.cut (fun e K => e = [(0, .int .i64 (max n 0)), (1, .slice p T.length c), (2, .bool near), (7, .pointer (some ⟨H1.next + 1, 0, none⟩))] ∧ K = H2) ?_ ?_
    · by_cases h0 : n < 0
      · skip
        refine IWp.seq ?_
        refine IWp.run [0, 1, 2, 7, 31] ?_
        simp [go_sem, -getElem?_pos, List.getElem?_cons_zero, List.getElem?_cons_succ, Go.IntWalk.iteOmega, Go.IntWalk.toNatUp, h0]
        refine IWp.cond ?_
        simp [go_sem, -getElem?_pos, List.getElem?_cons_zero, List.getElem?_cons_succ, Go.IntWalk.iteOmega, Go.IntWalk.toNatUp, h0]
        refine IWp.run [0, 1, 2, 7] ?_
        simp [go_sem, -getElem?_pos, List.getElem?_cons_zero, List.getElem?_cons_succ, Go.IntWalk.iteOmega, Go.IntWalk.toNatUp, h0]
        omega
      · skip
        refine IWp.seq ?_
        refine IWp.run [0, 1, 2, 7, 31] ?_
        simp [go_sem, -getElem?_pos, List.getElem?_cons_zero, List.getElem?_cons_succ, Go.IntWalk.iteOmega, Go.IntWalk.toNatUp, h0]
        refine IWp.cond ?_
        simp [go_sem, -getElem?_pos, List.getElem?_cons_zero, List.getElem?_cons_succ, Go.IntWalk.iteOmega, Go.IntWalk.toNatUp, h0]
        refine IWp.trim [0, 1, 2, 7] (IWp.skip ?_)
        simp [go_sem, -getElem?_pos, List.getElem?_cons_zero, List.getElem?_cons_succ, Go.IntWalk.iteOmega, Go.IntWalk.toNatUp, h0]
        omega
    · rintro e K ⟨rfl, rfl⟩
      -- CUT live [0, 1, 2, 7]
      refine IWp.cut (fun e X => e = [(0, .int .i64 (min (max n 0) 8)), (1, .slice p T.length c), (2, .bool near), (7, .pointer (some ⟨H1.next + 1, 0, none⟩))] ∧ X = K) ?_ ?_
      · by_cases h0 : 8 < max n 0
        · skip
          refine IWp.seq ?_
          refine IWp.run [0, 1, 2, 7, 33] ?_
          simp [go_sem, -getElem?_pos, List.getElem?_cons_zero, List.getElem?_cons_succ, Go.IntWalk.iteOmega, Go.IntWalk.toNatUp, h0, show (8 : Int) < n ∨ (8 : Int) < 0 by omega]
          refine IWp.cond ?_
          simp [go_sem, -getElem?_pos, List.getElem?_cons_zero, List.getElem?_cons_succ, Go.IntWalk.iteOmega, Go.IntWalk.toNatUp, h0, show (8 : Int) < n ∨ (8 : Int) < 0 by omega]
          refine IWp.run [0, 1, 2, 7] ?_
          simp [go_sem, -getElem?_pos, List.getElem?_cons_zero, List.getElem?_cons_succ, Go.IntWalk.iteOmega, Go.IntWalk.toNatUp, h0, show (8 : Int) < n ∨ (8 : Int) < 0 by omega]
          omega
        · skip
          refine IWp.seq ?_
          refine IWp.run [0, 1, 2, 7, 33] ?_
          simp [go_sem, -getElem?_pos, List.getElem?_cons_zero, List.getElem?_cons_succ, Go.IntWalk.iteOmega, Go.IntWalk.toNatUp, h0, show ¬ ((8 : Int) < n) by omega]
          refine IWp.cond ?_
          simp [go_sem, -getElem?_pos, List.getElem?_cons_zero, List.getElem?_cons_succ, Go.IntWalk.iteOmega, Go.IntWalk.toNatUp, h0, show ¬ ((8 : Int) < n) by omega]
          refine IWp.trim [0, 1, 2, 7] (IWp.skip ?_)
          simp [go_sem, -getElem?_pos, List.getElem?_cons_zero, List.getElem?_cons_succ, Go.IntWalk.iteOmega, Go.IntWalk.toNatUp, h0, show ¬ ((8 : Int) < n) by omega]
          omega
      · rintro e X ⟨rfl, rfl⟩
        refine IWp.seq ?_
        refine IWp.run [0, 1, 2, 7, 8] ?_
        simp [go_sem, -getElem?_pos, List.getElem?_cons_zero, List.getElem?_cons_succ, Go.IntWalk.iteOmega, Go.IntWalk.toNatUp]
        refine IWp.seq ?_
        refine IWp.seq ?_
        refine IWp.run [0, 1, 2, 7, 8, 9] ?_
        simp [go_sem, -getElem?_pos, List.getElem?_cons_zero, List.getElem?_cons_succ, Go.IntWalk.iteOmega, Go.IntWalk.toNatUp]
        refine IWp.block ?_
        -- LOOP live [0, 1, 2, 7, 8, 9]
        obtain ⟨N, hN, hN8⟩ : ∃ N : Nat, min (max n 0) 8 = (N : Int) ∧ N ≤ 8 := ⟨(min (max n 0) 8).toNat, by omega, by omega⟩
        rw [hN] at hT ⊢
        have hF0 := Fits.start N
        have h1n := e1.next
        refine IWp.loop (fun j e K => ∃ i C L c' p', j = T.length - i ∧ i ≤ T.length ∧ e = [(0, .int .i64 (N : Int)), (1, .slice p T.length c), (2, .bool near), (7, .pointer (some ⟨H1.next + 1, 0, none⟩)), (8, .slice p' C.length c'), (9, .int .i64 (i : Int))] ∧
          IsTracker K (H1.next + 1) H1.next L ∧ Fits N L C ∧ C.length ≤ i ∧ Came K (H1.next + 1) H1.next H.next p' c' C ∧ (∀ b, b < H.next → K.get b = H.get b)) T.length
          ⟨0, [], _, 0, none, by omega, by omega, rfl, hT, by simpa using hF0, Nat.le_refl _, .inl ⟨rfl, rfl, rfl⟩, fun b hb => by rw [hs b (by omega), e1.get]⟩ ?_
        rintro j e K ⟨i, C, L, c', p', rfl, hi, rfl, hK, hF, hCi, hCame, hold⟩
        by_cases hlt : i < T.length
        · obtain ⟨b, rfl, hb⟩ := hp.resolve_left (by omega)
          have hbn := Heap.lt_of_get hb
          rw [← hold b hbn] at hb
          have hKn := Heap.lt_of_get hb
          refine IWp.seq ?_
          refine IWp.seq ?_
          refine IWp.run [0, 1, 2, 7, 8, 9, 37] ?_
          simp [go_sem, -getElem?_pos, List.getElem?_cons_zero, List.getElem?_cons_succ, Go.IntWalk.iteOmega, Go.IntWalk.toNatUp, hlt, hb, Samp.cells, Samp.row_at, Samp.row_length, Samp.row_room, show i * 4 + 4 ≤ T.length * 4 by omega, show ¬ ((i : Int) < 0) by omega]
          refine IWp.cond ?_
          simp [go_sem, -getElem?_pos, List.getElem?_cons_zero, List.getElem?_cons_succ, Go.IntWalk.iteOmega, Go.IntWalk.toNatUp, hlt, hb, Samp.cells, Samp.row_at, Samp.row_length, Samp.row_room, show i * 4 + 4 ≤ T.length * 4 by omega, show ¬ ((i : Int) < 0) by omega]
          refine IWp.trim [0, 1, 2, 7, 8, 9] (IWp.skip ?_)
          simp [go_sem, -getElem?_pos, List.getElem?_cons_zero, List.getElem?_cons_succ, Go.IntWalk.iteOmega, Go.IntWalk.toNatUp, hlt, hb, Samp.cells, Samp.row_at, Samp.row_length, Samp.row_room, show i * 4 + 4 ≤ T.length * 4 by omega, show ¬ ((i : Int) < 0) by omega]
          refine IWp.seq ?_
          refine IWp.block ?_
          refine IWp.seq ?_
          refine IWp.run [0, 1, 2, 7, 8, 9, 10] ?_
          simp [go_sem, -getElem?_pos, List.getElem?_cons_zero, List.getElem?_cons_succ, Go.IntWalk.iteOmega, Go.IntWalk.toNatUp, hlt, hb, Samp.cells, Samp.row_at, Samp.row_length, Samp.row_room, show i * 4 + 4 ≤ T.length * 4 by omega, show ¬ ((i : Int) < 0) by omega]
          -- CUT live [0, 1, 2, 7, 8, 9, 10]
          have hwi := hw _ (List.getElem_mem hlt)
          have hsig := wf_i64 hwi.1
          have hseq := wf_u8 hwi.2.1
          refine IWp.cut (fun e X => ∃ s : Samp, s.ok ∧ e = [(0, .int .i64 (N : Int)), (1, .slice (some ⟨b, 0, some 4⟩) T.length c), (2, .bool near), (7, .pointer (some ⟨H1.next + 1, 0, none⟩)), (8, .slice p' C.length c'), (9, .int .i64 (i : Int)), (10, .pointer (some ⟨K.next, 0, none⟩))] ∧ Eqv X (K.alloc s.cells)) ?_ ?_
          · cases near with
            | true =>
              refine IWp.seq ?_
              refine IWp.run [0, 1, 2, 7, 8, 9, 10, 44] ?_
              simp [go_sem, -getElem?_pos, List.getElem?_cons_zero, List.getElem?_cons_succ, Go.IntWalk.iteOmega, Go.IntWalk.toNatUp]
              refine IWp.cond ?_
              simp [go_sem, -getElem?_pos, List.getElem?_cons_zero, List.getElem?_cons_succ, Go.IntWalk.iteOmega, Go.IntWalk.toNatUp]
              refine IWp.run [0, 1, 2, 7, 8, 9, 10] ?_
              simp [go_sem, -getElem?_pos, List.getElem?_cons_zero, List.getElem?_cons_succ, Go.IntWalk.iteOmega, Go.IntWalk.toNatUp]
              refine ⟨⟨_, _, _, _⟩, ?_, by rw [set_set, set_set]; exact eqv_alloc K _ _⟩
              show 0 ≤ T[i].seq.tmod 4 ∧ T[i].seq.tmod 4 < 256
              rw [Int.tmod_eq_emod_of_nonneg hseq.1]; omega
            | false =>
              refine IWp.seq ?_
              refine IWp.run [0, 1, 2, 7, 8, 9, 10, 44] ?_
              simp [go_sem, -getElem?_pos, List.getElem?_cons_zero, List.getElem?_cons_succ, Go.IntWalk.iteOmega, Go.IntWalk.toNatUp]
              refine IWp.cond ?_
              simp [go_sem, -getElem?_pos, List.getElem?_cons_zero, List.getElem?_cons_succ, Go.IntWalk.iteOmega, Go.IntWalk.toNatUp]
              refine IWp.trim [0, 1, 2, 7, 8, 9, 10] (IWp.skip ?_)
              simp [go_sem, -getElem?_pos, List.getElem?_cons_zero, List.getElem?_cons_succ, Go.IntWalk.iteOmega, Go.IntWalk.toNatUp]
              exact ⟨T[i], hseq, eqv_alloc K _ _⟩
          · rintro e X2 ⟨s, hok, rfl, hX⟩
            have hXs : X2.get K.next = some ⟨s.cells, true⟩ := by rw [hX.get, get_alloc, if_pos rfl]
            have hln := Heap.lt_of_get hK.row
            refine IWp.seq ?_
            refine IWp.run [0, 1, 2, 7, 8, 9, 10, 11, 12] ?_
            simp [go_sem, -getElem?_pos, List.getElem?_cons_zero, List.getElem?_cons_succ, Go.IntWalk.iteOmega, Go.IntWalk.toNatUp, hXs, Samp.cells]
            refine ICalls.mono (next_fits X2 _ _ N L C s ((hK.alloc _).eqv hX) hF hok (by omega)) ?_
            rintro v X3 ⟨rfl, L2, hF2, hL2, e3⟩
            try simp [go_sem, -getElem?_pos, List.getElem?_cons_zero, List.getElem?_cons_succ, Go.IntWalk.iteOmega, Go.IntWalk.toNatUp, hXs, Samp.cells, e3.get, show ¬ K.next = H1.next by omega]
            refine IWp.seq ?_
            refine IWp.run [0, 1, 2, 7, 8, 9, 10, 11, 12, 13, 14] ?_
            simp [go_sem, -getElem?_pos, List.getElem?_cons_zero, List.getElem?_cons_succ, Go.IntWalk.iteOmega, Go.IntWalk.toNatUp, hXs, Samp.cells, e3.get, show ¬ K.next = H1.next by omega]
            refine ICalls.mono (refNext X3 p' c' C C.length true s (Nat.le_refl _) (by omega) (hCame.next hX e3).ref hok hF.oks) ?_
            rintro v X4 ⟨rfl, e4⟩
            try simp [go_sem, -getElem?_pos, List.getElem?_cons_zero, List.getElem?_cons_succ, Go.IntWalk.iteOmega, Go.IntWalk.toNatUp, hXs, Samp.cells, e3.get, show ¬ K.next = H1.next by omega]
            -- CUT live [0, 1, 2, 7, 8, 9, 10, 11, 12, 13, 14]
            have hT4 : IsTracker X4 (H1.next + 1) H1.next L2 := ((((hK.alloc _).eqv hX).set L2 hL2).eqv e3).eqv e4
            have hC4 := (hCame.next hX e3).eqv e4
            have hX4 : X4.get K.next = some ⟨s.cells, true⟩ := by rw [e4.get, e3.get, get_set, if_neg (by omega)]; exact hXs
            have ho4 : ∀ b, b < H.next → X4.get b = H.get b := fun b hb => by rw [e4.get, e3.get, get_set, if_neg (by omega), hX.get, get_alloc, if_neg (by omega)]; exact hold b hb
            refine IWp.cut (fun e Y => e = [(0, .int .i64 (N : Int)), (1, .slice (some ⟨b, 0, some 4⟩) T.length c), (2, .bool near), (7, .pointer (some ⟨H1.next + 1, 0, none⟩)), (8, .slice p' C.length c'), (9, .int .i64 (i : Int)), (10, .pointer (some ⟨K.next, 0, none⟩)), (11, .int .i64 (told N C s).1), (12, .bool (told N C s).2), (13, .int .i64 (told N C s).1), (14, .bool (told N C s).2)] ∧ Y = X4) ?_ ?_
            · by_cases hneg : s.sig < 0
              · have ht : told N C s = (0, false) := by unfold told; rw [if_neg (by omega)]
                refine IWp.seq ?_
                refine IWp.run [0, 1, 2, 7, 8, 9, 10, 11, 12, 13, 14, 75] ?_
                simp [go_sem, -getElem?_pos, List.getElem?_cons_zero, List.getElem?_cons_succ, Go.IntWalk.iteOmega, Go.IntWalk.toNatUp, hX4, Samp.cells, hneg, ht]
                refine IWp.cond ?_
                simp [go_sem, -getElem?_pos, List.getElem?_cons_zero, List.getElem?_cons_succ, Go.IntWalk.iteOmega, Go.IntWalk.toNatUp, hX4, Samp.cells, hneg, ht]
                refine IWp.run [0, 1, 2, 7, 8, 9, 10, 11, 12, 13, 14] ?_
                simp [go_sem, -getElem?_pos, List.getElem?_cons_zero, List.getElem?_cons_succ, Go.IntWalk.iteOmega, Go.IntWalk.toNatUp, hX4, Samp.cells, hneg, ht]
              · by_cases hbig : (N : Int) ≤ s.sig
                · have ht : told N C s = (0, false) := by unfold told; rw [if_neg (by omega)]
                  refine IWp.seq ?_
                  refine IWp.run [0, 1, 2, 7, 8, 9, 10, 11, 12, 13, 14, 75] ?_
                  simp [go_sem, -getElem?_pos, List.getElem?_cons_zero, List.getElem?_cons_succ, Go.IntWalk.iteOmega, Go.IntWalk.toNatUp, hX4, Samp.cells, hneg, hbig, ht]
                  refine IWp.cond ?_
                  simp [go_sem, -getElem?_pos, List.getElem?_cons_zero, List.getElem?_cons_succ, Go.IntWalk.iteOmega, Go.IntWalk.toNatUp, hX4, Samp.cells, hneg, hbig, ht]
                  refine IWp.run [0, 1, 2, 7, 8, 9, 10, 11, 12, 13, 14] ?_
                  simp [go_sem, -getElem?_pos, List.getElem?_cons_zero, List.getElem?_cons_succ, Go.IntWalk.iteOmega, Go.IntWalk.toNatUp, hX4, Samp.cells, hneg, hbig, ht]
                · have ht : told N C s = seen C C.length s := by unfold told; rw [if_pos (by omega)]
                  refine IWp.seq ?_
                  refine IWp.run [0, 1, 2, 7, 8, 9, 10, 11, 12, 13, 14, 75] ?_
                  simp [go_sem, -getElem?_pos, List.getElem?_cons_zero, List.getElem?_cons_succ, Go.IntWalk.iteOmega, Go.IntWalk.toNatUp, hX4, Samp.cells, hneg, hbig, ht]
                  refine IWp.cond ?_
                  simp [go_sem, -getElem?_pos, List.getElem?_cons_zero, List.getElem?_cons_succ, Go.IntWalk.iteOmega, Go.IntWalk.toNatUp, hX4, Samp.cells, hneg, hbig, ht]
                  refine IWp.trim [0, 1, 2, 7, 8, 9, 10, 11, 12, 13, 14] (IWp.skip ?_)
                  simp [go_sem, -getElem?_pos, List.getElem?_cons_zero, List.getElem?_cons_succ, Go.IntWalk.iteOmega, Go.IntWalk.toNatUp, hX4, Samp.cells, hneg, hbig, ht]
            · rintro e Y ⟨rfl, rfl⟩
              refine IWp.seq ?_
              refine IWp.seq ?_
              refine IWp.run [0, 1, 2, 7, 8, 9, 10, 14, 83] ?_
              simp [go_sem, -getElem?_pos, List.getElem?_cons_zero, List.getElem?_cons_succ, Go.IntWalk.iteOmega, Go.IntWalk.toNatUp]
              refine IWp.cond ?_
              simp [go_sem, -getElem?_pos, List.getElem?_cons_zero, List.getElem?_cons_succ, Go.IntWalk.iteOmega, Go.IntWalk.toNatUp]
              refine IWp.trim [0, 1, 2, 7, 8, 9, 10, 14] (IWp.skip ?_)
              simp [go_sem, -getElem?_pos, List.getElem?_cons_zero, List.getElem?_cons_succ, Go.IntWalk.iteOmega, Go.IntWalk.toNatUp]
              -- CUT live [0, 1, 2, 7, 8, 9]
              refine IWp.cut (fun e Z => ∃ C2 c2 p2, e = [(0, .int .i64 (N : Int)), (1, .slice (some ⟨b, 0, some 4⟩) T.length c), (2, .bool near), (7, .pointer (some ⟨H1.next + 1, 0, none⟩)), (8, .slice p2 C2.length c2), (9, .int .i64 (i : Int))] ∧
                C2 = (if (told N C s).2 = true then C ++ [s] else C) ∧ Came Z (H1.next + 1) H1.next H.next p2 c2 C2 ∧ IsTracker Z (H1.next + 1) H1.next L2 ∧ (∀ b, b < H.next → Z.get b = H.get b)) ?_ ?_
              · by_cases hwant : (told N C s).2 = true
                · rcases hC4 with ⟨rfl, rfl, rfl⟩ | ⟨q, rfl, rfl, hq, hqt, hql, hqm, hne⟩
                  · skip
                    refine IWp.seq ?_
                    refine IWp.run [0, 1, 2, 7, 8, 9, 10, 84] ?_
                    simp [go_sem, -getElem?_pos, List.getElem?_cons_zero, List.getElem?_cons_succ, Go.IntWalk.iteOmega, Go.IntWalk.toNatUp, hwant, hX4, Samp.cells]
                    refine IWp.cond ?_
                    simp [go_sem, -getElem?_pos, List.getElem?_cons_zero, List.getElem?_cons_succ, Go.IntWalk.iteOmega, Go.IntWalk.toNatUp, hwant, hX4, Samp.cells]
                    refine IWp.run [0, 1, 2, 7, 8, 9] ?_
                    simp [go_sem, -getElem?_pos, List.getElem?_cons_zero, List.getElem?_cons_succ, Go.IntWalk.iteOmega, Go.IntWalk.toNatUp, hwant, hX4, Samp.cells]
                    have hYn := Heap.lt_of_get hX4
                    exact ⟨[s], 1, _, ⟨rfl, rfl, rfl⟩, rfl, .inr ⟨Y.next + 1, rfl, rfl, by simp [get_alloc, next_alloc, Samp.row, Samp.cells], by omega, by omega, by omega, by simp⟩, (hT4.alloc _).alloc _, fun b hb => by rw [if_neg (by omega), if_neg (by omega)]; exact ho4 b hb⟩
                  · have hYq : ¬ q = Y.next := by have := Heap.lt_of_get hq; omega
                    have ha1 : C.length + 1 ≤ 1099511627776 := by omega
                    have ha2 : (C.length + 1 + 768) * 32 ≤ 70368744177664 := by omega
                    refine IWp.seq ?_
                    refine IWp.run [0, 1, 2, 7, 8, 9, 10, 84] ?_
                    simp [go_sem, -getElem?_pos, List.getElem?_cons_zero, List.getElem?_cons_succ, Go.IntWalk.iteOmega, Go.IntWalk.toNatUp, hwant, hX4, hq, hYq, hne, ha1, ha2, Samp.cells, Samp.row_length]
                    refine IWp.cond ?_
                    simp [go_sem, -getElem?_pos, List.getElem?_cons_zero, List.getElem?_cons_succ, Go.IntWalk.iteOmega, Go.IntWalk.toNatUp, hwant, hX4, hq, hYq, hne, ha1, ha2, Samp.cells, Samp.row_length]
                    refine IWp.run [0, 1, 2, 7, 8, 9] ?_
                    simp [go_sem, -getElem?_pos, List.getElem?_cons_zero, List.getElem?_cons_succ, Go.IntWalk.iteOmega, Go.IntWalk.toNatUp, hwant, hX4, hq, hYq, hne, ha1, ha2, Samp.cells, Samp.row_length]
                    have hYn := Heap.lt_of_get hX4
                    refine ⟨C ++ [s], 1, _, ⟨rfl, by simp, rfl⟩, rfl, .inr ⟨Y.next + 1, rfl, rfl, ?_, by omega, by omega, by omega, by simp⟩, ((hT4.alloc _).kill hqt hql).alloc _, fun b hb => by rw [if_neg (by omega), if_neg (by omega), if_neg (by omega)]; exact ho4 b hb⟩
                    rw [get_alloc, if_pos (by simp [next_kill, next_alloc]), Samp.row_take, List.take_length]
                    exact congrArg (fun x => some (Blk.mk x true)) (Samp.row_snoc C s)
                · skip
                  refine IWp.seq ?_
                  refine IWp.run [0, 1, 2, 7, 8, 9, 10, 84] ?_
                  simp [go_sem, -getElem?_pos, List.getElem?_cons_zero, List.getElem?_cons_succ, Go.IntWalk.iteOmega, Go.IntWalk.toNatUp, hwant]
                  refine IWp.cond ?_
                  simp [go_sem, -getElem?_pos, List.getElem?_cons_zero, List.getElem?_cons_succ, Go.IntWalk.iteOmega, Go.IntWalk.toNatUp, hwant]
                  refine IWp.trim [0, 1, 2, 7, 8, 9] (IWp.skip ?_)
                  simp [go_sem, -getElem?_pos, List.getElem?_cons_zero, List.getElem?_cons_succ, Go.IntWalk.iteOmega, Go.IntWalk.toNatUp, hwant]
                  exact ⟨C, c', p', ⟨rfl, rfl, rfl⟩, rfl, hC4, hT4, ho4⟩
              · rintro e Z ⟨C2, c2, p2, rfl, hC2, hCame2, hT2, ho2⟩
                refine IWp.seq ?_
                refine IWp.run [0, 1, 2, 7, 8, 9, 15] ?_
                simp [go_sem, -getElem?_pos, List.getElem?_cons_zero, List.getElem?_cons_succ, Go.IntWalk.iteOmega, Go.IntWalk.toNatUp]
                refine IWp.block ?_
                -- LOOP live [0, 1, 2, 7, 8, 9, 15]
                rw [← hC2] at hF2
                have hCl : C2.length ≤ i + 1 := by
                  rw [hC2]
                  split
                  · simp; omega
                  · omega
                refine IWp.loop (fun j e Y => ∃ m : Nat, j = 10 - m ∧ m ≤ 10 ∧ e = [(0, .int .i64 (N : Int)), (1, .slice (some ⟨b, 0, some 4⟩) T.length c), (2, .bool near), (7, .pointer (some ⟨H1.next + 1, 0, none⟩)), (8, .slice p2 C2.length c2), (9, .int .i64 (i : Int)), (15, .int .i64 ((m : Int) - 1))] ∧ Eqv Y Z) 10 ⟨0, rfl, by omega, rfl, Eqv.refl Z⟩ ?_
                rintro j e Y2 ⟨m, rfl, hm, rfl, hY⟩
                by_cases hm2 : m < 10
                · have w9 := IntWalk.i64_in (m : Int) (by omega)
                  refine IWp.seq ?_
                  refine IWp.seq ?_
                  refine IWp.run [0, 1, 2, 7, 8, 9, 15, 90] ?_
                  simp [go_sem, -getElem?_pos, List.getElem?_cons_zero, List.getElem?_cons_succ, Go.IntWalk.iteOmega, Go.IntWalk.toNatUp, show (m : Int) - 1 < 9 by omega, w9]
                  refine IWp.cond ?_
                  simp [go_sem, -getElem?_pos, List.getElem?_cons_zero, List.getElem?_cons_succ, Go.IntWalk.iteOmega, Go.IntWalk.toNatUp, show (m : Int) - 1 < 9 by omega, w9]
                  refine IWp.trim [0, 1, 2, 7, 8, 9, 15] (IWp.skip ?_)
                  simp [go_sem, -getElem?_pos, List.getElem?_cons_zero, List.getElem?_cons_succ, Go.IntWalk.iteOmega, Go.IntWalk.toNatUp, show (m : Int) - 1 < 9 by omega, w9]
                  refine IWp.seq ?_
                  refine IWp.block ?_
                  refine IWp.seq ?_
                  refine IWp.run [0, 1, 2, 7, 8, 9, 15, 16, 17] ?_
                  simp [go_sem, -getElem?_pos, List.getElem?_cons_zero, List.getElem?_cons_succ, Go.IntWalk.iteOmega, Go.IntWalk.toNatUp, show (m : Int) - 1 < 9 by omega, w9]
                  refine ICalls.mono (count_fits Y2 _ _ N L2 C2 ((m : Int) - 1) (hT2.eqv hY) hF2) ?_
                  rintro v Y3 ⟨rfl, rfl⟩
                  try simp [go_sem, -getElem?_pos, List.getElem?_cons_zero, List.getElem?_cons_succ, Go.IntWalk.iteOmega, Go.IntWalk.toNatUp, show (m : Int) - 1 < 9 by omega, w9]
                  refine IWp.seq ?_
                  refine IWp.run [0, 1, 2, 7, 8, 9, 15, 16, 17, 18, 19] ?_
                  simp [go_sem, -getElem?_pos, List.getElem?_cons_zero, List.getElem?_cons_succ, Go.IntWalk.iteOmega, Go.IntWalk.toNatUp, show (m : Int) - 1 < 9 by omega, w9]
                  refine ICalls.mono (refCount Y3 p2 c2 C2 true ((m : Int) - 1) (by omega) (hCame2.eqv hY).ref hF2.oks) ?_
                  rintro v Y4 ⟨rfl, e5⟩
                  try simp [go_sem, -getElem?_pos, List.getElem?_cons_zero, List.getElem?_cons_succ, Go.IntWalk.iteOmega, Go.IntWalk.toNatUp, show (m : Int) - 1 < 9 by omega, w9]
                  refine IWp.seq ?_
                  refine IWp.run [0, 1, 2, 7, 8, 9, 15, 112] ?_
                  simp [go_sem, -getElem?_pos, List.getElem?_cons_zero, List.getElem?_cons_succ, Go.IntWalk.iteOmega, Go.IntWalk.toNatUp, show (m : Int) - 1 < 9 by omega, w9]
                  refine IWp.cond ?_
                  simp [go_sem, -getElem?_pos, List.getElem?_cons_zero, List.getElem?_cons_succ, Go.IntWalk.iteOmega, Go.IntWalk.toNatUp, show (m : Int) - 1 < 9 by omega, w9]
                  refine IWp.trim [0, 1, 2, 7, 8, 9, 15] (IWp.skip ?_)
                  simp [go_sem, -getElem?_pos, List.getElem?_cons_zero, List.getElem?_cons_succ, Go.IntWalk.iteOmega, Go.IntWalk.toNatUp, show (m : Int) - 1 < 9 by omega, w9]
                  refine IWp.run [0, 1, 2, 7, 8, 9, 15] ?_
                  simp [go_sem, -getElem?_pos, List.getElem?_cons_zero, List.getElem?_cons_succ, Go.IntWalk.iteOmega, Go.IntWalk.toNatUp, show (m : Int) - 1 < 9 by omega, w9]
                  exact ⟨10 - (m + 1), by omega, m + 1, rfl, by omega, by omega, e5.trans hY⟩
                · have w10 := IntWalk.i64_in ((i : Int) + 1) (by omega)
                  refine IWp.seq ?_
                  refine IWp.seq ?_
                  refine IWp.run [0, 1, 2, 7, 8, 9, 15, 90] ?_
                  simp [go_sem, -getElem?_pos, List.getElem?_cons_zero, List.getElem?_cons_succ, Go.IntWalk.iteOmega, Go.IntWalk.toNatUp, show ¬ ((m : Int) - 1 < 9) by omega, w10]
                  refine IWp.cond ?_
                  simp [go_sem, -getElem?_pos, List.getElem?_cons_zero, List.getElem?_cons_succ, Go.IntWalk.iteOmega, Go.IntWalk.toNatUp, show ¬ ((m : Int) - 1 < 9) by omega, w10]
                  refine IWp.trim [0, 1, 2, 7, 8, 9] (IWp.exit ?_)
                  simp [go_sem, -getElem?_pos, List.getElem?_cons_zero, List.getElem?_cons_succ, Go.IntWalk.iteOmega, Go.IntWalk.toNatUp, show ¬ ((m : Int) - 1 < 9) by omega, w10]
                  refine IWp.run [0, 1, 2, 7, 8, 9] ?_
                  simp [go_sem, -getElem?_pos, List.getElem?_cons_zero, List.getElem?_cons_succ, Go.IntWalk.iteOmega, Go.IntWalk.toNatUp, show ¬ ((m : Int) - 1 < 9) by omega, w10]
                  exact ⟨T.length - (i + 1), by omega, i + 1, rfl, by omega, C2, L2, c2, p2, ⟨⟨rfl, rfl, rfl⟩, rfl⟩, hT2.eqv hY, hF2, hCl, hCame2.eqv hY, fun b hb => by rw [hY.get]; exact ho2 b hb⟩
        · have he : i = T.length := by omega
          subst he
          refine IWp.seq ?_
          refine IWp.seq ?_
          refine IWp.run [0, 1, 2, 7, 8, 9, 37] ?_
          simp [go_sem, -getElem?_pos, List.getElem?_cons_zero, List.getElem?_cons_succ, Go.IntWalk.iteOmega, Go.IntWalk.toNatUp]
          refine IWp.cond ?_
          simp [go_sem, -getElem?_pos, List.getElem?_cons_zero, List.getElem?_cons_succ, Go.IntWalk.iteOmega, Go.IntWalk.toNatUp]
          refine IWp.trim [] (IWp.exit ?_)
          simp [go_sem, -getElem?_pos, List.getElem?_cons_zero, List.getElem?_cons_succ, Go.IntWalk.iteOmega, Go.IntWalk.toNatUp]
          refine IWp.seq ?_
          refine IWp.run [6] ?_
          simp [go_sem, -getElem?_pos, List.getElem?_cons_zero, List.getElem?_cons_succ, Go.IntWalk.iteOmega, Go.IntWalk.toNatUp]
          refine IWp.ret ?_
          simp [go_sem, -getElem?_pos, List.getElem?_cons_zero, List.getElem?_cons_succ, Go.IntWalk.iteOmega, Go.IntWalk.toNatUp, Try.results5]

end Go.Proofs.Ytjhmajcakhdcnaa.I
