/- What the document says of samples. No condition. -/
import Derived.Test.YtjhmajcakhdcnaaCTrack
import Derived.Test.YtjhmajcakhdcnaaIDraw
namespace Go.Proofs.Ytjhmajcakhdcnaa.I
open Go Go.RowKit
set_option linter.unusedVariables false
set_option linter.unusedSimpArgs false

structure Samp where
  sig : Int
  seq : Int
  val : Int
  bad : Bool
def Samp.cells (x : Samp) : List Value := [.int .i64 x.sig, .int .u8 x.seq, .int .i64 x.val, .bool x.bad]
theorem Samp.cells_length (x : Samp) : x.cells.length = 4 := rfl
def Samp.row (L : List Samp) : List Value := L.flatMap Samp.cells
theorem Samp.row_length (L : List Samp) : (Samp.row L).length = L.length * 4 := flat_length Samp.cells_length L
theorem Samp.row_at (L : List Samp) (i : Nat) (h : i < L.length) : ((Samp.row L).drop (i * 4)).take 4 = L[i].cells := flat_row Samp.cells_length L i h
theorem Samp.row_take (L : List Samp) (i : Nat) : (Samp.row L).take (i * 4) = Samp.row (L.take i) := flat_take Samp.cells_length L i
theorem Samp.row_drop (L : List Samp) (i : Nat) : (Samp.row L).drop (i * 4) = Samp.row (L.drop i) := flat_drop Samp.cells_length L i
theorem Samp.row_snoc (L : List Samp) (x : Samp) : Samp.row L ++ x.cells = Samp.row (L ++ [x]) := by simp [Samp.row]
theorem Samp.row_nil : Samp.row [] = [] := rfl
theorem Samp.row_room (n i f : Nat) (h : i < n) (hf : f ≤ 4) : i * 4 + f ≤ n * 4 := by omega
theorem Samp.row_get0 (L : List Samp) (i : Nat) (h : i < L.length) : (Samp.row L)[i * 4]? = some (.int .i64 L[i].sig) := flat_get Samp.cells_length L i 0 h (by decide)
theorem Samp.row_put0 (L : List Samp) (i : Nat) (h : i < L.length) (v : Int) : splice (Samp.row L) (i * 4) [.int .i64 v] = Samp.row (L.set i { L[i] with sig := v }) := flat_splice Samp.cells_length L i 0 _ _ h (by simp) rfl
-- sig
theorem Samp.row_get1 (L : List Samp) (i : Nat) (h : i < L.length) : (Samp.row L)[i * 4 + 1]? = some (.int .u8 L[i].seq) := flat_get Samp.cells_length L i 1 h (by decide)
theorem Samp.row_put1 (L : List Samp) (i : Nat) (h : i < L.length) (v : Int) : splice (Samp.row L) (i * 4 + 1) [.int .u8 v] = Samp.row (L.set i { L[i] with seq := v }) := flat_splice Samp.cells_length L i 1 _ _ h (by simp) rfl
-- seq
theorem Samp.row_get2 (L : List Samp) (i : Nat) (h : i < L.length) : (Samp.row L)[i * 4 + 2]? = some (.int .i64 L[i].val) := flat_get Samp.cells_length L i 2 h (by decide)
theorem Samp.row_put2 (L : List Samp) (i : Nat) (h : i < L.length) (v : Int) : splice (Samp.row L) (i * 4 + 2) [.int .i64 v] = Samp.row (L.set i { L[i] with val := v }) := flat_splice Samp.cells_length L i 2 _ _ h (by simp) rfl
-- val
theorem Samp.row_get3 (L : List Samp) (i : Nat) (h : i < L.length) : (Samp.row L)[i * 4 + 3]? = some (.bool L[i].bad) := flat_get Samp.cells_length L i 3 h (by decide)
theorem Samp.row_put3 (L : List Samp) (i : Nat) (h : i < L.length) (v : Bool) : splice (Samp.row L) (i * 4 + 3) [.bool v] = Samp.row (L.set i { L[i] with bad := v }) := flat_splice Samp.cells_length L i 3 _ _ h (by simp) rfl
-- bad

/-- Behind all that came: how many were lost; is it new? -/
def rnext : List Samp → Samp → Int × Bool
  | [], s => (0, true)
  | x :: r, s => if x.sig = s.sig then (if x.seq = s.seq then (0, false) else ((s.seq - x.seq - 1) % 256, true)) else rnext r s

/-- The newest stand ahead. -/
theorem rnext_snoc (A : List Samp) (x s : Samp) : rnext (A ++ [x]).reverse s = if x.sig = s.sig then (if x.seq = s.seq then (0, false) else ((s.seq - x.seq - 1) % 256, true)) else rnext A.reverse s := by
  rw [List.reverse_append]; rfl

def seen (T : List Samp) (m : Nat) (s : Samp) : Int × Bool := rnext (T.take m).reverse s
theorem seen_zero (T : List Samp) (s : Samp) : seen T 0 s = (0, true) := rfl
theorem seen_succ (T : List Samp) (m : Nat) (s : Samp) (h : m < T.length) : seen T (m + 1) s = if T[m].sig = s.sig then (if T[m].seq = s.seq then (0, false) else ((s.seq - T[m].seq - 1) % 256, true)) else seen T m s := by
  unfold seen
  rw [List.take_succ_eq_append_getElem h, rnext_snoc]

def Samp.ok (s : Samp) : Prop := 0 ≤ s.seq ∧ s.seq < 256

theorem refNext (H : Heap) (p : Option Addr) (c : Nat) (T : List Samp) (m : Nat) (own : Bool) (s : Samp) (hm : m ≤ T.length) (h40 : T.length ≤ 1099511627776) (hp : m = 0 ∨ ∃ b, p = some ⟨b, 0, some 4⟩ ∧ H.get b = some ⟨Samp.row T, own⟩) (hs : s.ok) (hT : ∀ x ∈ T, x.ok) :
    ICalls Try.prog 19 [.slice p m c, .agg #[.int .i64 s.sig, .int .u8 s.seq, .int .i64 s.val, .bool s.bad]] H fun v H' => v = .tuple #[.int .i64 (seen T m s).1, .bool (seen T m s).2] ∧ Eqv H' H := by
  refine IBody.calls (by kernel_rfl) (IBody.left ?_)
  have hw : IntKind.i64.wrap ((m : Int) - 1) = (m : Int) - 1 := IntWalk.i64_in _ (by omega)
  refine IBody.of Try.func19 rfl (by rw [Try.ntmps19]; simp) ?_
  rw [Try.ntmps19]
  refine IWp.seq ?_
  refine IWp.run [0, 3] ?_
  simp [go_sem, -getElem?_pos, List.getElem?_cons_zero, List.getElem?_cons_succ, Go.IntWalk.iteOmega, Go.IntWalk.toNatUp, hw]
  refine IWp.seq ?_
  refine IWp.seq ?_
  refine IWp.run [0, 3, 6] ?_
  simp [go_sem, -getElem?_pos, List.getElem?_cons_zero, List.getElem?_cons_succ, Go.IntWalk.iteOmega, Go.IntWalk.toNatUp, hw]
  refine IWp.block ?_
  -- LOOP live [0, 3, 6]
  refine IWp.loop (fun k e K => k ≤ m ∧ e = [(0, .slice p m c), (3, .pointer (some ⟨H.next, 0, none⟩)), (6, .int .i64 ((k : Int) - 1))] ∧ K = H.alloc s.cells ∧ seen T k s = seen T m s) m ⟨Nat.le_refl _, rfl, rfl, rfl⟩ ?_
  rintro k e K ⟨hk, rfl, rfl, hr⟩
  cases k with
  | zero =>
    refine IWp.seq ?_
    refine IWp.seq ?_
    refine IWp.run [0, 3, 6, 11] ?_
    simp [go_sem, -getElem?_pos, List.getElem?_cons_zero, List.getElem?_cons_succ, Go.IntWalk.iteOmega, Go.IntWalk.toNatUp]
    refine IWp.cond ?_
    simp [go_sem, -getElem?_pos, List.getElem?_cons_zero, List.getElem?_cons_succ, Go.IntWalk.iteOmega, Go.IntWalk.toNatUp]
    refine IWp.exit ?_
    simp [go_sem, -getElem?_pos, List.getElem?_cons_zero, List.getElem?_cons_succ, Go.IntWalk.iteOmega, Go.IntWalk.toNatUp]
    refine IWp.seq ?_
    refine IWp.run [4, 5] ?_
    simp [go_sem, -getElem?_pos, List.getElem?_cons_zero, List.getElem?_cons_succ, Go.IntWalk.iteOmega, Go.IntWalk.toNatUp]
    refine IWp.ret ?_
    simp [go_sem, -getElem?_pos, List.getElem?_cons_zero, List.getElem?_cons_succ, Go.IntWalk.iteOmega, Go.IntWalk.toNatUp, Try.results19]
    rw [← hr, seen_zero]
    intro H2 hg hn
    refine ⟨⟨rfl, rfl⟩, fun b => ?_, ?_⟩
    · rw [hg b]
      by_cases hb : b < Heap.next H
      · have hb1 : ¬ b = Heap.next H := Nat.ne_of_lt hb
        simp [hb, hb1, get_set, get_alloc, get_kill]
        try (repeat' split) <;> simp_all
      · rw [if_neg hb]
        refine (Heap.wf _ b ?_).symm
        try simp only [next_set, next_alloc, next_kill]
        omega
    · try simp only [next_set, next_alloc, next_kill] at hn
      try simp only [next_set, next_alloc, next_kill]
      omega
  | succ k =>
    have hkT : k < T.length := by omega
    obtain ⟨b, rfl, hb⟩ := hp.resolve_left (by omega)
    have hbn := Heap.lt_of_get hb
    have hbe : ¬ b = H.next := by omega
    rw [seen_succ T k s hkT] at hr
    have hq := hT T[k] (List.getElem_mem hkT)
    unfold Samp.ok at hq hs
    by_cases h1 : T[k].sig = s.sig
    · rw [if_pos h1] at hr
      by_cases h2 : T[k].seq = s.seq
      · rw [if_pos h2] at hr
        refine IWp.seq ?_
        refine IWp.seq ?_
        refine IWp.run [0, 3, 6, 11] ?_
        simp [go_sem, -getElem?_pos, List.getElem?_cons_zero, List.getElem?_cons_succ, Go.IntWalk.iteOmega, Go.IntWalk.toNatUp, hb, hbe, hkT, h1, h2, Samp.row_get0, Samp.row_get1, Samp.cells, show k < m by omega, show ¬ ((k : Int) < 0) by omega]
        refine IWp.cond ?_
        simp [go_sem, -getElem?_pos, List.getElem?_cons_zero, List.getElem?_cons_succ, Go.IntWalk.iteOmega, Go.IntWalk.toNatUp, hb, hbe, hkT, h1, h2, Samp.row_get0, Samp.row_get1, Samp.cells, show k < m by omega, show ¬ ((k : Int) < 0) by omega]
        refine IWp.skip ?_
        simp [go_sem, -getElem?_pos, List.getElem?_cons_zero, List.getElem?_cons_succ, Go.IntWalk.iteOmega, Go.IntWalk.toNatUp, hb, hbe, hkT, h1, h2, Samp.row_get0, Samp.row_get1, Samp.cells, show k < m by omega, show ¬ ((k : Int) < 0) by omega]
        refine IWp.seq ?_
        refine IWp.block ?_
        refine IWp.seq ?_
        refine IWp.read [0, 3, 6, 21] follows (by kernel_rfl) ?_
        simp [go_sem, -getElem?_pos, List.getElem?_cons_zero, List.getElem?_cons_succ, Go.IntWalk.iteOmega, Go.IntWalk.toNatUp, hb, hbe, hkT, h1, h2, Samp.row_get0, Samp.row_get1, Samp.cells, show k < m by omega, show ¬ ((k : Int) < 0) by omega]
        refine IWp.cond ?_
        simp [go_sem, -getElem?_pos, List.getElem?_cons_zero, List.getElem?_cons_succ, Go.IntWalk.iteOmega, Go.IntWalk.toNatUp, hb, hbe, hkT, h1, h2, Samp.row_get0, Samp.row_get1, Samp.cells, show k < m by omega, show ¬ ((k : Int) < 0) by omega]
        refine IWp.seq ?_
        refine IWp.seq ?_
        refine IWp.read [0, 3, 6, 29] follows (by kernel_rfl) ?_
        simp [go_sem, -getElem?_pos, List.getElem?_cons_zero, List.getElem?_cons_succ, Go.IntWalk.iteOmega, Go.IntWalk.toNatUp, hb, hbe, hkT, h1, h2, Samp.row_get0, Samp.row_get1, Samp.cells, show k < m by omega, show ¬ ((k : Int) < 0) by omega]
        refine IWp.cond ?_
        simp [go_sem, -getElem?_pos, List.getElem?_cons_zero, List.getElem?_cons_succ, Go.IntWalk.iteOmega, Go.IntWalk.toNatUp, hb, hbe, hkT, h1, h2, Samp.row_get0, Samp.row_get1, Samp.cells, show k < m by omega, show ¬ ((k : Int) < 0) by omega]
        refine IWp.seq ?_
        refine IWp.run [4, 5] ?_
        simp [go_sem, -getElem?_pos, List.getElem?_cons_zero, List.getElem?_cons_succ, Go.IntWalk.iteOmega, Go.IntWalk.toNatUp, hb, hbe, hkT, h1, h2, Samp.row_get0, Samp.row_get1, Samp.cells, show k < m by omega, show ¬ ((k : Int) < 0) by omega]
        refine IWp.ret ?_
        simp [go_sem, -getElem?_pos, List.getElem?_cons_zero, List.getElem?_cons_succ, Go.IntWalk.iteOmega, Go.IntWalk.toNatUp, hb, hbe, hkT, h1, h2, Samp.row_get0, Samp.row_get1, Samp.cells, show k < m by omega, show ¬ ((k : Int) < 0) by omega, Try.results19]
        rw [← hr]
        intro H2 hg hn
        refine ⟨⟨rfl, rfl⟩, fun b => ?_, ?_⟩
        · rw [hg b]
          by_cases hb : b < Heap.next H
          · have hb1 : ¬ b = Heap.next H := Nat.ne_of_lt hb
            simp [hb, hb1, get_set, get_alloc, get_kill]
            try (repeat' split) <;> simp_all
          · rw [if_neg hb]
            refine (Heap.wf _ b ?_).symm
            try simp only [next_set, next_alloc, next_kill]
            omega
        · try simp only [next_set, next_alloc, next_kill] at hn
          try simp only [next_set, next_alloc, next_kill]
          omega
      · rw [if_neg h2] at hr
        have w4 := IntWalk.i64_in s.seq (by omega)
        have w5 := IntWalk.i64_in T[k].seq (by omega)
        have w6 : (s.seq - T[k].seq - 1 + 256).tmod 256 = (s.seq - T[k].seq - 1) % 256 := by rw [Int.tmod_eq_emod_of_nonneg (by omega)]; omega
        have w1 := IntWalk.i64_in (s.seq - T[k].seq) (by omega)
        have w2 := IntWalk.i64_in (s.seq - T[k].seq - 1) (by omega)
        have w3 := IntWalk.i64_in (s.seq - T[k].seq - 1 + 256) (by omega)
        refine IWp.seq ?_
        refine IWp.seq ?_
        refine IWp.run [0, 3, 6, 11] ?_
        simp [go_sem, -getElem?_pos, List.getElem?_cons_zero, List.getElem?_cons_succ, Go.IntWalk.iteOmega, Go.IntWalk.toNatUp, hb, hbe, hkT, h1, h2, Samp.row_get0, Samp.row_get1, Samp.cells, show k < m by omega, show ¬ ((k : Int) < 0) by omega, w1, w2, w3, w4, w5, w6]
        refine IWp.cond ?_
        simp [go_sem, -getElem?_pos, List.getElem?_cons_zero, List.getElem?_cons_succ, Go.IntWalk.iteOmega, Go.IntWalk.toNatUp, hb, hbe, hkT, h1, h2, Samp.row_get0, Samp.row_get1, Samp.cells, show k < m by omega, show ¬ ((k : Int) < 0) by omega, w1, w2, w3, w4, w5, w6]
        refine IWp.skip ?_
        simp [go_sem, -getElem?_pos, List.getElem?_cons_zero, List.getElem?_cons_succ, Go.IntWalk.iteOmega, Go.IntWalk.toNatUp, hb, hbe, hkT, h1, h2, Samp.row_get0, Samp.row_get1, Samp.cells, show k < m by omega, show ¬ ((k : Int) < 0) by omega, w1, w2, w3, w4, w5, w6]
        refine IWp.seq ?_
        refine IWp.block ?_
        refine IWp.seq ?_
        refine IWp.read [0, 3, 6, 21] follows (by kernel_rfl) ?_
        simp [go_sem, -getElem?_pos, List.getElem?_cons_zero, List.getElem?_cons_succ, Go.IntWalk.iteOmega, Go.IntWalk.toNatUp, hb, hbe, hkT, h1, h2, Samp.row_get0, Samp.row_get1, Samp.cells, show k < m by omega, show ¬ ((k : Int) < 0) by omega, w1, w2, w3, w4, w5, w6]
        refine IWp.cond ?_
        simp [go_sem, -getElem?_pos, List.getElem?_cons_zero, List.getElem?_cons_succ, Go.IntWalk.iteOmega, Go.IntWalk.toNatUp, hb, hbe, hkT, h1, h2, Samp.row_get0, Samp.row_get1, Samp.cells, show k < m by omega, show ¬ ((k : Int) < 0) by omega, w1, w2, w3, w4, w5, w6]
        refine IWp.seq ?_
        refine IWp.seq ?_
        refine IWp.read [0, 3, 6, 29] follows (by kernel_rfl) ?_
        simp [go_sem, -getElem?_pos, List.getElem?_cons_zero, List.getElem?_cons_succ, Go.IntWalk.iteOmega, Go.IntWalk.toNatUp, hb, hbe, hkT, h1, h2, Samp.row_get0, Samp.row_get1, Samp.cells, show k < m by omega, show ¬ ((k : Int) < 0) by omega, w1, w2, w3, w4, w5, w6]
        refine IWp.cond ?_
        simp [go_sem, -getElem?_pos, List.getElem?_cons_zero, List.getElem?_cons_succ, Go.IntWalk.iteOmega, Go.IntWalk.toNatUp, hb, hbe, hkT, h1, h2, Samp.row_get0, Samp.row_get1, Samp.cells, show k < m by omega, show ¬ ((k : Int) < 0) by omega, w1, w2, w3, w4, w5, w6]
        refine IWp.skip ?_
        simp [go_sem, -getElem?_pos, List.getElem?_cons_zero, List.getElem?_cons_succ, Go.IntWalk.iteOmega, Go.IntWalk.toNatUp, hb, hbe, hkT, h1, h2, Samp.row_get0, Samp.row_get1, Samp.cells, show k < m by omega, show ¬ ((k : Int) < 0) by omega, w1, w2, w3, w4, w5, w6]
        refine IWp.seq ?_
        refine IWp.read [4, 5] follows (by kernel_rfl) ?_
        simp [go_sem, -getElem?_pos, List.getElem?_cons_zero, List.getElem?_cons_succ, Go.IntWalk.iteOmega, Go.IntWalk.toNatUp, hb, hbe, hkT, h1, h2, Samp.row_get0, Samp.row_get1, Samp.cells, show k < m by omega, show ¬ ((k : Int) < 0) by omega, w1, w2, w3, w4, w5, w6]
        refine IWp.ret ?_
        simp [go_sem, -getElem?_pos, List.getElem?_cons_zero, List.getElem?_cons_succ, Go.IntWalk.iteOmega, Go.IntWalk.toNatUp, hb, hbe, hkT, h1, h2, Samp.row_get0, Samp.row_get1, Samp.cells, show k < m by omega, show ¬ ((k : Int) < 0) by omega, w1, w2, w3, w4, w5, w6, Try.results19]
        rw [← hr]
        intro H2 hg hn
        refine ⟨⟨rfl, rfl⟩, fun b => ?_, ?_⟩
        · rw [hg b]
          by_cases hb : b < Heap.next H
          · have hb1 : ¬ b = Heap.next H := Nat.ne_of_lt hb
            simp [hb, hb1, get_set, get_alloc, get_kill]
            try (repeat' split) <;> simp_all
          · rw [if_neg hb]
            refine (Heap.wf _ b ?_).symm
            try simp only [next_set, next_alloc, next_kill]
            omega
        · try simp only [next_set, next_alloc, next_kill] at hn
          try simp only [next_set, next_alloc, next_kill]
          omega
    · rw [if_neg h1] at hr
      refine IWp.seq ?_
      refine IWp.seq ?_
      refine IWp.run [0, 3, 6, 11] ?_
      simp [go_sem, -getElem?_pos, List.getElem?_cons_zero, List.getElem?_cons_succ, Go.IntWalk.iteOmega, Go.IntWalk.toNatUp, hb, hbe, hkT, h1, Samp.row_get0, Samp.row_get1, Samp.cells, show k < m by omega, show ¬ ((k : Int) < 0) by omega]
      refine IWp.cond ?_
      simp [go_sem, -getElem?_pos, List.getElem?_cons_zero, List.getElem?_cons_succ, Go.IntWalk.iteOmega, Go.IntWalk.toNatUp, hb, hbe, hkT, h1, Samp.row_get0, Samp.row_get1, Samp.cells, show k < m by omega, show ¬ ((k : Int) < 0) by omega]
      refine IWp.skip ?_
      simp [go_sem, -getElem?_pos, List.getElem?_cons_zero, List.getElem?_cons_succ, Go.IntWalk.iteOmega, Go.IntWalk.toNatUp, hb, hbe, hkT, h1, Samp.row_get0, Samp.row_get1, Samp.cells, show k < m by omega, show ¬ ((k : Int) < 0) by omega]
      refine IWp.seq ?_
      refine IWp.block ?_
      refine IWp.seq ?_
      refine IWp.read [0, 3, 6, 21] follows (by kernel_rfl) ?_
      simp [go_sem, -getElem?_pos, List.getElem?_cons_zero, List.getElem?_cons_succ, Go.IntWalk.iteOmega, Go.IntWalk.toNatUp, hb, hbe, hkT, h1, Samp.row_get0, Samp.row_get1, Samp.cells, show k < m by omega, show ¬ ((k : Int) < 0) by omega]
      refine IWp.cond ?_
      simp [go_sem, -getElem?_pos, List.getElem?_cons_zero, List.getElem?_cons_succ, Go.IntWalk.iteOmega, Go.IntWalk.toNatUp, hb, hbe, hkT, h1, Samp.row_get0, Samp.row_get1, Samp.cells, show k < m by omega, show ¬ ((k : Int) < 0) by omega]
      refine IWp.skip ?_
      simp [go_sem, -getElem?_pos, List.getElem?_cons_zero, List.getElem?_cons_succ, Go.IntWalk.iteOmega, Go.IntWalk.toNatUp, hb, hbe, hkT, h1, Samp.row_get0, Samp.row_get1, Samp.cells, show k < m by omega, show ¬ ((k : Int) < 0) by omega]
      refine IWp.run [0, 3, 6] ?_
      simp [go_sem, -getElem?_pos, List.getElem?_cons_zero, List.getElem?_cons_succ, Go.IntWalk.iteOmega, Go.IntWalk.toNatUp, hb, hbe, hkT, h1, Samp.row_get0, Samp.row_get1, Samp.cells, show k < m by omega, show ¬ ((k : Int) < 0) by omega]
      exact ⟨k, by omega, by omega, IntWalk.i64_in _ (by omega), hr⟩

/-- How many of a signal, and how many were lost between. -/
def tally (T : List Samp) (sg : Int) : Nat → Int × Int
  | 0 => (0, 0)
  | i + 1 => if ((T[i]?).map (·.sig)) = some sg then ((tally T sg i).1 + 1, (tally T sg i).2 + ((T[i]?).map fun x => (seen T i x).1).getD 0) else tally T sg i

theorem seen_range (T : List Samp) (s : Samp) (hs : s.ok) (hT : ∀ x ∈ T, x.ok) : ∀ m, 0 ≤ (seen T m s).1 ∧ (seen T m s).1 < 256
  | 0 => by rw [seen_zero]; omega
  | m + 1 => by
    by_cases h : m < T.length
    · rw [seen_succ T m s h]
      have hq := hT T[m] (List.getElem_mem h)
      unfold Samp.ok at hq hs
      split
      · split
        · exact ⟨Int.le_refl _, by decide⟩
        · show 0 ≤ (s.seq - T[m].seq - 1) % 256 ∧ (s.seq - T[m].seq - 1) % 256 < 256; omega
      · exact seen_range T s hs hT m
    · have e : seen T (m + 1) s = seen T m s := by unfold seen; rw [List.take_of_length_le (by omega), List.take_of_length_le (by omega)]
      rw [e]; exact seen_range T s hs hT m

theorem tally_range (T : List Samp) (sg : Int) (hT : ∀ x ∈ T, x.ok) : ∀ m : Nat, 0 ≤ (tally T sg m).1 ∧ (tally T sg m).1 ≤ m ∧ 0 ≤ (tally T sg m).2 ∧ (tally T sg m).2 ≤ 255 * m
  | 0 => by simp [tally]
  | m + 1 => by
    have ih := tally_range T sg hT m
    simp only [tally]
    split
    · rename_i he
      cases ht : T[m]? with
      | none => rw [ht] at he; cases he
      | some x =>
        have hx := seen_range T x (hT x (List.mem_of_getElem? ht)) hT m
        simp only [Option.map_some, Option.getD_some]
        omega
    · omega

theorem refCount (H : Heap) (p : Option Addr) (c : Nat) (T : List Samp) (own : Bool) (sg : Int) (h40 : T.length ≤ 1099511627776) (hp : T.length = 0 ∨ ∃ b, p = some ⟨b, 0, some 4⟩ ∧ H.get b = some ⟨Samp.row T, own⟩) (hT : ∀ x ∈ T, x.ok) :
    ICalls Try.prog 21 [.slice p T.length c, .int .i64 sg] H fun v H' => v = .tuple #[.int .i64 (tally T sg T.length).1, .int .i64 (tally T sg T.length).2] ∧ Eqv H' H := by
  refine IBody.calls (by kernel_rfl) ?_
  refine IBody.of Try.func21 rfl (by rw [Try.ntmps21]; simp) ?_
  rw [Try.ntmps21]
  refine IWp.seq ?_
  refine IWp.run [0, 1] ?_
  simp [go_sem, -getElem?_pos, List.getElem?_cons_zero, List.getElem?_cons_succ, Go.IntWalk.iteOmega, Go.IntWalk.toNatUp]
  refine IWp.seq ?_
  refine IWp.run [0, 1, 6, 7] ?_
  simp [go_sem, -getElem?_pos, List.getElem?_cons_zero, List.getElem?_cons_succ, Go.IntWalk.iteOmega, Go.IntWalk.toNatUp]
  refine IWp.seq ?_
  refine IWp.seq ?_
  refine IWp.run [0, 1, 6, 7, 8] ?_
  simp [go_sem, -getElem?_pos, List.getElem?_cons_zero, List.getElem?_cons_succ, Go.IntWalk.iteOmega, Go.IntWalk.toNatUp]
  refine IWp.block ?_
  -- LOOP live [0, 1, 6, 7, 8]
  refine IWp.loop (fun k e K => ∃ i, k = T.length - i ∧ i ≤ T.length ∧ e = [(0, .slice p T.length c), (1, .int .i64 sg), (6, .int .i64 (tally T sg i).1), (7, .int .i64 (tally T sg i).2), (8, .int .i64 (i : Int))] ∧ Eqv K H) T.length ⟨0, by omega, by omega, rfl, Eqv.refl H⟩ ?_
  rintro k e K ⟨i, rfl, hi, rfl, hK⟩
  by_cases hlt : i < T.length
  · obtain ⟨b, rfl, hb⟩ := hp.resolve_left (by omega)
    rw [← hK.get b] at hb
    have hr := tally_range T sg hT i
    have hr' := tally_range T sg hT (i + 1)
    have hsn := seen_range T T[i] (hT _ (List.getElem_mem hlt)) hT i
    have w1 := IntWalk.i64_in ((tally T sg i).1 + 1) (by omega)
    have w2 := IntWalk.i64_in ((tally T sg i).2 + (seen T i T[i]).1) (by omega)
    have w3 := IntWalk.i64_in ((i : Int) + 1) (by omega)
    have h1 := List.getElem?_eq_getElem hlt
    by_cases hs : T[i].sig = sg
    · skip
      refine IWp.seq ?_
      refine IWp.seq ?_
      refine IWp.run [0, 1, 6, 7, 8, 14] ?_
      simp [go_sem, -getElem?_pos, List.getElem?_cons_zero, List.getElem?_cons_succ, Go.IntWalk.iteOmega, Go.IntWalk.toNatUp, hlt, hb, hs, Samp.row_get0, Samp.row_at, Samp.row_length, Samp.row_room, w1, w2, w3, show ¬ ((i : Int) < 0) by omega, show i * 4 + 4 ≤ T.length * 4 by omega]
      refine IWp.cond ?_
      simp [go_sem, -getElem?_pos, List.getElem?_cons_zero, List.getElem?_cons_succ, Go.IntWalk.iteOmega, Go.IntWalk.toNatUp, hlt, hb, hs, Samp.row_get0, Samp.row_at, Samp.row_length, Samp.row_room, w1, w2, w3, show ¬ ((i : Int) < 0) by omega, show i * 4 + 4 ≤ T.length * 4 by omega]
      refine IWp.skip ?_
      simp [go_sem, -getElem?_pos, List.getElem?_cons_zero, List.getElem?_cons_succ, Go.IntWalk.iteOmega, Go.IntWalk.toNatUp, hlt, hb, hs, Samp.row_get0, Samp.row_at, Samp.row_length, Samp.row_room, w1, w2, w3, show ¬ ((i : Int) < 0) by omega, show i * 4 + 4 ≤ T.length * 4 by omega]
      refine IWp.seq ?_
      refine IWp.block ?_
      refine IWp.seq ?_
      refine IWp.run [0, 1, 6, 7, 8, 23] ?_
      simp [go_sem, -getElem?_pos, List.getElem?_cons_zero, List.getElem?_cons_succ, Go.IntWalk.iteOmega, Go.IntWalk.toNatUp, hlt, hb, hs, Samp.row_get0, Samp.row_at, Samp.row_length, Samp.row_room, w1, w2, w3, show ¬ ((i : Int) < 0) by omega, show i * 4 + 4 ≤ T.length * 4 by omega]
      refine IWp.cond ?_
      simp [go_sem, -getElem?_pos, List.getElem?_cons_zero, List.getElem?_cons_succ, Go.IntWalk.iteOmega, Go.IntWalk.toNatUp, hlt, hb, hs, Samp.row_get0, Samp.row_at, Samp.row_length, Samp.row_room, w1, w2, w3, show ¬ ((i : Int) < 0) by omega, show i * 4 + 4 ≤ T.length * 4 by omega]
      refine IWp.seq ?_
      refine IWp.run [0, 1, 6, 7, 8] ?_
      simp [go_sem, -getElem?_pos, List.getElem?_cons_zero, List.getElem?_cons_succ, Go.IntWalk.iteOmega, Go.IntWalk.toNatUp, hlt, hb, hs, Samp.row_get0, Samp.row_at, Samp.row_length, Samp.row_room, w1, w2, w3, show ¬ ((i : Int) < 0) by omega, show i * 4 + 4 ≤ T.length * 4 by omega]
      refine IWp.seq ?_
      refine IWp.draw [0, 1, 6, 7, 8, 9] [b] (.val 0 (.val 1 (.val 2 (.val 3 (.val 4 (.val 5 (.ld 6 [7, 8, 9, 10, 11, 12] (.eff 7 (.val 8 (.val 9 (.val 10 (.val 11 (.val 12 .done))))) .done)))))))) follows (by kernel_rfl) ?_
      simp [go_sem, -getElem?_pos, List.getElem?_cons_zero, List.getElem?_cons_succ, Go.IntWalk.iteOmega, Go.IntWalk.toNatUp, hlt, hb, hs, Samp.row_get0, Samp.row_at, Samp.row_length, Samp.row_room, w1, w2, w3, show ¬ ((i : Int) < 0) by omega, show i * 4 + 4 ≤ T.length * 4 by omega]
      refine ICalls.mono (refNext K _ _ T i own T[i] (by omega) h40 (.inr ⟨b, rfl, hb⟩) (hT _ (List.getElem_mem hlt)) hT) ?_
      rintro v H1 ⟨rfl, e1⟩
      try simp [go_sem, -getElem?_pos, List.getElem?_cons_zero, List.getElem?_cons_succ, Go.IntWalk.iteOmega, Go.IntWalk.toNatUp, hlt, hb, hs, Samp.row_get0, Samp.row_at, Samp.row_length, Samp.row_room, w1, w2, w3, show ¬ ((i : Int) < 0) by omega, show i * 4 + 4 ≤ T.length * 4 by omega, e1.get, hb]
      refine IWp.run [0, 1, 6, 7, 8] ?_
      simp [go_sem, -getElem?_pos, List.getElem?_cons_zero, List.getElem?_cons_succ, Go.IntWalk.iteOmega, Go.IntWalk.toNatUp, hlt, hb, hs, Samp.row_get0, Samp.row_at, Samp.row_length, Samp.row_room, w1, w2, w3, show ¬ ((i : Int) < 0) by omega, show i * 4 + 4 ≤ T.length * 4 by omega]
      refine IWp.run [0, 1, 6, 7, 8] ?_
      simp [go_sem, -getElem?_pos, List.getElem?_cons_zero, List.getElem?_cons_succ, Go.IntWalk.iteOmega, Go.IntWalk.toNatUp, hlt, hb, hs, Samp.row_get0, Samp.row_at, Samp.row_length, Samp.row_room, w1, w2, w3, show ¬ ((i : Int) < 0) by omega, show i * 4 + 4 ≤ T.length * 4 by omega]
      refine ⟨T.length - (i + 1), by omega, i + 1, rfl, by omega, ⟨?_, ?_, rfl⟩, e1.trans hK⟩
      · simp [tally, h1, hs]
      · simp [tally, h1, hs]
    · skip
      refine IWp.seq ?_
      refine IWp.seq ?_
      refine IWp.run [0, 1, 6, 7, 8, 14] ?_
      simp [go_sem, -getElem?_pos, List.getElem?_cons_zero, List.getElem?_cons_succ, Go.IntWalk.iteOmega, Go.IntWalk.toNatUp, hlt, hb, hs, Samp.row_get0, w3, show ¬ ((i : Int) < 0) by omega]
      refine IWp.cond ?_
      simp [go_sem, -getElem?_pos, List.getElem?_cons_zero, List.getElem?_cons_succ, Go.IntWalk.iteOmega, Go.IntWalk.toNatUp, hlt, hb, hs, Samp.row_get0, w3, show ¬ ((i : Int) < 0) by omega]
      refine IWp.skip ?_
      simp [go_sem, -getElem?_pos, List.getElem?_cons_zero, List.getElem?_cons_succ, Go.IntWalk.iteOmega, Go.IntWalk.toNatUp, hlt, hb, hs, Samp.row_get0, w3, show ¬ ((i : Int) < 0) by omega]
      refine IWp.seq ?_
      refine IWp.block ?_
      refine IWp.seq ?_
      refine IWp.run [0, 1, 6, 7, 8, 23] ?_
      simp [go_sem, -getElem?_pos, List.getElem?_cons_zero, List.getElem?_cons_succ, Go.IntWalk.iteOmega, Go.IntWalk.toNatUp, hlt, hb, hs, Samp.row_get0, w3, show ¬ ((i : Int) < 0) by omega]
      refine IWp.cond ?_
      simp [go_sem, -getElem?_pos, List.getElem?_cons_zero, List.getElem?_cons_succ, Go.IntWalk.iteOmega, Go.IntWalk.toNatUp, hlt, hb, hs, Samp.row_get0, w3, show ¬ ((i : Int) < 0) by omega]
      refine IWp.skip ?_
      simp [go_sem, -getElem?_pos, List.getElem?_cons_zero, List.getElem?_cons_succ, Go.IntWalk.iteOmega, Go.IntWalk.toNatUp, hlt, hb, hs, Samp.row_get0, w3, show ¬ ((i : Int) < 0) by omega]
      refine IWp.run [0, 1, 6, 7, 8] ?_
      simp [go_sem, -getElem?_pos, List.getElem?_cons_zero, List.getElem?_cons_succ, Go.IntWalk.iteOmega, Go.IntWalk.toNatUp, hlt, hb, hs, Samp.row_get0, w3, show ¬ ((i : Int) < 0) by omega]
      refine ⟨T.length - (i + 1), by omega, i + 1, rfl, by omega, ⟨?_, ?_, rfl⟩, hK⟩
      · simp [tally, h1, hs]
      · simp [tally, h1, hs]
  · have he : i = T.length := by omega
    subst he
    refine IWp.seq ?_
    refine IWp.seq ?_
    refine IWp.run [0, 1, 6, 7, 8, 14] ?_
    simp [go_sem, -getElem?_pos, List.getElem?_cons_zero, List.getElem?_cons_succ, Go.IntWalk.iteOmega, Go.IntWalk.toNatUp]
    refine IWp.cond ?_
    simp [go_sem, -getElem?_pos, List.getElem?_cons_zero, List.getElem?_cons_succ, Go.IntWalk.iteOmega, Go.IntWalk.toNatUp]
    refine IWp.exit ?_
    simp [go_sem, -getElem?_pos, List.getElem?_cons_zero, List.getElem?_cons_succ, Go.IntWalk.iteOmega, Go.IntWalk.toNatUp]
    refine IWp.seq ?_
    refine IWp.run [4, 5] ?_
    simp [go_sem, -getElem?_pos, List.getElem?_cons_zero, List.getElem?_cons_succ, Go.IntWalk.iteOmega, Go.IntWalk.toNatUp]
    refine IWp.ret ?_
    simp [go_sem, -getElem?_pos, List.getElem?_cons_zero, List.getElem?_cons_succ, Go.IntWalk.iteOmega, Go.IntWalk.toNatUp, Try.results21]
    exact hK

end Go.Proofs.Ytjhmajcakhdcnaa.I
