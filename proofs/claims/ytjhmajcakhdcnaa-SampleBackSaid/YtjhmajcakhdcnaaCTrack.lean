/- What the tracker of samples does. No condition. -/
import Derived.Test.YtjhmajcakhdcnaaITab
import Derived.Test.YtjhmajcakhdcnaaIRows
namespace Go.Proofs.Ytjhmajcakhdcnaa.I
open Go Go.RowKit
set_option linter.unusedVariables false
set_option linter.unusedSimpArgs false

structure Last where
  seq : Int
  there : Bool
  fresh : Int
  missed : Int
def Last.cells (x : Last) : List Value := [.int .u8 x.seq, .bool x.there, .int .i64 x.fresh, .int .i64 x.missed]
theorem Last.cells_length (x : Last) : x.cells.length = 4 := rfl
def Last.row (L : List Last) : List Value := L.flatMap Last.cells
theorem Last.row_length (L : List Last) : (Last.row L).length = L.length * 4 := flat_length Last.cells_length L
theorem Last.row_at (L : List Last) (i : Nat) (h : i < L.length) : ((Last.row L).drop (i * 4)).take 4 = L[i].cells := flat_row Last.cells_length L i h
theorem Last.row_take (L : List Last) (i : Nat) : (Last.row L).take (i * 4) = Last.row (L.take i) := flat_take Last.cells_length L i
theorem Last.row_drop (L : List Last) (i : Nat) : (Last.row L).drop (i * 4) = Last.row (L.drop i) := flat_drop Last.cells_length L i
theorem Last.row_snoc (L : List Last) (x : Last) : Last.row L ++ x.cells = Last.row (L ++ [x]) := by simp [Last.row]
theorem Last.row_nil : Last.row [] = [] := rfl
theorem Last.row_room (n i f : Nat) (h : i < n) (hf : f ≤ 4) : i * 4 + f ≤ n * 4 := by omega
theorem Last.row_get0 (L : List Last) (i : Nat) (h : i < L.length) : (Last.row L)[i * 4]? = some (.int .u8 L[i].seq) := flat_get Last.cells_length L i 0 h (by decide)
theorem Last.row_put0 (L : List Last) (i : Nat) (h : i < L.length) (v : Int) : splice (Last.row L) (i * 4) [.int .u8 v] = Last.row (L.set i { L[i] with seq := v }) := flat_splice Last.cells_length L i 0 _ _ h (by simp) rfl
-- seq
theorem Last.row_get1 (L : List Last) (i : Nat) (h : i < L.length) : (Last.row L)[i * 4 + 1]? = some (.bool L[i].there) := flat_get Last.cells_length L i 1 h (by decide)
theorem Last.row_put1 (L : List Last) (i : Nat) (h : i < L.length) (v : Bool) : splice (Last.row L) (i * 4 + 1) [.bool v] = Last.row (L.set i { L[i] with there := v }) := flat_splice Last.cells_length L i 1 _ _ h (by simp) rfl
-- there
theorem Last.row_get2 (L : List Last) (i : Nat) (h : i < L.length) : (Last.row L)[i * 4 + 2]? = some (.int .i64 L[i].fresh) := flat_get Last.cells_length L i 2 h (by decide)
theorem Last.row_put2 (L : List Last) (i : Nat) (h : i < L.length) (v : Int) : splice (Last.row L) (i * 4 + 2) [.int .i64 v] = Last.row (L.set i { L[i] with fresh := v }) := flat_splice Last.cells_length L i 2 _ _ h (by simp) rfl
-- fresh
theorem Last.row_get3 (L : List Last) (i : Nat) (h : i < L.length) : (Last.row L)[i * 4 + 3]? = some (.int .i64 L[i].missed) := flat_get Last.cells_length L i 3 h (by decide)
theorem Last.row_put3 (L : List Last) (i : Nat) (h : i < L.length) (v : Int) : splice (Last.row L) (i * 4 + 3) [.int .i64 v] = Last.row (L.set i { L[i] with missed := v }) := flat_splice Last.cells_length L i 3 _ _ h (by simp) rfl
-- missed

/-- The tracker at block t, its row at block l. -/
structure IsTracker (H : Heap) (t l : Nat) (L : List Last) : Prop where
  head : H.get t = some ⟨[.slice (some ⟨l, 0, some 4⟩) L.length 1], true⟩
  row : H.get l = some ⟨Last.row L, true⟩
  ne : t ≠ l

theorem trackOf_nil (H : Heap) (i : Int) : ICalls Try.prog 31 [.pointer none, .int .i64 i] H fun v H' => v = .pointer none ∧ H' = H := by
  refine IBody.calls (by kernel_rfl) ?_
  refine IBody.of Try.func31 rfl (by rw [Try.ntmps31]; simp) ?_
  rw [Try.ntmps31]
  refine IWp.seq ?_
  refine IWp.run [0, 1] ?_
  simp [go_sem]
  refine IWp.seq ?_
  refine IWp.seq ?_
  refine IWp.run [0, 1, 19] ?_
  simp [go_sem]
  refine IWp.cond ?_
  simp [go_sem]
  refine IWp.seq ?_
  refine IWp.run [4] ?_
  simp [go_sem]
  refine IWp.ret ?_
  simp [go_sem, Try.results31]

theorem trackOf_none (H : Heap) (t l : Nat) (L : List Last) (i : Int) (hT : IsTracker H t l L) (h : ¬ (0 ≤ i ∧ i < L.length)) : ICalls Try.prog 31 [.pointer (some ⟨t, 0, none⟩), .int .i64 i] H fun v H' => v = .pointer none ∧ H' = H := by
  refine IBody.calls (by kernel_rfl) ?_
  refine IBody.of Try.func31 rfl (by rw [Try.ntmps31]; simp) ?_
  rw [Try.ntmps31]
  refine IWp.seq ?_
  refine IWp.run [0, 1] ?_
  simp [go_sem]
  refine IWp.seq ?_
  refine IWp.seq ?_
  refine IWp.run [0, 1, 19] ?_
  by_cases h0 : i < 0
  · simp [go_sem, hT.head, h0]
    refine IWp.cond ?_
    simp [go_sem]
    refine IWp.seq ?_
    refine IWp.run [4] ?_
    simp [go_sem]
    refine IWp.ret ?_
    simp [go_sem, Try.results31]
  · have h1 : (L.length : Int) ≤ i := by omega
    simp [go_sem, hT.head, h0, h1]
    refine IWp.cond ?_
    simp [go_sem]
    refine IWp.seq ?_
    refine IWp.run [4] ?_
    simp [go_sem]
    refine IWp.ret ?_
    simp [go_sem, Try.results31]

theorem trackOf_some (H : Heap) (t l : Nat) (L : List Last) (i : Nat) (hT : IsTracker H t l L) (h : i < L.length) : ICalls Try.prog 31 [.pointer (some ⟨t, 0, none⟩), .int .i64 i] H fun v H' => v = .pointer (some ⟨l, i * 4, none⟩) ∧ H' = H := by
  refine IBody.calls (by kernel_rfl) ?_
  refine IBody.of Try.func31 rfl (by rw [Try.ntmps31]; simp) ?_
  rw [Try.ntmps31]
  refine IWp.seq ?_
  refine IWp.run [0, 1] ?_
  simp [go_sem]
  refine IWp.seq ?_
  refine IWp.seq ?_
  refine IWp.run [0, 1, 19] ?_
  have h0 : ¬ ((i : Int) < 0) := by omega
  have h1 : ¬ (L.length ≤ i) := by omega
  simp [go_sem, hT.head, h0, h1]
  refine IWp.cond ?_
  simp [go_sem]
  refine IWp.skip ?_
  simp [go_sem]
  refine IWp.seq ?_
  refine IWp.run [4] ?_
  simp [go_sem, hT.head, h]
  refine IWp.ret ?_
  simp [go_sem, Try.results31]


theorem IsTracker.alloc {H : Heap} {t l : Nat} {L : List Last} (h : IsTracker H t l L) (cs : List Value) : IsTracker (H.alloc cs) t l L :=
  ⟨by rw [Heap.get_alloc_lt _ _ _ (Heap.lt_of_get h.head)]; exact h.head, by rw [Heap.get_alloc_lt _ _ _ (Heap.lt_of_get h.row)]; exact h.row, h.ne⟩
theorem IsTracker.eqv {H K : Heap} {t l : Nat} {L : List Last} (h : IsTracker H t l L) (e : Eqv K H) : IsTracker K t l L := ⟨by rw [e.get]; exact h.head, by rw [e.get]; exact h.row, h.ne⟩
theorem IsTracker.set {H : Heap} {t l : Nat} {L : List Last} (h : IsTracker H t l L) (M : List Last) (hm : M.length = L.length) : IsTracker (H.set l (Last.row M)) t l M :=
  ⟨by rw [get_set, if_neg h.ne, h.head, hm], by rw [get_set, if_pos rfl, h.row]; rfl, h.ne⟩

/-- Of a signal that there is none of: nothing is new, and nothing turns. -/
theorem next_none (H : Heap) (t l : Nat) (L : List Last) (sg seq val : Int) (bad : Bool) (hT : IsTracker H t l L) (h : ¬ (0 ≤ sg ∧ sg < L.length)) :
    ICalls Try.prog 18 [.pointer (some ⟨t, 0, none⟩), .agg #[.int .i64 sg, .int .u8 seq, .int .i64 val, .bool bad]] H fun v H' => v = .tuple #[.int .i64 0, .bool false] ∧ Eqv H' H := by
  refine IBody.calls (by kernel_rfl) (IBody.left ?_)
  refine IBody.of Try.func18 rfl (by rw [Try.ntmps18]; simp) ?_
  rw [Try.ntmps18]
  refine IWp.seq ?_
  refine IWp.run [0, 3] ?_
  simp [go_sem, -getElem?_pos, List.getElem?_cons_zero, List.getElem?_cons_succ, Go.IntWalk.iteOmega, Go.IntWalk.toNatUp]
  refine IWp.seq ?_
  refine IWp.run [3, 6] ?_
  simp [go_sem, -getElem?_pos, List.getElem?_cons_zero, List.getElem?_cons_succ, Go.IntWalk.iteOmega, Go.IntWalk.toNatUp]
  refine ICalls.mono (trackOf_none _ t l L sg (hT.alloc _) h) ?_
  rintro v H1 ⟨rfl, rfl⟩
  try simp [go_sem, -getElem?_pos, List.getElem?_cons_zero, List.getElem?_cons_succ, Go.IntWalk.iteOmega, Go.IntWalk.toNatUp]
  refine IWp.seq ?_
  refine IWp.seq ?_
  refine IWp.read [3, 6, 28] follows (by kernel_rfl) ?_
  simp [go_sem, -getElem?_pos, List.getElem?_cons_zero, List.getElem?_cons_succ, Go.IntWalk.iteOmega, Go.IntWalk.toNatUp]
  refine IWp.cond ?_
  simp [go_sem, -getElem?_pos, List.getElem?_cons_zero, List.getElem?_cons_succ, Go.IntWalk.iteOmega, Go.IntWalk.toNatUp]
  refine IWp.seq ?_
  refine IWp.run [4, 5] ?_
  simp [go_sem, -getElem?_pos, List.getElem?_cons_zero, List.getElem?_cons_succ, Go.IntWalk.iteOmega, Go.IntWalk.toNatUp]
  refine IWp.ret ?_
  simp [go_sem, -getElem?_pos, List.getElem?_cons_zero, List.getElem?_cons_succ, Go.IntWalk.iteOmega, Go.IntWalk.toNatUp, Try.results18]
  intro H2 hg hn
  refine ⟨fun b => ?_, ?_⟩
  · rw [hg b]
    by_cases hb : b < Heap.next H
    · have hb1 : ¬ b = Heap.next H := Nat.ne_of_lt hb
      simp [hb, hb1, get_set, get_alloc, get_kill]
      try (repeat' split) <;> simp_all
    · rw [if_neg hb]
      refine (Heap.wf _ b ?_).symm
      try simp only [next_set, next_alloc, next_kill]
      omega
  · try simp only [next_set, next_alloc, next_kill] at hn
    try simp only [next_set, next_alloc, next_kill]
    omega

/-- Of a tracker that is none. -/
theorem next_nil (H : Heap) (sg seq val : Int) (bad : Bool) :
    ICalls Try.prog 18 [.pointer none, .agg #[.int .i64 sg, .int .u8 seq, .int .i64 val, .bool bad]] H fun v H' => v = .tuple #[.int .i64 0, .bool false] ∧ Eqv H' H := by
  refine IBody.calls (by kernel_rfl) (IBody.left ?_)
  refine IBody.of Try.func18 rfl (by rw [Try.ntmps18]; simp) ?_
  rw [Try.ntmps18]
  refine IWp.seq ?_
  refine IWp.run [0, 3] ?_
  simp [go_sem, -getElem?_pos, List.getElem?_cons_zero, List.getElem?_cons_succ, Go.IntWalk.iteOmega, Go.IntWalk.toNatUp]
  refine IWp.seq ?_
  refine IWp.run [3, 6] ?_
  simp [go_sem, -getElem?_pos, List.getElem?_cons_zero, List.getElem?_cons_succ, Go.IntWalk.iteOmega, Go.IntWalk.toNatUp]
  refine ICalls.mono (trackOf_nil _ sg) ?_
  rintro v H1 ⟨rfl, rfl⟩
  try simp [go_sem, -getElem?_pos, List.getElem?_cons_zero, List.getElem?_cons_succ, Go.IntWalk.iteOmega, Go.IntWalk.toNatUp]
  refine IWp.seq ?_
  refine IWp.seq ?_
  refine IWp.read [3, 6, 28] follows (by kernel_rfl) ?_
  simp [go_sem, -getElem?_pos, List.getElem?_cons_zero, List.getElem?_cons_succ, Go.IntWalk.iteOmega, Go.IntWalk.toNatUp]
  refine IWp.cond ?_
  simp [go_sem, -getElem?_pos, List.getElem?_cons_zero, List.getElem?_cons_succ, Go.IntWalk.iteOmega, Go.IntWalk.toNatUp]
  refine IWp.seq ?_
  refine IWp.run [4, 5] ?_
  simp [go_sem, -getElem?_pos, List.getElem?_cons_zero, List.getElem?_cons_succ, Go.IntWalk.iteOmega, Go.IntWalk.toNatUp]
  refine IWp.ret ?_
  simp [go_sem, -getElem?_pos, List.getElem?_cons_zero, List.getElem?_cons_succ, Go.IntWalk.iteOmega, Go.IntWalk.toNatUp, Try.results18]
  intro H2 hg hn
  refine ⟨fun b => ?_, ?_⟩
  · rw [hg b]
    by_cases hb : b < Heap.next H
    · have hb1 : ¬ b = Heap.next H := Nat.ne_of_lt hb
      simp [hb, hb1, get_set, get_alloc, get_kill]
      try (repeat' split) <;> simp_all
    · rw [if_neg hb]
      refine (Heap.wf _ b ?_).symm
      try simp only [next_set, next_alloc, next_kill]
      omega
  · try simp only [next_set, next_alloc, next_kill] at hn
    try simp only [next_set, next_alloc, next_kill]
    omega

/-- One that came already: nothing is new, and nothing turns. -/
theorem next_same (H : Heap) (t l : Nat) (L : List Last) (i : Nat) (seq val : Int) (bad : Bool) (hT : IsTracker H t l L) (h : i < L.length) (h1 : (L[i]).there = true) (h2 : (L[i]).seq = seq) :
    ICalls Try.prog 18 [.pointer (some ⟨t, 0, none⟩), .agg #[.int .i64 i, .int .u8 seq, .int .i64 val, .bool bad]] H fun v H' => v = .tuple #[.int .i64 0, .bool false] ∧ Eqv H' H := by
  refine IBody.calls (by kernel_rfl) (IBody.left ?_)
  have hl := Heap.lt_of_get hT.row
  refine IBody.of Try.func18 rfl (by rw [Try.ntmps18]; simp) ?_
  rw [Try.ntmps18]
  refine IWp.seq ?_
  refine IWp.run [0, 3] ?_
  simp [go_sem, -getElem?_pos, List.getElem?_cons_zero, List.getElem?_cons_succ, Go.IntWalk.iteOmega, Go.IntWalk.toNatUp, hT.row, Last.row_get0 L i h, Last.row_get1 L i h, h1, h2, show ¬ l = H.next by omega]
  refine IWp.seq ?_
  refine IWp.run [3, 6] ?_
  simp [go_sem, -getElem?_pos, List.getElem?_cons_zero, List.getElem?_cons_succ, Go.IntWalk.iteOmega, Go.IntWalk.toNatUp, hT.row, Last.row_get0 L i h, Last.row_get1 L i h, h1, h2, show ¬ l = H.next by omega]
  refine ICalls.mono (trackOf_some _ t l L i (hT.alloc _) h) ?_
  rintro v H1 ⟨rfl, rfl⟩
  try simp [go_sem, -getElem?_pos, List.getElem?_cons_zero, List.getElem?_cons_succ, Go.IntWalk.iteOmega, Go.IntWalk.toNatUp, hT.row, Last.row_get0 L i h, Last.row_get1 L i h, h1, h2, show ¬ l = H.next by omega]
  refine IWp.seq ?_
  refine IWp.seq ?_
  refine IWp.read [3, 6, 28] follows (by kernel_rfl) ?_
  simp [go_sem, -getElem?_pos, List.getElem?_cons_zero, List.getElem?_cons_succ, Go.IntWalk.iteOmega, Go.IntWalk.toNatUp, hT.row, Last.row_get0 L i h, Last.row_get1 L i h, h1, h2, show ¬ l = H.next by omega]
  refine IWp.cond ?_
  simp [go_sem, -getElem?_pos, List.getElem?_cons_zero, List.getElem?_cons_succ, Go.IntWalk.iteOmega, Go.IntWalk.toNatUp, hT.row, Last.row_get0 L i h, Last.row_get1 L i h, h1, h2, show ¬ l = H.next by omega]
  refine IWp.seq ?_
  refine IWp.run [4, 5] ?_
  simp [go_sem, -getElem?_pos, List.getElem?_cons_zero, List.getElem?_cons_succ, Go.IntWalk.iteOmega, Go.IntWalk.toNatUp, hT.row, Last.row_get0 L i h, Last.row_get1 L i h, h1, h2, show ¬ l = H.next by omega]
  refine IWp.ret ?_
  simp [go_sem, -getElem?_pos, List.getElem?_cons_zero, List.getElem?_cons_succ, Go.IntWalk.iteOmega, Go.IntWalk.toNatUp, hT.row, Last.row_get0 L i h, Last.row_get1 L i h, h1, h2, show ¬ l = H.next by omega, Try.results18]
  intro H2 hg hn
  refine ⟨fun b => ?_, ?_⟩
  · rw [hg b]
    by_cases hb : b < Heap.next H
    · have hb1 : ¬ b = Heap.next H := Nat.ne_of_lt hb
      simp [hb, hb1, get_set, get_alloc, get_kill]
      try (repeat' split) <;> simp_all
    · rw [if_neg hb]
      refine (Heap.wf _ b ?_).symm
      try simp only [next_set, next_alloc, next_kill]
      omega
  · try simp only [next_set, next_alloc, next_kill] at hn
    try simp only [next_set, next_alloc, next_kill]
    omega

/-- The numbers between. -/
def Last.gap (x : Last) (seq : Int) : Int := if x.there = true then IntKind.u8.wrap (IntKind.u8.wrap (seq - x.seq) - 1) else 0
def Last.next (x : Last) (seq : Int) : Last := ⟨seq, true, x.fresh + 1, x.missed + x.gap seq⟩

theorem next_first (H : Heap) (t l : Nat) (L : List Last) (i : Nat) (seq val : Int) (bad : Bool) (hT : IsTracker H t l L) (h : i < L.length) (h1 : (L[i]).there = false)
    (hf : 0 ≤ (L[i]).fresh ∧ (L[i]).fresh < 2 ^ 40) (hm : 0 ≤ (L[i]).missed ∧ (L[i]).missed < 2 ^ 40) :
    ICalls Try.prog 18 [.pointer (some ⟨t, 0, none⟩), .agg #[.int .i64 i, .int .u8 seq, .int .i64 val, .bool bad]] H fun v H' => v = .tuple #[.int .i64 ((L[i]).gap seq), .bool true] ∧ Eqv H' (H.set l (Last.row (L.set i ((L[i]).next seq)))) := by
  refine IBody.calls (by kernel_rfl) (IBody.left ?_)
  have hl := Heap.lt_of_get hT.row
  have hw1 := IntWalk.i64_in ((L[i]).fresh + 1) (by omega)
  have hw2 := IntWalk.i64_in (L[i]).missed (by omega)
  refine IBody.of Try.func18 rfl (by rw [Try.ntmps18]; simp) ?_
  rw [Try.ntmps18]
  refine IWp.seq ?_
  refine IWp.run [0, 3] ?_
  simp [go_sem, -getElem?_pos, List.getElem?_cons_zero, List.getElem?_cons_succ, Go.IntWalk.iteOmega, Go.IntWalk.toNatUp, hT.row, Last.row_length, Last.row_get0, Last.row_get1, Last.row_get2, Last.row_get3, Last.row_put0, Last.row_put1, Last.row_put2, Last.row_put3, Last.row_room, Nat.add_assoc, h, h1, hw1, hw2, show ¬ l = H.next by omega]
  refine IWp.seq ?_
  refine IWp.run [3, 6] ?_
  simp [go_sem, -getElem?_pos, List.getElem?_cons_zero, List.getElem?_cons_succ, Go.IntWalk.iteOmega, Go.IntWalk.toNatUp, hT.row, Last.row_length, Last.row_get0, Last.row_get1, Last.row_get2, Last.row_get3, Last.row_put0, Last.row_put1, Last.row_put2, Last.row_put3, Last.row_room, Nat.add_assoc, h, h1, hw1, hw2, show ¬ l = H.next by omega]
  refine ICalls.mono (trackOf_some _ t l L i (hT.alloc _) h) ?_
  rintro v H1 ⟨rfl, rfl⟩
  try simp [go_sem, -getElem?_pos, List.getElem?_cons_zero, List.getElem?_cons_succ, Go.IntWalk.iteOmega, Go.IntWalk.toNatUp, hT.row, Last.row_length, Last.row_get0, Last.row_get1, Last.row_get2, Last.row_get3, Last.row_put0, Last.row_put1, Last.row_put2, Last.row_put3, Last.row_room, Nat.add_assoc, h, h1, hw1, hw2, show ¬ l = H.next by omega]
  refine IWp.seq ?_
  refine IWp.seq ?_
  refine IWp.read [3, 6, 28] follows (by kernel_rfl) ?_
  simp [go_sem, -getElem?_pos, List.getElem?_cons_zero, List.getElem?_cons_succ, Go.IntWalk.iteOmega, Go.IntWalk.toNatUp, hT.row, Last.row_length, Last.row_get0, Last.row_get1, Last.row_get2, Last.row_get3, Last.row_put0, Last.row_put1, Last.row_put2, Last.row_put3, Last.row_room, Nat.add_assoc, h, h1, hw1, hw2, show ¬ l = H.next by omega]
  refine IWp.cond ?_
  simp [go_sem, -getElem?_pos, List.getElem?_cons_zero, List.getElem?_cons_succ, Go.IntWalk.iteOmega, Go.IntWalk.toNatUp, hT.row, Last.row_length, Last.row_get0, Last.row_get1, Last.row_get2, Last.row_get3, Last.row_put0, Last.row_put1, Last.row_put2, Last.row_put3, Last.row_room, Nat.add_assoc, h, h1, hw1, hw2, show ¬ l = H.next by omega]
  refine IWp.skip ?_
  simp [go_sem, -getElem?_pos, List.getElem?_cons_zero, List.getElem?_cons_succ, Go.IntWalk.iteOmega, Go.IntWalk.toNatUp, hT.row, Last.row_length, Last.row_get0, Last.row_get1, Last.row_get2, Last.row_get3, Last.row_put0, Last.row_put1, Last.row_put2, Last.row_put3, Last.row_room, Nat.add_assoc, h, h1, hw1, hw2, show ¬ l = H.next by omega]
  refine IWp.seq ?_
  refine IWp.run [3, 6, 7] ?_
  simp [go_sem, -getElem?_pos, List.getElem?_cons_zero, List.getElem?_cons_succ, Go.IntWalk.iteOmega, Go.IntWalk.toNatUp, hT.row, Last.row_length, Last.row_get0, Last.row_get1, Last.row_get2, Last.row_get3, Last.row_put0, Last.row_put1, Last.row_put2, Last.row_put3, Last.row_room, Nat.add_assoc, h, h1, hw1, hw2, show ¬ l = H.next by omega]
  refine IWp.seq ?_
  refine IWp.seq ?_
  refine IWp.run [3, 6, 7, 32] ?_
  simp [go_sem, -getElem?_pos, List.getElem?_cons_zero, List.getElem?_cons_succ, Go.IntWalk.iteOmega, Go.IntWalk.toNatUp, hT.row, Last.row_length, Last.row_get0, Last.row_get1, Last.row_get2, Last.row_get3, Last.row_put0, Last.row_put1, Last.row_put2, Last.row_put3, Last.row_room, Nat.add_assoc, h, h1, hw1, hw2, show ¬ l = H.next by omega]
  refine IWp.cond ?_
  simp [go_sem, -getElem?_pos, List.getElem?_cons_zero, List.getElem?_cons_succ, Go.IntWalk.iteOmega, Go.IntWalk.toNatUp, hT.row, Last.row_length, Last.row_get0, Last.row_get1, Last.row_get2, Last.row_get3, Last.row_put0, Last.row_put1, Last.row_put2, Last.row_put3, Last.row_room, Nat.add_assoc, h, h1, hw1, hw2, show ¬ l = H.next by omega]
  refine IWp.skip ?_
  simp [go_sem, -getElem?_pos, List.getElem?_cons_zero, List.getElem?_cons_succ, Go.IntWalk.iteOmega, Go.IntWalk.toNatUp, hT.row, Last.row_length, Last.row_get0, Last.row_get1, Last.row_get2, Last.row_get3, Last.row_put0, Last.row_put1, Last.row_put2, Last.row_put3, Last.row_room, Nat.add_assoc, h, h1, hw1, hw2, show ¬ l = H.next by omega]
  refine IWp.seq ?_
  refine IWp.run [6, 7] ?_
  simp [go_sem, -getElem?_pos, List.getElem?_cons_zero, List.getElem?_cons_succ, Go.IntWalk.iteOmega, Go.IntWalk.toNatUp, hT.row, Last.row_length, Last.row_get0, Last.row_get1, Last.row_get2, Last.row_get3, Last.row_put0, Last.row_put1, Last.row_put2, Last.row_put3, Last.row_room, Nat.add_assoc, h, h1, hw1, hw2, show ¬ l = H.next by omega]
  refine IWp.seq ?_
  refine IWp.run [6, 7] ?_
  simp [go_sem, -getElem?_pos, List.getElem?_cons_zero, List.getElem?_cons_succ, Go.IntWalk.iteOmega, Go.IntWalk.toNatUp, hT.row, Last.row_length, Last.row_get0, Last.row_get1, Last.row_get2, Last.row_get3, Last.row_put0, Last.row_put1, Last.row_put2, Last.row_put3, Last.row_room, Nat.add_assoc, h, h1, hw1, hw2, show ¬ l = H.next by omega]
  refine IWp.seq ?_
  refine IWp.run [7] ?_
  simp [go_sem, -getElem?_pos, List.getElem?_cons_zero, List.getElem?_cons_succ, Go.IntWalk.iteOmega, Go.IntWalk.toNatUp, hT.row, Last.row_length, Last.row_get0, Last.row_get1, Last.row_get2, Last.row_get3, Last.row_put0, Last.row_put1, Last.row_put2, Last.row_put3, Last.row_room, Nat.add_assoc, h, h1, hw1, hw2, show ¬ l = H.next by omega]
  refine IWp.seq ?_
  refine IWp.run [4, 5] ?_
  simp [go_sem, -getElem?_pos, List.getElem?_cons_zero, List.getElem?_cons_succ, Go.IntWalk.iteOmega, Go.IntWalk.toNatUp, hT.row, Last.row_length, Last.row_get0, Last.row_get1, Last.row_get2, Last.row_get3, Last.row_put0, Last.row_put1, Last.row_put2, Last.row_put3, Last.row_room, Nat.add_assoc, h, h1, hw1, hw2, show ¬ l = H.next by omega]
  refine IWp.ret ?_
  simp [go_sem, -getElem?_pos, List.getElem?_cons_zero, List.getElem?_cons_succ, Go.IntWalk.iteOmega, Go.IntWalk.toNatUp, hT.row, Last.row_length, Last.row_get0, Last.row_get1, Last.row_get2, Last.row_get3, Last.row_put0, Last.row_put1, Last.row_put2, Last.row_put3, Last.row_room, Nat.add_assoc, h, h1, hw1, hw2, show ¬ l = H.next by omega, Try.results18]
  simp [Last.gap, Last.next, h1]
  intro H2 hg hn
  refine ⟨fun b => ?_, ?_⟩
  · rw [hg b]
    by_cases hb : b < Heap.next H
    · have hb1 : ¬ b = Heap.next H := Nat.ne_of_lt hb
      simp [hb, hb1, get_set, get_alloc, get_kill, hT.row]
      try (repeat' split) <;> simp_all
    · rw [if_neg hb]
      refine (Heap.wf _ b ?_).symm
      try simp only [next_set, next_alloc, next_kill]
      omega
  · try simp only [next_set, next_alloc, next_kill] at hn
    try simp only [next_set, next_alloc, next_kill]
    omega

theorem next_again (H : Heap) (t l : Nat) (L : List Last) (i : Nat) (seq val : Int) (bad : Bool) (hT : IsTracker H t l L) (h : i < L.length) (h1 : (L[i]).there = true) (h2 : ¬ (L[i]).seq = seq)
    (hf : 0 ≤ (L[i]).fresh ∧ (L[i]).fresh < 2 ^ 40) (hm : 0 ≤ (L[i]).missed ∧ (L[i]).missed < 2 ^ 40) :
    ICalls Try.prog 18 [.pointer (some ⟨t, 0, none⟩), .agg #[.int .i64 i, .int .u8 seq, .int .i64 val, .bool bad]] H fun v H' => v = .tuple #[.int .i64 ((L[i]).gap seq), .bool true] ∧ Eqv H' (H.set l (Last.row (L.set i ((L[i]).next seq)))) := by
  refine IBody.calls (by kernel_rfl) (IBody.left ?_)
  have hl := Heap.lt_of_get hT.row
  have hw1 := IntWalk.i64_in ((L[i]).fresh + 1) (by omega)
  have hg : 0 ≤ (L[i]).gap seq ∧ (L[i]).gap seq < 256 := by unfold Last.gap; rw [if_pos h1, IntKind.wrap_u8, IntKind.wrap_u8]; omega
  have hw2 := IntWalk.i64_in ((L[i]).gap seq) (by omega)
  have hw3 := IntWalk.i64_in ((L[i]).missed + (L[i]).gap seq) (by omega)
  simp only [Last.gap, h1, if_true] at hw2 hw3
  refine IBody.of Try.func18 rfl (by rw [Try.ntmps18]; simp) ?_
  rw [Try.ntmps18]
  refine IWp.seq ?_
  refine IWp.run [0, 3] ?_
  simp [go_sem, -getElem?_pos, List.getElem?_cons_zero, List.getElem?_cons_succ, Go.IntWalk.iteOmega, Go.IntWalk.toNatUp, hT.row, Last.row_length, Last.row_get0, Last.row_get1, Last.row_get2, Last.row_get3, Last.row_put0, Last.row_put1, Last.row_put2, Last.row_put3, Last.row_room, Nat.add_assoc, h, h1, h2, hw1, hw2, hw3, show ¬ l = H.next by omega]
  refine IWp.seq ?_
  refine IWp.run [3, 6] ?_
  simp [go_sem, -getElem?_pos, List.getElem?_cons_zero, List.getElem?_cons_succ, Go.IntWalk.iteOmega, Go.IntWalk.toNatUp, hT.row, Last.row_length, Last.row_get0, Last.row_get1, Last.row_get2, Last.row_get3, Last.row_put0, Last.row_put1, Last.row_put2, Last.row_put3, Last.row_room, Nat.add_assoc, h, h1, h2, hw1, hw2, hw3, show ¬ l = H.next by omega]
  refine ICalls.mono (trackOf_some _ t l L i (hT.alloc _) h) ?_
  rintro v H1 ⟨rfl, rfl⟩
  try simp [go_sem, -getElem?_pos, List.getElem?_cons_zero, List.getElem?_cons_succ, Go.IntWalk.iteOmega, Go.IntWalk.toNatUp, hT.row, Last.row_length, Last.row_get0, Last.row_get1, Last.row_get2, Last.row_get3, Last.row_put0, Last.row_put1, Last.row_put2, Last.row_put3, Last.row_room, Nat.add_assoc, h, h1, h2, hw1, hw2, hw3, show ¬ l = H.next by omega]
  refine IWp.seq ?_
  refine IWp.seq ?_
  refine IWp.read [3, 6, 28] follows (by kernel_rfl) ?_
  simp [go_sem, -getElem?_pos, List.getElem?_cons_zero, List.getElem?_cons_succ, Go.IntWalk.iteOmega, Go.IntWalk.toNatUp, hT.row, Last.row_length, Last.row_get0, Last.row_get1, Last.row_get2, Last.row_get3, Last.row_put0, Last.row_put1, Last.row_put2, Last.row_put3, Last.row_room, Nat.add_assoc, h, h1, h2, hw1, hw2, hw3, show ¬ l = H.next by omega]
  refine IWp.cond ?_
  simp [go_sem, -getElem?_pos, List.getElem?_cons_zero, List.getElem?_cons_succ, Go.IntWalk.iteOmega, Go.IntWalk.toNatUp, hT.row, Last.row_length, Last.row_get0, Last.row_get1, Last.row_get2, Last.row_get3, Last.row_put0, Last.row_put1, Last.row_put2, Last.row_put3, Last.row_room, Nat.add_assoc, h, h1, h2, hw1, hw2, hw3, show ¬ l = H.next by omega]
  refine IWp.skip ?_
  simp [go_sem, -getElem?_pos, List.getElem?_cons_zero, List.getElem?_cons_succ, Go.IntWalk.iteOmega, Go.IntWalk.toNatUp, hT.row, Last.row_length, Last.row_get0, Last.row_get1, Last.row_get2, Last.row_get3, Last.row_put0, Last.row_put1, Last.row_put2, Last.row_put3, Last.row_room, Nat.add_assoc, h, h1, h2, hw1, hw2, hw3, show ¬ l = H.next by omega]
  refine IWp.seq ?_
  refine IWp.run [3, 6, 7] ?_
  simp [go_sem, -getElem?_pos, List.getElem?_cons_zero, List.getElem?_cons_succ, Go.IntWalk.iteOmega, Go.IntWalk.toNatUp, hT.row, Last.row_length, Last.row_get0, Last.row_get1, Last.row_get2, Last.row_get3, Last.row_put0, Last.row_put1, Last.row_put2, Last.row_put3, Last.row_room, Nat.add_assoc, h, h1, h2, hw1, hw2, hw3, show ¬ l = H.next by omega]
  refine IWp.seq ?_
  refine IWp.seq ?_
  refine IWp.run [3, 6, 7, 32] ?_
  simp [go_sem, -getElem?_pos, List.getElem?_cons_zero, List.getElem?_cons_succ, Go.IntWalk.iteOmega, Go.IntWalk.toNatUp, hT.row, Last.row_length, Last.row_get0, Last.row_get1, Last.row_get2, Last.row_get3, Last.row_put0, Last.row_put1, Last.row_put2, Last.row_put3, Last.row_room, Nat.add_assoc, h, h1, h2, hw1, hw2, hw3, show ¬ l = H.next by omega]
  refine IWp.cond ?_
  simp [go_sem, -getElem?_pos, List.getElem?_cons_zero, List.getElem?_cons_succ, Go.IntWalk.iteOmega, Go.IntWalk.toNatUp, hT.row, Last.row_length, Last.row_get0, Last.row_get1, Last.row_get2, Last.row_get3, Last.row_put0, Last.row_put1, Last.row_put2, Last.row_put3, Last.row_room, Nat.add_assoc, h, h1, h2, hw1, hw2, hw3, show ¬ l = H.next by omega]
  refine IWp.read [3, 6, 7] follows (by kernel_rfl) ?_
  simp [go_sem, -getElem?_pos, List.getElem?_cons_zero, List.getElem?_cons_succ, Go.IntWalk.iteOmega, Go.IntWalk.toNatUp, hT.row, Last.row_length, Last.row_get0, Last.row_get1, Last.row_get2, Last.row_get3, Last.row_put0, Last.row_put1, Last.row_put2, Last.row_put3, Last.row_room, Nat.add_assoc, h, h1, h2, hw1, hw2, hw3, show ¬ l = H.next by omega]
  refine IWp.seq ?_
  refine IWp.run [6, 7] ?_
  simp [go_sem, -getElem?_pos, List.getElem?_cons_zero, List.getElem?_cons_succ, Go.IntWalk.iteOmega, Go.IntWalk.toNatUp, hT.row, Last.row_length, Last.row_get0, Last.row_get1, Last.row_get2, Last.row_get3, Last.row_put0, Last.row_put1, Last.row_put2, Last.row_put3, Last.row_room, Nat.add_assoc, h, h1, h2, hw1, hw2, hw3, show ¬ l = H.next by omega]
  refine IWp.seq ?_
  refine IWp.run [6, 7] ?_
  simp [go_sem, -getElem?_pos, List.getElem?_cons_zero, List.getElem?_cons_succ, Go.IntWalk.iteOmega, Go.IntWalk.toNatUp, hT.row, Last.row_length, Last.row_get0, Last.row_get1, Last.row_get2, Last.row_get3, Last.row_put0, Last.row_put1, Last.row_put2, Last.row_put3, Last.row_room, Nat.add_assoc, h, h1, h2, hw1, hw2, hw3, show ¬ l = H.next by omega]
  refine IWp.seq ?_
  refine IWp.run [7] ?_
  simp [go_sem, -getElem?_pos, List.getElem?_cons_zero, List.getElem?_cons_succ, Go.IntWalk.iteOmega, Go.IntWalk.toNatUp, hT.row, Last.row_length, Last.row_get0, Last.row_get1, Last.row_get2, Last.row_get3, Last.row_put0, Last.row_put1, Last.row_put2, Last.row_put3, Last.row_room, Nat.add_assoc, h, h1, h2, hw1, hw2, hw3, show ¬ l = H.next by omega]
  refine IWp.seq ?_
  refine IWp.run [4, 5] ?_
  simp [go_sem, -getElem?_pos, List.getElem?_cons_zero, List.getElem?_cons_succ, Go.IntWalk.iteOmega, Go.IntWalk.toNatUp, hT.row, Last.row_length, Last.row_get0, Last.row_get1, Last.row_get2, Last.row_get3, Last.row_put0, Last.row_put1, Last.row_put2, Last.row_put3, Last.row_room, Nat.add_assoc, h, h1, h2, hw1, hw2, hw3, show ¬ l = H.next by omega]
  refine IWp.ret ?_
  simp [go_sem, -getElem?_pos, List.getElem?_cons_zero, List.getElem?_cons_succ, Go.IntWalk.iteOmega, Go.IntWalk.toNatUp, hT.row, Last.row_length, Last.row_get0, Last.row_get1, Last.row_get2, Last.row_get3, Last.row_put0, Last.row_put1, Last.row_put2, Last.row_put3, Last.row_room, Nat.add_assoc, h, h1, h2, hw1, hw2, hw3, show ¬ l = H.next by omega, Try.results18]
  simp [Last.gap, Last.next, h1]
  intro H2 hg hn
  refine ⟨fun b => ?_, ?_⟩
  · rw [hg b]
    by_cases hb : b < Heap.next H
    · have hb1 : ¬ b = Heap.next H := Nat.ne_of_lt hb
      simp [hb, hb1, get_set, get_alloc, get_kill, hT.row]
      try (repeat' split) <;> simp_all
    · rw [if_neg hb]
      refine (Heap.wf _ b ?_).symm
      try simp only [next_set, next_alloc, next_kill]
      omega
  · try simp only [next_set, next_alloc, next_kill] at hn
    try simp only [next_set, next_alloc, next_kill]
    omega

/-- One that is new, whether or not one came before it. -/
theorem next_new (H : Heap) (t l : Nat) (L : List Last) (i : Nat) (seq val : Int) (bad : Bool) (hT : IsTracker H t l L) (h : i < L.length) (hd : ¬ ((L[i]).there = true ∧ (L[i]).seq = seq))
    (hf : 0 ≤ (L[i]).fresh ∧ (L[i]).fresh < 2 ^ 40) (hm : 0 ≤ (L[i]).missed ∧ (L[i]).missed < 2 ^ 40) :
    ICalls Try.prog 18 [.pointer (some ⟨t, 0, none⟩), .agg #[.int .i64 i, .int .u8 seq, .int .i64 val, .bool bad]] H fun v H' => v = .tuple #[.int .i64 ((L[i]).gap seq), .bool true] ∧ Eqv H' (H.set l (Last.row (L.set i ((L[i]).next seq)))) := by
  cases h1 : (L[i]).there with
  | false => exact next_first H t l L i seq val bad hT h h1 hf hm
  | true => exact next_again H t l L i seq val bad hT h h1 (fun e => hd ⟨h1, e⟩) hf hm

/-! ### counts, and a new one -/
theorem count_none (H : Heap) (t l : Nat) (L : List Last) (i : Int) (hT : IsTracker H t l L) (h : ¬ (0 ≤ i ∧ i < L.length)) :
    ICalls Try.prog 20 [.pointer (some ⟨t, 0, none⟩), .int .i64 i] H fun v H' => v = .tuple #[.int .i64 0, .int .i64 0] ∧ H' = H := by
  refine IBody.calls (by kernel_rfl) ?_
  refine IBody.of Try.func20 rfl (by rw [Try.ntmps20]; simp) ?_
  rw [Try.ntmps20]
  refine IWp.seq ?_
  refine IWp.run [0, 1] ?_
  simp [go_sem, -getElem?_pos, List.getElem?_cons_zero, List.getElem?_cons_succ, Go.IntWalk.iteOmega, Go.IntWalk.toNatUp]
  refine IWp.seq ?_
  refine IWp.run [6] ?_
  simp [go_sem, -getElem?_pos, List.getElem?_cons_zero, List.getElem?_cons_succ, Go.IntWalk.iteOmega, Go.IntWalk.toNatUp]
  refine ICalls.mono (trackOf_none _ t l L i hT h) ?_
  rintro v H1 ⟨rfl, rfl⟩
  try simp [go_sem, -getElem?_pos, List.getElem?_cons_zero, List.getElem?_cons_succ, Go.IntWalk.iteOmega, Go.IntWalk.toNatUp]
  refine IWp.seq ?_
  refine IWp.seq ?_
  refine IWp.run [6, 11] ?_
  simp [go_sem, -getElem?_pos, List.getElem?_cons_zero, List.getElem?_cons_succ, Go.IntWalk.iteOmega, Go.IntWalk.toNatUp]
  refine IWp.cond ?_
  simp [go_sem, -getElem?_pos, List.getElem?_cons_zero, List.getElem?_cons_succ, Go.IntWalk.iteOmega, Go.IntWalk.toNatUp]
  refine IWp.seq ?_
  refine IWp.run [4, 5] ?_
  simp [go_sem, -getElem?_pos, List.getElem?_cons_zero, List.getElem?_cons_succ, Go.IntWalk.iteOmega, Go.IntWalk.toNatUp]
  refine IWp.ret ?_
  simp [go_sem, -getElem?_pos, List.getElem?_cons_zero, List.getElem?_cons_succ, Go.IntWalk.iteOmega, Go.IntWalk.toNatUp, Try.results20]

theorem count_some (H : Heap) (t l : Nat) (L : List Last) (i : Nat) (hT : IsTracker H t l L) (h : i < L.length) :
    ICalls Try.prog 20 [.pointer (some ⟨t, 0, none⟩), .int .i64 i] H fun v H' => v = .tuple #[.int .i64 (L[i]).fresh, .int .i64 (L[i]).missed] ∧ H' = H := by
  refine IBody.calls (by kernel_rfl) ?_
  refine IBody.of Try.func20 rfl (by rw [Try.ntmps20]; simp) ?_
  rw [Try.ntmps20]
  refine IWp.seq ?_
  refine IWp.run [0, 1] ?_
  simp [go_sem, -getElem?_pos, List.getElem?_cons_zero, List.getElem?_cons_succ, Go.IntWalk.iteOmega, Go.IntWalk.toNatUp, hT.row, Last.row_get2, Last.row_get3, h]
  refine IWp.seq ?_
  refine IWp.run [6] ?_
  simp [go_sem, -getElem?_pos, List.getElem?_cons_zero, List.getElem?_cons_succ, Go.IntWalk.iteOmega, Go.IntWalk.toNatUp, hT.row, Last.row_get2, Last.row_get3, h]
  refine ICalls.mono (trackOf_some _ t l L i hT h) ?_
  rintro v H1 ⟨rfl, rfl⟩
  try simp [go_sem, -getElem?_pos, List.getElem?_cons_zero, List.getElem?_cons_succ, Go.IntWalk.iteOmega, Go.IntWalk.toNatUp, hT.row, Last.row_get2, Last.row_get3, h]
  refine IWp.seq ?_
  refine IWp.seq ?_
  refine IWp.run [6, 11] ?_
  simp [go_sem, -getElem?_pos, List.getElem?_cons_zero, List.getElem?_cons_succ, Go.IntWalk.iteOmega, Go.IntWalk.toNatUp, hT.row, Last.row_get2, Last.row_get3, h]
  refine IWp.cond ?_
  simp [go_sem, -getElem?_pos, List.getElem?_cons_zero, List.getElem?_cons_succ, Go.IntWalk.iteOmega, Go.IntWalk.toNatUp, hT.row, Last.row_get2, Last.row_get3, h]
  refine IWp.skip ?_
  simp [go_sem, -getElem?_pos, List.getElem?_cons_zero, List.getElem?_cons_succ, Go.IntWalk.iteOmega, Go.IntWalk.toNatUp, hT.row, Last.row_get2, Last.row_get3, h]
  refine IWp.seq ?_
  refine IWp.read [4, 5] follows (by kernel_rfl) ?_
  simp [go_sem, -getElem?_pos, List.getElem?_cons_zero, List.getElem?_cons_succ, Go.IntWalk.iteOmega, Go.IntWalk.toNatUp, hT.row, Last.row_get2, Last.row_get3, h]
  refine IWp.ret ?_
  simp [go_sem, -getElem?_pos, List.getElem?_cons_zero, List.getElem?_cons_succ, Go.IntWalk.iteOmega, Go.IntWalk.toNatUp, hT.row, Last.row_get2, Last.row_get3, h, Try.results20]

theorem new_tracker (H : Heap) (n : Int) :
    ICalls Try.prog 17 [.int .i64 n] H fun v H' => v = .pointer (some ⟨H.next + 1, 0, none⟩) ∧ IsTracker H' (H.next + 1) H.next (List.replicate (min (max n 0) 8).toNat ⟨0, false, 0, 0⟩) ∧ (∀ b, b < H.next → H'.get b = H.get b) ∧ H'.next = H.next + 2 := by
  refine IBody.calls (by kernel_rfl) ?_
  refine IBody.of Try.func17 rfl (by rw [Try.ntmps17]; simp) ?_
  rw [Try.ntmps17]
  refine IWp.seq ?_
  refine IWp.run [0] ?_
  simp [go_sem, -getElem?_pos, List.getElem?_cons_zero, List.getElem?_cons_succ, Go.IntWalk.iteOmega, Go.IntWalk.toNatUp]
  refine IWp.seq ?_
  refine IWp.run [2] ?_
  simp [go_sem, -getElem?_pos, List.getElem?_cons_zero, List.getElem?_cons_succ, Go.IntWalk.iteOmega, Go.IntWalk.toNatUp]
  refine IWp.ret ?_
  simp [go_sem, -getElem?_pos, List.getElem?_cons_zero, List.getElem?_cons_succ, Go.IntWalk.iteOmega, Go.IntWalk.toNatUp, Try.results17]
  have hz : (if (8 : Int) < (if n < 0 then 0 else n) then 8 else if n < 0 then 0 else n) = min (max n 0) 8 := by
    by_cases h1 : n < 0
    · simp [h1]; omega
    · by_cases h2 : 8 < n
      · simp [h1, h2]; omega
      · simp [h1, h2]; omega
  rw [hz]
  refine ⟨⟨?_, ?_, by omega⟩, fun b hb => ?_⟩
  · simp [get_alloc, next_alloc]
  · simp [get_alloc, next_alloc, Last.row, Last.cells, List.flatMap_replicate]
  · rw [if_neg (by omega), if_neg (by omega)]

end Go.Proofs.Ytjhmajcakhdcnaa.I
