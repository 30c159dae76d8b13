/- Rows of one's own at a block, appended to one behind the other. No condition. -/
import Derived.Test.YtoecebibhcadoaaDoorIRow
namespace Go.Proofs.YtoecebibhcadoaaDoor.I
open Go Go.RowKit
set_option linter.unusedVariables false
set_option linter.unusedSimpArgs false
theorem iapp_own {P : Program} {t e : TypeId} {sz by_ : Nat} {z : Value} (he : tElem P t = some e) (hs : tSize P e = some sz) (hb : tBytes P e = some by_) (hz : tZero P e = some z) (hzl : z.cells.toList.length = sz) {H : Heap} {q n : Nat} {x : Value} {cs ws : List Value}
    (hq : H.get q = some ⟨cs, true⟩) (hn : cs.length = n * sz) (m : Nat) (hm : ¬ m = 0) (hr : irow sz x H = some (m, ws)) (h1 : ws.all one0 = true)
    (hl : n + m ≤ 1099511627776) (hl2 : (n + m + 768) * by_ ≤ 70368744177664) :
    iapp P t (.slice (some ⟨q, 0, some sz⟩) n 1) x H = some (.slice (some ⟨H.next, 0, some sz⟩) (n + m) 1, (H.kill q).alloc (cs ++ ws)) := by
  have hold : (if n = 0 then some [] else H.row q 0 (n * sz)) = some cs := by
    by_cases h0 : n = 0
    · subst h0
      have : cs = [] := List.length_eq_zero_iff.1 (by simpa using hn)
      subst this; rfl
    · rw [if_neg h0, row_eq, hq]
      simp [← hn]
  simp only [iapp_row, he, hs, hb, hz, hr, Option.bind_some, hq, hold, if_pos hzl, if_neg hm, h1]
  simp [hl, hl2]
structure RowAt (K : Heap) (q : Nat) (L : List Int) (F : List (Nat × List Value)) : Prop where
  row : K.get q = some ⟨L.map (Value.int .u8), true⟩
  at_ : ∀ p ∈ F, K.get p.1 = some ⟨p.2, true⟩ ∧ p.1 ≠ q
theorem RowAt.alloc {K : Heap} {q : Nat} {L : List Int} {F : List (Nat × List Value)} (h : RowAt K q L F) (cs : List Value) : RowAt (K.alloc cs) q L F :=
  ⟨by rw [Heap.get_alloc_lt _ _ _ (Heap.lt_of_get h.row)]; exact h.row, fun p hp => ⟨by rw [Heap.get_alloc_lt _ _ _ (Heap.lt_of_get (h.at_ p hp).1)]; exact (h.at_ p hp).1, (h.at_ p hp).2⟩⟩
theorem RowAt.app {K : Heap} {q : Nat} {L : List Int} {F : List (Nat × List Value)} (h : RowAt K q L F) (M : List Int) : RowAt ((K.kill q).alloc ((L ++ M).map (Value.int .u8))) K.next (L ++ M) F :=
  ⟨Heap.get_alloc_new _ _, fun p hp => by
    have := h.at_ p hp
    have lt := Heap.lt_of_get this.1
    refine ⟨?_, by omega⟩
    rw [get_alloc, next_kill, if_neg (by omega), get_kill, if_neg this.2]
    exact this.1⟩
theorem RowAt.more {K : Heap} {q : Nat} {L : List Int} {F : List (Nat × List Value)} (h : RowAt K q L F) (cs : List Value) : RowAt (K.alloc cs) q L ((K.next, cs) :: F) :=
  ⟨(h.alloc cs).row, fun p hp => by
    rcases List.mem_cons.1 hp with rfl | hp
    · exact ⟨Heap.get_alloc_new _ _, by have := Heap.lt_of_get h.row; simp only; omega⟩
    · exact (h.alloc cs).at_ p hp⟩
theorem RowAt.less {K : Heap} {q : Nat} {L : List Int} {F : List (Nat × List Value)} {p : Nat × List Value} (h : RowAt K q L (p :: F)) : RowAt K q L F := ⟨h.row, fun x hx => h.at_ x (List.mem_cons_of_mem _ hx)⟩
def rowV (q : Nat) (L : List Int) : Value := .slice (some ⟨q, 0, some 1⟩) L.length 1
theorem irow_bytV (M : List Int) (H : Heap) : irow 1 (byts M) H = some (M.length, M.map (Value.int .u8)) := by
  unfold byts; rw [irow_frow]; simp [map_flat]
section
variable {P : Program} {t e : TypeId} (he : tElem P t = some e) (hs : tSize P e = some 1) (hb : tBytes P e = some 1) (hz : tZero P e = some (.int .u8 0))
include he hs hb hz
theorem RowAt.iapp {K : Heap} {q : Nat} {L : List Int} {F : List (Nat × List Value)} (h : RowAt K q L F) (x : Value) (M : List Int) (hM : ¬ M.length = 0) (hx : irow 1 x K = some (M.length, M.map (Value.int .u8))) (hl : L.length + M.length ≤ 1000000) :
    Go.Proofs.YtoecebibhcadoaaDoor.I.iapp P t (rowV q L) x K = some (rowV K.next (L ++ M), (K.kill q).alloc ((L ++ M).map (Value.int .u8))) := by
  unfold rowV
  rw [iapp_own he hs hb hz rfl h.row (by simp) M.length hM hx (map_one .u8 _) (by omega) (by omega), List.map_append, List.length_append]
theorem RowAt.iappB {K : Heap} {q : Nat} {L : List Int} {F : List (Nat × List Value)} (h : RowAt K q L F) (M : List Int) (hM : ¬ M.length = 0) (hl : L.length + M.length ≤ 1000000) :
    Go.Proofs.YtoecebibhcadoaaDoor.I.iapp P t (rowV q L) (byts M) K = some (rowV K.next (L ++ M), (K.kill q).alloc ((L ++ M).map (Value.int .u8))) := h.iapp he hs hb hz _ M hM (irow_bytV _ _) hl
theorem RowAt.iappL {K : Heap} {q : Nat} {L : List Int} {F : List (Nat × List Value)} (h : RowAt K q L F) (M : List Int) (cs : List Value) (hc : cs = M.map (Value.int .u8)) (n : Nat) (hn : n = M.length) (hM : ¬ M.length = 0) (hl : L.length + M.length ≤ 1000000) :
    Go.Proofs.YtoecebibhcadoaaDoor.I.iapp P t (rowV q L) (.slice (some ⟨K.next, 0, some 1⟩) n 1) (K.alloc cs) = some (rowV (K.next + 1) (L ++ M), ((K.alloc cs).kill q).alloc ((L ++ M).map (Value.int .u8))) := by
  subst hc hn
  exact (h.alloc _).iapp he hs hb hz _ M hM (by
    have := irow_blk (sz := 1) (c := 1) (own := true) (H := K.alloc (M.map (Value.int .u8))) (b := K.next) (ws := M.map (Value.int .u8)) (by rw [Heap.get_alloc_new, map_flat]) (map_sz .u8 _)
    rw [List.length_map, map_flat] at this
    exact this) hl
end
end Go.Proofs.YtoecebibhcadoaaDoor.I
