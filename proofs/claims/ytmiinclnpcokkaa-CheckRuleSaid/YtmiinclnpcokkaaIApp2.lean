/- A copy of a row, and one more element: in whichever order the two are laid. No condition. -/
import Derived.Test.YtmiinclnpcokkaaIRow
namespace Go.Proofs.Ytmiinclnpcokkaa.I
open Go Go.RowKit
set_option linter.unusedVariables false
set_option linter.unusedSimpArgs false

theorem one0_row {sz : Nat} {us : List Value} (h : ∀ u ∈ us, u.cells.toList.all one0 = true) : (us.flatMap fun u => u.cells.toList).all one0 = true := by
  rw [List.all_eq_true]
  intro x hx
  obtain ⟨u, hu, hx⟩ := List.mem_flatMap.1 hx
  exact List.all_eq_true.1 (h u hu) x hx

section app2
variable {P : Program} {t e : TypeId} {sz by_ : Nat} {z : Value}
/-- Copied, then one more laid and appended. -/
theorem app_two (he : tElem P t = some e) (hs : tSize P e = some sz) (hb : tBytes P e = some by_) (hz : tZero P e = some z) (hzl : z.cells.toList.length = sz) (H : Heap) (us : List Value) (x u : Value) (cs : List Value)
    (h0 : ∀ u ∈ us, u.cells.toList.length = sz) (hx : ∀ K, irow sz x K = some (us.length, us.flatMap fun u => u.cells.toList)) (h1 : (us.flatMap fun u => u.cells.toList).all one0 = true) (hc : u.cells.toList = cs) (hw : cs.length = sz) (h2 : cs.all one0 = true)
    (hl : us.length + 1 ≤ 1099511627776) (hl2 : (us.length + 1 + 768) * by_ ≤ 70368744177664) :
    (∃ va H3 vb H4, iapp P t (.slice none 0 0) x H = some (va, H3) ∧ iapp P t va (.slice (some ⟨H3.next, 0, some sz⟩) 1 1) (H3.alloc cs) = some (vb, H4) ∧ Old H H3 ∧ Old H H4 ∧ (∃ q, H.next ≤ q ∧ vb = .slice (some ⟨q, 0, some sz⟩) (us.length + 1) 1 ∧ H4.get q = some ⟨(us ++ [u]).flatMap (fun u => u.cells.toList), true⟩)) ∧
    (∃ va H3 vb H4, iapp P t (.slice none 0 0) x (H.alloc cs) = some (va, H3) ∧ iapp P t va (.slice (some ⟨H.next, 0, some sz⟩) 1 1) H3 = some (vb, H4) ∧ Old H H3 ∧ Old H H4 ∧ (∃ q, H.next ≤ q ∧ vb = .slice (some ⟨q, 0, some sz⟩) (us.length + 1) 1 ∧ H4.get q = some ⟨(us ++ [u]).flatMap (fun u => u.cells.toList), true⟩)) := by
  have own : ∀ {K : Heap} {n : Nat} {v : Value}, Bld sz K n v (us ++ [u]) → ∃ q, n ≤ q ∧ v = .slice (some ⟨q, 0, some sz⟩) (us.length + 1) 1 ∧ K.get q = some ⟨(us ++ [u]).flatMap (fun u => u.cells.toList), true⟩ := fun {K n v} h => by
    rcases h.2 with ⟨_, h⟩ | ⟨q, q1, q2, q3⟩
    · simp at h
    · exact ⟨q, q1, by simpa using q2, q3⟩
  have hm1 : (us.length + 768) * by_ ≤ 70368744177664 := Nat.le_trans (Nat.mul_le_mul_right _ (by omega)) hl2
  refine ⟨?_, ?_⟩
  · obtain ⟨va, H3, e3, a3, o3, n3, f3, t3⟩ := app_own he hs hb hz hzl (Bld.nil sz H H.next) h0 (hx H) h1 (Nat.le_refl _) (by simp; omega) (by simpa using hm1)
    rw [List.nil_append] at a3
    obtain ⟨vb, H4, e4, a4, o4, n4, f4, t4⟩ := app_one he hs hb hz hzl u cs a3 hc hw h2 (by omega) hl hl2
    exact ⟨va, H3, vb, H4, e3, e4, ⟨o3, n3⟩, ⟨fun b hb => by rw [o4 b hb, o3 b hb], by omega⟩, own a4⟩
  · obtain ⟨va, H3, e3, a3, o3, n3, f3, t3⟩ := app_own he hs hb hz hzl (Bld.nil sz (H.alloc cs) (H.alloc cs).next) h0 (hx _) h1 (Nat.le_refl _) (by simp; omega) (by simpa using hm1)
    rw [List.nil_append] at a3
    rw [next_alloc] at a3 o3 n3
    have hg : H3.get H.next = some ⟨[u].flatMap fun u => u.cells.toList, true⟩ := by
      rw [o3 _ (by omega), Heap.get_alloc_new]; simp [hc]
    obtain ⟨vb, H4, e4, a4, o4, n4, f4, t4⟩ := app_own he hs hb hz hzl a3 (ws := [u]) (x := .slice (some ⟨H.next, 0, some sz⟩) 1 1) (by simpa using (show u.cells.toList.length = sz by rw [hc, hw])) (irow_blk (ws := [u]) (own := true) hg (by simpa using (show u.cells.toList.length = sz by rw [hc, hw]))) (by simp [hc]; simpa using h2) (by omega) (by simpa using hl) (by simpa using hl2)
    exact ⟨va, H3, vb, H4, e3, e4, ⟨fun b hb => by rw [o3 b (by omega), Heap.get_alloc_lt _ _ _ hb], by omega⟩, ⟨fun b hb => by rw [o4 b (by omega), o3 b (by omega), Heap.get_alloc_lt _ _ _ hb], by omega⟩, (own a4).imp fun q h => ⟨by omega, h.2⟩⟩
end app2

end Go.Proofs.Ytmiinclnpcokkaa.I
