/- The sort in the wheel's Due, in the world: the row holds the same keys in the order in which they are due. No condition. -/
import Derived.Test.YtdimnoeldnfikaaWSortI
import Derived.Test.YtdimnoeldnfikaaGSortB
import Derived.Shelf.SlSortCmp.NoneTotal
namespace Go.Proofs.Ytdimnoeldnfikaa.I
open Go Go.RowKit Go.Maps Go.Lib Go.Sort Go.Shelf
set_option linter.unusedVariables false
set_option linter.unusedSimpArgs false

theorem grown_sortWorld {α : Type} [Inhabited α] (enc : α → Value) (w : World) (g m : Nat) (d : Array α) (os : Array Obj) : w.grownBy (sortWorld enc w g 0 m d os) (some g) := by
  refine ⟨rfl, rfl, rfl, by simp [sortWorld], fun k hk hne => ?_⟩
  unfold sortWorld
  rw [heap_grow_old _ _ (by simpa using hk)]
  have : g ≠ k := fun e => hne (by rw [e])
  simp [putRow, mapBlock, Sort.ahead, Array.getElem?_modify, this]

def encI (x : KeyI) : Value := .int .i64 x.1
theorem wSortDue (cb sb so bm n : Nat) (D : Dat) (g cap : Nat) (cur : Array Value) (ks : List Int) (wr : World) (hwf : ∀ k ∈ ks, (Lit.int .i64 k).wf = true) (hb : wr.heap[g]? = some (.cells cur 3 (0, 0)))
    (ht : cur.toList.take ks.length = ks.map (Value.int .i64)) (c1 : wr.cell? ⟨cb, 0, none⟩ = some (.pointer (some ⟨sb, so, none⟩))) (c0 : wr.cell? ⟨sb, so, none⟩ = some (.map (some bm))) (hown : Tabs wr bm n D)
    (n1 : cb ≠ g) (n2 : sb ≠ g) (n3 : bm ≠ g) (hl : ks.length < 4611686018427387904) :
    Calls Try.prog 42 #[.slice (some ⟨g, 0, none⟩) ks.length cap, .func (.func 43) #[] #[.pointer (some ⟨cb, 0, none⟩)]] wr fun e w' => e = .returned (.tuple #[]) ∧ wr.grownBy w' (some g) ∧
      ∃ ks' : List Int, ks'.Perm ks ∧ ks'.Pairwise (fun x y => dueLt D y x = false) ∧ ∀ j x, ks'[j]? = some x → w'.cell? ⟨g, j, none⟩ = some (.int .i64 x) := by
  obtain ⟨kd, hkd⟩ : ∃ kd : List KeyI, kd.map (·.1) = ks := ⟨ks.attach.map fun x => ⟨x.1, hwf x.1 x.2⟩, by simp [List.map_map, Function.comp_def]⟩
  have hlen : kd.length = ks.length := by rw [← hkd, List.length_map]
  have hg : g < wr.heap.size := (Array.getElem?_eq_some_iff.1 hb).1
  have hH : Holds encI wr g 0 kd.toArray := by
    intro j hj
    have hj' : j < kd.length := by simpa using hj
    refine ⟨?_, by simp [World.frozen?, hb]⟩
    have h1 : (cur.toList.take ks.length)[j]? = (ks.map (Value.int .i64))[j]? := by rw [ht]
    rw [List.getElem?_take_of_lt (by omega)] at h1
    simp only [World.cell?, hb, Nat.zero_add]
    simp only [Option.isSome_none, Bool.false_eq_true, if_false]
    rw [← Array.getElem?_toList, h1, ← hkd, List.map_map]
    simp [hj', encI]
  have hcmp : CmpLays1 Try.prog 43 #[.pointer (some ⟨cb, 0, none⟩)] encI (cfI D) g 0 kd.toArray.size wr := by
    intro m os dk hs x y
    have hgr := grown_sortWorld encI wr g m dk os
    exact wLess cb sb so bm n D x y _ (hgr.cell c1 (by simpa using n1)) (hgr.cell c0 (by simpa using n2)) (hown.kept hgr (by simpa using n3))
  have h := Any.slices_SortFunc (P := Try.prog) intLay encI (fun _ => rfl) (cfI D) (swoI D) 43 #[.pointer (some ⟨cb, 0, none⟩)] g 0 cap kd.toArray wr (enters_of Try.func43 (by kernel_rfl) rfl) hcmp hH hg (by simpa [hlen] using hl)
  have h' : Calls Try.prog 42 #[.slice (some ⟨g, 0, none⟩) ks.length cap, .func (.func 43) #[] #[.pointer (some ⟨cb, 0, none⟩)]] wr fun e w' =>
      e = .returned (.tuple #[]) ∧ ∃ d' n os, PermIn 0 kd.toArray.size kd.toArray d' ∧ SortedIn (ltOf (cfI D)) 0 kd.toArray.size d' ∧ w' = sortWorld encI wr g 0 n d' os := by
    rw [← hlen]
    change Calls Try.prog 42 _ _ _ at h
    simpa using h
  refine h'.mono ?_
  rintro e w' ⟨he, d', m, os, hp, hs, rfl⟩
  have hsz : d'.size = kd.length := by simpa using hp.1
  refine ⟨he, grown_sortWorld _ _ _ _ _ _, d'.toList.map (·.1), ?_, ?_, fun j x hj => ?_⟩
  · rw [← hkd]
    exact (by simpa using perm_of_permIn hp : d'.toList.Perm kd).map _
  · have := pairwise_of_sortedIn _ (by simp [hsz]) hs
    rw [ltOf_cfI] at this
    exact List.pairwise_map.mpr this
  · have hjl : j < d'.size := by
      have := (List.getElem?_eq_some_iff.mp hj).1
      simpa using this
    have hH' := holds_sortWorld encI wr g 0 m kd.toArray d' os hg hH (by simp [hsz])
    have h1 := (hH' j hjl).1
    rw [Nat.zero_add] at h1
    rw [h1]
    rw [List.getElem?_map, Array.getElem?_toList, Array.getElem?_eq_getElem hjl] at hj
    simp only [Option.map_some, Option.some.injEq] at hj
    rw [getElem!_pos d' j hjl]
    unfold encI
    rw [hj]

theorem wSortNone (fv : Value) (wr : World) : Calls Try.prog 42 #[.slice none 0 0, fv] wr fun e w' => e = .returned (.tuple #[]) ∧ w' = wr :=
  AnyF.slices_SortFunc_none (P := Try.prog) (ρ := intLay_ren) { intLay with } none 0 fv wr

end Go.Proofs.Ytdimnoeldnfikaa.I
