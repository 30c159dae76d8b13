/- A wheel's map and a list of timers that tell the same. No condition. -/
import Derived.Test.YtdimnoeldnfikaaGWheelB
namespace Go.Proofs.Ytdimnoeldnfikaa.I
open Go Go.RowKit Go.Maps
set_option linter.unusedVariables false
set_option linter.unusedSimpArgs false

abbrev kI (x : Int) : Lit := .int .i64 x
/-- The map and the list tell the same. -/
structure Like (D : Dat) (m : List (Int × Int)) : Prop where
  tidy : Tidy D
  nd : (m.map (·.1)).Nodup
  has : ∀ x, Maps.has D (kI x) = true ↔ x ∈ m.map (·.1)
  at_ : ∀ p ∈ m, atI D p.1 = p.2
  size : Maps.size D = m.length
  wf : ∀ p ∈ m, (Lit.int .i64 p.1).wf = true

theorem Like.nil : Like (.map []) [] := ⟨tidy_empty, List.nodup_nil, fun x => by simp [Maps.has_eq], fun p h => (by cases h), rfl, fun p h => (by cases h)⟩
def without (m : List (Int × Int)) (x : Int) : List (Int × Int) := m.filter fun p => !(p.1 == x)
theorem without_ids (m : List (Int × Int)) (x y : Int) : y ∈ (without m x).map (·.1) ↔ y ∈ m.map (·.1) ∧ y ≠ x := by
  unfold without
  simp only [List.mem_map, List.mem_filter]
  constructor
  · rintro ⟨p, ⟨h1, h2⟩, rfl⟩; exact ⟨⟨p, h1, rfl⟩, by simpa using h2⟩
  · rintro ⟨⟨p, h1, rfl⟩, h2⟩; exact ⟨p, ⟨h1, by simpa using h2⟩, rfl⟩
theorem without_len : ∀ (m : List (Int × Int)) (x : Int), (m.map (·.1)).Nodup → (without m x).length + (if x ∈ m.map (·.1) then 1 else 0) = m.length
  | [], x, _ => rfl
  | p :: m, x, h => by
    rw [List.map_cons, List.nodup_cons] at h
    have ih := without_len m x h.2
    unfold without at ih ⊢
    rw [List.filter_cons]
    by_cases hp : p.1 = x
    · have hx : ¬ x ∈ m.map (·.1) := by rw [← hp]; exact h.1
      rw [if_neg hx] at ih
      rw [if_neg (by simp [hp]), if_pos (by simp [hp])]
      simp at ih ⊢; omega
    · rw [if_pos (by simp [hp])]
      have e : (x ∈ (p :: m).map (·.1)) ↔ x ∈ m.map (·.1) := by simp [Ne.symm hp]
      by_cases hx : x ∈ m.map (·.1)
      · rw [if_pos hx] at ih; rw [if_pos (e.mpr hx)]; simp only [List.length_cons]; omega
      · rw [if_neg hx] at ih; rw [if_neg (fun h => hx (e.mp h))]; simp only [List.length_cons]; omega
theorem without_nd {m : List (Int × Int)} (x : Int) (h : (m.map (·.1)).Nodup) : ((without m x).map (·.1)).Nodup := (List.filter_sublist.map _).nodup h
theorem without_mem {m : List (Int × Int)} {x : Int} {p : Int × Int} (h : p ∈ without m x) : p ∈ m ∧ p.1 ≠ x := by
  unfold without at h
  have := List.mem_filter.mp h
  exact ⟨this.1, by simpa using this.2⟩

theorem kI_ne {x y : Int} (h : x ≠ y) : kI x ≠ kI y := fun e => h (by cases e; rfl)
theorem Like.del {D : Dat} {m : List (Int × Int)} (h : Like D m) (x : Int) : Like (D.del (kI x)) (without m x) := by
  refine ⟨h.tidy.del _, without_nd x h.nd, fun y => ?_, fun p hp => ?_, ?_, fun p hp => h.wf p (without_mem hp).1⟩
  · rw [without_ids]
    by_cases e : y = x
    · subst e; simp [has_del_same]
    · rw [has_del_other (kI_ne e), h.has y]; simp [e]
  · obtain ⟨h1, h2⟩ := without_mem hp
    have := h.at_ p h1
    unfold atI at this ⊢
    rw [atKey_del_other (kI_ne h2)]; exact this
  · have h1 := size_del (k := kI x) h.tidy
    have h2 := without_len m x h.nd
    rw [h.size] at h1
    by_cases e : x ∈ m.map (·.1)
    · rw [if_pos e] at h2
      rw [if_pos ((h.has x).mpr e)] at h1; omega
    · rw [if_neg e] at h2
      rw [if_neg (fun h3 => e ((h.has x).mp h3))] at h1; omega
theorem Like.put {D : Dat} {m : List (Int × Int)} (h : Like D m) (x v : Int) (hx : (Lit.int .i64 x).wf = true) : Like (D.put (kI x) (eI v)) (without m x ++ [(x, v)]) := by
  have hk : WideAt.IsKeyLit (kI x) := trivial
  refine ⟨h.tidy.put hk _, ?_, fun y => ?_, fun p hp => ?_, ?_, fun p hp => ?_⟩
  · rw [List.map_append]
    refine List.nodup_append.2 ⟨without_nd x h.nd, by simp, fun a ha b hb => ?_⟩
    simp at hb
    subst hb
    exact ((without_ids m _ a).mp ha).2
  · rw [List.map_append, List.mem_append, without_ids]
    by_cases e : y = x
    · subst e; simp [has_put_same h.tidy.isMap hk]
    · rw [has_put_other (kI_ne e), h.has y]; simp [e]
  · rcases List.mem_append.mp hp with hp | hp
    · obtain ⟨h1, h2⟩ := without_mem hp
      have := h.at_ p h1
      unfold atI at this ⊢
      rw [atKey_put_other (kI_ne h2)]; exact this
    · simp at hp
      subst hp
      unfold atI
      rw [atKey_put_same h.tidy.isMap hk]
  · have h1 := size_put (k := kI x) h.tidy (eI v)
    have h2 := without_len m x h.nd
    rw [h1, List.length_append, h.size]
    by_cases e : x ∈ m.map (·.1)
    · rw [if_pos e] at h2
      rw [if_pos ((h.has x).mpr e)]; simp; omega
    · rw [if_neg e] at h2
      rw [if_neg (fun h3 => e ((h.has x).mp h3))]; simp; omega
  · rcases List.mem_append.mp hp with hp | hp
    · exact h.wf p (without_mem hp).1
    · simp at hp; subst hp; exact hx
theorem Like.atNone {D : Dat} {m : List (Int × Int)} (h : Like D m) {x : Int} (hx : x ∉ m.map (·.1)) : atI D x = 0 ∧ Maps.has D (kI x) = false := by
  have : Maps.has D (kI x) = false := by
    cases e : Maps.has D (kI x)
    · rfl
    · exact absurd ((h.has x).mp e) hx
  exact ⟨by unfold atI; rw [atKey_of_not_has this], this⟩

theorem due_uniqL {D : Dat} : ∀ (l m : List Int), l.Perm m → (l.Pairwise fun x y => dueLt D y x = false) → (m.Pairwise fun x y => dueLt D y x = false) → l = m
  | [], m, h, _, _ => (List.nil_perm.mp h).symm
  | a :: t, [], h, _, _ => by simpa using h.length_eq
  | a :: t, b :: s, h, h1, h2 => by
    have c1 := List.pairwise_cons.mp h1
    have c2 := List.pairwise_cons.mp h2
    have hab : a = b := by
      have ma : a ∈ b :: s := h.mem_iff.mp (by simp)
      have mb : b ∈ a :: t := h.mem_iff.mpr (by simp)
      rcases List.mem_cons.mp ma with e | ma
      · exact e
      · rcases List.mem_cons.mp mb with e | mb
        · exact e.symm
        · have r1 := c1.1 b mb
          have r2 := c2.1 a ma
          unfold dueLt at r1 r2; simp only [decide_eq_false_iff_not] at r1 r2; omega
    subst hab
    rw [due_uniqL t s (List.Perm.cons_inv h) c1.2 c2.2]
theorem DueL.uniq {D : Dat} {now : Int} {ks ls : List Int} (h : DueL D now ks) (k : DueL D now ls) : ks = ls :=
  due_uniqL ks ls ((List.perm_ext_iff_of_nodup h.nd k.nd).mpr fun x => by rw [h.mem, k.mem]) h.ord k.ord

/-- Without some. -/
def withoutL (m : List (Int × Int)) (ks : List Int) : List (Int × Int) := ks.foldl without m
theorem Like.delL (ks : List Int) : ∀ {D : Dat} {m : List (Int × Int)}, Like D m → Like (delL D ks) (withoutL m ks) := by
  unfold Go.Proofs.Ytdimnoeldnfikaa.I.delL withoutL
  induction ks with
  | nil => intro D m h; exact h
  | cons x ks ih => intro D m h; exact ih (h.del x)
theorem withoutL_ids (ks : List Int) : ∀ (m : List (Int × Int)) (y : Int), y ∈ (withoutL m ks).map (·.1) ↔ y ∈ m.map (·.1) ∧ y ∉ ks := by
  unfold withoutL
  induction ks with
  | nil => simp
  | cons x ks ih =>
    intro m y
    rw [List.foldl_cons, ih, without_ids]
    simp only [List.mem_cons, not_or]
    exact ⟨fun h => ⟨h.1.1, h.1.2, h.2⟩, fun h => ⟨⟨h.1, h.2.1⟩, h.2.2⟩⟩

end Go.Proofs.Ytdimnoeldnfikaa.I
