/- The laying of the sort family for whole numbers; and what the closure of Due answers. No condition. -/
import Derived.Test.YtdimnoeldnfikaaWWheel
import Derived.Shelf.SlLaysF
import Derived.Shelf.SlGeneric
import Derived.Shelf.SlSortCmp.NoneTotal
namespace Go.Proofs.Ytdimnoeldnfikaa.I
open Go Go.RowKit Go.Maps Go.Lib Go.Sort Go.Shelf
set_option linter.unusedVariables false
set_option linter.unusedSimpArgs false

def intLay_ren : Go.Shelf.Ren := ⟨fun
  | 6 => 42
  | 15 => 61
  | 14 => 60
  | 28 => 77
  | 29 => 78
  | 20 => 69
  | 21 => 70
  | 22 => 71
  | 23 => 72
  | 24 => 73
  | 25 => 74
  | 26 => 75
  | 27 => 76
  | 46 => 87
  | 47 => 88
  | 48 => 89
  | 49 => 90
  | 50 => 91
  | 57 => 95
  | n => n,
  fun
  | 22 => 27
  | 24 => 3
  | 25 => 94
  | 39 => 116
  | 53 => 33
  | 55 => 133
  | 46 => 125
  | 45 => 124
  | 50 => 129
  | 66 => 139
  | 70 => 143
  | 76 => 147
  | 77 => 148
  | n => n,
  fun n => n⟩
set_option maxRecDepth 100000 in
set_option maxHeartbeats 4000000 in
theorem intLay : SlLaysF.n6 Try.prog intLay_ren where
  mixed := by kernel_rfl
  f6 := ⟨Try.f42.name, by decide, Try.func42.trans (congrArg some (by kernel_rfl))⟩
  f14 := ⟨Try.f60.name, by decide, Try.func60.trans (congrArg some (by kernel_rfl))⟩
  f15 := Try.func61.trans (congrArg some (by kernel_rfl))
  f20 := ⟨Try.f69.name, by decide, Try.func69.trans (congrArg some (by kernel_rfl))⟩
  f21 := ⟨Try.f70.name, by decide, Try.func70.trans (congrArg some (by kernel_rfl))⟩
  f22 := ⟨Try.f71.name, by decide, Try.func71.trans (congrArg some (by kernel_rfl))⟩
  f23 := ⟨Try.f72.name, by decide, Try.func72.trans (congrArg some (by kernel_rfl))⟩
  f24 := ⟨Try.f73.name, by decide, Try.func73.trans (congrArg some (by kernel_rfl))⟩
  f25 := ⟨Try.f74.name, by decide, Try.func74.trans (congrArg some (by kernel_rfl))⟩
  f26 := ⟨Try.f75.name, by decide, Try.func75.trans (congrArg some (by kernel_rfl))⟩
  f27 := ⟨Try.f76.name, by decide, Try.func76.trans (congrArg some (by kernel_rfl))⟩
  f28 := Try.func77.trans (congrArg some (by kernel_rfl))
  f29 := Try.func78.trans (congrArg some (by kernel_rfl))
  f46 := ⟨Try.f87.name, by decide, Try.func87.trans (congrArg some (by kernel_rfl))⟩
  f47 := Try.func88.trans (congrArg some (by kernel_rfl))
  f48 := Try.func89.trans (congrArg some (by kernel_rfl))
  f49 := ⟨Try.f90.name, by decide, Try.func90.trans (congrArg some (by kernel_rfl))⟩
  f50 := ⟨Try.f91.name, by decide, Try.func91.trans (congrArg some (by kernel_rfl))⟩
  f57 := ⟨Try.f95.name, by decide, Try.func95.trans (congrArg some (by kernel_rfl))⟩
  t0 := Try.underlying0
  a0 := Try.isAgg0
  z0 := Try.sizeOf0
  v0 := Try.zeroValue0
  t3 := Try.underlying3
  a3 := Try.isAgg3
  z3 := Try.sizeOf3
  v3 := Try.zeroValue3
  t4 := Try.underlying4
  a4 := Try.isAgg4
  z4 := Try.sizeOf4
  v4 := Try.zeroValue4
  t5 := Try.underlying5
  a5 := Try.isAgg5
  z5 := Try.sizeOf5
  v5 := Try.zeroValue5
  t9 := Try.underlying9
  a9 := Try.isAgg9
  z9 := Try.sizeOf9
  v9 := Try.zeroValue9
  t22 := Try.underlying27
  a22 := Try.isAgg27
  z22 := Try.sizeOf27
  v22 := Try.zeroValue27
  a24 := Try.isAgg3
  z24 := Try.sizeOf3
  t25 := Try.underlying94
  a25 := Try.isAgg94
  z25 := Try.sizeOf94
  v25 := Try.zeroValue94
  t39 := Try.underlying116
  a39 := Try.isAgg116
  z39 := Try.sizeOf116
  v39 := Try.zeroValue116
  t45 := Try.underlying124
  a45 := Try.isAgg124
  z45 := Try.sizeOf124
  v45 := Try.zeroValue124
  t46 := Try.underlying125
  a46 := Try.isAgg125
  z46 := Try.sizeOf125
  v46 := Try.zeroValue125
  t50 := Try.underlying129
  a50 := Try.isAgg129
  z50 := Try.sizeOf129
  v50 := Try.zeroValue129
  t53 := Try.underlying33
  a53 := Try.isAgg33
  z53 := Try.sizeOf33
  v53 := Try.zeroValue33
  t55 := Try.underlying133
  a55 := Try.isAgg133
  z55 := Try.sizeOf133
  v55 := Try.zeroValue133
  t66 := Try.underlying139
  a66 := Try.isAgg139
  z66 := Try.sizeOf139
  v66 := Try.zeroValue139
  t70 := Try.underlying143
  a70 := Try.isAgg143
  z70 := Try.sizeOf143
  v70 := Try.zeroValue143
  t76 := Try.underlying147
  a76 := Try.isAgg147
  z76 := Try.sizeOf147
  v76 := Try.zeroValue147
  t77 := Try.underlying148
  a77 := Try.isAgg148
  z77 := Try.sizeOf148
  v77 := Try.zeroValue148

/-- When one is due. -/
def atI (D : Dat) (x : Int) : Int := match D.atKey (.int .i64 x) (eI 0) with | .lit (.int _ c) => c | _ => 0
theorem atI_of {D : Dat} {x c : Int} (h : D.atKey (.int .i64 x) (eI 0) = eI c) : atI D x = c := by unfold atI; rw [h]

theorem wNaN62 (x : Int) (w : World) : Calls Try.prog 62 #[.int .i64 x] w fun e w' => e = .returned (.bool false) ∧ w' = w := by
  go_enter Try.func62, Try.ntmps62
  go_wp2
  go_ret
  exact ⟨by simp, rfl⟩
theorem wCmp45 (x y : Int) (w : World) : Calls Try.prog 45 #[.int .i64 x, .int .i64 y] w fun e w' => e = .returned (.int .i64 (compareInt x y)) ∧ w' = w := by
  go_enter Try.func45, Try.ntmps45
  go_wp2_with (go_at_call 62; refine (wNaN62 _ _).mono ?_; rintro e w' ⟨rfl, hw⟩; rw [hw])
  all_goals (go_ret; refine ⟨?_, rfl⟩; unfold compareInt; (repeat' split) <;> first | rfl | (exfalso; omega))

/-- A key. -/
abbrev KeyI := { x : Int // (Lit.int .i64 x).wf = true }
instance : Inhabited KeyI := ⟨⟨0, by decide⟩⟩
def cfI (D : Dat) (x y : KeyI) : Int := orS (compareInt (atI D x.1) (atI D y.1)) (compareInt x.1 y.1)
/-- x is due ahead of y. -/
def dueLt (D : Dat) (x y : Int) : Bool := decide (atI D x < atI D y ∨ (atI D x = atI D y ∧ x < y))
theorem ltOf_cfI (D : Dat) : ltOf (cfI D) = fun x y => dueLt D x.1 y.1 := by
  funext a b
  unfold ltOf cfI orS compareInt dueLt
  by_cases h1 : atI D a.1 < atI D b.1
  · simp [h1]
  · by_cases h2 : atI D b.1 < atI D a.1
    · simp [h1, h2]; omega
    · have h3 : atI D a.1 = atI D b.1 := by omega
      by_cases h4 : a.1 < b.1
      · simp [h3, h4]
      · by_cases h5 : b.1 < a.1 <;> simp [h3, h4, h5]
theorem swoI (D : Dat) : SWO (ltOf (cfI D)) := by
  rw [ltOf_cfI]
  refine ⟨fun x => ?_, fun x y z h1 h2 => ?_, fun x y z h1 h2 => ?_⟩
  · unfold dueLt; simp
  · unfold dueLt at *; simp only [decide_eq_true_eq] at *; omega
  · unfold dueLt at *; simp only [decide_eq_false_iff_not] at *; omega

set_option maxRecDepth 100000 in
set_option maxHeartbeats 2000000 in
theorem wLess (cb sb so bm n : Nat) (D : Dat) (x y : KeyI) (W : World) (c1 : W.cell? ⟨cb, 0, none⟩ = some (.pointer (some ⟨sb, so, none⟩))) (c0 : W.cell? ⟨sb, so, none⟩ = some (.map (some bm))) (hown : Tabs W bm n D) :
    Calls Try.prog 43 #[.int .i64 x.1, .int .i64 y.1, .pointer (some ⟨cb, 0, none⟩)] W fun e w' => e = .returned (.int .i64 (cfI D x y)) ∧ ∃ q os', w' = grow (W.drewN q) os' := by
  have k1 := keyOf_int_mk Try.underlying3 x.2
  have k2 := keyOf_int_mk Try.underlying3 y.2
  obtain ⟨W2, hW2⟩ : ∃ W2 : World, W2 = { W with drawn := W.drawn + 1 } := ⟨_, rfl⟩
  have d1 : W2.cell? ⟨cb, 0, none⟩ = some (.pointer (some ⟨sb, so, none⟩)) := by rw [hW2]; exact c1
  have d0 : W2.cell? ⟨sb, so, none⟩ = some (.map (some bm)) := by rw [hW2]; exact c0
  have hown2 : Tabs W2 bm n D := by rw [hW2]; exact hown
  obtain ⟨a1, hrun1, hat1, hw1⟩ := hown2.lookup_int law3 Try.underlying88 Try.underlying2 (zero2 _) k1
  obtain ⟨a2, hrun2, hat2, hw2⟩ := hown2.lookup_int law3 Try.underlying88 Try.underlying2 (zero2 _) k2
  have e1 := atI_of hat1
  have e2 := atI_of hat2
  unfold cfI
  rw [e1, e2]
  have h45 := fun w => wCmp45 a1 a2 w
  have h46 := fun w => wCmp46 x.1 y.1 w
  generalize compareInt a1 a2 = r1 at *
  generalize compareInt x.1 y.1 = r2 at *
  obtain ⟨x, hx⟩ := x
  obtain ⟨y, hy⟩ := y
  simp only at *
  clear hat1 hat2 e1 e2 hown hown2 k1 k2
  have hg : ∃ q os', W2.alloc (.cells #[.int .i64 r1, .int .i64 r2] 3) = grow (W.drewN q) os' := ⟨1, #[.cells #[.int .i64 r1, .int .i64 r2] 3], by rw [hW2, alloc_eq_grow]; rfl⟩
  go_enter Try.func43, Try.ntmps43
  go_wp2_with fail
  refine wp_region_still_tail 16 (by kernel_rfl) (by kernel_rfl) ?_
  rw [← hW2]
  clear hW2 c0 c1
  simp only [List.take_succ_cons, List.take_zero, List.drop_succ_cons, List.drop_zero]
  still_step
  still_step
  still_step
  still_step
  still_step
  still_step
  still_step
  still_step
  still_step
  still_step
  still_step
  still_step
  still_call (h45 _)
  still_step
  still_step
  still_call (h46 _)
  refine wpStill_nil ?_
  go_wp2_with (first | (go_at_call 44; refine (wOrAt r1 r2 _).mono ?_; rintro e w' ⟨rfl, hw⟩; rw [hw]))
  go_ret
  exact ⟨rfl, hg⟩

end Go.Proofs.Ytdimnoeldnfikaa.I
