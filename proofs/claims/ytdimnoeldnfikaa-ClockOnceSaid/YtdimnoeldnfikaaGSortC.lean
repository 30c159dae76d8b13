/- The order of lamps: what the closure of panel.Lamps answers, in every world of the sort's. No condition. -/
import Derived.Test.YtdimnoeldnfikaaPLamp
import Derived.StillTailTactics
import Derived.Shelf.SlSortCmp.InsertionK
import Derived.Lib.Small
import Derived.Lib.Walk
namespace Go.Proofs.Ytdimnoeldnfikaa.I
open Go Go.RowKit Go.Sort Go.Lib
set_option linter.unusedVariables false
set_option linter.unusedSimpArgs false

theorem wNaN65 (x : Int) (w : World) : Calls Try.prog 65 #[.int .u8 x] w fun e w' => e = .returned (.bool false) ∧ w' = w := by
  go_enter Try.func65, Try.ntmps65
  go_wp2
  go_ret
  exact ⟨by simp, rfl⟩
theorem wNaN63 (x : Int) (w : World) : Calls Try.prog 63 #[.int .i64 x] w fun e w' => e = .returned (.bool false) ∧ w' = w := by
  go_enter Try.func63, Try.ntmps63
  go_wp2
  go_ret
  exact ⟨by simp, rfl⟩
theorem wCmp51 (x y : Int) (w : World) : Calls Try.prog 51 #[.int .u8 x, .int .u8 y] w fun e w' => e = .returned (.int .i64 (compareInt x y)) ∧ w' = w := by
  go_enter Try.func51, Try.ntmps51
  go_wp2_with (go_at_call 65; refine (wNaN65 _ _).mono ?_; rintro e w' ⟨rfl, hw⟩; rw [hw])
  all_goals (go_ret; refine ⟨?_, rfl⟩; unfold compareInt; (repeat' split) <;> first | rfl | (exfalso; omega))
theorem wCmp46 (x y : Int) (w : World) : Calls Try.prog 46 #[.int .i64 x, .int .i64 y] w fun e w' => e = .returned (.int .i64 (compareInt x y)) ∧ w' = w := by
  go_enter Try.func46, Try.ntmps46
  go_wp2_with (go_at_call 63; refine (wNaN63 _ _).mono ?_; rintro e w' ⟨rfl, hw⟩; rw [hw])
  all_goals (go_ret; refine ⟨?_, rfl⟩; unfold compareInt; (repeat' split) <;> first | rfl | (exfalso; omega))

theorem wOr44 (x y : Int) (b : Nat) (w : World) (hx : w.cell? ⟨b, 0, none⟩ = some (.int .i64 x)) (hy : w.cell? ⟨b, 1, none⟩ = some (.int .i64 y)) :
    Calls Try.prog 44 #[.slice (some ⟨b, 0, none⟩) 2 2] w fun e w' => e = .returned (.int .i64 (orS x y)) ∧ w' = w := by
  go_enter Try.func44, Try.ntmps44
  go_wp2
  go_loop [5, 8] (fun _ i => (i = .int .i64 0) ∨ (i = .int .i64 1 ∧ x = 0) ∨ (i = .int .i64 2 ∧ x = 0 ∧ y = 0)) (fun _ i => match i with | .int _ m => 2 - m.toNat | _ => 0)
  case atStart => exact .inl rfl
  case round =>
    rcases hrel with rfl | ⟨rfl, h0⟩ | ⟨rfl, h0, h1⟩
    · go_wp2
      · skip
        have hx0 : x ≠ 0 := by have h : (x != 0) = true := by assumption
                               simpa using h
        go_ret
        exact ⟨by simp [orS, hx0], rfl⟩
      · skip
        have hx0 : x = 0 := by have h : (x != 0) = false := by assumption
                               simpa using h
        simp [hx0]
    · go_wp2
      · skip
        have hy0 : y ≠ 0 := by have h : (y != 0) = true := by assumption
                               simpa using h
        go_ret
        exact ⟨by simp [orS], rfl⟩
      · skip
        have hy0 : y = 0 := by have h : (y != 0) = false := by assumption
                               simpa using h
        simp [hy0, h0]
    · go_wp2
      go_ret
      exact ⟨by simp [orS], rfl⟩

theorem wOrAt (r1 r2 : Int) (W : World) : Calls Try.prog 44 #[.slice (some ⟨W.heap.size, 0, none⟩) 2 2] (W.alloc (.cells #[.int .i64 r1, .int .i64 r2] 3)) fun e w' => e = .returned (.int .i64 (orS r1 r2)) ∧ w' = W.alloc (.cells #[.int .i64 r1, .int .i64 r2] 3) :=
  wOr44 r1 r2 _ _ (by rw [World.cell?_alloc_at (hn := rfl)]; rfl) (by rw [World.cell?_alloc_at (hn := rfl)]; rfl)

set_option maxRecDepth 100000 in
set_option maxHeartbeats 4000000 in
theorem closL (c1 p1 s1 c2 p2 s2 r1 r2 : Int) (a1 k1 a2 k2 : Bool) (h51 : ∀ w, Calls Try.prog 51 #[.int .u8 p2, .int .u8 p1] w fun e w' => e = .returned (.int .i64 r1) ∧ w' = w) (h46 : ∀ w, Calls Try.prog 46 #[.int .i64 c1, .int .i64 c2] w fun e w' => e = .returned (.int .i64 r2) ∧ w' = w) (W : World) :
    Calls Try.prog 50 #[.agg #[.int .i64 c1, .int .u8 p1, .int .i64 s1, .bool a1, .bool k1], .agg #[.int .i64 c2, .int .u8 p2, .int .i64 s2, .bool a2, .bool k2]] W fun e w' => e = .returned (.int .i64 (orS r1 r2)) ∧ ∃ q os', w' = grow (W.drewN q) os' := by
  go_enter Try.func50, Try.ntmps50
  go_wp2_with fail
  obtain ⟨W1, hW1⟩ : ∃ W1, W1 = ((W.alloc (.cells #[.int .i64 c1, .int .u8 p1, .int .i64 s1, .bool a1, .bool k1] 104)).alloc (.cells #[.int .i64 c2, .int .u8 p2, .int .i64 s2, .bool a2, .bool k2] 104)) := ⟨_, rfl⟩
  have g1 : W1.cell? ⟨W.heap.size + 1, 1, none⟩ = some (.int .u8 p2) := by rw [hW1, World.cell?_alloc_at (hn := by simp)]; rfl
  have g2 : W1.cell? ⟨W.heap.size + 1, 0, none⟩ = some (.int .i64 c2) := by rw [hW1, World.cell?_alloc_at (hn := by simp)]; rfl
  have g3 : W1.cell? ⟨W.heap.size, 1, none⟩ = some (.int .u8 p1) := by rw [hW1, World.cell?_alloc_past (hn := by simp), World.cell?_alloc_at (hn := by simp)]; rfl
  have g4 : W1.cell? ⟨W.heap.size, 0, none⟩ = some (.int .i64 c1) := by rw [hW1, World.cell?_alloc_past (hn := by simp), World.cell?_alloc_at (hn := by simp)]; rfl
  have hgrow : ∀ o, (⟨W1.heap, W1.tape, W1.drawn + 1, W1.os, W1.output⟩ : World).alloc o = grow (W.drewN 1) #[.cells #[.int .i64 c1, .int .u8 p1, .int .i64 s1, .bool a1, .bool k1] 104, .cells #[.int .i64 c2, .int .u8 p2, .int .i64 s2, .bool a2, .bool k2] 104, o] := by
    intro o
    have e : W1 = grow W #[.cells #[.int .i64 c1, .int .u8 p1, .int .i64 s1, .bool a1, .bool k1] 104, .cells #[.int .i64 c2, .int .u8 p2, .int .i64 s2, .bool a2, .bool k2] 104] := by
      rw [hW1, alloc_eq_grow, alloc_eq_grow, grow_grow]; rfl
    rw [e]
    show World.alloc (grow (W.drewN 1) _) o = _
    rw [alloc_eq_grow, grow_grow]; rfl
  rw [← hW1]
  clear hW1
  refine wp_region_still_tail 10 (by kernel_rfl) (by kernel_rfl) ?_
  have q1 : ({ W1 with drawn := W1.drawn + 1 } : World).cell? ⟨W.heap.size + 1, 1, none⟩ = some (.int .u8 p2) := g1
  have q2 : ({ W1 with drawn := W1.drawn + 1 } : World).cell? ⟨W.heap.size + 1, 0, none⟩ = some (.int .i64 c2) := g2
  have q3 : ({ W1 with drawn := W1.drawn + 1 } : World).cell? ⟨W.heap.size, 1, none⟩ = some (.int .u8 p1) := g3
  have q4 : ({ W1 with drawn := W1.drawn + 1 } : World).cell? ⟨W.heap.size, 0, none⟩ = some (.int .i64 c1) := g4
  clear g1 g2 g3 g4
  generalize hW2 : ({ W1 with drawn := W1.drawn + 1 } : World) = W2 at *
  simp only [List.take_succ_cons, List.take_zero, List.drop_succ_cons, List.drop_zero]
  still_step
  still_step
  still_step
  still_step
  still_call (h51 _)
  still_step
  still_step
  still_step
  still_step
  still_call (h46 _)
  refine wpStill_nil ?_
  have hg : ∃ q os', W2.alloc (.cells #[.int .i64 r1, .int .i64 r2] 3) = grow (W.drewN q) os' := ⟨1, _, hgrow _⟩
  clear hgrow hW2
  go_wp2_with (first | (go_at_call 44; refine (wOrAt r1 r2 _).mono ?_; rintro e w' ⟨rfl, hw⟩; rw [hw]))
  go_ret
  exact ⟨rfl, hg⟩

instance : Inhabited Lamp := ⟨⟨0, 0, 0, false, false⟩⟩
theorem cmpLaysL (blk off size : Nat) (w : World) : CmpLays Try.prog 50 #[] Lamp.cells 5 cfL blk off size w := by
  rintro m os dk hs ⟨c1, p1, s1, a1, k1⟩ ⟨c2, p2, s2, a2, k2⟩
  exact closL c1 p1 s1 c2 p2 s2 _ _ a1 k1 a2 k2 (fun w => wCmp51 _ _ w) (fun w => wCmp46 _ _ w) _

end Go.Proofs.Ytdimnoeldnfikaa.I
