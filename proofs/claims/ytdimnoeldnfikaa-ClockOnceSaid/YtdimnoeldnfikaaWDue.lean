/- What is due: the walk of the wheel's Due in the world. No condition. -/
import Derived.Test.YtdimnoeldnfikaaWSortJ
import Derived.Maps.OwnRows
namespace Go.Proofs.Ytdimnoeldnfikaa.I
open Go Go.RowKit Go.Maps Go.Lib
set_option linter.unusedVariables false
set_option linter.unusedSimpArgs false

/-- What has been collected. -/
def Got (D : Dat) (left : Lit → Bool) (now : Int) (ks : List Int) : Prop := ks.Nodup ∧ ∀ x, x ∈ ks ↔ (has D (.int .i64 x) = true ∧ left (.int .i64 x) = false ∧ atI D x ≤ now)
theorem Got.start (D : Dat) (now : Int) : Got D (Maps.has D) now [] := ⟨List.nodup_nil, fun x => by cases Maps.has D (.int .i64 x) <;> simp⟩
theorem sameI (y x : Int) : (Lit.int .i64 y).sameKey (.int .i64 x) = decide (y = x) := by simp [Lit.sameKey]
theorem Got.step {D : Dat} {left : Lit → Bool} {now : Int} {ks : List Int} (h : Got D left now ks) {x c : Int} (hl : left (.int .i64 x) = true) (hat : ∀ zd, D.atKey (.int .i64 x) zd = eI c) (hc : c ≤ now) :
    Got D (fun z => left z && !z.sameKey (.int .i64 x)) now (ks ++ [x]) := by
  have hhas : Maps.has D (.int .i64 x) = true := has_true_of_atKey hat
  have ha := atI_of (hat (eI 0))
  have hnew : x ∉ ks := fun hx => by have := ((h.2 x).1 hx).2.1; rw [hl] at this; cases this
  refine ⟨List.nodup_append.2 ⟨h.1, by simp, fun a hA b hb => by simp at hb; subst hb; exact fun e => hnew (e ▸ hA)⟩, fun y => ?_⟩
  by_cases hy : y = x
  · subst hy; simp [hhas, sameI, ha, hc]
  · simp [h.2 y, hy, sameI]
theorem Got.skip {D : Dat} {left : Lit → Bool} {now : Int} {ks : List Int} (h : Got D left now ks) {x c : Int} (hl : left (.int .i64 x) = true) (hat : ∀ zd, D.atKey (.int .i64 x) zd = eI c) (hc : ¬ c ≤ now) :
    Got D (fun z => left z && !z.sameKey (.int .i64 x)) now ks := by
  have ha := atI_of (hat (eI 0))
  refine ⟨h.1, fun y => ?_⟩
  by_cases hy : y = x
  · subst hy; simp [h.2 y, hl, ha, hc]
  · simp [h.2 y, hy, sameI]

/-- Without some keys. -/
def delL (D : Dat) (ks : List Int) : Dat := ks.foldl (fun D x => D.del (.int .i64 x)) D
theorem delL_snoc (D : Dat) (ks : List Int) {k : Nat} (h : k < ks.length) : delL D (ks.take (k + 1)) = (delL D (ks.take k)).del (.int .i64 ks[k]) := by
  unfold delL
  rw [List.take_succ_eq_append_getElem h, List.foldl_append]; rfl

theorem info3 : (Try.prog.info? 3).map (fun i => (i.zero, i.size, i.bytes)) = some (some (.int .i64 0), 1, 8) := by kernel_rfl

set_option maxRecDepth 100000 in
set_option maxHeartbeats 4000000 in
theorem wDue (sb so bm n : Nat) (D : Dat) (now : Int) (w : World) (c0 : w.cell? ⟨sb, so, none⟩ = some (.map (some bm))) (hown : Tabs w bm n D) (hn : n ≤ 1000000) :
    Calls Try.prog 18 #[.pointer (some ⟨sb, so, none⟩), .int .i64 now] w fun e w' => ∃ (ks : List Int) (v : Value), e = .returned v ∧ ks.Nodup ∧ (∀ x, x ∈ ks ↔ (Maps.has D (.int .i64 x) = true ∧ atI D x ≤ now)) ∧ (∀ x ∈ ks, (Lit.int .i64 x).wf = true) ∧ ks.Pairwise (fun x y => dueLt D y x = false) ∧ ks.length ≤ n ∧
      Tabs w' bm n (delL D ks) ∧ w.grownBy w' (some bm) ∧ ((ks = [] ∧ v = .slice none 0 0) ∨ ∃ g cap, v = .slice (some ⟨g, 0, none⟩) ks.length cap ∧ ks.length ≤ cap ∧ w.heap.size ≤ g ∧ ∀ j x, ks[j]? = some x → w'.cell? ⟨g, j, none⟩ = some (.int .i64 x)) := by
  obtain ⟨i0, hi, hz0, hz1, hz2⟩ := info_parts info3
  have hsb : sb < w.heap.size := World.block_lt_of_cell? w _ c0
  go_enter Try.func18, Try.ntmps18
  go_wp2_with (first
    | (at_range; refine wpList_range_own _ rfl _ 88 rfl 3 2 law3 Try.underlying88 _ bm n D rfl (hown.alloc _) ?_; intro w0 hrg0 hg0 hs0)
    | go_in)
  go_frame
  have e1 : (w.alloc (Obj.cells #[Value.pointer (some { block := sb, off := so })] 24)).heap.size = w.heap.size + 1 := by simp
  rw [e1] at hrg0 hs0 ⊢
  have hcap0 : w0.heap[w.heap.size]? = some (Obj.cells #[Value.pointer (some { block := sb, off := so })] 24) := by
    rw [hg0.block w.heap.size (by simp) (by simp)]; exact heap_alloc_new w _
  have hgw0 : w.grownBy w0 none := (World.grownBy_alloc w _ none).trans hg0
  go_loopw [5] (fun l wr => ∃ (left : Lit → Bool) (cnt : Nat) (ks : List Int), wr.ranges Try.prog 3 (plainElem Try.prog 2) bm (w.heap.size + 1) n D left cnt ∧ wr.ownsInts (w.heap.size + 2) 3 .i64 l ks ∧ Got D left now ks ∧ ks.length + cnt ≤ n ∧ w.grownBy wr none ∧
      wr.heap[w.heap.size]? = some (Obj.cells #[Value.pointer (some { block := sb, off := so })] 24) ∧ w.heap.size + 2 ≤ wr.heap.size) (fun _ wr => wr.rangeLeft bm (w.heap.size + 1))
  case atStart => exact ⟨_, _, [], hrg0, World.ownsInts_nil _ _ _ _, Got.start D now, by have := hown.size_le; simpa using this, hgw0, hcap0, by omega⟩
  case round =>
    obtain ⟨left, cnt, ks, hrg, hoi, hgot, hlen, hgw, hcap, hws⟩ := hrel
    go_wp2_with (first
      | (at_next; refine wpList_next_ranges_ii _ rfl _ rfl 3 2 .i64 .i64 law3 Try.underlying3 Try.underlying2 bm (w.heap.size + 1) n _ _ _ rfl hrg ?_ ?_)
      | go_in)
    · intro _ hl0
      have hmem : ∀ x, x ∈ ks ↔ (Maps.has D (.int .i64 x) = true ∧ atI D x ≤ now) := fun x => by rw [hgot.2 x, hl0]; simp
      have hbm : bm < w.heap.size := hown.lt
      have hsm : sb ≠ bm := fun e => by
        obtain ⟨es, clk, hmap, _⟩ := hown
        rw [← e] at hmap
        simp [World.cell?, hmap] at c0
      have hownr : Tabs wr bm n D := hrg.owns
      rcases hoi.1.2 with ⟨rfl, h0⟩ | ⟨g, cap, cur, rfl, hbase, hb, h1, h2, h3, h4⟩
      · have hks : ks = [] := List.eq_nil_of_length_eq_zero h0
        subst hks
        go_wp2_with (go_at_call 42; refine (wSortNone _ _).mono ?_; rintro e w' ⟨rfl, hw⟩; rw [hw])
        refine wp_loop_rounds 1 ?_
        rw [rounds_succ]
        go_wp2
        go_ret
        exact ⟨[], _, rfl, List.nodup_nil, hmem, fun x hx => (by cases hx), List.Pairwise.nil, Nat.zero_le _, hownr, hgw.but _, .inl ⟨rfl, rfl⟩⟩
      · have k1 : wr.cell? ⟨w.heap.size, 0, none⟩ = some (.pointer (some ⟨sb, so, none⟩)) := by simp [World.cell?, hcap]
        have k0 : wr.cell? ⟨sb, so, none⟩ = some (.map (some bm)) := hgw.cell c0 (by simp)
        have hsort := wSortDue w.heap.size sb so bm n D g cap cur ks wr hoi.2 hb (by simpa using h4) k1 k0 hownr (by omega) (by omega) (by omega) (by omega)
        go_wp2_with (go_at_call 42; refine hsort.mono ?_; rintro e w' ⟨rfl, hgs, ks', hp', hs', hc'⟩)
        have hl' : ks'.length = ks.length := hp'.length_eq
        have hgw' := hgw.andThen hgs (fun j hj => by cases hj; exact .inl (by omega))
        have hown' : Tabs w' bm n D := hownr.kept hgs (by simp; omega)
        have hcap' : w'.heap[w.heap.size]? = some (Obj.cells #[Value.pointer (some { block := sb, off := so })] 24) := by
          rw [hgs.block w.heap.size (by omega) (by simp; omega)]; exact hcap
        have hmem' : ∀ x, x ∈ ks' ↔ (Maps.has D (.int .i64 x) = true ∧ atI D x ≤ now) := fun x => by rw [hp'.mem_iff, hmem x]
        have hwf' : ∀ x ∈ ks', (Lit.int .i64 x).wf = true := fun x hx => hoi.2 x (hp'.mem_iff.mp hx)
        have hnd' : ks'.Nodup := hp'.nodup_iff.mpr hgot.1
        have hln : ks'.length ≤ n := by omega
        rw [← hl'] at h1 ⊢
        clear hsort hoi hb h2 h3 h4 hgot hp' hmem hrg hownr hl'
        go_loopw [34] (fun j wr2 => ∃ k : Nat, k ≤ ks'.length ∧ j = .int .i64 k ∧ Tabs wr2 bm n (delL D (ks'.take k)) ∧ w.grownBy wr2 (some bm) ∧ wr2.heap[w.heap.size]? = some (Obj.cells #[Value.pointer (some { block := sb, off := so })] 24) ∧
          (∀ j x, ks'[j]? = some x → wr2.cell? ⟨g, j, none⟩ = some (.int .i64 x))) (fun j _ => ks'.length - (match j with | .int _ m => m.toNat | _ => 0))
        case atStart => exact ⟨0, Nat.zero_le _, rfl, hown', hgw'.but _, hcap', hc'⟩
        case round =>
          obtain ⟨k, hk, rfl, hownk, hgk, hcapk, hck⟩ := hrel
          have q1 : wr.cell? ⟨w.heap.size, 0, none⟩ = some (.pointer (some ⟨sb, so, none⟩)) := by simp [World.cell?, hcapk]
          have q0 : wr.cell? ⟨sb, so, none⟩ = some (.map (some bm)) := hgk.cell c0 (by simpa using hsm)
          by_cases hkl : k < ks'.length
          · have hx := hck k ks'[k] (List.getElem?_eq_getElem hkl)
            have hwx := hwf' ks'[k] (List.getElem_mem hkl)
            have hsn := delL_snoc D ks' hkl
            go_wp2_with (first
              | (at_delete; refine wpList_delete_own _ rfl _ _ 88 3 rfl 2 law3 Try.underlying88 _ bm n _ rfl hownk _ _ rfl (keyOf_int_mk Try.underlying3 hwx) ?_; intro w3 hown3 hturn3)
              | go_in)
            have hg3 := hgk.trans hturn3.grown
            go_roundw
            case rel => exact ⟨k + 1, by omega, by go_num, by rw [hsn]; exact hown3, hg3, by rw [hturn3.grown.block w.heap.size ((Array.getElem?_eq_some_iff.1 hcapk).1) (by simp; omega)]; exact hcapk, fun j x hj => hturn3.grown.cell (hck j x hj) (by simp; omega)⟩
            case measure => simp; omega
          · obtain rfl : k = ks'.length := by omega
            go_wp2
            go_ret
            rw [List.take_length] at hownk
            exact ⟨ks', _, rfl, hnd', hmem', hwf', hs', hln, hownk, hgk, .inr ⟨g, cap, rfl, h1, by omega, hck⟩⟩
    · intro x c w1 cnt1 hwx hwc hlx hat hrg1 hlt hg1 hs1 hen
      have hgw1 := hgw.andThen hg1 (fun j hj => by cases hj; exact Or.inl (by omega))
      have hoi1 : w1.ownsInts (w.heap.size + 2) 3 .i64 u5 ks := ⟨hoi.1.kept hg1 (by
        cases hv : Value.ownBlock u5 with
        | none => exact .inl rfl
        | some g => exact .inr (by have := (hoi.1.lt g hv).1; simp; omega)), hoi.2⟩
      have hcap1 : w1.heap[w.heap.size]? = some (Obj.cells #[Value.pointer (some { block := sb, off := so })] 24) := by
        rw [hg1.block w.heap.size (by omega) (by simp)]; exact hcap
      have hws1 : w.heap.size + 2 ≤ w1.heap.size := by omega
      clear hs1
      go_wp2_with (first
        | (at_builtin; refine wpList_append_own_at _ rfl _ _ 27 rfl (w.heap.size + 2) 3 i0 (.int .i64 0) 1 8 Try.underlying27 hi hz0 hz1 hz2 rfl (by decide) _ _ _ rfl (hoi1.1.alloc _) ⟨w1.heap.size, 0, none⟩ 1 1 [.int .i64 x] rfl rfl (cell_one_new _ _ _) (ints_oneCell .i64 [x]) (by unfold maxLen; omega) (by omega) (by simp; omega) ?_; intro v' w2 hown' hgrow hnil hloc)
        | go_in)
      · have hc : c ≤ now := by assumption
        have hne : ∀ k, k < w.heap.size + 2 → some k ≠ Value.ownBlock u5 := fun k hk e => by
          have := (hoi.1.lt k e.symm).1
          omega
        have hbm : bm < w.heap.size := hown.lt
        have hall := (World.grownBy_alloc w1 (Obj.cells #[Value.int .i64 x] 3) (Value.ownBlock u5)).trans hgrow
        have hrg2 := hrg1.kept hall (hne bm (by omega)) (hne _ (by omega))
        go_roundw
        case rel => exact ⟨_, cnt1, ks ++ [x], hrg2, hoi1.appended hown' hwx, hgot.step hlx hat hc, by simp; omega, hgw1.andThen hall (fun j hj => .inl (by have := (hoi.1.lt j hj).1; omega)), by rw [hall.block w.heap.size (by omega) (hne _ (by omega))]; exact hcap1, Nat.le_trans hws1 hall.size⟩
        case measure => rw [hrg2.left_eq, hrg.left_eq]; exact hlt
      · have hc : ¬ c ≤ now := by first | assumption | omega
        go_roundw
        case rel => exact ⟨_, cnt1, ks, hrg1, hoi1, hgot.skip hlx hat hc, by omega, hgw1, hcap1, hws1⟩
        case measure => rw [hrg1.left_eq, hrg.left_eq]; exact hlt

end Go.Proofs.Ytdimnoeldnfikaa.I
