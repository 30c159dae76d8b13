/- The document's timers: stop, set, when. No condition. -/
import Derived.Test.YtdimnoeldnfikaaGDues
namespace Go.Proofs.Ytdimnoeldnfikaa.I
open Go Go.RowKit Go.Maps
set_option linter.unusedVariables false
set_option linter.unusedSimpArgs false

def tmV (p : Int × Int) : Value := .agg ⟨[.int .i64 p.1, .int .i64 p.2]⟩
theorem tm_cl (p : Int × Int) : Cl (tmV p) := by simp [tmV, go_sem]
theorem tmSz (L : List (Int × Int)) : ∀ u ∈ L.map tmV, u.cells.toList.length = 2 := by
  intro u hu
  obtain ⟨x, _, rfl⟩ := List.mem_map.1 hu
  rfl
theorem tmRow_cl (k : Int) (L : List (Int × Int)) : Cl (frow 2 k (L.map tmV)) := by
  simp [go_sem]; exact fun a b _ => by simp [tmV, go_sem]

theorem without_snoc (m : List (Int × Int)) (x : Int) {i : Nat} (h : i < m.length) : without (m.take (i + 1)) x = if m[i].1 = x then without (m.take i) x else without (m.take i) x ++ [m[i]] := by
  unfold without
  rw [List.take_succ_eq_append_getElem h, List.filter_append]
  by_cases e : m[i].1 = x
  · rw [if_pos e]; simp [e]
  · rw [if_neg e]; simp [e]
theorem ids_snoc (m : List (Int × Int)) (x : Int) {i : Nat} (h : i < m.length) : (decide (x ∈ (m.take (i + 1)).map (·.1))) = (decide (x ∈ (m.take i).map (·.1)) || decide (m[i].1 = x)) := by
  rw [List.take_succ_eq_append_getElem h, List.map_append]
  simp [eq_comm]
theorem without_le (m : List (Int × Int)) (x : Int) : (without m x).length ≤ m.length := List.length_filter_le _ _

set_option maxRecDepth 100000 in
theorem refStopOwn (H : Heap) (m : List (Int × Int)) (x : Int) (hm : m.length ≤ 100000) : ICalls Try.prog 25 [frow 2 0 (m.map tmV), .int .i64 x] H fun v H' => ∃ u, v = .tuple ⟨[u, .bool (decide (x ∈ m.map (·.1)))]⟩ ∧ Bld 2 H' 0 u ((without m x).map tmV) := by
  refine IBody.calls (by kernel_rfl) ?_
  refine IBody.of Try.func25 rfl (by rw [Try.ntmps25]; simp) ?_
  rw [Try.ntmps25]
  refine IWp.seq ?_
  refine IWp.run [0, 1] ?_
  simp [go_sem, -getElem?_pos, -List.map_take, -List.map_drop, List.getElem?_cons_zero, List.getElem?_cons_succ, Go.IntWalk.iteOmega, Go.IntWalk.toNatUp]
  refine IWp.seq ?_
  refine IWp.run [0, 1, 6] ?_
  simp [go_sem, -getElem?_pos, -List.map_take, -List.map_drop, List.getElem?_cons_zero, List.getElem?_cons_succ, Go.IntWalk.iteOmega, Go.IntWalk.toNatUp]
  refine IWp.seq ?_
  refine IWp.run [0, 1, 6, 7] ?_
  simp [go_sem, -getElem?_pos, -List.map_take, -List.map_drop, List.getElem?_cons_zero, List.getElem?_cons_succ, Go.IntWalk.iteOmega, Go.IntWalk.toNatUp]
  refine IWp.seq ?_
  refine IWp.seq ?_
  refine IWp.run [0, 1, 6, 7, 8] ?_
  simp [go_sem, -getElem?_pos, -List.map_take, -List.map_drop, List.getElem?_cons_zero, List.getElem?_cons_succ, Go.IntWalk.iteOmega, Go.IntWalk.toNatUp]
  refine IWp.block ?_
  -- LOOP live [0, 1, 6, 7, 8]
  refine IWp.loop (fun q e K => ∃ (i : Nat) (v : Value), q = m.length - i ∧ i ≤ m.length ∧ Bld 2 K 0 v ((without (m.take i) x).map tmV) ∧ e = [(0, frow 2 0 (m.map tmV)), (1, .int .i64 x), (6, v), (7, .bool (decide (x ∈ (m.take i).map (·.1)))), (8, .int .i64 (i : Int))]) m.length ⟨0, .slice none 0 0, rfl, Nat.zero_le _, Bld.nil _ _ _, by simp [go_sem]⟩ ?_
  rintro q e K ⟨i, v, rfl, hi, hv, rfl⟩
  have wi := IntWalk.i64_in ((i : Int) + 1) (by omega)
  by_cases hlt : i < m.length
  case neg =>
    rw [List.take_of_length_le (by omega)] at hv ⊢
    generalize decide (x ∈ m.map (·.1)) = had at *
    refine IWp.seq ?_
    refine IWp.seq ?_
    refine IWp.run [0, 1, 6, 7, 8, 12] ?_
    simp [go_sem, -getElem?_pos, -List.map_take, -List.map_drop, List.getElem?_cons_zero, List.getElem?_cons_succ, Go.IntWalk.iteOmega, Go.IntWalk.toNatUp, hlt]
    refine IWp.cond ?_
    simp [go_sem, -getElem?_pos, -List.map_take, -List.map_drop, List.getElem?_cons_zero, List.getElem?_cons_succ, Go.IntWalk.iteOmega, Go.IntWalk.toNatUp, hlt]
    refine IWp.trim [6, 7] (IWp.exit ?_)
    simp [go_sem, -getElem?_pos, -List.map_take, -List.map_drop, List.getElem?_cons_zero, List.getElem?_cons_succ, Go.IntWalk.iteOmega, Go.IntWalk.toNatUp, hlt]
    refine IWp.seq ?_
    refine IWp.run [4, 5] ?_
    simp [go_sem, -getElem?_pos, -List.map_take, -List.map_drop, List.getElem?_cons_zero, List.getElem?_cons_succ, Go.IntWalk.iteOmega, Go.IntWalk.toNatUp, hlt]
    refine IWp.ret ?_
    simp [go_sem, -getElem?_pos, -List.map_take, -List.map_drop, List.getElem?_cons_zero, List.getElem?_cons_succ, Go.IntWalk.iteOmega, Go.IntWalk.toNatUp, hlt, Try.results25]
    exact hv
  have gi : (m.map tmV)[i]? = some (tmV m[i]) := by simp [hlt]
  have hs := without_snoc m x hlt
  have hd := ids_snoc m x hlt
  have hle := without_le (m.take i) x
  rw [List.length_take] at hle
  generalize decide (x ∈ (m.take i).map (·.1)) = had at *
  have hmem : m[i] ∈ m.take (i + 1) := List.mem_take_iff_getElem.mpr ⟨i, by omega, rfl⟩
  obtain ⟨y, hy⟩ : ∃ y, y = m[i] := ⟨_, rfl⟩
  rw [← hy] at gi hs hd hmem
  obtain ⟨a, b⟩ := y
  simp only at hs hd
  by_cases e : a = x
  · rw [if_pos e] at hs
    rw [← hs] at hv
    subst e
    refine IWp.seq ?_
    refine IWp.seq ?_
    refine IWp.run [0, 1, 6, 7, 8, 12] ?_
    simp [go_sem, -getElem?_pos, -List.map_take, -List.map_drop, List.getElem?_cons_zero, List.getElem?_cons_succ, Go.IntWalk.iteOmega, Go.IntWalk.toNatUp, hlt, gi, wi, tmV]
    refine IWp.cond ?_
    simp [go_sem, -getElem?_pos, -List.map_take, -List.map_drop, List.getElem?_cons_zero, List.getElem?_cons_succ, Go.IntWalk.iteOmega, Go.IntWalk.toNatUp, hlt, gi, wi, tmV]
    refine IWp.trim [0, 1, 6, 7, 8] (IWp.skip ?_)
    simp [go_sem, -getElem?_pos, -List.map_take, -List.map_drop, List.getElem?_cons_zero, List.getElem?_cons_succ, Go.IntWalk.iteOmega, Go.IntWalk.toNatUp, hlt, gi, wi, tmV]
    refine IWp.seq ?_
    refine IWp.block ?_
    refine IWp.seq ?_
    refine IWp.run [0, 1, 6, 7, 8, 21] ?_
    simp [go_sem, -getElem?_pos, -List.map_take, -List.map_drop, List.getElem?_cons_zero, List.getElem?_cons_succ, Go.IntWalk.iteOmega, Go.IntWalk.toNatUp, hlt, gi, wi, tmV]
    refine IWp.cond ?_
    simp [go_sem, -getElem?_pos, -List.map_take, -List.map_drop, List.getElem?_cons_zero, List.getElem?_cons_succ, Go.IntWalk.iteOmega, Go.IntWalk.toNatUp, hlt, gi, wi, tmV]
    refine IWp.run [0, 1, 6, 7, 8] ?_
    simp [go_sem, -getElem?_pos, -List.map_take, -List.map_drop, List.getElem?_cons_zero, List.getElem?_cons_succ, Go.IntWalk.iteOmega, Go.IntWalk.toNatUp, hlt, gi, wi, tmV]
    refine IWp.run [0, 1, 6, 7, 8] ?_
    simp [go_sem, -getElem?_pos, -List.map_take, -List.map_drop, List.getElem?_cons_zero, List.getElem?_cons_succ, Go.IntWalk.iteOmega, Go.IntWalk.toNatUp, hlt, gi, wi, tmV]
    exact ⟨m.length - (i + 1), by omega, i + 1, rfl, by omega, v, hv, rfl, ⟨b, hmem⟩, by omega⟩
  · rw [if_neg e] at hs
    have hd2 : had = decide (x ∈ (m.take (i + 1)).map (·.1)) := by rw [hd]; simp [e]
    obtain ⟨v', H', e2, b2, s2, n2, _⟩ := app_one (P := Try.prog) (t := 37) (e := 97) (sz := 2) (by_ := 16) (z := .agg ⟨[.int .i64 0, .int .i64 0]⟩) (by kernel_rfl) (by kernel_rfl) (by kernel_rfl) (by kernel_rfl) rfl (tmV (a, b)) [.int .i64 a, .int .i64 b] hv rfl rfl rfl (Nat.zero_le _) (by simp; omega) (by simp; omega)
    rw [← List.map_singleton, ← List.map_append, ← hs] at b2
    refine IWp.seq ?_
    refine IWp.seq ?_
    refine IWp.run [0, 1, 6, 7, 8, 12] ?_
    simp [go_sem, -getElem?_pos, -List.map_take, -List.map_drop, List.getElem?_cons_zero, List.getElem?_cons_succ, Go.IntWalk.iteOmega, Go.IntWalk.toNatUp, hlt, gi, wi, tmV, e, e2]
    refine IWp.cond ?_
    simp [go_sem, -getElem?_pos, -List.map_take, -List.map_drop, List.getElem?_cons_zero, List.getElem?_cons_succ, Go.IntWalk.iteOmega, Go.IntWalk.toNatUp, hlt, gi, wi, tmV, e, e2]
    refine IWp.trim [0, 1, 6, 7, 8] (IWp.skip ?_)
    simp [go_sem, -getElem?_pos, -List.map_take, -List.map_drop, List.getElem?_cons_zero, List.getElem?_cons_succ, Go.IntWalk.iteOmega, Go.IntWalk.toNatUp, hlt, gi, wi, tmV, e, e2]
    refine IWp.seq ?_
    refine IWp.block ?_
    refine IWp.seq ?_
    refine IWp.run [0, 1, 6, 7, 8, 21] ?_
    simp [go_sem, -getElem?_pos, -List.map_take, -List.map_drop, List.getElem?_cons_zero, List.getElem?_cons_succ, Go.IntWalk.iteOmega, Go.IntWalk.toNatUp, hlt, gi, wi, tmV, e, e2]
    refine IWp.cond ?_
    simp [go_sem, -getElem?_pos, -List.map_take, -List.map_drop, List.getElem?_cons_zero, List.getElem?_cons_succ, Go.IntWalk.iteOmega, Go.IntWalk.toNatUp, hlt, gi, wi, tmV, e, e2]
    refine IWp.run [0, 1, 6, 7, 8] ?_
    simp [go_sem, -getElem?_pos, -List.map_take, -List.map_drop, List.getElem?_cons_zero, List.getElem?_cons_succ, Go.IntWalk.iteOmega, Go.IntWalk.toNatUp, hlt, gi, wi, tmV, e, e2]
    refine IWp.run [0, 1, 6, 7, 8] ?_
    simp [go_sem, -getElem?_pos, -List.map_take, -List.map_drop, List.getElem?_cons_zero, List.getElem?_cons_succ, Go.IntWalk.iteOmega, Go.IntWalk.toNatUp, hlt, gi, wi, tmV, e, e2]
    exact ⟨m.length - (i + 1), by omega, i + 1, rfl, by omega, v', b2, rfl, hd2, by omega⟩

theorem refStopC (H : Heap) (m : List (Int × Int)) (x : Int) (hm : m.length ≤ 100000) : ICalls Try.prog 25 [frow 2 0 (m.map tmV), .int .i64 x] H fun v H' => v = .tuple ⟨[frow 2 0 ((without m x).map tmV), .bool (decide (x ∈ m.map (·.1)))]⟩ ∧ H' = H := by
  refine ICalls.ans (by
    rw [Cl_tuple, ClL_cons, ClL_cons, ClL_nil]
    exact ⟨tmRow_cl _ _, by simp [go_sem], trivial⟩) fun H => (refStopOwn H m x hm).mono ?_
  rintro v H' ⟨u, rfl, hb⟩
  rw [Frz_tuple, FrzL_cons, FrzL_cons]
  exact ⟨hb.frz, .same _, .nil⟩

theorem refSetC (H : Heap) (m : List (Int × Int)) (x t : Int) (hm : m.length ≤ 100000) : ICalls Try.prog 24 [frow 2 0 (m.map tmV), .int .i64 x, .int .i64 t] H fun v H' => v = frow 2 0 ((without m x ++ [(x, t)]).map tmV) ∧ H' = H := by
  refine ICalls.ans (tmRow_cl _ _) fun H => IBody.calls (by kernel_rfl) ?_
  have hle := without_le m x
  refine IBody.of Try.func24 rfl (by rw [Try.ntmps24]; simp) ?_
  rw [Try.ntmps24]
  refine IWp.seq ?_
  refine IWp.run [0, 1, 2] ?_
  simp [go_sem, -getElem?_pos, -List.map_take, -List.map_drop, List.getElem?_cons_zero, List.getElem?_cons_succ, Go.IntWalk.iteOmega, Go.IntWalk.toNatUp]
  refine IWp.seq ?_
  refine IWp.run [1, 2, 7] ?_
  simp [go_sem, -getElem?_pos, -List.map_take, -List.map_drop, List.getElem?_cons_zero, List.getElem?_cons_succ, Go.IntWalk.iteOmega, Go.IntWalk.toNatUp]
  refine ICalls.mono (refStopOwn _ m x hm) ?_
  rintro v H1 ⟨u, hv, hb⟩
  subst hv; obtain ⟨v', H', e2, b2, s2, n2, -⟩ := app_one (P := Try.prog) (t := 37) (e := 97) (sz := 2) (by_ := 16) (z := .agg ⟨[.int .i64 0, .int .i64 0]⟩) (by kernel_rfl) (by kernel_rfl) (by kernel_rfl) (by kernel_rfl) rfl (tmV (x, t)) [.int .i64 x, .int .i64 t] hb rfl rfl rfl (Nat.zero_le _) (by simp; omega) (by simp; omega)
  try simp [go_sem, -getElem?_pos, -List.map_take, -List.map_drop, List.getElem?_cons_zero, List.getElem?_cons_succ, Go.IntWalk.iteOmega, Go.IntWalk.toNatUp, e2]
  refine IWp.seq ?_
  refine IWp.run [6] ?_
  simp [go_sem, -getElem?_pos, -List.map_take, -List.map_drop, List.getElem?_cons_zero, List.getElem?_cons_succ, Go.IntWalk.iteOmega, Go.IntWalk.toNatUp, e2]
  refine IWp.ret ?_
  simp [go_sem, -getElem?_pos, -List.map_take, -List.map_drop, List.getElem?_cons_zero, List.getElem?_cons_succ, Go.IntWalk.iteOmega, Go.IntWalk.toNatUp, e2, Try.results24]
  exact b2.frz

def atM (m : List (Int × Int)) (x : Int) : Int := ((m.find? fun p => p.1 == x).map (·.2)).getD 0
theorem refAtC (H : Heap) (m : List (Int × Int)) (x : Int) (hm : m.length ≤ 100000) : ICalls Try.prog 30 [frow 2 0 (m.map tmV), .int .i64 x] H fun v H' => v = .tuple ⟨[.int .i64 (atM m x), .bool (decide (x ∈ m.map (·.1)))]⟩ ∧ H' = H := by
  refine ICalls.ans (by simp [go_sem]) fun H => IBody.calls (by kernel_rfl) ?_
  refine IBody.of Try.func30 rfl (by rw [Try.ntmps30]; simp) ?_
  rw [Try.ntmps30]
  refine IWp.seq ?_
  refine IWp.run [0, 1] ?_
  simp [go_sem, -getElem?_pos, -List.map_take, -List.map_drop, List.getElem?_cons_zero, List.getElem?_cons_succ, Go.IntWalk.iteOmega, Go.IntWalk.toNatUp]
  refine IWp.seq ?_
  refine IWp.seq ?_
  refine IWp.run [0, 1, 6] ?_
  simp [go_sem, -getElem?_pos, -List.map_take, -List.map_drop, List.getElem?_cons_zero, List.getElem?_cons_succ, Go.IntWalk.iteOmega, Go.IntWalk.toNatUp]
  refine IWp.block ?_
  -- LOOP live [0, 1, 6]
  refine IWp.loop (fun q e K => ∃ (i : Nat), q = m.length - i ∧ i ≤ m.length ∧ (∀ p ∈ m.take i, p.1 ≠ x) ∧ e = [(0, frow 2 0 (m.map tmV)), (1, .int .i64 x), (6, .int .i64 (i : Int))]) m.length ⟨0, rfl, Nat.zero_le _, by simp, by simp [go_sem]⟩ ?_
  rintro q e K ⟨i, rfl, hi, hno, rfl⟩
  have wi := IntWalk.i64_in ((i : Int) + 1) (by omega)
  by_cases hlt : i < m.length
  case neg =>
    rw [List.take_of_length_le (by omega)] at hno
    have h1 : atM m x = 0 := by
      unfold atM
      rw [List.find?_eq_none.mpr (fun p hp => by simpa using hno p hp)]; rfl
    have h2 : decide (x ∈ m.map (·.1)) = false := by
      rw [decide_eq_false_iff_not]
      intro h
      obtain ⟨p, hp, e⟩ := List.mem_map.mp h
      exact hno p hp e
    rw [h1, h2]
    refine IWp.seq ?_
    refine IWp.seq ?_
    refine IWp.run [0, 1, 6, 10] ?_
    simp [go_sem, -getElem?_pos, -List.map_take, -List.map_drop, List.getElem?_cons_zero, List.getElem?_cons_succ, Go.IntWalk.iteOmega, Go.IntWalk.toNatUp, hlt]
    refine IWp.cond ?_
    simp [go_sem, -getElem?_pos, -List.map_take, -List.map_drop, List.getElem?_cons_zero, List.getElem?_cons_succ, Go.IntWalk.iteOmega, Go.IntWalk.toNatUp, hlt]
    refine IWp.trim [] (IWp.exit ?_)
    simp [go_sem, -getElem?_pos, -List.map_take, -List.map_drop, List.getElem?_cons_zero, List.getElem?_cons_succ, Go.IntWalk.iteOmega, Go.IntWalk.toNatUp, hlt]
    refine IWp.seq ?_
    refine IWp.run [4, 5] ?_
    simp [go_sem, -getElem?_pos, -List.map_take, -List.map_drop, List.getElem?_cons_zero, List.getElem?_cons_succ, Go.IntWalk.iteOmega, Go.IntWalk.toNatUp, hlt]
    refine IWp.ret ?_
    simp [go_sem, -getElem?_pos, -List.map_take, -List.map_drop, List.getElem?_cons_zero, List.getElem?_cons_succ, Go.IntWalk.iteOmega, Go.IntWalk.toNatUp, hlt, Try.results30]
    try exact .same _
  have gi : (m.map tmV)[i]? = some (tmV m[i]) := by simp [hlt]
  have htk := List.take_succ_eq_append_getElem hlt
  by_cases e : m[i].1 = x
  · have h1 : atM m x = m[i].2 := by
      unfold atM
      have : m.find? (fun p => p.1 == x) = some m[i] := by
        rw [List.find?_eq_some_iff_getElem]
        refine ⟨by simpa using e, i, hlt, rfl, fun j hj => ?_⟩
        have := hno m[j] (by rw [List.mem_take_iff_getElem]; exact ⟨j, by omega, rfl⟩)
        simpa using this
      rw [this]; rfl
    have h2 : decide (x ∈ m.map (·.1)) = true := by
      rw [decide_eq_true_eq]
      exact List.mem_map.mpr ⟨m[i], List.getElem_mem hlt, e⟩
    rw [h1, h2]
    obtain ⟨y, hy⟩ : ∃ y, y = m[i] := ⟨_, rfl⟩
    rw [← hy] at gi e ⊢
    obtain ⟨a, b⟩ := y
    simp only at e
    subst e
    refine IWp.seq ?_
    refine IWp.seq ?_
    refine IWp.run [0, 1, 6, 10] ?_
    simp [go_sem, -getElem?_pos, -List.map_take, -List.map_drop, List.getElem?_cons_zero, List.getElem?_cons_succ, Go.IntWalk.iteOmega, Go.IntWalk.toNatUp, hlt, gi, wi, tmV]
    refine IWp.cond ?_
    simp [go_sem, -getElem?_pos, -List.map_take, -List.map_drop, List.getElem?_cons_zero, List.getElem?_cons_succ, Go.IntWalk.iteOmega, Go.IntWalk.toNatUp, hlt, gi, wi, tmV]
    refine IWp.trim [0, 1, 6] (IWp.skip ?_)
    simp [go_sem, -getElem?_pos, -List.map_take, -List.map_drop, List.getElem?_cons_zero, List.getElem?_cons_succ, Go.IntWalk.iteOmega, Go.IntWalk.toNatUp, hlt, gi, wi, tmV]
    refine IWp.seq ?_
    refine IWp.block ?_
    refine IWp.seq ?_
    refine IWp.run [0, 1, 6, 19] ?_
    simp [go_sem, -getElem?_pos, -List.map_take, -List.map_drop, List.getElem?_cons_zero, List.getElem?_cons_succ, Go.IntWalk.iteOmega, Go.IntWalk.toNatUp, hlt, gi, wi, tmV]
    refine IWp.cond ?_
    simp [go_sem, -getElem?_pos, -List.map_take, -List.map_drop, List.getElem?_cons_zero, List.getElem?_cons_succ, Go.IntWalk.iteOmega, Go.IntWalk.toNatUp, hlt, gi, wi, tmV]
    refine IWp.seq ?_
    refine IWp.run [4, 5] ?_
    simp [go_sem, -getElem?_pos, -List.map_take, -List.map_drop, List.getElem?_cons_zero, List.getElem?_cons_succ, Go.IntWalk.iteOmega, Go.IntWalk.toNatUp, hlt, gi, wi, tmV]
    refine IWp.ret ?_
    simp [go_sem, -getElem?_pos, -List.map_take, -List.map_drop, List.getElem?_cons_zero, List.getElem?_cons_succ, Go.IntWalk.iteOmega, Go.IntWalk.toNatUp, hlt, gi, wi, tmV, Try.results30]
    try exact .same _
  · have hno2 : ∀ p ∈ m.take (i + 1), p.1 ≠ x := fun p hp => by
      rw [htk] at hp
      rcases List.mem_append.mp hp with hp | hp
      · exact hno p hp
      · simp at hp; rw [hp]; exact e
    obtain ⟨y, hy⟩ : ∃ y, y = m[i] := ⟨_, rfl⟩
    rw [← hy] at gi e
    obtain ⟨a, b⟩ := y
    simp only at e
    refine IWp.seq ?_
    refine IWp.seq ?_
    refine IWp.run [0, 1, 6, 10] ?_
    simp [go_sem, -getElem?_pos, -List.map_take, -List.map_drop, List.getElem?_cons_zero, List.getElem?_cons_succ, Go.IntWalk.iteOmega, Go.IntWalk.toNatUp, hlt, gi, wi, tmV, e]
    refine IWp.cond ?_
    simp [go_sem, -getElem?_pos, -List.map_take, -List.map_drop, List.getElem?_cons_zero, List.getElem?_cons_succ, Go.IntWalk.iteOmega, Go.IntWalk.toNatUp, hlt, gi, wi, tmV, e]
    refine IWp.trim [0, 1, 6] (IWp.skip ?_)
    simp [go_sem, -getElem?_pos, -List.map_take, -List.map_drop, List.getElem?_cons_zero, List.getElem?_cons_succ, Go.IntWalk.iteOmega, Go.IntWalk.toNatUp, hlt, gi, wi, tmV, e]
    refine IWp.seq ?_
    refine IWp.block ?_
    refine IWp.seq ?_
    refine IWp.run [0, 1, 6, 19] ?_
    simp [go_sem, -getElem?_pos, -List.map_take, -List.map_drop, List.getElem?_cons_zero, List.getElem?_cons_succ, Go.IntWalk.iteOmega, Go.IntWalk.toNatUp, hlt, gi, wi, tmV, e]
    refine IWp.cond ?_
    simp [go_sem, -getElem?_pos, -List.map_take, -List.map_drop, List.getElem?_cons_zero, List.getElem?_cons_succ, Go.IntWalk.iteOmega, Go.IntWalk.toNatUp, hlt, gi, wi, tmV, e]
    refine IWp.trim [0, 1, 6] (IWp.skip ?_)
    simp [go_sem, -getElem?_pos, -List.map_take, -List.map_drop, List.getElem?_cons_zero, List.getElem?_cons_succ, Go.IntWalk.iteOmega, Go.IntWalk.toNatUp, hlt, gi, wi, tmV, e]
    refine IWp.run [0, 1, 6] ?_
    simp [go_sem, -getElem?_pos, -List.map_take, -List.map_drop, List.getElem?_cons_zero, List.getElem?_cons_succ, Go.IntWalk.iteOmega, Go.IntWalk.toNatUp, hlt, gi, wi, tmV, e]
    exact ⟨m.length - (i + 1), by omega, i + 1, rfl, by omega, fun a b hp => hno2 (a, b) hp, by omega⟩

end Go.Proofs.Ytdimnoeldnfikaa.I
