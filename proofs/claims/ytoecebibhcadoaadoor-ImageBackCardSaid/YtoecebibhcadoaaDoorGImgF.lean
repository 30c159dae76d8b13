/- A configuration's image, as the document lays it: r06.Encode. No condition. -/
import Derived.Test.YtoecebibhcadoaaDoorPCfg
import Derived.Test.YtoecebibhcadoaaDoorGWrite
import Derived.Test.YtoecebibhcadoaaDoorGRefSum
import Derived.Test.YtoecebibhcadoaaDoorIRowB
namespace Go.Proofs.YtoecebibhcadoaaDoor.I
open Go Go.RowKit
set_option linter.unusedVariables false
set_option linter.unusedSimpArgs false
theorem i4_len (x : Int) : (i4 x).length = 4 := rfl
theorem lay_take {α : Type} (f : α → List Int) (l : List α) (i : Nat) : (l.take i).flatMap f <+: l.flatMap f := by
  conv => rhs; rw [← List.take_append_drop i l]
  rw [List.flatMap_append]
  exact List.prefix_append _ _
theorem lay_next {α : Type} (f : α → List Int) {l : List α} {i : Nat} (h : i < l.length) : (l.take (i + 1)).flatMap f = (l.take i).flatMap f ++ f l[i] := by
  rw [List.take_succ_eq_append_getElem h, List.flatMap_append]; simp
theorem flat_one {α : Type} (g : α → Int) : ∀ l : List α, (l.flatMap fun y => [g y]) = l.map g
  | [] => rfl
  | x :: l => by rw [List.flatMap_cons, flat_one g l]; rfl
theorem pre_of {A B C D : List Int} (h : B <+: C) (k : A ++ C <+: D) : A ++ B <+: D := ((List.prefix_append_right_inj A).2 h).trans k
theorem bs_app {A B : List Int} (h : Bs A) (k : Bs B) : Bs (A ++ B) := fun x hx => (List.mem_append.1 hx).elim (h x) (k x)
theorem bs_one {x : Int} (h : 0 ≤ x ∧ x < 256) : Bs [x] := fun y hy => by rw [List.mem_singleton.1 hy]; exact h
theorem bs_mod (x : Int) : Bs [x % 256] := bs_one (by omega)
theorem bs_flag (b : Bool) : Bs [flagB b] := bs_one (by unfold flagB; split <;> omega)
theorem bs_flat {α : Type} {f : α → List Int} {l : List α} (h : ∀ x ∈ l, Bs (f x)) : Bs (l.flatMap f) := fun y hy => by
  obtain ⟨x, hx, hy⟩ := List.mem_flatMap.1 hy
  exact h x hx y hy
theorem ruleY_bs {r : Rule} (h : r.wf) : Bs (ruleY r) :=
  bs_app (bs_app (bs_app (bs_app (bs_app (bs_app (bs_app (bs_app (bs_one h.1) (bs_mod _)) (i4_bs _)) (i4_bs _)) (i4_bs _)) (i4_bs _)) (bs_app (bs_one h.2.2.2.2.2.2.1) (bs_flag _))) (bs_mod _)) (bs_flat fun x hx => bs_app (i4_bs _) (bs_one (h.2.2.2.2.2.2.2.1 x hx).2))
theorem slotB_bs (l : List Int) : Bs (slotB l) := bs_app (bs_mod _) fun y hy => by
  obtain ⟨x, _, rfl⟩ := List.mem_map.1 hy
  omega
theorem cfgB_bs {c : Config} (hw : c.wf) : Bs (cfgB c) := by
  have h0 : Bs [72, 66, 49] := fun x hx => by simp at hx; omega
  have h1 : Bs (c.sigs.flatMap sigB) := bs_flat fun x _ => bs_app (i4_bs _) (i4_bs _)
  have h2 : Bs (c.rules.flatMap ruleY) := bs_flat fun x hx => ruleY_bs (hw.2.1.1 x hx)
  have h3 : Bs (c.table.flatMap slotB) := bs_flat fun x _ => slotB_bs x
  have h4 : Bs [c.b0 % 256, c.b1 % 256, c.b2 % 256] := bs_app (bs_mod _) (bs_app (bs_mod _) (bs_mod _))
  exact bs_app (bs_app (bs_app (bs_app (bs_app (bs_app (bs_app (bs_app (bs_app h0 (bs_app (bs_mod _) h1)) (bs_app (bs_mod _) h2)) (bs_app (bs_mod _) h3)) h4) (bs_mod _)) (i4_bs _)) (i4_bs _)) (bs_flag _)) (i4_bs _)
set_option maxHeartbeats 4000000 in
theorem refEncode (H : Heap) (c : Config) (hw : c.wf) (hl : (cfgB c).length ≤ 700000) :
    ICalls Tryd.prog 15 [c.val] H fun v H' => v = byts (closed (cfgB c)) ∧ H' = H := by
  refine ICalls.ans (by rw [cl_ints]; trivial) fun H => IBody.calls (by kernel_rfl) ?_
  have z1 := hw.1.2
  have z2 := hw.2.1.2
  have z3 := hw.2.2.1.2
  simp only [maxLen] at z1 z2 z3
  have h0 : RowAt ((((H.alloc [frow 2 0 (c.sigs.map Sig.val), frow 9 0 (c.rules.map Rule.val), frow 1 0 (c.table.map (ints .i64)), .int .i64 c.b0, .int .i64 c.b1, .int .i64 c.b2, .int .i64 c.drain, .int .i64 c.pause, .int .i64 c.off, .bool c.brk, .int .i64 c.log]).alloc [.int .u8 72, .int .u8 66, .int .u8 49]).alloc [.int .u8 ((c.sigs.length : Int) % 256)] |>.kill (H.next + 1)).alloc [.int .u8 72, .int .u8 66, .int .u8 49, .int .u8 ((c.sigs.length : Int) % 256)]) (H.next + 1 + 1 + 1) [72, 66, 49, (c.sigs.length : Int) % 256] [(H.next, c.cells)] := by
    refine ⟨by simp [get_alloc, next_alloc, next_kill], fun p hp => ?_⟩
    rw [List.mem_singleton.1 hp]
    exact ⟨by simp only [get_alloc, next_alloc, next_kill, get_kill]; rw [if_neg (by omega), if_neg (by omega), if_neg (by omega), if_neg (by omega)]; simp [Config.cells], by simp only; omega⟩
  refine IBody.of Tryd.func15 rfl (by rw [Tryd.ntmps15]; simp) ?_
  rw [Tryd.ntmps15]
  have Kp : Kept [[1],[1,3],[1,3]] := ⟨⟩
  iterate 3 (refine Kp.s ?_; clear Kp; intro Kp; simp [go_sem, -getElem?_pos, -List.map_take, -List.map_drop, IntWalk.iteOmega, IntWalk.toNatUp, Config.val, Config.cells, u8_mod])
  generalize ((((H.alloc _).alloc _).alloc _).kill _).alloc _ = K0 at h0 ⊢
  generalize H.next + 1 + 1 + 1 = q0 at h0 ⊢
  generalize H.next = cb at h0 ⊢
  obtain ⟨A0, a0⟩ : ∃ A, A = [72, 66, 49, (c.sigs.length : Int) % 256] := ⟨_, rfl⟩
  rw [show Value.slice (some ⟨q0, 0, some 1⟩) 4 1 = rowV q0 [72, 66, 49, (c.sigs.length : Int) % 256] from rfl]
  rw [← a0] at h0 ⊢
  have b0 : A0.length ≤ 4 := by rw [a0]; simp
  have c0 := (h0.at_ (cb, c.cells) (by simp)).1
  simp only [Config.cells] at c0
  have p0 : A0 ++ c.sigs.flatMap sigB <+: cfgB c := by rw [a0]; unfold cfgB; exact ⟨_, by simp only [List.append_assoc, List.cons_append, List.nil_append]; rfl⟩
  refine IWp.cut (fun e K => ∃ q, RowAt K q (A0 ++ c.sigs.flatMap sigB) [(cb, c.cells)] ∧ e = [(1, ptrTo cb 0), (3, rowV q (A0 ++ c.sigs.flatMap sigB))]) ?_ ?_
  · skip
    refine IWp.one [1, 3, 4] ?_
    simp [go_sem, -getElem?_pos, -List.map_take, -List.map_drop, IntWalk.iteOmega, IntWalk.toNatUp, c0]
    refine IWp.block ?_
    refine IWp.loop (fun j e K => ∃ i q, j = c.sigs.length - i ∧ i ≤ c.sigs.length ∧ RowAt K q (A0 ++ (c.sigs.take i).flatMap sigB) [(cb, c.cells)] ∧ e = [(1, ptrTo cb 0), (3, rowV q (A0 ++ (c.sigs.take i).flatMap sigB)), (4, .int .i64 (i : Int))]) c.sigs.length ⟨0, q0, rfl, Nat.zero_le _, by simpa using h0, by simp [go_sem]⟩ ?_
    rintro j e K1 ⟨i, q1, rfl, hi, h1, rfl⟩
    have b1 : (A0 ++ (c.sigs.take i).flatMap sigB).length ≤ 700000 := Nat.le_trans (pre_of (lay_take sigB _ i) p0).length_le hl
    obtain ⟨A1, aa⟩ : ∃ A, A = A0 ++ (c.sigs.take i).flatMap sigB := ⟨_, rfl⟩
    rw [← aa] at h1 b1 ⊢
    clear c0 h0
    have c1 := (h1.at_ (cb, c.cells) (by simp)).1
    simp only [Config.cells] at c1
    by_cases hlt : i < c.sigs.length
    · have g : c.sigs[i]? = some c.sigs[i] := by simp [hlt]
      have hstep : A1 ++ sigB c.sigs[i] = A0 ++ (c.sigs.take (i + 1)).flatMap sigB := by rw [aa, lay_next sigB hlt, List.append_assoc]
      have hx := hw.1.1 c.sigs[i] (List.getElem_mem hlt)
      generalize c.sigs[i] = x at g hx hstep
      have w1 := IntWalk.i64_in ((i : Int) + 1) (by omega)
      obtain ⟨lo, hi_⟩ := x
      have e2 := h1.iappB (P := Tryd.prog) (t := 23) (e := 5) (by kernel_rfl) (by kernel_rfl) (by kernel_rfl) (by kernel_rfl) (i4 lo) (by simp [i4]) (by rw [i4_len]; omega)
      have h2 := h1.app (i4 lo)
      have Kp : Kept [[1,3,4,23],[],[1,3,4],[1,3,4]] := ⟨⟩
      iterate 4 (refine Kp.s ?_; clear Kp; intro Kp; simp [go_sem, -getElem?_pos, -List.map_take, -List.map_drop, IntWalk.iteOmega, IntWalk.toNatUp, c1, e2, hlt, g, w1, Sig.val, Sig.cells])
      refine ICalls.then (refInt _ _ hx.1) ?_
      try simp [go_sem, -getElem?_pos, -List.map_take, -List.map_drop, IntWalk.iteOmega, IntWalk.toNatUp, c1, e2, hlt, g, w1, Sig.val, Sig.cells]
      simp only [List.map_append, List.map_cons, List.map_nil, next_alloc] at h2
      generalize (K1.kill q1).alloc _ = K2 at h2 ⊢
      generalize K1.next = q2 at h2 ⊢
      generalize a2 : A1 ++ i4 lo = A2 at h2 ⊢
      have b2 : A2.length ≤ 700004 := by rw [← a2, List.length_append]; simp only [i4_len, List.length_cons, List.length_nil]; omega
      have c2 := (h2.at_ (cb, c.cells) (by simp)).1
      simp only [Config.cells] at c2
      clear e2 c1 h1
      have e3 := h2.iappB (P := Tryd.prog) (t := 23) (e := 5) (by kernel_rfl) (by kernel_rfl) (by kernel_rfl) (by kernel_rfl) (i4 hi_) (by simp [i4]) (by rw [i4_len]; omega)
      have h3 := h2.app (i4 hi_)
      refine IWp.one [1, 3, 4] ?_
      simp [go_sem, -getElem?_pos, -List.map_take, -List.map_drop, IntWalk.iteOmega, IntWalk.toNatUp, c2, e3, hlt, g, w1, Sig.val, Sig.cells]
      refine ICalls.then (refInt _ _ hx.2) ?_
      try simp [go_sem, -getElem?_pos, -List.map_take, -List.map_drop, IntWalk.iteOmega, IntWalk.toNatUp, c2, e3, hlt, g, w1, Sig.val, Sig.cells]
      simp only [List.map_append, List.map_cons, List.map_nil, next_alloc] at h3
      generalize (K2.kill q2).alloc _ = K3 at h3 ⊢
      generalize K2.next = q3 at h3 ⊢
      generalize a3 : A2 ++ i4 hi_ = A3 at h3 ⊢
      have b3 : A3.length ≤ 700008 := by rw [← a3, List.length_append]; simp only [i4_len, List.length_cons, List.length_nil]; omega
      have c3 := (h3.at_ (cb, c.cells) (by simp)).1
      simp only [Config.cells] at c3
      clear e3 c2 h2
      refine IWp.one [1, 3, 4] ?_
      simp [go_sem, -getElem?_pos, -List.map_take, -List.map_drop, IntWalk.iteOmega, IntWalk.toNatUp, w1]
      exact ⟨c.sigs.length - (i + 1), by omega, i + 1, rfl, by omega, q3, by rw [← hstep]; simpa [sigB, ← a3, ← a2] using h3, by rw [← hstep]; simp [sigB, ← a3, ← a2]⟩
    · skip
      have Kp : Kept [[1,3,4,23],[],[1,3]] := ⟨⟩
      iterate 3 (refine Kp.s ?_; clear Kp; intro Kp; simp [go_sem, -getElem?_pos, -List.map_take, -List.map_drop, IntWalk.iteOmega, IntWalk.toNatUp, c1, hlt, show ¬ (i : Int) < c.sigs.length by omega])
      have hi2 : c.sigs.take i = c.sigs := List.take_of_length_le (by omega)
      rw [hi2] at aa
      exact ⟨q1, by rw [← aa]; exact h1, by rw [aa]⟩
  rintro e K4 ⟨q4, h4, rfl⟩
  have b4 : (A0 ++ c.sigs.flatMap sigB).length ≤ 700000 := Nat.le_trans p0.length_le hl
  obtain ⟨A4, a4⟩ : ∃ A, A = A0 ++ c.sigs.flatMap sigB := ⟨_, rfl⟩
  rw [← a4] at h4 b4 ⊢
  clear c0 h0
  have c4 := (h4.at_ (cb, c.cells) (by simp)).1
  simp only [Config.cells] at c4
  have e5 := h4.iappL (P := Tryd.prog) (t := 23) (e := 5) (by kernel_rfl) (by kernel_rfl) (by kernel_rfl) (by kernel_rfl) [((c.rules.length : Int) % 256)] [Value.int .u8 (((c.rules.length : Int) % 256))] rfl 1 rfl (by simp) (by simp; omega)
  have h5 := (h4.alloc [Value.int .u8 (((c.rules.length : Int) % 256))]).app [((c.rules.length : Int) % 256)]
  refine IWp.one [1, 3] ?_
  simp [go_sem, -getElem?_pos, -List.map_take, -List.map_drop, IntWalk.iteOmega, IntWalk.toNatUp, c4, e5, u8_mod]
  simp only [List.map_append, List.map_cons, List.map_nil, next_alloc] at h5
  generalize ((K4.alloc _).kill q4).alloc _ = K5 at h5 ⊢
  generalize K4.next + 1 = q5 at h5 ⊢
  generalize a5 : A4 ++ [((c.rules.length : Int) % 256)] = A5 at h5 ⊢
  have b5 : A5.length ≤ 700001 := by rw [← a5, List.length_append]; simp only [i4_len, List.length_cons, List.length_nil]; omega
  have c5 := (h5.at_ (cb, c.cells) (by simp)).1
  simp only [Config.cells] at c5
  clear e5 c4 h4
  have p5 : A5 ++ c.rules.flatMap ruleY <+: cfgB c := by rw [← a5, a4, a0]; unfold cfgB; exact ⟨_, by simp only [List.append_assoc, List.cons_append, List.nil_append]; rfl⟩
  refine IWp.cut (fun e K => ∃ q, RowAt K q (A5 ++ c.rules.flatMap ruleY) [(cb, c.cells)] ∧ e = [(1, ptrTo cb 0), (3, rowV q (A5 ++ c.rules.flatMap ruleY))]) ?_ ?_
  · skip
    refine IWp.one [1, 3, 5] ?_
    simp [go_sem, -getElem?_pos, -List.map_take, -List.map_drop, IntWalk.iteOmega, IntWalk.toNatUp, c5]
    refine IWp.block ?_
    refine IWp.loop (fun j e K => ∃ i q, j = c.rules.length - i ∧ i ≤ c.rules.length ∧ RowAt K q (A5 ++ (c.rules.take i).flatMap ruleY) [(cb, c.cells)] ∧ e = [(1, ptrTo cb 0), (3, rowV q (A5 ++ (c.rules.take i).flatMap ruleY)), (5, .int .i64 (i : Int))]) c.rules.length ⟨0, q5, rfl, Nat.zero_le _, by simpa using h5, by simp [go_sem]⟩ ?_
    rintro j e K6 ⟨i, q6, rfl, hi, h6, rfl⟩
    have b6 : (A5 ++ (c.rules.take i).flatMap ruleY).length ≤ 700000 := Nat.le_trans (pre_of (lay_take ruleY _ i) p5).length_le hl
    obtain ⟨A6, aa⟩ : ∃ A, A = A5 ++ (c.rules.take i).flatMap ruleY := ⟨_, rfl⟩
    rw [← aa] at h6 b6 ⊢
    clear c5 h5
    have c6 := (h6.at_ (cb, c.cells) (by simp)).1
    simp only [Config.cells] at c6
    by_cases hlt : i < c.rules.length
    · have g : c.rules[i]? = some c.rules[i] := by simp [hlt]
      have hstep : A6 ++ ruleY c.rules[i] = A5 ++ (c.rules.take (i + 1)).flatMap ruleY := by rw [aa, lay_next ruleY hlt, List.append_assoc]
      have hx := hw.2.1.1 c.rules[i] (List.getElem_mem hlt)
      generalize c.rules[i] = x at g hx hstep
      have w1 := IntWalk.i64_in ((i : Int) + 1) (by omega)
      obtain ⟨r, hr⟩ : ∃ r, r = x := ⟨_, rfl⟩
      rw [← hr] at g hx hstep; clear hr
      have y1 := hx.2.1; have y2 := hx.2.2.1; have y3 := hx.2.2.2.1; have y4 := hx.2.2.2.2.1; have y5 := hx.2.2.2.2.2.1; have y6 := hx.2.2.2.2.2.2.2.1; have y7 := hx.2.2.2.2.2.2.2.2
      have h7 := h6.more r.cells
      have Kp : Kept [[1,3,5,55],[],[1,3,5],[1,3,5,6]] := ⟨⟩
      iterate 4 (refine Kp.s ?_; clear Kp; intro Kp; simp [go_sem, -getElem?_pos, -List.map_take, -List.map_drop, IntWalk.iteOmega, IntWalk.toNatUp, c6, hlt, g, Rule.val, Rule.cells])
      refine IWp.seq ?_
      rw [← show r.cells = [.int .u8 r.kind, .int .i64 r.sg, .int .i64 r.lim, .int .i64 r.back, .int .i64 r.delay, .int .i64 r.span, .int .u8 r.prio, .bool r.latch, frow 2 0 (r.stages.map Stage.val)] from rfl]
      generalize K6.alloc _ = K7 at h7 ⊢
      generalize K6.next = xb at h7 ⊢
      obtain ⟨A7, a7⟩ : ∃ A, A = A6 := ⟨_, rfl⟩; rw [← a7] at h7 ⊢; have b7 : A7.length ≤ 700000 := by rw [a7]; exact b6
      generalize hq : q6 = q7 at h7 ⊢
      have c7 := (h7.at_ (cb, c.cells) (by simp)).1
      simp only [Config.cells] at c7
      have d7 := (h7.at_ (xb, r.cells) (by simp)).1
      simp only [Rule.cells] at d7
      have e8 := h7.iappL (P := Tryd.prog) (t := 23) (e := 5) (by kernel_rfl) (by kernel_rfl) (by kernel_rfl) (by kernel_rfl) [r.kind, (r.sg % 256)] [Value.int .u8 r.kind, Value.int .u8 ((r.sg % 256))] rfl 2 rfl (by simp) (by simp; omega)
      have h8 := (h7.alloc [Value.int .u8 r.kind, Value.int .u8 ((r.sg % 256))]).app [r.kind, (r.sg % 256)]
      refine IWp.one [1, 3, 5, 6] ?_
      simp [go_sem, -getElem?_pos, -List.map_take, -List.map_drop, IntWalk.iteOmega, IntWalk.toNatUp, c7, e8, d7, u8_mod]
      refine IWp.seq ?_
      simp only [List.map_append, List.map_cons, List.map_nil, next_alloc] at h8
      generalize ((K7.alloc _).kill q7).alloc _ = K8 at h8 ⊢
      generalize K7.next + 1 = q8 at h8 ⊢
      generalize a8 : A7 ++ [r.kind, (r.sg % 256)] = A8 at h8 ⊢
      have b8 : A8.length ≤ 700002 := by rw [← a8, List.length_append]; simp only [i4_len, List.length_cons, List.length_nil]; omega
      have c8 := (h8.at_ (cb, c.cells) (by simp)).1
      simp only [Config.cells] at c8
      have d8 := (h8.at_ (xb, r.cells) (by simp)).1
      simp only [Rule.cells] at d8
      clear e8 c7 h7 d7
      have e9 := h8.iappB (P := Tryd.prog) (t := 23) (e := 5) (by kernel_rfl) (by kernel_rfl) (by kernel_rfl) (by kernel_rfl) (i4 r.lim) (by simp [i4]) (by rw [i4_len]; omega)
      have h9 := h8.app (i4 r.lim)
      refine IWp.one [1, 3, 5, 6] ?_
      simp [go_sem, -getElem?_pos, -List.map_take, -List.map_drop, IntWalk.iteOmega, IntWalk.toNatUp, c8, e9, d8]
      refine ICalls.then (refInt _ _ y2) ?_
      try simp [go_sem, -getElem?_pos, -List.map_take, -List.map_drop, IntWalk.iteOmega, IntWalk.toNatUp, c8, e9, d8]
      refine IWp.seq ?_
      simp only [List.map_append, List.map_cons, List.map_nil, next_alloc] at h9
      generalize (K8.kill q8).alloc _ = K9 at h9 ⊢
      generalize K8.next = q9 at h9 ⊢
      generalize a9 : A8 ++ i4 r.lim = A9 at h9 ⊢
      have b9 : A9.length ≤ 700006 := by rw [← a9, List.length_append]; simp only [i4_len, List.length_cons, List.length_nil]; omega
      have c9 := (h9.at_ (cb, c.cells) (by simp)).1
      simp only [Config.cells] at c9
      have d9 := (h9.at_ (xb, r.cells) (by simp)).1
      simp only [Rule.cells] at d9
      clear e9 c8 h8 d8
      have e10 := h9.iappB (P := Tryd.prog) (t := 23) (e := 5) (by kernel_rfl) (by kernel_rfl) (by kernel_rfl) (by kernel_rfl) (i4 r.back) (by simp [i4]) (by rw [i4_len]; omega)
      have h10 := h9.app (i4 r.back)
      refine IWp.one [1, 3, 5, 6] ?_
      simp [go_sem, -getElem?_pos, -List.map_take, -List.map_drop, IntWalk.iteOmega, IntWalk.toNatUp, c9, e10, d9]
      refine ICalls.then (refInt _ _ y3) ?_
      try simp [go_sem, -getElem?_pos, -List.map_take, -List.map_drop, IntWalk.iteOmega, IntWalk.toNatUp, c9, e10, d9]
      refine IWp.seq ?_
      simp only [List.map_append, List.map_cons, List.map_nil, next_alloc] at h10
      generalize (K9.kill q9).alloc _ = K10 at h10 ⊢
      generalize K9.next = q10 at h10 ⊢
      generalize a10 : A9 ++ i4 r.back = A10 at h10 ⊢
      have b10 : A10.length ≤ 700010 := by rw [← a10, List.length_append]; simp only [i4_len, List.length_cons, List.length_nil]; omega
      have c10 := (h10.at_ (cb, c.cells) (by simp)).1
      simp only [Config.cells] at c10
      have d10 := (h10.at_ (xb, r.cells) (by simp)).1
      simp only [Rule.cells] at d10
      clear e10 c9 h9 d9
      have e11 := h10.iappB (P := Tryd.prog) (t := 23) (e := 5) (by kernel_rfl) (by kernel_rfl) (by kernel_rfl) (by kernel_rfl) (i4 r.delay) (by simp [i4]) (by rw [i4_len]; omega)
      have h11 := h10.app (i4 r.delay)
      refine IWp.one [1, 3, 5, 6] ?_
      simp [go_sem, -getElem?_pos, -List.map_take, -List.map_drop, IntWalk.iteOmega, IntWalk.toNatUp, c10, e11, d10]
      refine ICalls.then (refInt _ _ y4) ?_
      try simp [go_sem, -getElem?_pos, -List.map_take, -List.map_drop, IntWalk.iteOmega, IntWalk.toNatUp, c10, e11, d10]
      refine IWp.seq ?_
      simp only [List.map_append, List.map_cons, List.map_nil, next_alloc] at h11
      generalize (K10.kill q10).alloc _ = K11 at h11 ⊢
      generalize K10.next = q11 at h11 ⊢
      generalize a11 : A10 ++ i4 r.delay = A11 at h11 ⊢
      have b11 : A11.length ≤ 700014 := by rw [← a11, List.length_append]; simp only [i4_len, List.length_cons, List.length_nil]; omega
      have c11 := (h11.at_ (cb, c.cells) (by simp)).1
      simp only [Config.cells] at c11
      have d11 := (h11.at_ (xb, r.cells) (by simp)).1
      simp only [Rule.cells] at d11
      clear e11 c10 h10 d10
      have e12 := h11.iappB (P := Tryd.prog) (t := 23) (e := 5) (by kernel_rfl) (by kernel_rfl) (by kernel_rfl) (by kernel_rfl) (i4 r.span) (by simp [i4]) (by rw [i4_len]; omega)
      have h12 := h11.app (i4 r.span)
      refine IWp.one [1, 3, 5, 6] ?_
      simp [go_sem, -getElem?_pos, -List.map_take, -List.map_drop, IntWalk.iteOmega, IntWalk.toNatUp, c11, e12, d11]
      refine ICalls.then (refInt _ _ y5) ?_
      try simp [go_sem, -getElem?_pos, -List.map_take, -List.map_drop, IntWalk.iteOmega, IntWalk.toNatUp, c11, e12, d11]
      refine IWp.seq ?_
      simp only [List.map_append, List.map_cons, List.map_nil, next_alloc] at h12
      generalize (K11.kill q11).alloc _ = K12 at h12 ⊢
      generalize K11.next = q12 at h12 ⊢
      generalize a12 : A11 ++ i4 r.span = A12 at h12 ⊢
      have b12 : A12.length ≤ 700018 := by rw [← a12, List.length_append]; simp only [i4_len, List.length_cons, List.length_nil]; omega
      have c12 := (h12.at_ (cb, c.cells) (by simp)).1
      simp only [Config.cells] at c12
      have d12 := (h12.at_ (xb, r.cells) (by simp)).1
      simp only [Rule.cells] at d12
      clear e12 c11 h11 d11
      have e13 := h12.iappL (P := Tryd.prog) (t := 23) (e := 5) (by kernel_rfl) (by kernel_rfl) (by kernel_rfl) (by kernel_rfl) [r.prio, (if r.latch = true then 1 else 0), ((r.stages.length : Int) % 256)] [Value.int .u8 r.prio, Value.int .u8 ((if r.latch = true then 1 else 0)), Value.int .u8 (((r.stages.length : Int) % 256))] rfl 3 rfl (by simp) (by simp; omega)
      have h13 := (h12.alloc [Value.int .u8 r.prio, Value.int .u8 ((if r.latch = true then 1 else 0)), Value.int .u8 (((r.stages.length : Int) % 256))]).app [r.prio, (if r.latch = true then 1 else 0), ((r.stages.length : Int) % 256)]
      refine IWp.draw [1, 3, 5, 6] [cb, xb] (.val 0 (.val 1 (.val 3 (.ld 4 [5, 10, 11, 12] (.val 6 (.val 2 (.val 7 (.val 8 (.val 9 (.eff 5 (.eff 10 (.eff 11 (.val 12 .done) .done) .done) .done)))))))))) follows (by kernel_rfl) ?_
      simp [go_sem, -getElem?_pos, -List.map_take, -List.map_drop, IntWalk.iteOmega, IntWalk.toNatUp, c12, e13, d12, u8_mod, get_alloc, get_kill, next_alloc, next_kill, Nat.ne_of_lt (Heap.lt_of_get c12), Nat.ne_of_lt (Nat.lt_succ_of_lt (Heap.lt_of_get c12)), (h12.at_ (cb, c.cells) (by simp)).2, Nat.ne_of_lt (Heap.lt_of_get d12), Nat.ne_of_lt (Nat.lt_succ_of_lt (Heap.lt_of_get d12)), (h12.at_ (xb, r.cells) (by simp)).2]
      refine ICalls.then (refFlag _ _) ?_
      try simp [go_sem, -getElem?_pos, -List.map_take, -List.map_drop, IntWalk.iteOmega, IntWalk.toNatUp, c12, e13, d12, u8_mod, get_alloc, get_kill, next_alloc, next_kill, Nat.ne_of_lt (Heap.lt_of_get c12), Nat.ne_of_lt (Nat.lt_succ_of_lt (Heap.lt_of_get c12)), (h12.at_ (cb, c.cells) (by simp)).2, Nat.ne_of_lt (Heap.lt_of_get d12), Nat.ne_of_lt (Nat.lt_succ_of_lt (Heap.lt_of_get d12)), (h12.at_ (xb, r.cells) (by simp)).2]
      refine IWp.one [1, 3, 5, 6, 7] ?_
      simp [go_sem, -getElem?_pos, -List.map_take, -List.map_drop, IntWalk.iteOmega, IntWalk.toNatUp, c12, e13, d12, u8_mod, get_alloc, get_kill, next_alloc, next_kill, Nat.ne_of_lt (Heap.lt_of_get c12), Nat.ne_of_lt (Nat.lt_succ_of_lt (Heap.lt_of_get c12)), (h12.at_ (cb, c.cells) (by simp)).2, Nat.ne_of_lt (Heap.lt_of_get d12), Nat.ne_of_lt (Nat.lt_succ_of_lt (Heap.lt_of_get d12)), (h12.at_ (xb, r.cells) (by simp)).2]
      refine IWp.block ?_
      simp only [List.map_append, List.map_cons, List.map_nil, next_alloc] at h13
      generalize ((K12.alloc _).kill q12).alloc _ = K13 at h13 ⊢
      generalize K12.next + 1 = q13 at h13 ⊢
      generalize a13 : A12 ++ [r.prio, (if r.latch = true then 1 else 0), ((r.stages.length : Int) % 256)] = A13 at h13 ⊢
      have b13 : A13.length ≤ 700021 := by rw [← a13, List.length_append]; simp only [i4_len, List.length_cons, List.length_nil]; omega
      have c13 := (h13.at_ (cb, c.cells) (by simp)).1
      simp only [Config.cells] at c13
      have d13 := (h13.at_ (xb, r.cells) (by simp)).1
      simp only [Rule.cells] at d13
      clear e13 c12 h12 d12
      have full : A13 ++ r.stages.flatMap stageB = A5 ++ (c.rules.take (i + 1)).flatMap ruleY := by rw [← hstep]; simp [ruleY, flagB, ← a13, ← a12, ← a11, ← a10, ← a9, ← a8, ← a7]
      have pI : A13 ++ r.stages.flatMap stageB <+: cfgB c := by rw [full]; exact pre_of (lay_take ruleY _ (i + 1)) p5
      simp only [maxLen] at y7
      refine IWp.loop (fun j e K => ∃ n q, j = r.stages.length - n ∧ n ≤ r.stages.length ∧ RowAt K q (A13 ++ (r.stages.take n).flatMap stageB) [(xb, r.cells), (cb, c.cells)] ∧ e = [(1, ptrTo cb 0), (3, rowV q (A13 ++ (r.stages.take n).flatMap stageB)), (5, .int .i64 (i : Int)), (6, ptrTo xb 0), (7, .int .i64 (n : Int))]) r.stages.length ⟨0, q13, rfl, Nat.zero_le _, by simpa using h13, by simp [go_sem]⟩ ?_
      clear h13 c13 d13
      rintro j e K14 ⟨n, q14, rfl, hn, h14, rfl⟩
      have b14 : (A13 ++ (r.stages.take n).flatMap stageB).length ≤ 700000 := Nat.le_trans (pre_of (lay_take stageB _ n) pI).length_le hl
      obtain ⟨A14, ab⟩ : ∃ A, A = A13 ++ (r.stages.take n).flatMap stageB := ⟨_, rfl⟩
      rw [← ab] at h14 b14 ⊢
      have c14 := (h14.at_ (cb, c.cells) (by simp)).1
      simp only [Config.cells] at c14
      have d14 := (h14.at_ (xb, r.cells) (by simp)).1
      simp only [Rule.cells] at d14
      by_cases hlt2 : n < r.stages.length
      · have g2 : r.stages[n]? = some r.stages[n] := by simp [hlt2]
        have hstep2 : A14 ++ stageB r.stages[n] = A13 ++ (r.stages.take (n + 1)).flatMap stageB := by rw [ab, lay_next stageB hlt2, List.append_assoc]
        have hx2 := y6 r.stages[n] (List.getElem_mem hlt2)
        generalize r.stages[n] = x2 at g2 hx2 hstep2
        have w2 := IntWalk.i64_in ((n : Int) + 1) (by omega)
        obtain ⟨wt, pr⟩ := x2
        have e15 := h14.iappB (P := Tryd.prog) (t := 23) (e := 5) (by kernel_rfl) (by kernel_rfl) (by kernel_rfl) (by kernel_rfl) (i4 wt) (by simp [i4]) (by rw [i4_len]; omega)
        have h15 := h14.app (i4 wt)
        have Kp : Kept [[1,3,5,6,7,107],[],[1,3,5,6,7],[1,3,5,6,7]] := ⟨⟩
        iterate 4 (refine Kp.s ?_; clear Kp; intro Kp; simp [go_sem, -getElem?_pos, -List.map_take, -List.map_drop, IntWalk.iteOmega, IntWalk.toNatUp, c14, e15, d14, hlt2, g2, Stage.val, Stage.cells])
        refine ICalls.then (refInt _ _ hx2.1) ?_
        try simp [go_sem, -getElem?_pos, -List.map_take, -List.map_drop, IntWalk.iteOmega, IntWalk.toNatUp, c14, e15, d14, hlt2, g2, Stage.val, Stage.cells]
        simp only [List.map_append, List.map_cons, List.map_nil, next_alloc] at h15
        generalize (K14.kill q14).alloc _ = K15 at h15 ⊢
        generalize K14.next = q15 at h15 ⊢
        generalize a15 : A14 ++ i4 wt = A15 at h15 ⊢
        have b15 : A15.length ≤ 700004 := by rw [← a15, List.length_append]; simp only [i4_len, List.length_cons, List.length_nil]; omega
        have c15 := (h15.at_ (cb, c.cells) (by simp)).1
        simp only [Config.cells] at c15
        have d15 := (h15.at_ (xb, r.cells) (by simp)).1
        simp only [Rule.cells] at d15
        clear e15 c14 h14 d14
        have e16 := h15.iappL (P := Tryd.prog) (t := 23) (e := 5) (by kernel_rfl) (by kernel_rfl) (by kernel_rfl) (by kernel_rfl) [pr] [Value.int .u8 pr] rfl 1 rfl (by simp) (by simp; omega)
        have h16 := (h15.alloc [Value.int .u8 pr]).app [pr]
        refine IWp.one [1, 3, 5, 6, 7] ?_
        simp [go_sem, -getElem?_pos, -List.map_take, -List.map_drop, IntWalk.iteOmega, IntWalk.toNatUp, c15, e16, d15, hlt2, g2, Stage.val, Stage.cells]
        simp only [List.map_append, List.map_cons, List.map_nil, next_alloc] at h16
        generalize ((K15.alloc _).kill q15).alloc _ = K16 at h16 ⊢
        generalize K15.next + 1 = q16 at h16 ⊢
        generalize a16 : A15 ++ [pr] = A16 at h16 ⊢
        have b16 : A16.length ≤ 700005 := by rw [← a16, List.length_append]; simp only [i4_len, List.length_cons, List.length_nil]; omega
        have c16 := (h16.at_ (cb, c.cells) (by simp)).1
        simp only [Config.cells] at c16
        have d16 := (h16.at_ (xb, r.cells) (by simp)).1
        simp only [Rule.cells] at d16
        clear e16 c15 h15 d15
        refine IWp.one [1, 3, 5, 6, 7] ?_
        simp [go_sem, -getElem?_pos, -List.map_take, -List.map_drop, IntWalk.iteOmega, IntWalk.toNatUp, w2]
        exact ⟨r.stages.length - (n + 1), by omega, n + 1, rfl, by omega, q16, by rw [← hstep2]; simpa [stageB, ← a16, ← a15] using h16, by rw [← hstep2]; simp [stageB, ← a16, ← a15]⟩
      · skip
        have Kp : Kept [[1,3,5,6,7,107],[],[1,3,5],[1,3,5]] := ⟨⟩
        iterate 4 (refine Kp.s ?_; clear Kp; intro Kp; simp [go_sem, -getElem?_pos, -List.map_take, -List.map_drop, IntWalk.iteOmega, IntWalk.toNatUp, c14, d14, hlt2, w1, show ¬ (n : Int) < r.stages.length by omega])
        have hn2 : r.stages.take n = r.stages := List.take_of_length_le (by omega)
        rw [hn2, full] at ab
        exact ⟨c.rules.length - (i + 1), by omega, i + 1, rfl, by omega, q14, by rw [← ab]; exact h14.less, by rw [ab]; simp⟩
    · skip
      have Kp : Kept [[1,3,5,55],[],[1,3]] := ⟨⟩
      iterate 3 (refine Kp.s ?_; clear Kp; intro Kp; simp [go_sem, -getElem?_pos, -List.map_take, -List.map_drop, IntWalk.iteOmega, IntWalk.toNatUp, c6, hlt, show ¬ (i : Int) < c.rules.length by omega])
      have hi2 : c.rules.take i = c.rules := List.take_of_length_le (by omega)
      rw [hi2] at aa
      exact ⟨q6, by rw [← aa]; exact h6, by rw [aa]⟩
  rintro e K17 ⟨q17, h17, rfl⟩
  have b17 : (A5 ++ c.rules.flatMap ruleY).length ≤ 700000 := Nat.le_trans p5.length_le hl
  obtain ⟨A17, a17⟩ : ∃ A, A = A5 ++ c.rules.flatMap ruleY := ⟨_, rfl⟩
  rw [← a17] at h17 b17 ⊢
  clear c5 h5
  have c17 := (h17.at_ (cb, c.cells) (by simp)).1
  simp only [Config.cells] at c17
  have e18 := h17.iappL (P := Tryd.prog) (t := 23) (e := 5) (by kernel_rfl) (by kernel_rfl) (by kernel_rfl) (by kernel_rfl) [((c.table.length : Int) % 256)] [Value.int .u8 (((c.table.length : Int) % 256))] rfl 1 rfl (by simp) (by simp; omega)
  have h18 := (h17.alloc [Value.int .u8 (((c.table.length : Int) % 256))]).app [((c.table.length : Int) % 256)]
  refine IWp.one [1, 3] ?_
  simp [go_sem, -getElem?_pos, -List.map_take, -List.map_drop, IntWalk.iteOmega, IntWalk.toNatUp, c17, e18, u8_mod]
  simp only [List.map_append, List.map_cons, List.map_nil, next_alloc] at h18
  generalize ((K17.alloc _).kill q17).alloc _ = K18 at h18 ⊢
  generalize K17.next + 1 = q18 at h18 ⊢
  generalize a18 : A17 ++ [((c.table.length : Int) % 256)] = A18 at h18 ⊢
  have b18 : A18.length ≤ 700001 := by rw [← a18, List.length_append]; simp only [i4_len, List.length_cons, List.length_nil]; omega
  have c18 := (h18.at_ (cb, c.cells) (by simp)).1
  simp only [Config.cells] at c18
  clear e18 c17 h17
  have p18 : A18 ++ c.table.flatMap slotB <+: cfgB c := by rw [← a18, a17, ← a5, a4, a0]; unfold cfgB; exact ⟨_, by simp only [List.append_assoc, List.cons_append, List.nil_append]; rfl⟩
  refine IWp.cut (fun e K => ∃ q, RowAt K q (A18 ++ c.table.flatMap slotB) [(cb, c.cells)] ∧ e = [(1, ptrTo cb 0), (3, rowV q (A18 ++ c.table.flatMap slotB))]) ?_ ?_
  · skip
    refine IWp.one [1, 3, 8] ?_
    simp [go_sem, -getElem?_pos, -List.map_take, -List.map_drop, IntWalk.iteOmega, IntWalk.toNatUp, c18]
    refine IWp.block ?_
    refine IWp.loop (fun j e K => ∃ i q, j = c.table.length - i ∧ i ≤ c.table.length ∧ RowAt K q (A18 ++ (c.table.take i).flatMap slotB) [(cb, c.cells)] ∧ e = [(1, ptrTo cb 0), (3, rowV q (A18 ++ (c.table.take i).flatMap slotB)), (8, .int .i64 (i : Int))]) c.table.length ⟨0, q18, rfl, Nat.zero_le _, by simpa using h18, by simp [go_sem]⟩ ?_
    rintro j e K19 ⟨i, q19, rfl, hi, h19, rfl⟩
    have b19 : (A18 ++ (c.table.take i).flatMap slotB).length ≤ 700000 := Nat.le_trans (pre_of (lay_take slotB _ i) p18).length_le hl
    obtain ⟨A19, aa⟩ : ∃ A, A = A18 ++ (c.table.take i).flatMap slotB := ⟨_, rfl⟩
    rw [← aa] at h19 b19 ⊢
    clear c18 h18
    have c19 := (h19.at_ (cb, c.cells) (by simp)).1
    simp only [Config.cells] at c19
    by_cases hlt : i < c.table.length
    · have g : c.table[i]? = some c.table[i] := by simp [hlt]
      have hstep : A19 ++ slotB c.table[i] = A18 ++ (c.table.take (i + 1)).flatMap slotB := by rw [aa, lay_next slotB hlt, List.append_assoc]
      have hx := hw.2.2.1.1 c.table[i] (List.getElem_mem hlt)
      generalize c.table[i] = x at g hx hstep
      have w1 := IntWalk.i64_in ((i : Int) + 1) (by omega)
      have y7 := hx.2; have y6 := hx.1
      have e20 := h19.iappL (P := Tryd.prog) (t := 23) (e := 5) (by kernel_rfl) (by kernel_rfl) (by kernel_rfl) (by kernel_rfl) [((x.length : Int) % 256)] [Value.int .u8 (((x.length : Int) % 256))] rfl 1 rfl (by simp) (by simp; omega)
      have h20 := (h19.alloc [Value.int .u8 (((x.length : Int) % 256))]).app [((x.length : Int) % 256)]
      have Kp : Kept [[1,3,8,139],[],[1,3,8],[1,3,8]] := ⟨⟩
      iterate 4 (refine Kp.s ?_; clear Kp; intro Kp; simp [go_sem, -getElem?_pos, -List.map_take, -List.map_drop, IntWalk.iteOmega, IntWalk.toNatUp, c19, e20, hlt, g, u8_mod])
      refine IWp.seq ?_
      simp only [List.map_append, List.map_cons, List.map_nil, next_alloc] at h20
      generalize ((K19.alloc _).kill q19).alloc _ = K20 at h20 ⊢
      generalize K19.next + 1 = q20 at h20 ⊢
      generalize a20 : A19 ++ [((x.length : Int) % 256)] = A20 at h20 ⊢
      have b20 : A20.length ≤ 700001 := by rw [← a20, List.length_append]; simp only [i4_len, List.length_cons, List.length_nil]; omega
      have c20 := (h20.at_ (cb, c.cells) (by simp)).1
      simp only [Config.cells] at c20
      clear e20 c19 h19
      have full : A20 ++ x.flatMap (fun y => [y % 256]) = A18 ++ (c.table.take (i + 1)).flatMap slotB := by rw [← hstep, ← a20]; simp [slotB, flat_one]
      have pI : A20 ++ x.flatMap (fun y => [y % 256]) <+: cfgB c := by rw [full]; exact pre_of (lay_take slotB _ (i + 1)) p18
      refine IWp.one [1, 3, 8, 9] ?_
      simp [go_sem, -getElem?_pos, -List.map_take, -List.map_drop, IntWalk.iteOmega, IntWalk.toNatUp, c20]
      refine IWp.block ?_
      simp only [maxLen] at y7
      refine IWp.loop (fun j e K => ∃ n q, j = x.length - n ∧ n ≤ x.length ∧ RowAt K q (A20 ++ (x.take n).flatMap (fun y => [y % 256])) [(cb, c.cells)] ∧ e = [(1, ptrTo cb 0), (3, rowV q (A20 ++ (x.take n).flatMap fun y => [y % 256])), (8, .int .i64 (i : Int)), (9, .int .i64 (n : Int))]) x.length ⟨0, q20, rfl, Nat.zero_le _, by simpa using h20, by simp [go_sem]⟩ ?_
      clear h20 c20
      rintro j e K21 ⟨n, q21, rfl, hn, h21, rfl⟩
      have b21 : (A20 ++ (x.take n).flatMap (fun y => [y % 256])).length ≤ 700000 := Nat.le_trans (pre_of (lay_take (fun y => [y % 256]) _ n) pI).length_le hl
      obtain ⟨A21, ab⟩ : ∃ A, A = A20 ++ (x.take n).flatMap (fun y => [y % 256]) := ⟨_, rfl⟩
      rw [← ab] at h21 b21 ⊢
      have c21 := (h21.at_ (cb, c.cells) (by simp)).1
      simp only [Config.cells] at c21
      by_cases hlt2 : n < x.length
      · have g2 : x[n]? = some x[n] := by simp [hlt2]
        have hstep2 : A21 ++ (fun y => [y % 256]) x[n] = A20 ++ (x.take (n + 1)).flatMap (fun y => [y % 256]) := by rw [ab, lay_next (fun y => [y % 256]) hlt2, List.append_assoc]
        have hx2 := y6 x[n] (List.getElem_mem hlt2)
        generalize x[n] = x2 at g2 hx2 hstep2
        have w2 := IntWalk.i64_in ((n : Int) + 1) (by omega)
        have e22 := h21.iappL (P := Tryd.prog) (t := 23) (e := 5) (by kernel_rfl) (by kernel_rfl) (by kernel_rfl) (by kernel_rfl) [(x2 % 256)] [Value.int .u8 ((x2 % 256))] rfl 1 rfl (by simp) (by simp; omega)
        have h22 := (h21.alloc [Value.int .u8 ((x2 % 256))]).app [(x2 % 256)]
        have Kp : Kept [[1,3,8,9,159],[],[1,3,8,9],[1,3,8,9]] := ⟨⟩
        iterate 4 (refine Kp.s ?_; clear Kp; intro Kp; simp [go_sem, -getElem?_pos, -List.map_take, -List.map_drop, IntWalk.iteOmega, IntWalk.toNatUp, c21, e22, hlt2, g2, hlt, g, u8_mod])
        simp only [List.map_append, List.map_cons, List.map_nil, next_alloc] at h22
        generalize ((K21.alloc _).kill q21).alloc _ = K22 at h22 ⊢
        generalize K21.next + 1 = q22 at h22 ⊢
        generalize a22 : A21 ++ [(x2 % 256)] = A22 at h22 ⊢
        have b22 : A22.length ≤ 700001 := by rw [← a22, List.length_append]; simp only [i4_len, List.length_cons, List.length_nil]; omega
        have c22 := (h22.at_ (cb, c.cells) (by simp)).1
        simp only [Config.cells] at c22
        clear e22 c21 h21
        refine IWp.one [1, 3, 8, 9] ?_
        simp [go_sem, -getElem?_pos, -List.map_take, -List.map_drop, IntWalk.iteOmega, IntWalk.toNatUp, w2]
        exact ⟨x.length - (n + 1), by omega, n + 1, rfl, by omega, q22, by rw [← hstep2]; simpa [← a22] using h22, by rw [← hstep2]; simp [← a22]⟩
      · skip
        have Kp : Kept [[1,3,8,9,159],[],[1,3,8],[1,3,8]] := ⟨⟩
        iterate 4 (refine Kp.s ?_; clear Kp; intro Kp; simp [go_sem, -getElem?_pos, -List.map_take, -List.map_drop, IntWalk.iteOmega, IntWalk.toNatUp, c21, g, hlt, show ¬ (i : Int) < 0 by omega, hlt2, w1, show ¬ (n : Int) < x.length by omega])
        have hn2 : x.take n = x := List.take_of_length_le (by omega)
        rw [hn2, full] at ab
        exact ⟨c.table.length - (i + 1), by omega, i + 1, rfl, by omega, q21, by rw [← ab]; exact h21, by rw [ab]; simp⟩
    · skip
      have Kp : Kept [[1,3,8,139],[],[1,3]] := ⟨⟩
      iterate 3 (refine Kp.s ?_; clear Kp; intro Kp; simp [go_sem, -getElem?_pos, -List.map_take, -List.map_drop, IntWalk.iteOmega, IntWalk.toNatUp, c19, hlt, show ¬ (i : Int) < c.table.length by omega])
      have hi2 : c.table.take i = c.table := List.take_of_length_le (by omega)
      rw [hi2] at aa
      exact ⟨q19, by rw [← aa]; exact h19, by rw [aa]⟩
  rintro e K23 ⟨q23, h23, rfl⟩
  have b23 : (A18 ++ c.table.flatMap slotB).length ≤ 700000 := Nat.le_trans p18.length_le hl
  obtain ⟨A23, a23⟩ : ∃ A, A = A18 ++ c.table.flatMap slotB := ⟨_, rfl⟩
  rw [← a23] at h23 b23 ⊢
  clear c18 h18
  have c23 := (h23.at_ (cb, c.cells) (by simp)).1
  simp only [Config.cells] at c23
  have e24 := h23.iappL (P := Tryd.prog) (t := 23) (e := 5) (by kernel_rfl) (by kernel_rfl) (by kernel_rfl) (by kernel_rfl) [(c.b0 % 256), (c.b1 % 256), (c.b2 % 256), (c.drain % 256)] [Value.int .u8 ((c.b0 % 256)), Value.int .u8 ((c.b1 % 256)), Value.int .u8 ((c.b2 % 256)), Value.int .u8 ((c.drain % 256))] rfl 4 rfl (by simp) (by simp; omega)
  have h24 := (h23.alloc [Value.int .u8 ((c.b0 % 256)), Value.int .u8 ((c.b1 % 256)), Value.int .u8 ((c.b2 % 256)), Value.int .u8 ((c.drain % 256))]).app [(c.b0 % 256), (c.b1 % 256), (c.b2 % 256), (c.drain % 256)]
  refine IWp.one [1, 3] ?_
  simp [go_sem, -getElem?_pos, -List.map_take, -List.map_drop, IntWalk.iteOmega, IntWalk.toNatUp, c23, e24, u8_mod]
  refine IWp.seq ?_
  simp only [List.map_append, List.map_cons, List.map_nil, next_alloc] at h24
  generalize ((K23.alloc _).kill q23).alloc _ = K24 at h24 ⊢
  generalize K23.next + 1 = q24 at h24 ⊢
  generalize a24 : A23 ++ [(c.b0 % 256), (c.b1 % 256), (c.b2 % 256), (c.drain % 256)] = A24 at h24 ⊢
  have b24 : A24.length ≤ 700004 := by rw [← a24, List.length_append]; simp only [i4_len, List.length_cons, List.length_nil]; omega
  have c24 := (h24.at_ (cb, c.cells) (by simp)).1
  simp only [Config.cells] at c24
  clear e24 c23 h23
  have e25 := h24.iappB (P := Tryd.prog) (t := 23) (e := 5) (by kernel_rfl) (by kernel_rfl) (by kernel_rfl) (by kernel_rfl) (i4 c.pause) (by simp [i4]) (by rw [i4_len]; omega)
  have h25 := h24.app (i4 c.pause)
  refine IWp.one [1, 3] ?_
  simp [go_sem, -getElem?_pos, -List.map_take, -List.map_drop, IntWalk.iteOmega, IntWalk.toNatUp, c24, e25]
  refine ICalls.then (refInt _ _ hw.2.2.2.2.2.2.2.1) ?_
  try simp [go_sem, -getElem?_pos, -List.map_take, -List.map_drop, IntWalk.iteOmega, IntWalk.toNatUp, c24, e25]
  refine IWp.seq ?_
  simp only [List.map_append, List.map_cons, List.map_nil, next_alloc] at h25
  generalize (K24.kill q24).alloc _ = K25 at h25 ⊢
  generalize K24.next = q25 at h25 ⊢
  generalize a25 : A24 ++ i4 c.pause = A25 at h25 ⊢
  have b25 : A25.length ≤ 700008 := by rw [← a25, List.length_append]; simp only [i4_len, List.length_cons, List.length_nil]; omega
  have c25 := (h25.at_ (cb, c.cells) (by simp)).1
  simp only [Config.cells] at c25
  clear e25 c24 h24
  have e26 := h25.iappB (P := Tryd.prog) (t := 23) (e := 5) (by kernel_rfl) (by kernel_rfl) (by kernel_rfl) (by kernel_rfl) (i4 c.off) (by simp [i4]) (by rw [i4_len]; omega)
  have h26 := h25.app (i4 c.off)
  refine IWp.one [1, 3] ?_
  simp [go_sem, -getElem?_pos, -List.map_take, -List.map_drop, IntWalk.iteOmega, IntWalk.toNatUp, c25, e26]
  refine ICalls.then (refInt _ _ hw.2.2.2.2.2.2.2.2.1) ?_
  try simp [go_sem, -getElem?_pos, -List.map_take, -List.map_drop, IntWalk.iteOmega, IntWalk.toNatUp, c25, e26]
  refine IWp.seq ?_
  simp only [List.map_append, List.map_cons, List.map_nil, next_alloc] at h26
  generalize (K25.kill q25).alloc _ = K26 at h26 ⊢
  generalize K25.next = q26 at h26 ⊢
  generalize a26 : A25 ++ i4 c.off = A26 at h26 ⊢
  have b26 : A26.length ≤ 700012 := by rw [← a26, List.length_append]; simp only [i4_len, List.length_cons, List.length_nil]; omega
  have c26 := (h26.at_ (cb, c.cells) (by simp)).1
  simp only [Config.cells] at c26
  clear e26 c25 h25
  have e27 := h26.iappL (P := Tryd.prog) (t := 23) (e := 5) (by kernel_rfl) (by kernel_rfl) (by kernel_rfl) (by kernel_rfl) [(if c.brk = true then 1 else 0)] [Value.int .u8 ((if c.brk = true then 1 else 0))] rfl 1 rfl (by simp) (by simp; omega)
  have h27 := (h26.alloc [Value.int .u8 ((if c.brk = true then 1 else 0))]).app [(if c.brk = true then 1 else 0)]
  refine IWp.one [1, 3] ?_
  simp [go_sem, -getElem?_pos, -List.map_take, -List.map_drop, IntWalk.iteOmega, IntWalk.toNatUp, c26, e27, get_alloc, get_kill, next_alloc, next_kill, Nat.ne_of_lt (Heap.lt_of_get c26), Nat.ne_of_lt (Nat.lt_succ_of_lt (Heap.lt_of_get c26)), (h26.at_ (cb, c.cells) (by simp)).2]
  refine ICalls.then (refFlag _ _) ?_
  try simp [go_sem, -getElem?_pos, -List.map_take, -List.map_drop, IntWalk.iteOmega, IntWalk.toNatUp, c26, e27, get_alloc, get_kill, next_alloc, next_kill, Nat.ne_of_lt (Heap.lt_of_get c26), Nat.ne_of_lt (Nat.lt_succ_of_lt (Heap.lt_of_get c26)), (h26.at_ (cb, c.cells) (by simp)).2]
  refine IWp.seq ?_
  simp only [List.map_append, List.map_cons, List.map_nil, next_alloc] at h27
  generalize ((K26.alloc _).kill q26).alloc _ = K27 at h27 ⊢
  generalize K26.next + 1 = q27 at h27 ⊢
  generalize a27 : A26 ++ [(if c.brk = true then 1 else 0)] = A27 at h27 ⊢
  have b27 : A27.length ≤ 700013 := by rw [← a27, List.length_append]; simp only [i4_len, List.length_cons, List.length_nil]; omega
  have c27 := (h27.at_ (cb, c.cells) (by simp)).1
  simp only [Config.cells] at c27
  clear e27 c26 h26
  have e28 := h27.iappB (P := Tryd.prog) (t := 23) (e := 5) (by kernel_rfl) (by kernel_rfl) (by kernel_rfl) (by kernel_rfl) (i4 c.log) (by simp [i4]) (by rw [i4_len]; omega)
  have h28 := h27.app (i4 c.log)
  refine IWp.one [3] ?_
  simp [go_sem, -getElem?_pos, -List.map_take, -List.map_drop, IntWalk.iteOmega, IntWalk.toNatUp, c27, e28]
  refine ICalls.then (refInt _ _ hw.2.2.2.2.2.2.2.2.2) ?_
  try simp [go_sem, -getElem?_pos, -List.map_take, -List.map_drop, IntWalk.iteOmega, IntWalk.toNatUp, c27, e28]
  refine IWp.seq ?_
  simp only [List.map_append, List.map_cons, List.map_nil, next_alloc] at h28
  generalize (K27.kill q27).alloc _ = K28 at h28 ⊢
  generalize K27.next = q28 at h28 ⊢
  generalize a28 : A27 ++ i4 c.log = A28 at h28 ⊢
  have b28 : A28.length ≤ 700017 := by rw [← a28, List.length_append]; simp only [i4_len, List.length_cons, List.length_nil]; omega
  have c28 := (h28.at_ (cb, c.cells) (by simp)).1
  simp only [Config.cells] at c28
  clear e28 c27 h27
  have full : A28 = cfgB c := by rw [← a28, ← a27, ← a26, ← a25, ← a24, a23, ← a18, a17, ← a5, a4, a0]; simp [cfgB, flagB]
  rw [full] at h28 b28 ⊢
  refine IWp.one [2] ?_
  simp [go_sem, -getElem?_pos, -List.map_take, -List.map_drop, IntWalk.iteOmega, IntWalk.toNatUp]
  refine ICalls.freeze1 q28 (.cons (frz_lit ((cfgB c).map (Value.int .u8)) h28.row (map_flat _ _) (map_sz .u8 _) (by simp) (by simp)) .nil) (ICalls.then (refClose _ 0 (cfgB c) (by omega) (cfgB_bs hw)) ?_)
  simp [go_sem]
  refine IWp.one [] ?_
  simp [go_sem, -getElem?_pos, -List.map_take, -List.map_drop, IntWalk.iteOmega, IntWalk.toNatUp]
end Go.Proofs.YtoecebibhcadoaaDoor.I
