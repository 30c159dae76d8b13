/- A configuration's image, as the program lays it: image.Encode. No condition. -/
import Derived.Test.YtoecebibhcadoaaDoorGImgG
namespace Go.Proofs.YtoecebibhcadoaaDoor.I
open Go Go.RowKit
set_option linter.unusedVariables false
set_option linter.unusedSimpArgs false
set_option maxHeartbeats 4000000 in
theorem encodeC (H : Heap) (c : Config) (hw : c.wf) (hl : (cfgB c).length ≤ 700000) :
    ICalls Tryd.prog 12 [c.val] H fun v H' => v = byts (closed (cfgB c)) ∧ H' = H := by
  refine ICalls.ans (by rw [cl_ints]; trivial) fun H => IBody.calls (by kernel_rfl) ?_
  have z1 := hw.1.2
  have z2 := hw.2.1.2
  have z3 := hw.2.2.1.2
  simp only [maxLen] at z1 z2 z3
  obtain ⟨M, hM⟩ : ∃ M : List Int, M = [72, 66, 49] := ⟨_, rfl⟩
  have h0 : WrF ((((H.alloc [frow 2 0 (c.sigs.map Sig.val), frow 9 0 (c.rules.map Rule.val), frow 1 0 (c.table.map (ints .i64)), .int .i64 c.b0, .int .i64 c.b1, .int .i64 c.b2, .int .i64 c.drain, .int .i64 c.pause, .int .i64 c.off, .bool c.brk, .int .i64 c.log]).alloc [.slice none 0 0]).alloc [ptrTo (H.next + 1) 0]).alloc [.int .u8 72, .int .u8 66, .int .u8 49]) (H.next + 1) [] [(H.next + 1 + 1 + 1, M.map (Value.int .u8)), (H.next + 1 + 1, [ptrTo (H.next + 1) 0]), (H.next, c.cells)] := by
    refine ⟨none, .inl ⟨rfl, rfl, ?_⟩, fun p hp => ?_⟩
    · simp only [get_alloc, next_alloc]; rw [if_neg (by omega), if_neg (by omega)]; simp
    · simp only [List.mem_cons, List.not_mem_nil, or_false] at hp
      rcases hp with rfl | rfl | rfl
      · exact ⟨by rw [hM]; simp [get_alloc, next_alloc], by simp only; omega, by simp⟩
      · exact ⟨by simp [get_alloc, next_alloc], by simp only; omega, by simp⟩
      · exact ⟨by simp only [get_alloc, next_alloc]; rw [if_neg (by omega), if_neg (by omega), if_neg (by omega)]; simp [Config.cells], by simp only; omega, by simp⟩
  obtain ⟨wb, hwb⟩ : ∃ wb, wb = H.next + 1 := ⟨_, rfl⟩
  refine IBody.of Tryd.func12 rfl (by rw [Tryd.ntmps12]; simp) ?_
  rw [Tryd.ntmps12]
  have Kp : Kept [[1],[1,3]] := ⟨⟩
  iterate 2 (refine Kp.s ?_; clear Kp; intro Kp; simp [go_sem, -getElem?_pos, -List.map_take, -List.map_drop, IntWalk.iteOmega, IntWalk.toNatUp, Config.val, Config.cells])
  refine IWp.cut (fun e K => WrF K (H.next + 1) M [(H.next + 1 + 1, [ptrTo (H.next + 1) 0]), (H.next, c.cells)] ∧ e = [(1, ptrTo H.next 0), (3, ptrTo (H.next + 1 + 1) 0)]) ?_ ?_
  · skip
    refine IWp.one [1, 3, 11, 12, 13] ?_
    simp [go_sem, -getElem?_pos, -List.map_take, -List.map_drop, IntWalk.iteOmega, IntWalk.toNatUp]
    refine IWp.block ?_
    refine IWp.loop (fun j e K => ∃ i : Nat, j = 3 - i ∧ i ≤ 3 ∧ WrF K (H.next + 1) (M.take i) [(H.next + 1 + 1 + 1, M.map (Value.int .u8)), (H.next + 1 + 1, [ptrTo (H.next + 1) 0]), (H.next, c.cells)] ∧ e = [(1, ptrTo H.next 0), (3, ptrTo (H.next + 1 + 1) 0), (11, .slice (some ⟨H.next + 1 + 1 + 1, 0, some 1⟩) 3 1), (12, .int .i64 3), (13, .int .i64 (i : Int))]) 3 ⟨0, rfl, Nat.zero_le _, by simpa [ptrTo] using h0, by simp [go_sem]⟩ ?_
    clear h0
    rintro j e K ⟨i, rfl, hi, h, rfl⟩
    have hml : M.length = 3 := by rw [hM]; rfl
    generalize H.next + 1 + 1 + 1 = mb at h ⊢
    generalize H.next + 1 + 1 = xb at h ⊢
    have a1 := h.at_ (List.mem_cons_self ..)
    have a2 := h.at_ (List.mem_cons_of_mem _ (List.mem_cons_self ..))
    simp only at a1 a2
    by_cases hlt : i < 3
    · have g : M[i]? = some M[i] := by simp [hml, hlt]
      have w1 := IntWalk.i64_in ((i : Int) + 1) (by omega)
      have Kp : Kept [[1,3,11,12,13,14],[],[1,3,11,12,13],[1,3,5,11,12,13],[1,3,11,12,13]] := ⟨⟩
      iterate 5 (refine Kp.s ?_; clear Kp; intro Kp; simp [go_sem, -getElem?_pos, -List.map_take, -List.map_drop, IntWalk.iteOmega, IntWalk.toNatUp, a1, a2, hlt, g, hml, w1, show (i : Int) < 3 by omega])
      refine ICalls.mono (wfByte h M[i] (by rw [List.length_take]; omega)) ?_
      rintro v K1 ⟨rfl, h1⟩
      try simp [go_sem, -getElem?_pos, -List.map_take, -List.map_drop, IntWalk.iteOmega, IntWalk.toNatUp, a1, a2, hlt, g, hml, w1, show (i : Int) < 3 by omega]
      refine IWp.one [1, 3, 11, 12, 13] ?_
      simp [go_sem, -getElem?_pos, -List.map_take, -List.map_drop, IntWalk.iteOmega, IntWalk.toNatUp, a1, a2, hlt, g, hml, w1, show (i : Int) < 3 by omega]
      exact ⟨3 - (i + 1), by omega, i + 1, rfl, by omega, by rw [List.take_succ_eq_append_getElem (by omega)]; exact h1, rfl⟩
    · skip
      have Kp : Kept [[1,3,11,12,13,14],[],[1,3]] := ⟨⟩
      iterate 3 (refine Kp.s ?_; clear Kp; intro Kp; simp [go_sem, -getElem?_pos, -List.map_take, -List.map_drop, IntWalk.iteOmega, IntWalk.toNatUp, show ¬ (i : Int) < 3 by omega])
      rw [List.take_of_length_le (by omega)] at h
      exact h.less
  clear h0
  rintro e K ⟨h, rfl⟩
  generalize H.next + 1 + 1 = xb at h ⊢
  generalize H.next + 1 = wb at h ⊢
  generalize H.next = cb at h ⊢
  obtain ⟨A1, e1⟩ : ∃ A, A = M ++ [(c.sigs.length : Int) % 256] ++ c.sigs.flatMap sigB := ⟨_, rfl⟩
  obtain ⟨A2, e2⟩ : ∃ A, A = A1 ++ [(c.rules.length : Int) % 256] ++ c.rules.flatMap ruleY := ⟨_, rfl⟩
  obtain ⟨A3, e3⟩ : ∃ A, A = A2 ++ [(c.table.length : Int) % 256] ++ c.table.flatMap slotB := ⟨_, rfl⟩
  have full : cfgB c = A3 ++ [c.b0 % 256] ++ [c.b1 % 256] ++ [c.b2 % 256] ++ [c.drain % 256] ++ i4 c.pause ++ i4 c.off ++ [flagB c.brk] ++ i4 c.log := by rw [e3, e2, e1, hM]; simp [cfgB]
  have l3 : A3.length ≤ 700000 := by rw [full] at hl; simp only [List.length_append] at hl; omega
  have l2 : A2.length ≤ 700000 := by rw [e3] at l3; simp only [List.length_append] at l3; omega
  have l1 : A1.length ≤ 700000 := by rw [e2] at l2; simp only [List.length_append] at l2; omega
  have c1 := laySig (x := xb) c.sigs h (List.mem_cons_self ..) (by omega) (by rw [← e1]; exact l1)
  rw [← e1] at c1
  have a1 := h.at_ (List.mem_cons_self ..)
  have a2 := h.at_ (List.mem_cons_of_mem _ (List.mem_cons_self ..))
  simp only [Config.cells] at a1 a2
  refine IWp.one [1, 3] ?_
  simp [go_sem, -getElem?_pos, -List.map_take, -List.map_drop, IntWalk.iteOmega, IntWalk.toNatUp, a1, a2]
  refine ICalls.mono (c1) ?_
  rintro v K1 ⟨rfl, h1⟩
  try simp [go_sem, -getElem?_pos, -List.map_take, -List.map_drop, IntWalk.iteOmega, IntWalk.toNatUp, a1, a2]
  refine IWp.seq ?_
  clear h c1 a1 a2
  have c1 := layRule (x := xb) c.rules h1 (List.mem_cons_self ..) hw.2.1.1 (by omega) (by rw [← e2]; exact l2)
  rw [← e2] at c1
  have a1 := h1.at_ (List.mem_cons_self ..)
  have a2 := h1.at_ (List.mem_cons_of_mem _ (List.mem_cons_self ..))
  simp only [Config.cells] at a1 a2
  refine IWp.one [1, 3] ?_
  simp [go_sem, -getElem?_pos, -List.map_take, -List.map_drop, IntWalk.iteOmega, IntWalk.toNatUp, a1, a2]
  refine ICalls.mono (c1) ?_
  rintro v K2 ⟨rfl, h2⟩
  try simp [go_sem, -getElem?_pos, -List.map_take, -List.map_drop, IntWalk.iteOmega, IntWalk.toNatUp, a1, a2]
  refine IWp.seq ?_
  clear h1 c1 a1 a2
  have c1 := laySlot (x := xb) c.table h2 (List.mem_cons_self ..) (fun y hy => by have := (hw.2.2.1.1 y hy).2; simp only [maxLen] at this; omega) (by omega) (by rw [← e3]; exact l3)
  rw [← e3] at c1
  have a1 := h2.at_ (List.mem_cons_self ..)
  have a2 := h2.at_ (List.mem_cons_of_mem _ (List.mem_cons_self ..))
  simp only [Config.cells] at a1 a2
  refine IWp.one [1, 3] ?_
  simp [go_sem, -getElem?_pos, -List.map_take, -List.map_drop, IntWalk.iteOmega, IntWalk.toNatUp, a1, a2]
  refine ICalls.mono (c1) ?_
  rintro v K3 ⟨rfl, h3⟩
  try simp [go_sem, -getElem?_pos, -List.map_take, -List.map_drop, IntWalk.iteOmega, IntWalk.toNatUp, a1, a2]
  clear h2 c1 a1 a2
  have a1 := h3.at_ (List.mem_cons_self ..)
  have a2 := h3.at_ (List.mem_cons_of_mem _ (List.mem_cons_self ..))
  simp only [Config.cells] at a1 a2
  obtain ⟨BA, hBA⟩ : ∃ BA : List Int, BA = [c.b0 % 256, c.b1 % 256, c.b2 % 256] := ⟨_, rfl⟩
  have full : cfgB c = A3 ++ BA ++ [c.drain % 256] ++ i4 c.pause ++ i4 c.off ++ [if c.brk = true then 1 else 0] ++ i4 c.log := by rw [full, hBA]; simp [flagB]
  have hbl : BA.length = 3 := by rw [hBA]; rfl
  refine IWp.cut (fun e K => WrF K wb (A3 ++ BA) [(xb, [ptrTo wb 0]), (cb, c.cells)] ∧ e = [(1, ptrTo cb 0), (3, ptrTo xb 0)]) ?_ ?_
  · skip
    refine IWp.one [1, 3, 37, 38] ?_
    simp [go_sem, -getElem?_pos, -List.map_take, -List.map_drop, IntWalk.iteOmega, IntWalk.toNatUp, a1, a2]
    refine IWp.block ?_
    refine IWp.loop (fun j e K => ∃ i : Nat, j = 3 - i ∧ i ≤ 3 ∧ WrF K wb (A3 ++ BA.take i) [(xb, [ptrTo wb 0]), (cb, c.cells)] ∧ e = [(1, ptrTo cb 0), (3, ptrTo xb 0), (37, .agg ⟨[.int .i64 c.b0, .int .i64 c.b1, .int .i64 c.b2]⟩), (38, .int .i64 (i : Int))]) 3 ⟨0, rfl, Nat.zero_le _, by simpa using h3, by simp [go_sem]⟩ ?_
    clear h3 a1 a2
    rintro j e K ⟨i, rfl, hi, h, rfl⟩
    have a1 := h.at_ (List.mem_cons_self ..)
    simp only at a1
    by_cases hlt : i < 3
    · have hli : (A3 ++ BA.take i).length ≤ 900000 := by rw [List.length_append, List.length_take]; omega
      have h012 : i = 0 ∨ i = 1 ∨ i = 2 := by omega
      rcases h012 with rfl | rfl | rfl
      · skip
        have Kp : Kept [[1,3,37,38,39],[],[1,3,37,38],[1,3,7,37,38],[1,3,37,38]] := ⟨⟩
        iterate 5 (refine Kp.s ?_; clear Kp; intro Kp; simp [go_sem, -getElem?_pos, -List.map_take, -List.map_drop, IntWalk.iteOmega, IntWalk.toNatUp, a1, u8_mod, show IntKind.i64.wrap 1 = 1 from IntWalk.i64_in _ (by omega)])
        refine ICalls.mono (wfByte h _ hli) ?_
        rintro v K1 ⟨rfl, h1⟩
        try simp [go_sem, -getElem?_pos, -List.map_take, -List.map_drop, IntWalk.iteOmega, IntWalk.toNatUp, a1, u8_mod, show IntKind.i64.wrap 1 = 1 from IntWalk.i64_in _ (by omega)]
        refine IWp.one [1, 3, 37, 38] ?_
        simp [go_sem, -getElem?_pos, -List.map_take, -List.map_drop, IntWalk.iteOmega, IntWalk.toNatUp, a1, u8_mod, show IntKind.i64.wrap 1 = 1 from IntWalk.i64_in _ (by omega)]
        exact ⟨2, by omega, 1, rfl, by omega, by rw [hBA] at h1 ⊢; simpa [ptrTo] using h1, rfl⟩
      · skip
        have Kp : Kept [[1,3,37,38,39],[],[1,3,37,38],[1,3,7,37,38],[1,3,37,38]] := ⟨⟩
        iterate 5 (refine Kp.s ?_; clear Kp; intro Kp; simp [go_sem, -getElem?_pos, -List.map_take, -List.map_drop, IntWalk.iteOmega, IntWalk.toNatUp, a1, u8_mod, show IntKind.i64.wrap 2 = 2 from IntWalk.i64_in _ (by omega)])
        refine ICalls.mono (wfByte h _ hli) ?_
        rintro v K1 ⟨rfl, h1⟩
        try simp [go_sem, -getElem?_pos, -List.map_take, -List.map_drop, IntWalk.iteOmega, IntWalk.toNatUp, a1, u8_mod, show IntKind.i64.wrap 2 = 2 from IntWalk.i64_in _ (by omega)]
        refine IWp.one [1, 3, 37, 38] ?_
        simp [go_sem, -getElem?_pos, -List.map_take, -List.map_drop, IntWalk.iteOmega, IntWalk.toNatUp, a1, u8_mod, show IntKind.i64.wrap 2 = 2 from IntWalk.i64_in _ (by omega)]
        exact ⟨1, by omega, 2, rfl, by omega, by rw [hBA] at h1 ⊢; simpa [ptrTo] using h1, rfl⟩
      · skip
        have Kp : Kept [[1,3,37,38,39],[],[1,3,37,38],[1,3,7,37,38],[1,3,37,38]] := ⟨⟩
        iterate 5 (refine Kp.s ?_; clear Kp; intro Kp; simp [go_sem, -getElem?_pos, -List.map_take, -List.map_drop, IntWalk.iteOmega, IntWalk.toNatUp, a1, u8_mod, show IntKind.i64.wrap 3 = 3 from IntWalk.i64_in _ (by omega)])
        refine ICalls.mono (wfByte h _ hli) ?_
        rintro v K1 ⟨rfl, h1⟩
        try simp [go_sem, -getElem?_pos, -List.map_take, -List.map_drop, IntWalk.iteOmega, IntWalk.toNatUp, a1, u8_mod, show IntKind.i64.wrap 3 = 3 from IntWalk.i64_in _ (by omega)]
        refine IWp.one [1, 3, 37, 38] ?_
        simp [go_sem, -getElem?_pos, -List.map_take, -List.map_drop, IntWalk.iteOmega, IntWalk.toNatUp, a1, u8_mod, show IntKind.i64.wrap 3 = 3 from IntWalk.i64_in _ (by omega)]
        exact ⟨3, by omega, by omega, by rw [hBA] at h1 ⊢; simpa [ptrTo] using h1, rfl⟩
    · skip
      have Kp : Kept [[1,3,37,38,39],[],[1,3]] := ⟨⟩
      iterate 3 (refine Kp.s ?_; clear Kp; intro Kp; simp [go_sem, -getElem?_pos, -List.map_take, -List.map_drop, IntWalk.iteOmega, IntWalk.toNatUp, show ¬ (i : Int) < 3 by omega])
      rw [List.take_of_length_le (by omega)] at h
      exact h
  clear h3 a1 a2
  rintro e K ⟨h, rfl⟩
  have a1 := h.at_ (List.mem_cons_self ..)
  have a2 := h.at_ (List.mem_cons_of_mem _ (List.mem_cons_self ..))
  simp only [Config.cells] at a1 a2
  have l4 : (A3 ++ BA).length ≤ 700003 := by rw [List.length_append]; omega
  refine IWp.seq ?_
  refine IWp.draw [3] [xb, cb] (.ld 0 [4, 7, 10, 13, 16] (.val 1 (.ld 2 [3, 4, 7, 10, 13, 16] (.val 3 (.val 5 (.val 8 (.val 11 (.val 14 (.val 6 (.val 9 (.val 12 (.val 15 (.eff 4 (.eff 7 (.eff 10 (.eff 13 (.eff 16 .done .done) .done) .done) .done) .done))))))))))))) follows (by kernel_rfl) ?_
  simp [go_sem, -getElem?_pos, -List.map_take, -List.map_drop, IntWalk.iteOmega, IntWalk.toNatUp, a1, a2, u8_mod, Config.cells]
  refine ICalls.mono (wfByte h (c.drain % 256) (by omega)) ?_
  rintro v K4 ⟨rfl, h4⟩
  try simp [go_sem, -getElem?_pos, -List.map_take, -List.map_drop, IntWalk.iteOmega, IntWalk.toNatUp, a1, a2, u8_mod, Config.cells, h4.at_ (List.mem_cons_self ..), h4.at_ (List.mem_cons_of_mem _ (List.mem_cons_self ..))]
  refine ICalls.mono (wfInt h4 c.pause (by simp [i4]; omega)) ?_
  rintro v K5 ⟨rfl, h5⟩
  try simp [go_sem, -getElem?_pos, -List.map_take, -List.map_drop, IntWalk.iteOmega, IntWalk.toNatUp, a1, a2, u8_mod, Config.cells, h4.at_ (List.mem_cons_self ..), h4.at_ (List.mem_cons_of_mem _ (List.mem_cons_self ..)), h5.at_ (List.mem_cons_self ..), h5.at_ (List.mem_cons_of_mem _ (List.mem_cons_self ..))]
  refine ICalls.mono (wfInt h5 c.off (by simp [i4]; omega)) ?_
  rintro v K6 ⟨rfl, h6⟩
  try simp [go_sem, -getElem?_pos, -List.map_take, -List.map_drop, IntWalk.iteOmega, IntWalk.toNatUp, a1, a2, u8_mod, Config.cells, h4.at_ (List.mem_cons_self ..), h4.at_ (List.mem_cons_of_mem _ (List.mem_cons_self ..)), h5.at_ (List.mem_cons_self ..), h5.at_ (List.mem_cons_of_mem _ (List.mem_cons_self ..)), h6.at_ (List.mem_cons_self ..), h6.at_ (List.mem_cons_of_mem _ (List.mem_cons_self ..))]
  refine ICalls.mono (wfFlag h6 c.brk (by simp [i4]; omega)) ?_
  rintro v K7 ⟨rfl, h7⟩
  try simp [go_sem, -getElem?_pos, -List.map_take, -List.map_drop, IntWalk.iteOmega, IntWalk.toNatUp, a1, a2, u8_mod, Config.cells, h4.at_ (List.mem_cons_self ..), h4.at_ (List.mem_cons_of_mem _ (List.mem_cons_self ..)), h5.at_ (List.mem_cons_self ..), h5.at_ (List.mem_cons_of_mem _ (List.mem_cons_self ..)), h6.at_ (List.mem_cons_self ..), h6.at_ (List.mem_cons_of_mem _ (List.mem_cons_self ..)), h7.at_ (List.mem_cons_self ..), h7.at_ (List.mem_cons_of_mem _ (List.mem_cons_self ..))]
  refine ICalls.mono (wfInt h7 c.log (by simp [i4]; omega)) ?_
  rintro v K8 ⟨rfl, h8⟩
  try simp [go_sem, -getElem?_pos, -List.map_take, -List.map_drop, IntWalk.iteOmega, IntWalk.toNatUp, a1, a2, u8_mod, Config.cells, h4.at_ (List.mem_cons_self ..), h4.at_ (List.mem_cons_of_mem _ (List.mem_cons_self ..)), h5.at_ (List.mem_cons_self ..), h5.at_ (List.mem_cons_of_mem _ (List.mem_cons_self ..)), h6.at_ (List.mem_cons_self ..), h6.at_ (List.mem_cons_of_mem _ (List.mem_cons_self ..)), h7.at_ (List.mem_cons_self ..), h7.at_ (List.mem_cons_of_mem _ (List.mem_cons_self ..)), h8.at_ (List.mem_cons_self ..), h8.at_ (List.mem_cons_of_mem _ (List.mem_cons_self ..))]
  refine IWp.seq ?_
  have e8 : A3 ++ BA ++ [c.drain % 256] ++ i4 c.pause ++ i4 c.off ++ [if c.brk = true then 1 else 0] ++ i4 c.log = cfgB c := full.symm
  rw [e8] at h8
  have hv : WrV K8 wb (cfgB c) := by
    obtain ⟨r, hr, _⟩ := h8
    exact hr.wrv
  refine IWp.one [2] ?_
  simp [go_sem, -getElem?_pos, -List.map_take, -List.map_drop, IntWalk.iteOmega, IntWalk.toNatUp, h8.at_ (List.mem_cons_self ..)]
  refine ICalls.then (wBytes K8 wb (cfgB c) hv (by omega)) ?_
  try simp [go_sem, -getElem?_pos, -List.map_take, -List.map_drop, IntWalk.iteOmega, IntWalk.toNatUp, h8.at_ (List.mem_cons_self ..)]
  refine ICalls.then (close _ 0 (cfgB c) (by omega) (cfgB_bs hw)) ?_
  try simp [go_sem, -getElem?_pos, -List.map_take, -List.map_drop, IntWalk.iteOmega, IntWalk.toNatUp, h8.at_ (List.mem_cons_self ..)]
  refine IWp.one [] ?_
  simp [go_sem, -getElem?_pos, -List.map_take, -List.map_drop, IntWalk.iteOmega, IntWalk.toNatUp, h8.at_ (List.mem_cons_self ..)]
end Go.Proofs.YtoecebibhcadoaaDoor.I
