/- A draft's configuration whose signals and rules are own rows. Of images: any numbers of a configuration that an image can tell. No condition. -/
import Derived.Test.YtoecebibhcadoaaDoorZA
import Derived.Test.YtoecebibhcadoaaDoorZD
namespace Go.Proofs.YtoecebibhcadoaaDoor.I
open Go Go.RowKit
set_option linter.unusedVariables false
set_option linter.unusedSimpArgs false
def confRo (sv rv : Value) : List Value := [sv, rv, .slice none 0 0, .int .i64 0, .int .i64 0, .int .i64 0, .int .i64 0, .int .i64 0, .int .i64 0, .bool false, .int .i64 0]
def confTo (sv rv tv : Value) : List Value := [sv, rv, tv, .int .i64 0, .int .i64 0, .int .i64 0, .int .i64 0, .int .i64 0, .int .i64 0, .bool false, .int .i64 0]
def confO (sb rb : Nat) (c : Config) : List Value := [.slice (some ⟨sb, 0, some 2⟩) c.sigs.length 1, .slice (some ⟨rb, 0, some 9⟩) c.rules.length 1, frow 1 0 (c.table.map (ints .i64)), .int .i64 c.b0, .int .i64 c.b1, .int .i64 c.b2, .int .i64 c.drain, .int .i64 c.pause, .int .i64 c.off, .bool c.brk, .int .i64 c.log]
def MadeO (H : Heap) (d : Draft) (v : Value) (H' : Heap) : Prop := ∃ sb rb, H.next ≤ sb ∧ H.next ≤ rb ∧ sb ≠ rb ∧ v = .agg ⟨confO sb rb (makeS d)⟩ ∧ H'.get sb = some ⟨sigsS.flatMap Sig.cells, true⟩ ∧ H'.get rb = some ⟨((rulesS d).map Rule.val).flatMap (fun u => u.cells.toList), true⟩ ∧ Old H H'
set_option maxRecDepth 20000 in
set_option maxHeartbeats 4000000 in
theorem makeO (H : Heap) (d : Draft) (hw : d.wf) :
    ICalls Tryd.prog 11 [d.val] H (MadeO H d) := by
  refine IBody.calls (by kernel_rfl) ?_
  have hH0 : ∀ b, b < H.next → b < H.next := fun _ h => h
  have w1 := IntWalk.i64_in (-100) (by omega)
  have hRl := rulesS_len d
  refine IBody.of Tryd.func11 rfl (by rw [Tryd.ntmps11]; simp) ?_
  rw [Tryd.ntmps11]
  have Kp : Kept [[1,2],[1,2,3]] := ⟨⟩
  iterate 2 (refine Kp.s ?_; clear Kp; intro Kp; simp [go_sem, -getElem?_pos, -List.map_take, -List.map_drop, IntWalk.iteOmega, IntWalk.toNatUp, Draft.val, Draft.cells])
  obtain ⟨H4, hH4⟩ : ∃ H4, H4 = (((H.alloc d.cells).alloc confZ).alloc (sigsS.flatMap Sig.cells)).alloc (.slice (some ⟨H.next + 1 + 1, 0, some 2⟩) 3 1 :: (confR (.slice none 0 0)).tail) := ⟨_, rfl⟩
  have hn4 : H4.next = H.next + 4 := by rw [hH4]; rfl
  have g1 : H4.get H.next = some ⟨d.cells, true⟩ := by rw [hH4]; simp [get_alloc, next_alloc, show ∀ n : Nat, ¬ n = n + 1 + 1 + 1 by omega, show ∀ n : Nat, ¬ n = n + 1 + 1 by omega]
  have g2 : H4.get (H.next + 1) = some ⟨confZ, true⟩ := by rw [hH4]; simp [get_alloc, next_alloc]
  have gs : H4.get (H.next + 1 + 1) = some ⟨sigsS.flatMap Sig.cells, true⟩ := by rw [hH4]; simp [get_alloc, next_alloc]
  have g3 : H4.get (H.next + 1 + 1 + 1) = some ⟨.slice (some ⟨H.next + 1 + 1, 0, some 2⟩) 3 1 :: (confR (.slice none 0 0)).tail, true⟩ := by rw [hH4]; simp [get_alloc, next_alloc]
  simp only [sigsS, Sig.cells, List.flatMap_cons, List.flatMap_nil, List.cons_append, List.nil_append, confZ, confR, List.tail_cons, Draft.cells] at hH4
  have hold : ∀ b, b < H.next → H4.get b = H.get b := fun b hb => by rw [hH4]; simp [get_alloc, next_alloc, show ¬ b = H.next by omega, show ¬ b = H.next + 1 by omega, show ¬ b = H.next + 1 + 1 by omega, show ¬ b = H.next + 1 + 1 + 1 by omega]
  rw [← hH4]
  clear hH4
  generalize hb1 : H.next = b1 at *
  generalize hb2 : b1 + 1 = b2 at *
  generalize hbs : b2 + 1 = bs at *
  generalize hb3 : bs + 1 = b3 at *
  obtain ⟨K0, hK0⟩ : ∃ K0, K0 = H4 := ⟨_, rfl⟩
  rw [← hK0]
  have k1 : K0.get b1 = some ⟨d.cells, true⟩ := by rw [hK0]; exact g1
  have k3 : K0.get b3 = some ⟨confRo (.slice (some ⟨bs, 0, some 2⟩) 3 1) (.slice none 0 0), true⟩ := by rw [hK0]; exact g3
  have z2 : K0.get b2 = some ⟨confZ, true⟩ := by rw [hK0]; exact g2
  have zs : K0.get bs = some ⟨sigsS.flatMap Sig.cells, true⟩ := by rw [hK0]; exact gs
  have zo : ∀ b, b < b1 → K0.get b = H.get b := by rw [hK0]; exact hold
  obtain ⟨P, hP⟩ : ∃ P : Heap → Prop, P = fun K => ∀ b, b < b3 → K.get b = K0.get b := ⟨_, rfl⟩
  have hPt : ∀ {K K' : Heap}, P K → (∀ b, b < b3 → K'.get b = K.get b) → P K' := fun {K K'} h h2 => by rw [hP] at h ⊢; exact fun b hb => (h2 b hb).trans (h b hb)
  have k2 : P K0 := by rw [hP]; exact fun b _ => rfl
  have hb3n : b3 < K0.next := Heap.lt_of_get k3
  have hnb : H4.next = b3 + 1 := by omega
  clear g1 g2 g3 gs hn4 hold
  try clear hK0
  obtain ⟨M, hM⟩ : ∃ M, M = (rulesS d).length := ⟨_, rfl⟩
  rw [← hM] at hRl
  have hM8 : M ≤ 8 := by split at hRl <;> omega
  refine IWp.cut (fun e K => ∃ rv, K.get b1 = some ⟨d.cells, true⟩ ∧ P K ∧ K.get b3 = some ⟨confRo (.slice (some ⟨bs, 0, some 2⟩) 3 1) rv, true⟩ ∧ Bld 9 K K0.next rv ((rulesS d).map Rule.val) ∧ K0.next ≤ K.next ∧ e = [(1, ptrTo b1 0), (2, ptrTo b2 0), (3, ptrTo b3 0)]) ?_ ?_
  · skip
    refine IWp.one [1, 2, 3, 4] ?_
    simp [go_sem, -getElem?_pos, -List.map_take, -List.map_drop, IntWalk.iteOmega, IntWalk.toNatUp]
    refine IWp.block ?_
    refine IWp.loop (fun j e K => ∃ (i : Nat) (rv : Value), j = M - i ∧ i ≤ M ∧ K.get b1 = some ⟨d.cells, true⟩ ∧ P K ∧ K.get b3 = some ⟨confRo (.slice (some ⟨bs, 0, some 2⟩) 3 1) rv, true⟩ ∧ Bld 9 K K0.next rv (((rulesS d).take i).map Rule.val) ∧ K0.next ≤ K.next ∧ e = [(1, ptrTo b1 0), (2, ptrTo b2 0), (3, ptrTo b3 0), (4, .int .i64 (i : Int))]) M ⟨0, .slice none 0 0, rfl, Nat.zero_le _, k1, k2, k3, Bld.nil _ _ _, Nat.le_refl _, by simp [go_sem]⟩ ?_
    clear k1 k2 k3
    rintro j e K ⟨i, rv, rfl, hi, k1, k2, k3, hv, hn, rfl⟩
    have k1' := k1
    simp only [Draft.cells] at k1'
    have w4 := IntWalk.i64_in ((i : Int) + 1) (by split at hRl <;> omega)
    refine IWp.cut (fun e' H' => i < M ∧ H' = K ∧ e' = [(1, ptrTo b1 0), (2, ptrTo b2 0), (3, ptrTo b3 0), (4, .int .i64 (i : Int))]) ?_ ?_
    · skip
      by_cases hA : i < d.rules.length
      · have hne : ¬ d.rules = [] := fun e => by rw [e] at hA; simp at hA
        rw [if_neg hne] at hRl
        by_cases h8 : i < 8
        · skip
          have Kp : Kept [[1,2,3,4,35],[],[1,2,3,4]] := ⟨⟩
          iterate 3 (refine Kp.s ?_; clear Kp; intro Kp; simp [go_sem, -getElem?_pos, -List.map_take, -List.map_drop, IntWalk.iteOmega, IntWalk.toNatUp, k1', hA, h8, show (i : Int) < 8 by omega])
          omega
        · skip
          have Kp : Kept [[1,2,3,4,35],[],[1,2,3]] := ⟨⟩
          iterate 3 (refine Kp.s ?_; clear Kp; intro Kp; simp [go_sem, -getElem?_pos, -List.map_take, -List.map_drop, IntWalk.iteOmega, IntWalk.toNatUp, k1', hA, h8, show ¬ (i : Int) < 8 by omega, show ¬ (i : Int) = 0 by omega, show ¬ i = 0 by omega])
          have hMi : M ≤ i := by first | omega | (split at hRl <;> omega)
          have ht : (rulesS d).take i = rulesS d := List.take_of_length_le (by omega)
          rw [ht] at hv
          exact ⟨rfl, k2, rv, k3, hv, hn⟩
      · by_cases h0 : i = 0
        · subst h0
          have hne : d.rules = [] := List.length_eq_zero_iff.1 (by omega)
          rw [if_pos hne] at hRl
          have Kp : Kept [[1,2,3,4,35],[],[1,2,3,4]] := ⟨⟩
          iterate 3 (refine Kp.s ?_; clear Kp; intro Kp; simp [go_sem, -getElem?_pos, -List.map_take, -List.map_drop, IntWalk.iteOmega, IntWalk.toNatUp, k1', hA, hne])
          omega
        · skip
          have Kp : Kept [[1,2,3,4,35],[],[1,2,3]] := ⟨⟩
          iterate 3 (refine Kp.s ?_; clear Kp; intro Kp; simp [go_sem, -getElem?_pos, -List.map_take, -List.map_drop, IntWalk.iteOmega, IntWalk.toNatUp, k1', hA, h0])
          have hMi : M ≤ i := by first | omega | (split at hRl <;> omega)
          have ht : (rulesS d).take i = rulesS d := List.take_of_length_le (by omega)
          rw [ht] at hv
          exact ⟨rfl, k2, rv, k3, hv, hn⟩
    rintro e' H' ⟨hlt, rfl, rfl⟩
    have hx : ∃ x : Line, lineAt d i = x ∧ x.wf := ⟨_, rfl, by
      unfold lineAt
      rw [List.getD_eq_getElem?_getD]
      by_cases h : i < d.rules.length
      · rw [List.getElem?_eq_getElem h]; exact hw.1.1 _ (List.getElem_mem h)
      · rw [List.getElem?_eq_none (by omega)]; simp [lineZ, Line.wf]⟩
    obtain ⟨x, hxe, hxw⟩ := hx
    have hxs := rulesS_at d i (by omega)
    rw [hxe] at hxs
    refine IWp.one [1, 2, 3, 4, 5] ?_
    simp [go_sem, -getElem?_pos, -List.map_take, -List.map_drop, IntWalk.iteOmega, IntWalk.toNatUp]
    generalize hb5 : H'.next = b5 at *
    refine IWp.cut (fun e' H2 => ∃ st, Frz H2 (fun _ => false) st (byts x.stages) ∧ H2 = H'.alloc [.int .u8 x.kind, .int .u8 x.sg, .int .u8 x.lim, .int .u8 x.back, .int .u8 x.delay, .int .u8 x.span, .int .u8 x.prio, .bool x.latch, st] ∧ e' = [(1, ptrTo b1 0), (2, ptrTo b2 0), (3, ptrTo b3 0), (4, .int .i64 (i : Int)), (5, ptrTo b5 0)]) ?_ ?_
    · skip
      have hb1n := Heap.lt_of_get k1
      have hb15 : b1 ≠ b5 := by omega
      by_cases hA : i < d.rules.length
      · have g : (d.rules.map Line.val)[i]? = some x.val := by
          rw [List.getElem?_map, List.getElem?_eq_getElem hA]
          have : d.rules[i] = x := by rw [← hxe]; unfold lineAt; simp [List.getD_eq_getElem?_getD, hA]
          rw [this]; rfl
        have Kp : Kept [[1,2,3,4,5,42],[],[1,2,3,4,5]] := ⟨⟩
        iterate 3 (refine Kp.s ?_; clear Kp; intro Kp; simp [go_sem, -getElem?_pos, -List.map_take, -List.map_drop, IntWalk.iteOmega, IntWalk.toNatUp, k1', hA, g, Line.val, Line.cells, get_alloc, hb15, hb5])
        exact ⟨_, .same _, rfl⟩
      · have hxz : x = lineZ := by rw [← hxe]; unfold lineAt; rw [List.getD_eq_getElem?_getD, List.getElem?_eq_none (by omega)]; rfl
        subst hxz
        have Kp : Kept [[1,2,3,4,5,42],[],[1,2,3,4,5]] := ⟨⟩
        iterate 3 (refine Kp.s ?_; clear Kp; intro Kp; simp [go_sem, -getElem?_pos, -List.map_take, -List.map_drop, IntWalk.iteOmega, IntWalk.toNatUp, k1', hA, get_alloc, hb15, hb5])
        exact ⟨_, .nil 1, rfl⟩
    rintro e' H2 ⟨st, hst, hH2, rfl⟩
    have g5 : H2.get b5 = some ⟨[.int .u8 x.kind, .int .u8 x.sg, .int .u8 x.lim, .int .u8 x.back, .int .u8 x.delay, .int .u8 x.span, .int .u8 x.prio, .bool x.latch, st], true⟩ := by rw [hH2, ← hb5]; exact Heap.get_alloc_new _ _
    have go : ∀ j, j < b5 → H2.get j = H'.get j := fun j hj => by rw [hH2]; exact Heap.get_alloc_lt _ _ _ (by omega)
    have hn2 : H2.next = b5 + 1 := by rw [hH2, next_alloc, hb5]
    clear hH2
    obtain ⟨K5, hf5, h5, ho5, hn5⟩ := FrzH.one (S := fun _ => false) (b := b5) (cs' := x.cells) rfl g5 (by
      unfold Line.cells
      exact .cons (.same _) (.cons (.same _) (.cons (.same _) (.cons (.same _) (.cons (.same _) (.cons (.same _) (.cons (.same _) (.cons (.same _) (.cons hst .nil)))))))))
    have hb3K := Heap.lt_of_get k3
    have q1 : K5.get b1 = some ⟨d.cells, true⟩ := by rw [ho5 b1 (by omega) rfl, go b1 (by omega)]; exact k1
    have q2 : P K5 := hPt k2 fun b hb => by rw [ho5 b (by omega) rfl, go b (by omega)]
    have q3 : K5.get b3 = some ⟨confRo (.slice (some ⟨bs, 0, some 2⟩) 3 1) rv, true⟩ := by rw [ho5 b3 (by omega) rfl, go b3 (by omega)]; exact k3
    have qv : Bld 9 K5 K0.next rv (((rulesS d).take i).map Rule.val) := hv.same fun j k hj hk => by rw [ho5 j (by have := Heap.lt_of_get hk; omega) rfl, go j (by have := Heap.lt_of_get hk; omega)]; exact hk
    refine IWp.freezeH K5 _ (.cons (.same _) (.cons (.same _) (.cons (.same _) (.cons (.same _) (.cons (.same _) .nil))))) hf5 ?_
    clear hf5 ho5 go g5 hst hv k1 k2 k3 k1' hxe
    rw [hn2] at hn5
    have hnK : K0.next ≤ b5 := by omega
    clear hn hn2 hb5 hb3K H2 st
    obtain ⟨kind, sg, lim, back, delay, span, prio, latch, stages⟩ := x
    obtain ⟨x1, x2, x3, x4, x5, x6, x7, x8, x9⟩ := hxw
    simp only at x1 x2 x3 x4 x5 x6 x7 x8 x9
    simp only [Line.cells] at h5
    refine IWp.one [1, 2, 3, 4, 5, 6] ?_
    simp (disch := omega) [go_sem, -getElem?_pos, -List.map_take, -List.map_drop, IntWalk.iteOmega, IntWalk.toNatUp, IntWalk.i64_in, IntWalk.u8_in, IntWalk.i64_quo, IntWalk.u8_quo, IntWalk.rem_in, h5]
    obtain ⟨R, hR0⟩ : ∃ R, R = ruleS ⟨kind, sg, lim, back, delay, span, prio, latch, stages⟩ := ⟨_, rfl⟩
    refine IWp.cut (fun e' H2 => H2 = K5.alloc [.int .u8 (kind % 6 + 1), .int .i64 (sg % 3), .int .i64 R.lim, .int .i64 R.back, .int .i64 (delay % 8), .int .i64 R.span, .int .u8 (prio % 3 + 1), .bool latch, .slice none 0 0] ∧ e' = [(1, ptrTo b1 0), (2, ptrTo b2 0), (3, ptrTo b3 0), (4, .int .i64 (i : Int)), (5, ptrTo b5 0), (6, ptrTo K5.next 0)]) ?_ ?_
    · skip
      have hk6 : kind % 6 = 0 ∨ kind % 6 = 1 ∨ kind % 6 = 2 ∨ kind % 6 = 3 ∨ kind % 6 = 4 ∨ kind % 6 = 5 := by omega
      subst hR0
      rcases hk6 with hk | hk | hk | hk | hk | hk
      · have hR := ruleS_0 ⟨kind, sg, lim, back, delay, span, prio, latch, stages⟩ hk
        obtain ⟨r1, r2, r3⟩ := hR
        try simp only at r1 r2 r3
        rw [r1, r2, r3]
        clear r1 r2 r3
        have Kp : Kept [[1,2,3,4,5,6,68],[1,2,3,4,5,6,68,69],[],[1,2,3,4,5,6],[1,2,3,4,5,6]] := ⟨⟩
        iterate 5 (refine Kp.s ?_; clear Kp; intro Kp; simp (disch := omega) [go_sem, -getElem?_pos, -List.map_take, -List.map_drop, IntWalk.iteOmega, IntWalk.toNatUp, IntWalk.i64_in, IntWalk.u8_in, IntWalk.i64_quo, IntWalk.u8_quo, IntWalk.rem_in, hk, h5])
      · have hR := ruleS_1 ⟨kind, sg, lim, back, delay, span, prio, latch, stages⟩ hk
        obtain ⟨r1, r2, r3⟩ := hR
        try simp only at r1 r2 r3
        rw [r1, r2, r3]
        clear r1 r2 r3
        have Kp : Kept [[1,2,3,4,5,6,68],[1,2,3,4,5,6,68,69],[],[1,2,3,4,5,6,68,83],[],[1,2,3,4,5,6],[1,2,3,4,5,6]] := ⟨⟩
        iterate 7 (refine Kp.s ?_; clear Kp; intro Kp; simp (disch := omega) [go_sem, -getElem?_pos, -List.map_take, -List.map_drop, IntWalk.iteOmega, IntWalk.toNatUp, IntWalk.i64_in, IntWalk.u8_in, IntWalk.i64_quo, IntWalk.u8_quo, IntWalk.rem_in, hk, h5])
      · have hR := ruleS_2 ⟨kind, sg, lim, back, delay, span, prio, latch, stages⟩ hk
        obtain ⟨r1, r2, r3⟩ := hR
        try simp only at r1 r2 r3
        rw [r1, r2, r3]
        clear r1 r2 r3
        have Kp : Kept [[1,2,3,4,5,6,68],[1,2,3,4,5,6,68,69],[],[1,2,3,4,5,6,68,83],[],[1,2,3,4,5,6,68,97],[],[1,2,3,4,5,6,68,97],[],[1,2,3,4,5,6],[1,2,3,4,5,6],[1,2,3,4,5,6]] := ⟨⟩
        iterate 12 (refine Kp.s ?_; clear Kp; intro Kp; simp (disch := omega) [go_sem, -getElem?_pos, -List.map_take, -List.map_drop, IntWalk.iteOmega, IntWalk.toNatUp, IntWalk.i64_in, IntWalk.u8_in, IntWalk.i64_quo, IntWalk.u8_quo, IntWalk.rem_in, hk, h5])
      · have hR := ruleS_3 ⟨kind, sg, lim, back, delay, span, prio, latch, stages⟩ hk
        obtain ⟨r1, r2, r3⟩ := hR
        try simp only at r1 r2 r3
        rw [r1, r2, r3]
        clear r1 r2 r3
        have Kp : Kept [[1,2,3,4,5,6,68],[1,2,3,4,5,6,68,69],[],[1,2,3,4,5,6,68,83],[],[1,2,3,4,5,6,68,97],[],[1,2,3,4,5,6,68,97],[],[1,2,3,4,5,6],[1,2,3,4,5,6],[1,2,3,4,5,6]] := ⟨⟩
        iterate 12 (refine Kp.s ?_; clear Kp; intro Kp; simp (disch := omega) [go_sem, -getElem?_pos, -List.map_take, -List.map_drop, IntWalk.iteOmega, IntWalk.toNatUp, IntWalk.i64_in, IntWalk.u8_in, IntWalk.i64_quo, IntWalk.u8_quo, IntWalk.rem_in, hk, h5])
      · have hR := ruleS_4 ⟨kind, sg, lim, back, delay, span, prio, latch, stages⟩ hk
        obtain ⟨r1, r2, r3⟩ := hR
        try simp only at r1 r2 r3
        rw [r1, r2, r3]
        clear r1 r2 r3
        have Kp : Kept [[1,2,3,4,5,6,68],[1,2,3,4,5,6,68,69],[],[1,2,3,4,5,6,68,83],[],[1,2,3,4,5,6,68,97],[],[1,2,3,4,5,6,68,97],[],[1,2,3,4,5,6,120],[],[1,2,3,4,5,6]] := ⟨⟩
        iterate 12 (refine Kp.s ?_; clear Kp; intro Kp; simp (disch := omega) [go_sem, -getElem?_pos, -List.map_take, -List.map_drop, IntWalk.iteOmega, IntWalk.toNatUp, IntWalk.i64_in, IntWalk.u8_in, IntWalk.i64_quo, IntWalk.u8_quo, IntWalk.rem_in, hk, h5])
      · have hR := ruleS_5 ⟨kind, sg, lim, back, delay, span, prio, latch, stages⟩ hk
        obtain ⟨r1, r2, r3⟩ := hR
        try simp only at r1 r2 r3
        rw [r1, r2, r3]
        clear r1 r2 r3
        have Kp : Kept [[1,2,3,4,5,6,68],[1,2,3,4,5,6,68,69],[],[1,2,3,4,5,6,68,83],[],[1,2,3,4,5,6,68,97],[],[1,2,3,4,5,6,68,97],[],[1,2,3,4,5,6,120],[],[1,2,3,4,5,6]] := ⟨⟩
        iterate 12 (refine Kp.s ?_; clear Kp; intro Kp; simp (disch := omega) [go_sem, -getElem?_pos, -List.map_take, -List.map_drop, IntWalk.iteOmega, IntWalk.toNatUp, IntWalk.i64_in, IntWalk.u8_in, IntWalk.i64_quo, IntWalk.u8_quo, IntWalk.rem_in, hk, h5])
    rintro e' H2 ⟨hH2, rfl⟩
    generalize hb6 : K5.next = b6 at *
    have h6 : H2.get b6 = some ⟨[.int .u8 (kind % 6 + 1), .int .i64 (sg % 3), .int .i64 R.lim, .int .i64 R.back, .int .i64 (delay % 8), .int .i64 R.span, .int .u8 (prio % 3 + 1), .bool latch, .slice none 0 0], true⟩ := by rw [hH2, ← hb6]; exact Heap.get_alloc_new _ _
    have go2 : ∀ j, j < b6 → H2.get j = K5.get j := fun j hj => by rw [hH2]; exact Heap.get_alloc_lt _ _ _ (by omega)
    have hn6 : H2.next = b6 + 1 := by rw [hH2, next_alloc, hb6]
    have p1 : H2.get b1 = some ⟨d.cells, true⟩ := by rw [go2 b1 (by omega)]; exact q1
    have p2 : P H2 := hPt q2 fun b hb => go2 b (by omega)
    have p3 : H2.get b3 = some ⟨confRo (.slice (some ⟨bs, 0, some 2⟩) 3 1) rv, true⟩ := by rw [go2 b3 (by omega)]; exact q3
    have p5 := (go2 b5 (by omega)).trans h5
    have pv : Bld 9 H2 K0.next rv (((rulesS d).take i).map Rule.val) := qv.same fun j k hj hk => by rw [go2 j (by have := Heap.lt_of_get hk; omega)]; exact hk
    have hrv : ∀ c o s l k, rv = .slice (some ⟨c, o, s⟩) l k → c < b6 := fun c o s l k e => by
      rcases qv.2 with ⟨e2, _⟩ | ⟨c', _, e2, h⟩
      · rw [e2] at e; cases e
      · rw [e2] at e; cases e
        have := Heap.lt_of_get h; omega
    clear hH2 go2 q1 q2 q3 h5 qv
    refine IWp.one [1, 2, 3, 4, 5, 6, 7] ?_
    simp (disch := omega) [go_sem, -getElem?_pos, -List.map_take, -List.map_drop, IntWalk.iteOmega, IntWalk.toNatUp, IntWalk.i64_in, IntWalk.u8_in, IntWalk.i64_quo, IntWalk.u8_quo, IntWalk.rem_in, h6]
    refine IWp.cut (fun e' K => ∃ sv, (∀ j, j < b6 → K.get j = H2.get j) ∧ K.get b6 = some ⟨[.int .u8 (kind % 6 + 1), .int .i64 (sg % 3), .int .i64 R.lim, .int .i64 R.back, .int .i64 (delay % 8), .int .i64 R.span, .int .u8 (prio % 3 + 1), .bool latch, sv], true⟩ ∧ Bld 2 K (b6 + 1) sv ((stagesS (prio % 3 + 1) (stages.take 4)).map Stage.val) ∧ b6 + 1 ≤ K.next ∧ e' = [(1, ptrTo b1 0), (2, ptrTo b2 0), (3, ptrTo b3 0), (4, .int .i64 (i : Int)), (6, ptrTo b6 0)]) ?_ ?_
    · skip
      refine IWp.one [1, 2, 3, 4, 5, 6, 7, 8] ?_
      simp [go_sem, -getElem?_pos, -List.map_take, -List.map_drop, IntWalk.iteOmega, IntWalk.toNatUp]
      refine IWp.block ?_
      refine IWp.loop (fun j e K => ∃ (k : Nat) (sv : Value), j = 4 - k ∧ k ≤ 4 ∧ k ≤ stages.length ∧ (∀ j, j < b6 → K.get j = H2.get j) ∧ K.get b6 = some ⟨[.int .u8 (kind % 6 + 1), .int .i64 (sg % 3), .int .i64 R.lim, .int .i64 R.back, .int .i64 (delay % 8), .int .i64 R.span, .int .u8 (prio % 3 + 1), .bool latch, sv], true⟩ ∧ Bld 2 K (b6 + 1) sv ((stagesS (prio % 3 + 1) (stages.take k)).map Stage.val) ∧ b6 + 1 ≤ K.next ∧ e = [(1, ptrTo b1 0), (2, ptrTo b2 0), (3, ptrTo b3 0), (4, .int .i64 (i : Int)), (5, ptrTo b5 0), (6, ptrTo b6 0), (7, .int .u8 (prioA (prio % 3 + 1) (stages.take k))), (8, .int .i64 (k : Int))]) 4 ⟨0, .slice none 0 0, rfl, Nat.zero_le _, Nat.zero_le _, fun _ _ => rfl, h6, Bld.nil _ _ _, by omega, by simp [go_sem, prioA]⟩ ?_
      rintro j e K ⟨k, sv, rfl, hk4, hkl, ho, h6', hsv, hnK6, rfl⟩
      have h5' := (ho b5 (by omega)).trans p5
      have hpa := prioA_in (prio % 3 + 1) (by omega) (stages.take k)
      by_cases hlt : k < stages.length ∧ k < 4
      · obtain ⟨hl1, hl2⟩ := hlt
        have gk : stages[k]? = some stages[k] := List.getElem?_eq_getElem hl1
        have hsb := x8 _ (List.getElem_mem hl1)
        have hst := stagesS_snoc (prio % 3 + 1) (stages.take k) stages[k]
        have hsp := prioA_snoc (prio % 3 + 1) (stages.take k) stages[k]
        rw [← List.take_succ_eq_append_getElem hl1] at hst hsp
        generalize stages[k] = y at *
        generalize hpA : prioA (prio % 3 + 1) (stages.take k) = pa at *
        obtain ⟨sv', K3, e3, b3', s3, n3, f3, t3⟩ := app_one (P := Tryd.prog) (t := 47) (e := 57) (sz := 2) (by_ := 16) (z := .agg ⟨[.int .i64 0, .int .u8 0]⟩) (by kernel_rfl) (by kernel_rfl) (by kernel_rfl) (by kernel_rfl) rfl (Stage.val ⟨1 + y / 2 % 12, min (pa + y % 2) 3⟩) [.int .i64 (1 + y / 2 % 12), .int .u8 (min (pa + y % 2) 3)] hsv rfl rfl (by simp [one0]) hnK6 (by simp [stagesS_len]; omega) (by simp [stagesS_len]; omega)
        have hb6' : K3.get b6 = K.get b6 := s3 b6 (by omega)
        have hend : ∀ H', H' = K3.set b6 [.int .u8 (kind % 6 + 1), .int .i64 (sg % 3), .int .i64 R.lim, .int .i64 R.back, .int .i64 (delay % 8), .int .i64 R.span, .int .u8 (prio % 3 + 1), .bool latch, sv'] → (∀ j, j < b6 → H'.get j = H2.get j) ∧ H'.get b6 = some ⟨[.int .u8 (kind % 6 + 1), .int .i64 (sg % 3), .int .i64 R.lim, .int .i64 R.back, .int .i64 (delay % 8), .int .i64 R.span, .int .u8 (prio % 3 + 1), .bool latch, sv'], true⟩ ∧ Bld 2 H' (b6 + 1) sv' ((stagesS (prio % 3 + 1) (stages.take (k + 1))).map Stage.val) ∧ b6 + 1 ≤ H'.next := by
          rintro H' rfl
          refine ⟨fun j hj => by rw [get_set, if_neg (by omega), s3 j (by omega), ho j hj], by rw [get_set, if_pos rfl, hb6', h6']; rfl, ?_, by rw [next_set]; omega⟩
          rw [hst, List.map_append]
          exact b3'.same fun j k hj hk => by rw [get_set, if_neg (by omega)]; exact hk
        subst t3
        have h53 := s3 b5 (by omega)
        rw [h5'] at h53
        rw [h6'] at hb6'
        by_cases hgt : 3 < pa + y % 2
        · rw [show min (pa + y % 2) 3 = 3 by omega] at e3 hsp
          have Kp : Kept [[1,2,3,4,5,6,7,8,138],[],[1,2,3,4,5,6,7,8],[1,2,3,4,5,6,7,8],[1,2,3,4,5,6,7,8,150],[],[1,2,3,4,5,6,7,8]] := ⟨⟩
          iterate 7 (refine Kp.s ?_; clear Kp; intro Kp; simp (disch := omega) [go_sem, -getElem?_pos, -List.map_take, -List.map_drop, IntWalk.iteOmega, IntWalk.toNatUp, IntWalk.i64_in, IntWalk.u8_in, IntWalk.i64_quo, IntWalk.u8_quo, IntWalk.rem_in, h5', h6', hb6', gk, hl1, hl2, e3, h53, get_alloc, show ¬ b5 = b6 by omega, show ¬ b6 = K.next by omega, show ¬ b5 = K.next by omega])
          refine IWp.draw [1, 2, 3, 4, 5, 6, 7, 8] [b5] (.val 0 (.val 2 (.ld 3 [5, 6, 7, 8, 9, 10, 12, 13, 14, 15, 16] (.val 4 (.val 5 (.ld 6 [7, 8, 9, 10, 12, 13, 14, 15, 16] (.val 7 (.val 8 (.val 9 (.val 10 (.val 11 (.val 12 (.eff 1 (.eff 13 (.eff 14 (.val 15 (.eff 16 .done .done)) .done) .done) (.eff 13 (.ld 1 [14, 15, 16] (.eff 14 (.val 15 (.eff 16 .done .done)) .done)) .done)))))))))))))) follows (by kernel_rfl) ?_
          simp (disch := omega) [go_sem, -getElem?_pos, -List.map_take, -List.map_drop, IntWalk.iteOmega, IntWalk.toNatUp, IntWalk.i64_in, IntWalk.u8_in, IntWalk.i64_quo, IntWalk.u8_quo, IntWalk.rem_in, h5', h6', hb6', gk, hl1, hl2, e3, h53, get_alloc, show ¬ b5 = b6 by omega, show ¬ b6 = K.next by omega, show ¬ b5 = K.next by omega]
          refine IWp.one [1, 2, 3, 4, 5, 6, 7, 8] ?_
          simp (disch := omega) [go_sem, -getElem?_pos, -List.map_take, -List.map_drop, IntWalk.iteOmega, IntWalk.toNatUp, IntWalk.i64_in, IntWalk.u8_in, IntWalk.i64_quo, IntWalk.u8_quo, IntWalk.rem_in, h5', h6', hb6', gk, hl1, hl2, e3, h53, get_alloc, show ¬ b5 = b6 by omega, show ¬ b6 = K.next by omega, show ¬ b5 = K.next by omega]
          obtain ⟨_, _, q3, q4⟩ := hend _ rfl
          simp only [List.length_map] at q3
          exact ⟨4 - (k + 1), by omega, k + 1, rfl, by omega, by omega, fun j hj => by rw [if_neg (by omega), s3 j (by omega), ho j hj], q3, by omega, by rw [hsp], by omega⟩
        · rw [show min (pa + y % 2) 3 = pa + y % 2 by omega] at e3 hsp
          have Kp : Kept [[1,2,3,4,5,6,7,8,138],[],[1,2,3,4,5,6,7,8],[1,2,3,4,5,6,7,8],[1,2,3,4,5,6,7,8,150],[],[1,2,3,4,5,6,7,8]] := ⟨⟩
          iterate 7 (refine Kp.s ?_; clear Kp; intro Kp; simp (disch := omega) [go_sem, -getElem?_pos, -List.map_take, -List.map_drop, IntWalk.iteOmega, IntWalk.toNatUp, IntWalk.i64_in, IntWalk.u8_in, IntWalk.i64_quo, IntWalk.u8_quo, IntWalk.rem_in, h5', h6', hb6', gk, hl1, hl2, e3, h53, get_alloc, show ¬ b5 = b6 by omega, show ¬ b6 = K.next by omega, show ¬ b5 = K.next by omega])
          refine IWp.draw [1, 2, 3, 4, 5, 6, 7, 8] [b5] (.val 0 (.val 2 (.ld 3 [5, 6, 7, 8, 9, 10, 12, 13, 14, 15, 16] (.val 4 (.val 5 (.ld 6 [7, 8, 9, 10, 12, 13, 14, 15, 16] (.val 7 (.val 8 (.val 9 (.val 10 (.val 11 (.val 12 (.eff 1 (.eff 13 (.eff 14 (.val 15 (.eff 16 .done .done)) .done) .done) (.eff 13 (.ld 1 [14, 15, 16] (.eff 14 (.val 15 (.eff 16 .done .done)) .done)) .done)))))))))))))) follows (by kernel_rfl) ?_
          simp (disch := omega) [go_sem, -getElem?_pos, -List.map_take, -List.map_drop, IntWalk.iteOmega, IntWalk.toNatUp, IntWalk.i64_in, IntWalk.u8_in, IntWalk.i64_quo, IntWalk.u8_quo, IntWalk.rem_in, h5', h6', hb6', gk, hl1, hl2, e3, h53, get_alloc, show ¬ b5 = b6 by omega, show ¬ b6 = K.next by omega, show ¬ b5 = K.next by omega]
          refine IWp.one [1, 2, 3, 4, 5, 6, 7, 8] ?_
          simp (disch := omega) [go_sem, -getElem?_pos, -List.map_take, -List.map_drop, IntWalk.iteOmega, IntWalk.toNatUp, IntWalk.i64_in, IntWalk.u8_in, IntWalk.i64_quo, IntWalk.u8_quo, IntWalk.rem_in, h5', h6', hb6', gk, hl1, hl2, e3, h53, get_alloc, show ¬ b5 = b6 by omega, show ¬ b6 = K.next by omega, show ¬ b5 = K.next by omega]
          obtain ⟨_, _, q3, q4⟩ := hend _ rfl
          simp only [List.length_map] at q3
          exact ⟨4 - (k + 1), by omega, k + 1, rfl, by omega, by omega, fun j hj => by rw [if_neg (by omega), s3 j (by omega), ho j hj], q3, by omega, by rw [hsp], by omega⟩
      · have htk : stages.take k = stages.take 4 := by
          by_cases h4 : k < 4
          · rw [List.take_of_length_le (by omega), List.take_of_length_le (by omega)]
          · rw [show k = 4 by omega]
        rw [htk] at hsv
        by_cases hl1 : k < stages.length
        · have hl2 : ¬ k < 4 := fun h => hlt ⟨hl1, h⟩
          have Kp : Kept [[1,2,3,4,5,6,7,8,138],[],[1,2,3,4,6]] := ⟨⟩
          iterate 3 (refine Kp.s ?_; clear Kp; intro Kp; simp (disch := omega) [go_sem, -getElem?_pos, -List.map_take, -List.map_drop, IntWalk.iteOmega, IntWalk.toNatUp, IntWalk.i64_in, IntWalk.u8_in, IntWalk.i64_quo, IntWalk.u8_quo, IntWalk.rem_in, h5', hl1, hl2])
          exact ⟨ho, sv, h6', hsv, hnK6⟩
        · skip
          have Kp : Kept [[1,2,3,4,5,6,7,8,138],[],[1,2,3,4,6]] := ⟨⟩
          iterate 3 (refine Kp.s ?_; clear Kp; intro Kp; simp (disch := omega) [go_sem, -getElem?_pos, -List.map_take, -List.map_drop, IntWalk.iteOmega, IntWalk.toNatUp, IntWalk.i64_in, IntWalk.u8_in, IntWalk.i64_quo, IntWalk.u8_quo, IntWalk.rem_in, h5', hl1])
          exact ⟨ho, sv, h6', hsv, hnK6⟩
    rintro e' K ⟨sv, ho, h6', hsv, hnK6, rfl⟩
    have r1 := (ho b1 (by omega)).trans p1
    have r2 := hPt p2 fun b hb => ho b (by omega)
    have r3 := (ho b3 (by omega)).trans p3
    have rv9 : Bld 9 K K0.next rv (((rulesS d).take i).map Rule.val) := ⟨pv.1, by
      rcases pv.2 with ⟨e1, e2⟩ | ⟨c, c1, e1, c3⟩
      · exact .inl ⟨e1, e2⟩
      · exact .inr ⟨c, c1, e1, by rw [ho c (hrv c _ _ _ _ e1)]; exact c3⟩⟩
    have hvsv : ∀ j, j < b6 + 1 → blkOf sv j = false := fun j hj => by
      rcases hsv.2 with ⟨e1, _⟩ | ⟨c, c1, e1, _⟩
      · rw [e1]; rfl
      · rw [e1]; simp [blkOf]; omega
    obtain ⟨K7, hf7, h7, ho7, hn7⟩ := FrzH.one (S := blkOf sv) (b := b6) (cs' := [.int .u8 (kind % 6 + 1), .int .i64 (sg % 3), .int .i64 R.lim, .int .i64 R.back, .int .i64 (delay % 8), .int .i64 R.span, .int .u8 (prio % 3 + 1), .bool latch, frow 2 0 ((stagesS (prio % 3 + 1) (stages.take 4)).map Stage.val)]) (hvsv b6 (by omega)) h6' (.cons (.same _) (.cons (.same _) (.cons (.same _) (.cons (.same _) (.cons (.same _) (.cons (.same _) (.cons (.same _) (.cons (.same _) (.cons hsv.frzV .nil)))))))))
    refine IWp.freezeH K7 _ (.cons (.same _) (.cons (.same _) (.cons (.same _) (.cons (.same _) (.cons (.same _) .nil))))) hf7 ?_
    have s1 := (ho7 b1 (by omega) (hvsv b1 (by omega))).trans r1
    have s2 := hPt r2 fun b hb => ho7 b (by omega) (hvsv b (by omega))
    have s3 := (ho7 b3 (by omega) (hvsv b3 (by omega))).trans r3
    have sv9 : Bld 9 K7 K0.next rv (((rulesS d).take i).map Rule.val) := ⟨rv9.1, by
      rcases rv9.2 with ⟨e1, e2⟩ | ⟨c, c1, e1, c3⟩
      · exact .inl ⟨e1, e2⟩
      · have := hrv c _ _ _ _ e1
        exact .inr ⟨c, c1, e1, by rw [ho7 c (by omega) (hvsv c (by omega))]; exact c3⟩⟩
    have hval : Rule.val R = .agg ⟨[.int .u8 (kind % 6 + 1), .int .i64 (sg % 3), .int .i64 R.lim, .int .i64 R.back, .int .i64 (delay % 8), .int .i64 R.span, .int .u8 (prio % 3 + 1), .bool latch, frow 2 0 ((stagesS (prio % 3 + 1) (stages.take 4)).map Stage.val)]⟩ := by rw [hR0]; rfl
    have hnK7 : b6 + 1 ≤ K7.next := by omega
    clear hf7 ho7 hvsv rv9 r1 r2 r3 pv p1 p2 p3 p5 h6 h6' hsv ho hn7 hnK6
    obtain ⟨rv', K8, e8, b8, o8, n8, f8, t8⟩ := app_one (P := Tryd.prog) (t := 29) (e := 49) (sz := 9) (by_ := 80) (z := .agg ⟨[.int .u8 0, .int .i64 0, .int .i64 0, .int .i64 0, .int .i64 0, .int .i64 0, .int .u8 0, .bool false, .slice none 0 0]⟩) (by kernel_rfl) (by kernel_rfl) (by kernel_rfl) (by kernel_rfl) rfl (Rule.val R) [.int .u8 (kind % 6 + 1), .int .i64 (sg % 3), .int .i64 R.lim, .int .i64 R.back, .int .i64 (delay % 8), .int .i64 R.span, .int .u8 (prio % 3 + 1), .bool latch, frow 2 0 ((stagesS (prio % 3 + 1) (stages.take 4)).map Stage.val)] sv9 (by rw [hval]; rfl) rfl (by simp [one0_frow]; simp [one0]) (by omega) (by simp; omega) (by simp; omega)
    have o1 := (o8 b1 (by omega)).trans s1
    have o2 := hPt s2 fun b hb => o8 b (by omega)
    have o3 := (o8 b3 (by omega)).trans s3
    subst t8
    have Kp : Kept [[1,2,3,4],[1,2,3,4]] := ⟨⟩
    iterate 2 (refine Kp.s ?_; clear Kp; intro Kp; simp (disch := omega) [go_sem, -getElem?_pos, -List.map_take, -List.map_drop, IntWalk.iteOmega, IntWalk.toNatUp, IntWalk.i64_in, IntWalk.u8_in, IntWalk.i64_quo, IntWalk.u8_quo, IntWalk.rem_in, h7, s3, e8, o3, confRo])
    have hnext : ((rulesS d).take (i + 1)).map Rule.val = ((rulesS d).take i).map Rule.val ++ [Rule.val R] := by
      have hlt2 : i < (rulesS d).length := by omega
      rw [List.take_succ_eq_append_getElem hlt2, List.map_append]
      rw [List.getElem?_eq_getElem hlt2] at hxs
      rw [Option.some.injEq] at hxs
      rw [hxs, ← hR0]; rfl
    have hlen : (((rulesS d).take i).map Rule.val).length = i := by simp; omega
    rw [hlen] at b8
    exact ⟨M - (i + 1), by omega, i + 1, rfl, by omega, o1, hPt o2 fun b hb => by rw [get_set, if_neg (by omega)], by rw [hnext]; exact b8.same fun j k hj hk => by rw [get_set, if_neg (by omega)]; exact hk, by omega, by omega⟩
  clear k1 k2 k3
  rintro e K ⟨rv, k1, k2, k3, hv, hnK, rfl⟩
  obtain ⟨rb, rb1, rfl, rb3⟩ : ∃ rb, K0.next ≤ rb ∧ rv = .slice (some ⟨rb, 0, some 9⟩) (rulesS d).length 1 ∧ K.get rb = some ⟨((rulesS d).map Rule.val).flatMap (fun u => u.cells.toList), true⟩ := by
    rcases hv.2 with ⟨_, h⟩ | ⟨c, c1, c2, c3⟩
    · have h8 := congrArg List.length h
      rw [List.length_map, List.length_nil] at h8
      have h9 := rulesS_len d
      rw [h8] at h9
      by_cases h10 : d.rules = []
      · rw [if_pos h10] at h9; omega
      · have h11 := List.length_pos_iff.2 h10
        rw [if_neg h10] at h9; omega
    · exact ⟨c, c1, by simpa using c2, c3⟩
  obtain ⟨K9, hK9⟩ : ∃ K9, K9 = K := ⟨_, rfl⟩
  rw [← hK9] at k1 k2 k3 rb3 ⊢
  have g1 := k1
  have g3 := k3
  have hnK9 : K0.next ≤ K9.next := by rw [hK9]; exact hnK
  have hrbn := Heap.lt_of_get rb3
  rw [hP] at k2
  have hk9 := k2
  clear hPt hP
  obtain ⟨P, hP⟩ : ∃ P : Heap → Prop, P = fun K => ∀ b, b < K9.next → b ≠ b3 → K.get b = K9.get b := ⟨_, rfl⟩
  have hPt : ∀ {K K' : Heap}, P K → (∀ b, b < K9.next → b ≠ b3 → K'.get b = K.get b) → P K' := fun {K K'} h h2 => by rw [hP] at h ⊢; exact fun b hb hc => (h2 b hb hc).trans (h b hb hc)
  have g2 : P K9 := by rw [hP]; exact fun b _ _ => rfl
  clear hv k1 k2 k3 hnK hK9
  have g1' := g1
  simp only [Draft.cells] at g1'
  obtain ⟨d1, ⟨d2, d2l⟩, d3, d4, d5, d6, d7⟩ := hw
  obtain ⟨n, hn⟩ : ∃ n, n = slotsN d := ⟨_, rfl⟩
  have hn16 : 1 + d.bands / 16 % 6 = (n : Int) := by rw [hn]; unfold slotsN; omega
  have hnr : 1 ≤ n ∧ n ≤ 6 := by omega
  refine IWp.one [1, 2, 3, 9] ?_
  simp (disch := omega) [go_sem, -getElem?_pos, -List.map_take, -List.map_drop, IntWalk.iteOmega, IntWalk.toNatUp, IntWalk.i64_in, IntWalk.u8_in, IntWalk.i64_quo, IntWalk.u8_quo, IntWalk.rem_in, g1', hn16]
  have hR8 : (rulesS d).length ≤ 8 := by omega
  have hRl2 : (((rulesS d).length : Nat) : Int) + 2 ≤ 10 := by omega
  have hfr : ∀ (l : List Int) (s : Int), fallS (rulesS d).length l s = if s % ((rulesS d).length + 2) < (rulesS d).length ∧ ¬ (s % ((rulesS d).length + 2)) ∈ l then l ++ [s % ((rulesS d).length + 2)] else l := fun _ _ => rfl
  generalize hRv : rulesS d = RS at *
  generalize hRn : RS.length = R at *
  obtain ⟨Z, hZ⟩ : ∃ Z : Nat → List Int, Z = fun i => slotS d.slots R n i := ⟨_, rfl⟩
  obtain ⟨W, hW⟩ : ∃ W : Nat → List (List Int), W = fun i => (List.range i).map Z := ⟨_, rfl⟩
  have hW0 : W 0 = [] := by rw [hW]; rfl
  have hW1 : ∀ i, W (i + 1) = W i ++ [Z i] := fun i => by rw [hW]; simp [List.range_succ]
  have hWl : ∀ i, (W i).length = i := fun i => by rw [hW]; simp
  refine IWp.cut (fun e K => ∃ tv lv, K.get b1 = some ⟨d.cells, true⟩ ∧ P K ∧ K.get b3 = some ⟨confTo (.slice (some ⟨bs, 0, some 2⟩) 3 1) (.slice (some ⟨rb, 0, some 9⟩) R 1) tv, true⟩ ∧ TabAt K K9.next tv lv (W (n - 1)) (Z (n - 1)) ∧ K9.next ≤ K.next ∧ e = [(1, ptrTo b1 0), (2, ptrTo b2 0), (3, ptrTo b3 0), (9, .int .i64 (n : Int))]) ?_ ?_
  · skip
    refine IWp.one [1, 2, 3, 9, 10] ?_
    simp [go_sem, -getElem?_pos, -List.map_take, -List.map_drop, IntWalk.iteOmega, IntWalk.toNatUp]
    refine IWp.block ?_
    refine IWp.loop (fun j e K => ∃ (i : Nat) (tv : Value), j = n - i ∧ i ≤ n ∧ K.get b1 = some ⟨d.cells, true⟩ ∧ P K ∧ K.get b3 = some ⟨confTo (.slice (some ⟨bs, 0, some 2⟩) 3 1) (.slice (some ⟨rb, 0, some 9⟩) R 1) tv, true⟩ ∧ K9.next ≤ K.next ∧ ((i < n ∧ Bld 1 K K9.next tv ((W i).map (ints .i64))) ∨ (i = n ∧ ∃ lv, TabAt K K9.next tv lv (W (n - 1)) (Z (n - 1)))) ∧ e = [(1, ptrTo b1 0), (2, ptrTo b2 0), (3, ptrTo b3 0), (9, .int .i64 (n : Int)), (10, .int .i64 (i : Int))]) n ⟨0, .slice none 0 0, rfl, Nat.zero_le _, g1, g2, g3, Nat.le_refl _, .inl ⟨by omega, by rw [hW0]; exact Bld.nil _ _ _⟩, by simp [go_sem]⟩ ?_
    clear g1 g2 g3 g1'
    rintro j e K ⟨i, tv, rfl, hi, g1, g2, g3, hnK, htab, rfl⟩
    have w4 := IntWalk.i64_in ((i : Int) + 1) (by omega)
    by_cases hlt : i < n
    case neg =>
      obtain ⟨hin, lv, ht⟩ : i = n ∧ ∃ lv, TabAt K K9.next tv lv (W (n - 1)) (Z (n - 1)) := htab.elim (fun h => absurd h.1 hlt) id
      subst hin
      have Kp : Kept [[1,2,3,9,10,181],[],[1,2,3,9]] := ⟨⟩
      iterate 3 (refine Kp.s ?_; clear Kp; intro Kp; simp (disch := omega) [go_sem, -getElem?_pos, -List.map_take, -List.map_drop, IntWalk.iteOmega, IntWalk.toNatUp, IntWalk.i64_in, IntWalk.u8_in, IntWalk.i64_quo, IntWalk.u8_quo, IntWalk.rem_in])
      exact ⟨g1, g2, tv, g3, ⟨lv, ht⟩, hnK⟩
    have ht : Bld 1 K K9.next tv ((W i).map (ints .i64)) := htab.elim (fun h => h.2) (fun h => absurd h.1 (by omega))
    clear htab
    have Kp : Kept [[1,2,3,9,10,181],[],[1,2,3,9,10]] := ⟨⟩
    iterate 3 (refine Kp.s ?_; clear Kp; intro Kp; simp (disch := omega) [go_sem, -getElem?_pos, -List.map_take, -List.map_drop, IntWalk.iteOmega, IntWalk.toNatUp, IntWalk.i64_in, IntWalk.u8_in, IntWalk.i64_quo, IntWalk.u8_quo, IntWalk.rem_in, hlt])
    refine IWp.cut (fun e' K => ∃ tv, K.get b1 = some ⟨d.cells, true⟩ ∧ P K ∧ K.get b3 = some ⟨confTo (.slice (some ⟨bs, 0, some 2⟩) 3 1) (.slice (some ⟨rb, 0, some 9⟩) R 1) tv, true⟩ ∧ K9.next ≤ K.next ∧ ((i + 1 < n ∧ Bld 1 K K9.next tv ((W (i + 1)).map (ints .i64))) ∨ (i + 1 = n ∧ ∃ lv, TabAt K K9.next tv lv (W (n - 1)) (Z (n - 1)))) ∧ e' = [(1, ptrTo b1 0), (2, ptrTo b2 0), (3, ptrTo b3 0), (9, .int .i64 (n : Int)), (10, .int .i64 (i : Int))]) ?_ ?_
    case refine_2 =>
      rintro e' K' ⟨tv', g1', g2', g3', hnK', ht', rfl⟩
      refine IWp.one [1, 2, 3, 9, 10] ?_
      simp [go_sem, -getElem?_pos, -List.map_take, -List.map_drop, IntWalk.iteOmega, IntWalk.toNatUp, w4]
      exact ⟨n - (i + 1), by omega, i + 1, rfl, by omega, g1', g2', tv', g3', hnK', ht', by omega⟩
    refine IWp.one [1, 2, 3, 9, 10, 11] ?_
    simp [go_sem, -getElem?_pos, -List.map_take, -List.map_drop, IntWalk.iteOmega, IntWalk.toNatUp]
    refine IWp.cut (fun e' K' => ∃ lv, (∀ j, j < K.next → K'.get j = K.get j) ∧ Bld 1 K' K.next lv ((Z i).map (Value.int .i64)) ∧ K.next ≤ K'.next ∧ e' = [(1, ptrTo b1 0), (2, ptrTo b2 0), (3, ptrTo b3 0), (9, .int .i64 (n : Int)), (10, .int .i64 (i : Int)), (11, lv)]) ?_ ?_
    case refine_2 =>
      rintro e' K' ⟨lv, ho, hlv, hnK', rfl⟩
      have hb3K := Heap.lt_of_get g3
      have q1 := (ho b1 (by omega)).trans g1
      have q2 := hPt g2 fun b hb hc => ho b (by omega)
      have q3 := (ho b3 (by omega)).trans g3
      have ht2 : Bld 1 K' K9.next tv ((W i).map (ints .i64)) := ht.same fun j k hj hk => by rw [ho j (Heap.lt_of_get hk)]; exact hk
      by_cases hin : i + 1 < n
      · have hS : ∀ j, j < K.next → blkOf lv j = false := fun j hj => by
          rcases hlv.2 with ⟨e1, _⟩ | ⟨c, c1, e1, _⟩
          · rw [e1]; rfl
          · rw [e1]; simp [blkOf]; omega
        refine IWp.freezeE (blkOf lv) (.cons (.same _) (.cons (.same _) (.cons (.same _) (.cons (.same _) (.cons (.same _) (.cons hlv.frzV .nil)))))) ?_
        obtain ⟨K4, hK4⟩ : ∃ K4, K4 = K'.only fun j => !blkOf lv j := ⟨_, rfl⟩
        have ho4 : ∀ j, j < K.next → K4.get j = K'.get j := fun j hj => by
          rw [hK4]; show (if (!blkOf lv j) = true then K'.get j else none) = _
          rw [hS j hj]; rfl
        have hn4 : K4.next = K'.next := by rw [hK4]; rfl
        rw [← hK4]
        have ht4 : Bld 1 K4 K9.next tv ((W i).map (ints .i64)) := ht.same fun j k hj hk => by rw [ho4 j (Heap.lt_of_get hk), ho j (Heap.lt_of_get hk)]; exact hk
        have s1 := (ho4 b1 (by omega)).trans q1
        have s2 := hPt q2 fun b hb hc => ho4 b (by omega)
        have s3 := (ho4 b3 (by omega)).trans q3
        clear hK4 ho4
        obtain ⟨tv', K3, e3, b3', o3, n3, f3, t3⟩ := app_one (P := Tryd.prog) (t := 30) (e := 58) (sz := 1) (by_ := 24) (z := .slice none 0 0) (by kernel_rfl) (by kernel_rfl) (by kernel_rfl) (by kernel_rfl) rfl (ints .i64 (Z i)) [ints .i64 (Z i)] ht4 rfl rfl (by simp [one0, ints, frow]) (by omega) (by rw [List.length_map, hWl]; omega) (by rw [List.length_map, hWl]; omega)
        have u1 := (o3 b1 (by omega)).trans s1
        have u2 := hPt s2 fun b hb hc => o3 b (by omega)
        have u3 := (o3 b3 (by omega)).trans s3
        rw [List.length_map, hWl] at t3
        subst t3
        simp only [confTo] at s3 u3
        refine IWp.one [1, 2, 3, 9, 10] ?_
        simp (disch := omega) [go_sem, -getElem?_pos, -List.map_take, -List.map_drop, IntWalk.iteOmega, IntWalk.toNatUp, IntWalk.i64_in, IntWalk.u8_in, IntWalk.i64_quo, IntWalk.u8_quo, IntWalk.rem_in, s3, u3, e3, get_alloc, show ¬ b3 = K4.next by omega]
        exact ⟨u1, hPt u2 fun b hb hc => by rw [get_set, if_neg (by omega)], _, rfl, by omega, .inl ⟨hin, by rw [hW1, List.map_append]; exact b3'.same fun j k hj hk => by rw [get_set, if_neg (by omega)]; exact hk⟩⟩
      · have hie : i + 1 = n := by omega
        have hlc : lv.cells.toList = [lv] ∧ one0 lv = true := by
          rcases hlv.2 with ⟨e1, _⟩ | ⟨c, c1, e1, _⟩
          · rw [e1]; exact ⟨rfl, rfl⟩
          · rw [e1]; exact ⟨rfl, rfl⟩
        obtain ⟨tv', K3, e3, b3', o3, n3, f3, t3⟩ := app_one (P := Tryd.prog) (t := 30) (e := 58) (sz := 1) (by_ := 24) (z := .slice none 0 0) (by kernel_rfl) (by kernel_rfl) (by kernel_rfl) (by kernel_rfl) rfl lv [lv] ht2 hlc.1 rfl (by simp [hlc.2]) (by omega) (by rw [List.length_map, hWl]; omega) (by rw [List.length_map, hWl]; omega)
        have u1 := (o3 b1 (by omega)).trans q1
        have u2 := hPt q2 fun b hb hc => o3 b (by omega)
        have u3 := (o3 b3 (by omega)).trans q3
        rw [List.length_map, hWl] at t3
        subst t3
        have hlv3 : ∀ (H' : Heap), (∀ j, j ≠ b3 → H'.get j = K3.get j) → TabAt H' K9.next (.slice (some ⟨K'.next + 1, 0, some 1⟩) (i + 1) 1) lv (W (n - 1)) (Z (n - 1)) := fun H' hH' => by
          have hi1 : n - 1 = i := by omega
          rw [hi1]
          rcases b3'.2 with ⟨e1, _⟩ | ⟨c, c1, e1, c3⟩
          · cases e1
          · simp only [Value.slice.injEq, Option.some.injEq, Addr.mk.injEq, true_and, and_true] at e1
            obtain ⟨rfl, _⟩ := e1
            refine ⟨K'.next + 1, by omega, by rw [hWl], by rw [hH' _ (by omega), c3]; congr 2; rw [List.flatMap_append, List.flatMap_cons, List.flatMap_nil, hlc.1, List.append_nil]; congr 1; exact rows_flatI (W i), ⟨hlv.1, ?_⟩, ?_⟩
            · rcases hlv.2 with ⟨e1, e2⟩ | ⟨c, c1, e1, c3⟩
              · exact .inl ⟨e1, e2⟩
              · refine .inr ⟨c, by omega, e1, ?_⟩
                have hc := Heap.lt_of_get c3
                rw [hH' c (by omega), f3 c hc (fun o s l k e => ?_)]
                · exact c3
                · rcases ht.2 with ⟨e2, _⟩ | ⟨c2, _, e2, c4⟩
                  · rw [e2] at e; cases e
                  · rw [e2] at e; cases e
                    have := Heap.lt_of_get c4; omega
            · rcases hlv.2 with ⟨e1, e2⟩ | ⟨c, c1, e1, c3⟩
              · rw [e1]; rfl
              · have hc := Heap.lt_of_get c3
                rw [e1]; simp [blkOf]; omega
        simp only [confTo] at q3 u3
        have hlvc : lv = .slice none 0 0 ∨ ∃ c m, lv = .slice (some ⟨c, 0, some 1⟩) m 1 := hlv.2.elim (fun h => .inl h.1) fun ⟨c, _, h, _⟩ => .inr ⟨c, _, h⟩
        rcases hlvc with rfl | ⟨c, m, rfl⟩
        · skip
          refine IWp.one [1, 2, 3, 9, 10] ?_
          simp (disch := omega) [go_sem, -getElem?_pos, -List.map_take, -List.map_drop, IntWalk.iteOmega, IntWalk.toNatUp, IntWalk.i64_in, IntWalk.u8_in, IntWalk.i64_quo, IntWalk.u8_quo, IntWalk.rem_in, q3, u3, e3, get_alloc, show ¬ b3 = K'.next by omega]
          exact ⟨u1, hPt u2 fun b hb hc => by rw [get_set, if_neg (by omega)], _, rfl, by omega, .inr ⟨hie, _, hlv3 _ fun j hj => by rw [get_set, if_neg hj]⟩⟩
        · skip
          refine IWp.one [1, 2, 3, 9, 10] ?_
          simp (disch := omega) [go_sem, -getElem?_pos, -List.map_take, -List.map_drop, IntWalk.iteOmega, IntWalk.toNatUp, IntWalk.i64_in, IntWalk.u8_in, IntWalk.i64_quo, IntWalk.u8_quo, IntWalk.rem_in, q3, u3, e3, get_alloc, show ¬ b3 = K'.next by omega]
          exact ⟨u1, hPt u2 fun b hb hc => by rw [get_set, if_neg (by omega)], _, rfl, by omega, .inr ⟨hie, _, hlv3 _ fun j hj => by rw [get_set, if_neg hj]⟩⟩
    refine IWp.one [1, 2, 3, 9, 10, 11, 12] ?_
    simp [go_sem, -getElem?_pos, -List.map_take, -List.map_drop, IntWalk.iteOmega, IntWalk.toNatUp]
    refine IWp.block ?_
    refine IWp.loop (fun j e K' => ∃ (f k : Nat) (lv : Value) (l : List Int), j = f ∧ 24 ≤ f + k ∧ l.length + f ≤ 24 ∧ f ≤ 24 ∧ k ≤ 30 ∧ (∀ x ∈ l, 0 ≤ x ∧ x < R) ∧ slotF d.slots R n f k l = Z i ∧ (∀ j, j < K.next → K'.get j = K.get j) ∧ Bld 1 K' K.next lv (l.map (Value.int .i64)) ∧ K.next ≤ K'.next ∧ e = [(1, ptrTo b1 0), (2, ptrTo b2 0), (3, ptrTo b3 0), (9, .int .i64 (n : Int)), (10, .int .i64 (i : Int)), (11, lv), (12, .int .i64 (k : Int))]) 24 ⟨24, i, .slice none 0 0, [], rfl, by omega, by simp, by omega, by omega, fun x h => (by cases h), by rw [hZ]; rfl, fun _ _ => rfl, Bld.nil _ _ _, Nat.le_refl _, by simp [go_sem]⟩ ?_
    rintro j e K' ⟨f, k, lv, l, rfl, hfk, hlf, hf24, hk30, hlR, hsl, ho, hlv, hnK', rfl⟩
    have hb3K := Heap.lt_of_get g3
    have q1 := (ho b1 (by omega)).trans g1
    have q3 := (ho b3 (by omega)).trans g3
    simp only [Draft.cells] at q1
    simp only [confTo] at q3
    have hw12 := IntWalk.i64_in ((k : Int) + n) (by omega)
    by_cases hlt2 : k < d.slots.length ∧ k < 24
    case neg =>
      have hZe : l = Z i := by
        rw [← hsl]
        cases j with
        | zero => rfl
        | succ f => rw [slotF, if_neg hlt2]
      subst hZe
      by_cases h1 : k < d.slots.length
      · have h2 : ¬ k < 24 := fun h => hlt2 ⟨h1, h⟩
        have Kp : Kept [[1,2,3,9,10,11,12,193],[],[1,2,3,9,10,11]] := ⟨⟩
        iterate 3 (refine Kp.s ?_; clear Kp; intro Kp; simp (disch := omega) [go_sem, -getElem?_pos, -List.map_take, -List.map_drop, IntWalk.iteOmega, IntWalk.toNatUp, IntWalk.i64_in, IntWalk.u8_in, IntWalk.i64_quo, IntWalk.u8_quo, IntWalk.rem_in, q1, h1, h2])
        exact ⟨ho, hlv, hnK'⟩
      · skip
        have Kp : Kept [[1,2,3,9,10,11,12,193],[],[1,2,3,9,10,11]] := ⟨⟩
        iterate 3 (refine Kp.s ?_; clear Kp; intro Kp; simp (disch := omega) [go_sem, -getElem?_pos, -List.map_take, -List.map_drop, IntWalk.iteOmega, IntWalk.toNatUp, IntWalk.i64_in, IntWalk.u8_in, IntWalk.i64_quo, IntWalk.u8_quo, IntWalk.rem_in, q1, h1])
        exact ⟨ho, hlv, hnK'⟩
    obtain ⟨h1, h2⟩ := hlt2
    obtain ⟨f, rfl⟩ : ∃ f, j = f + 1 := ⟨j - 1, by omega⟩
    rw [slotF, if_pos ⟨h1, h2⟩] at hsl
    have gk : d.slots[k]? = some (d.slots.getD k 0) := by rw [List.getElem?_eq_getElem h1, List.getD_eq_getElem?_getD, List.getElem?_eq_getElem h1]; rfl
    have hsb : 0 ≤ d.slots.getD k 0 ∧ d.slots.getD k 0 < 256 := by
      rw [List.getD_eq_getElem?_getD, List.getElem?_eq_getElem h1]; exact d2 _ (List.getElem_mem h1)
    have hfl := hfr l (d.slots.getD k 0)
    generalize d.slots.getD k 0 = s0 at *
    have hm1 := Int.emod_nonneg s0 (show (R : Int) + 2 ≠ 0 by omega)
    have hm2 := Int.emod_lt_of_pos s0 (show 0 < (R : Int) + 2 by omega)
    have ht0 : s0.tmod ((R : Int) + 2) = s0 % ((R : Int) + 2) := Int.tmod_eq_emod_of_nonneg (by omega)
    generalize s0 % ((R : Int) + 2) = x at *
    have wx := IntWalk.i64_in x (by omega)
    have wR := IntWalk.i64_in ((R : Int) + 2) (by omega)
    have ws := IntWalk.i64_in s0 (by omega)
    have Kp : Kept [[1,2,3,9,10,11,12,193],[],[1,2,3,9,10,11,12]] := ⟨⟩
    iterate 3 (refine Kp.s ?_; clear Kp; intro Kp; simp [go_sem, -getElem?_pos, -List.map_take, -List.map_drop, IntWalk.iteOmega, IntWalk.toNatUp, q1, q3, h1, h2, gk, ht0, wx, wR, ws, hRn, show ¬ (R : Int) + 2 = 0 by omega, show (k : Int) < 24 by omega])
    refine IWp.cut (fun e' K2 => ∃ lv', (∀ j, j < K.next → K2.get j = K.get j) ∧ Bld 1 K2 K.next lv' ((fallS R l s0).map (Value.int .i64)) ∧ K.next ≤ K2.next ∧ e' = [(1, ptrTo b1 0), (2, ptrTo b2 0), (3, ptrTo b3 0), (9, .int .i64 (n : Int)), (10, .int .i64 (i : Int)), (11, lv'), (12, .int .i64 (k : Int))]) ?_ ?_
    case refine_2 =>
      rintro e' K2 ⟨lv', ho2, hlv2, hn2, rfl⟩
      refine IWp.one [1, 2, 3, 9, 10, 11, 12] ?_
      simp [go_sem, -getElem?_pos, -List.map_take, -List.map_drop, IntWalk.iteOmega, IntWalk.toNatUp, hw12]
      have hfin : ∀ x ∈ fallS R l s0, 0 ≤ x ∧ x < R := fun y hy => by
        rw [hfl] at hy
        split at hy
        · rename_i hc
          rcases List.mem_append.1 hy with hy | hy
          · exact hlR y hy
          · simp at hy; subst hy; exact ⟨hm1, hc.1⟩
        · exact hlR y hy
      have hfln : (fallS R l s0).length ≤ l.length + 1 := by rw [hfl]; split <;> simp
      exact ⟨f, by omega, k + n, by omega, lv', fallS R l s0, by omega, by omega, by omega, hfin, hsl, ho2, hlv2, hn2, rfl, by omega⟩
    refine IWp.block ?_
    refine IWp.seq ?_
    refine IWp.read [1, 2, 3, 9, 10, 11, 12, 13] follows (by kernel_rfl) ?_
    simp [go_sem, -getElem?_pos, -List.map_take, -List.map_drop, IntWalk.iteOmega, IntWalk.toNatUp, q1, q3, h1, h2, gk, ht0, wx, wR, ws, hRn, show ¬ (R : Int) + 2 = 0 by omega, show (k : Int) < 24 by omega]
    refine IWp.one [1, 2, 3, 9, 10, 11, 12, 13, 14] ?_
    simp [go_sem, -getElem?_pos, -List.map_take, -List.map_drop, IntWalk.iteOmega, IntWalk.toNatUp, q1, q3, h1, h2, gk, ht0, wx, wR, ws, hRn, show ¬ (R : Int) + 2 = 0 by omega, show (k : Int) < 24 by omega]
    refine IWp.cut (fun e' K2 => K2 = K' ∧ e' = [(1, ptrTo b1 0), (2, ptrTo b2 0), (3, ptrTo b3 0), (9, .int .i64 (n : Int)), (10, .int .i64 (i : Int)), (11, lv), (12, .int .i64 (k : Int)), (13, .int .i64 x), (14, .bool (decide ((R : Int) ≤ x) || decide (x ∈ l)))]) ?_ ?_
    case refine_2 =>
      rintro e' K2 ⟨rfl, rfl⟩
      by_cases hc : x < R ∧ ¬ x ∈ l
      · rw [if_pos hc] at hfl
        have hd1 : decide ((R : Int) ≤ x) = false := by simp; omega
        have hd2 : decide (x ∈ l) = false := by simp [hc.2]
        obtain ⟨lv', K3, e3, b3', s3, n3, f3, t3⟩ := app_one (P := Tryd.prog) (t := 58) (e := 3) (sz := 1) (by_ := 8) (z := .int .i64 0) (by kernel_rfl) (by kernel_rfl) (by kernel_rfl) (by kernel_rfl) rfl (.int .i64 x) [.int .i64 x] hlv rfl rfl (by simp [one0]) hnK' (by rw [List.length_map]; omega) (by rw [List.length_map]; omega)
        have Kp : Kept [[1,2,3,9,10,11,12,13,229],[],[1,2,3,9,10,11,12]] := ⟨⟩
        iterate 3 (refine Kp.s ?_; clear Kp; intro Kp; simp [go_sem, -getElem?_pos, -List.map_take, -List.map_drop, IntWalk.iteOmega, IntWalk.toNatUp, hd1, hd2, e3])
        exact ⟨fun j hj => (s3 j hj).trans (ho j hj), by rw [hfl, List.map_append]; exact b3', by omega⟩
      · rw [if_neg hc] at hfl
        have hd : (decide ((R : Int) ≤ x) || decide (x ∈ l)) = true := by
          by_cases h : (R : Int) ≤ x
          · simp [h]
          · have : x ∈ l := Classical.byContradiction fun h2 => hc ⟨by omega, h2⟩
            simp [this]
        rw [hd]
        have Kp : Kept [[1,2,3,9,10,11,12,13,229],[],[1,2,3,9,10,11,12]] := ⟨⟩
        iterate 3 (refine Kp.s ?_; clear Kp; intro Kp; simp [go_sem, -getElem?_pos, -List.map_take, -List.map_drop, IntWalk.iteOmega, IntWalk.toNatUp])
        exact ⟨ho, by rw [hfl]; exact hlv, hnK'⟩
    refine IWp.one [1, 2, 3, 9, 10, 11, 12, 13, 14, 15] ?_
    simp [go_sem, -getElem?_pos, -List.map_take, -List.map_drop, IntWalk.iteOmega, IntWalk.toNatUp]
    refine IWp.block ?_
    have hlv0 := hlv
    refine IWp.loop (fun q e K2 => ∃ (y : Nat), q = l.length - y ∧ y ≤ l.length ∧ K2 = K' ∧ e = [(1, ptrTo b1 0), (2, ptrTo b2 0), (3, ptrTo b3 0), (9, .int .i64 (n : Int)), (10, .int .i64 (i : Int)), (11, lv), (12, .int .i64 (k : Int)), (13, .int .i64 x), (14, .bool (decide ((R : Int) ≤ x) || decide (x ∈ l.take y))), (15, .int .i64 (y : Int))]) l.length ⟨0, rfl, Nat.zero_le _, rfl, by simp [go_sem]⟩ ?_
    rintro q e K2 ⟨y, rfl, hy, rfl, rfl⟩
    have wy := IntWalk.i64_in ((y : Int) + 1) (by omega)
    by_cases hyl : y < l.length
    · rcases hlv0.2 with ⟨_, e2⟩ | ⟨c, c1, rfl, c3⟩
      · have := congrArg List.length e2
        simp at this; subst this; simp at hyl
      rw [map_flat] at c3
      rw [List.length_map]
      have gy : l[y]? = some l[y] := List.getElem?_eq_getElem hyl
      have hst : decide (x ∈ l.take (y + 1)) = (decide (x ∈ l.take y) || decide (l[y] = x)) := by
        rw [List.take_succ_eq_append_getElem hyl]
        simp only [List.mem_append, List.mem_singleton, Bool.decide_or]
        congr 1
        exact decide_eq_decide.2 eq_comm
      generalize l[y] = z at *
      by_cases hz : (decide ((R : Int) ≤ x) || decide (x ∈ l.take y)) = true
      · have hz2 : (decide ((R : Int) ≤ x) || decide (x ∈ l.take (y + 1))) = true := by rw [hst, ← Bool.or_assoc, hz]; rfl
        rw [hz]
        have Kp : Kept [[1,2,3,9,10,11,12,13,14,15,216],[],[1,2,3,9,10,11,12,13,14,15],[1,2,3,9,10,11,12,13,14,15],[1,2,3,9,10,11,12,13,14,15]] := ⟨⟩
        iterate 5 (refine Kp.s ?_; clear Kp; intro Kp; simp [go_sem, -getElem?_pos, -List.map_take, -List.map_drop, IntWalk.iteOmega, IntWalk.toNatUp, c3, gy, hyl, wy])
        exact ⟨l.length - (y + 1), by omega, y + 1, rfl, by omega, by simpa using hz2, by omega⟩
      · have hz0 : (decide ((R : Int) ≤ x) || decide (x ∈ l.take y)) = false := by simpa using hz
        have hz2 : (decide ((R : Int) ≤ x) || decide (x ∈ l.take (y + 1))) = decide (z = x) := by rw [hst, ← Bool.or_assoc, hz0]; rfl
        rw [hz0]
        have Kp : Kept [[1,2,3,9,10,11,12,13,14,15,216],[],[1,2,3,9,10,11,12,13,14,15],[1,2,3,9,10,11,12,13,14,15],[1,2,3,9,10,11,12,13,14,15]] := ⟨⟩
        iterate 5 (refine Kp.s ?_; clear Kp; intro Kp; simp [go_sem, -getElem?_pos, -List.map_take, -List.map_drop, IntWalk.iteOmega, IntWalk.toNatUp, c3, gy, hyl, wy])
        exact ⟨l.length - (y + 1), by omega, y + 1, rfl, by omega, hz2.symm, by omega⟩
    · have hty : l.take y = l := List.take_of_length_le (by omega)
      rw [hty]
      rcases hlv0.2 with ⟨rfl, e2⟩ | ⟨c, c1, rfl, c3⟩
      · have hl0 : l = [] := by simpa using e2
        subst hl0
        have Kp : Kept [[1,2,3,9,10,11,12,13,14,15,216],[],[1,2,3,9,10,11,12,13,14]] := ⟨⟩
        iterate 3 (refine Kp.s ?_; clear Kp; intro Kp; simp [go_sem, -getElem?_pos, -List.map_take, -List.map_drop, IntWalk.iteOmega, IntWalk.toNatUp, hyl])
      · rw [List.length_map]
        have Kp : Kept [[1,2,3,9,10,11,12,13,14,15,216],[],[1,2,3,9,10,11,12,13,14]] := ⟨⟩
        iterate 3 (refine Kp.s ?_; clear Kp; intro Kp; simp [go_sem, -getElem?_pos, -List.map_take, -List.map_drop, IntWalk.iteOmega, IntWalk.toNatUp, hyl])
  clear g1 g2 g3 g1'
  rintro e K ⟨tv, lv, k1, k2, k3, ht, hnK, rfl⟩
  have hZl : ∀ i, (Z i).length ≤ 24 := fun i => by rw [hZ]; have := slotF_len d.slots R n 24 i []; simpa [slotS] using this
  have hWm : ∀ i, ∀ x ∈ W i, x.length ≤ 24 := fun i x hx => by
    rw [hW] at hx
    obtain ⟨j, _, rfl⟩ := List.mem_map.1 hx
    exact hZl j
  have hWn : W n = W (n - 1) ++ [Z (n - 1)] := by have := hW1 (n - 1); rwa [show n - 1 + 1 = n by omega] at this
  obtain ⟨F, hF⟩ : ∃ F : Nat → List (List Int), F = fun i => (List.range i).foldl (fun T (i : Nat) => lastAdd T i) (W n) := ⟨_, rfl⟩
  have hF0 : F 0 = W (n - 1) ++ [Z (n - 1)] := by rw [hF, ← hWn]; rfl
  have hF1 : ∀ i, F (i + 1) = lastAdd (F i) i := fun i => by rw [hF]; simp [List.range_succ, List.foldl_append]
  have hTS : F R = tableS d := by rw [hF]; unfold tableS; rw [hRv, hRn, ← hn, hW, hZ]
  have hfs : ∀ {K : Heap}, P K → Frz K (fun _ => true) (.slice (some ⟨bs, 0, some 2⟩) 3 1) (frow 2 0 (sigsS.map Sig.val)) := fun {K} h => by
    rw [hP] at h
    exact frz_lit (sigsS.map Sig.val) ((h bs (by omega) (by omega)).trans ((hk9 bs (by omega)).trans zs)) rfl (by simp [sigsS, Sig.val, Sig.cells, Value.cells]) (by simp [sigsS]) rfl
  have hfr2 : ∀ {K : Heap}, P K → Frz K (fun _ => true) (.slice (some ⟨rb, 0, some 9⟩) R 1) (frow 9 0 (RS.map Rule.val)) := fun {K} h => by
    rw [hP] at h
    exact frz_lit (RS.map Rule.val) ((h rb (by omega) (by omega)).trans rb3) rfl (fun u hu => by obtain ⟨r, _, rfl⟩ := List.mem_map.1 hu; rfl) (by simpa using hRn) rfl
  refine IWp.cut (fun e K => ∃ lv l, K.get b1 = some ⟨d.cells, true⟩ ∧ P K ∧ K.get b3 = some ⟨confTo (.slice (some ⟨bs, 0, some 2⟩) 3 1) (.slice (some ⟨rb, 0, some 9⟩) R 1) tv, true⟩ ∧ TabAt K K9.next tv lv (W (n - 1)) l ∧ tableS d = W (n - 1) ++ [l] ∧ l.length ≤ 40 ∧ K9.next ≤ K.next ∧ e = [(1, ptrTo b1 0), (2, ptrTo b2 0), (3, ptrTo b3 0), (9, .int .i64 (n : Int))]) ?_ ?_
  · skip
    refine IWp.one [1, 2, 3, 9, 16] ?_
    simp [go_sem, -getElem?_pos, -List.map_take, -List.map_drop, IntWalk.iteOmega, IntWalk.toNatUp]
    refine IWp.block ?_
    refine IWp.loop (fun j e K => ∃ (i : Nat) (lv : Value) (l : List Int), j = R - i ∧ i ≤ R ∧ K.get b1 = some ⟨d.cells, true⟩ ∧ P K ∧ K.get b3 = some ⟨confTo (.slice (some ⟨bs, 0, some 2⟩) 3 1) (.slice (some ⟨rb, 0, some 9⟩) R 1) tv, true⟩ ∧ TabAt K K9.next tv lv (W (n - 1)) l ∧ F i = W (n - 1) ++ [l] ∧ l.length ≤ 24 + i ∧ K9.next ≤ K.next ∧ e = [(1, ptrTo b1 0), (2, ptrTo b2 0), (3, ptrTo b3 0), (9, .int .i64 (n : Int)), (16, .int .i64 (i : Int))]) R ⟨0, lv, Z (n - 1), rfl, Nat.zero_le _, k1, k2, k3, ht, hF0, by have := hZl (n - 1); omega, hnK, by simp [go_sem]⟩ ?_
    clear k1 k2 k3 ht hnK
    rintro j e K ⟨i, lv, l, rfl, hi, k1, k2, k3, ht, hFi, hl, hnK, rfl⟩
    have k3' := k3
    simp only [confTo] at k3'
    have w4 := IntWalk.i64_in ((i : Int) + 1) (by omega)
    by_cases hlt : i < R
    · have hst := hF1 i
      rw [hFi, lastAdd_app] at hst
      have hstd : ICalls Tryd.prog 21 [.agg ⟨confTo (.slice (some ⟨bs, 0, some 2⟩) 3 1) (.slice (some ⟨rb, 0, some 9⟩) R 1) tv⟩, .int .i64 (i : Int)] K fun v H' => v = .bool (standsS (W (n - 1) ++ [l]) i) ∧ H' = K := by
        refine ICalls.view (us := [Config.val ⟨sigsS, RS, W (n - 1) ++ [l], 0, 0, 0, 0, 0, 0, false, 0⟩, .int .i64 (i : Int)]) (.cons (.agg (.cons (hfs k2) (.cons (hfr2 k2) (.cons ht.frz (FrzL.same _))))) (.cons (.same _) .nil)) (by rw [ClL_cons, Config.cl_val, ClL_cons, Cl_int, ClL_nil]; exact ⟨trivial, trivial, trivial⟩) ((refStands Heap.empty ⟨sigsS, RS, W (n - 1) ++ [l], 0, 0, 0, 0, 0, 0, false, 0⟩ i (by simp [hWl]; omega) (fun x hx => ?_)).mono ?_)
        · rcases List.mem_append.1 hx with hx | hx
          · have := hWm _ x hx; omega
          · simp at hx; subst hx; omega
        · rintro v _ ⟨rfl, rfl⟩
          exact ⟨rfl, rfl⟩
      simp only [confTo] at hstd
      by_cases hs : standsS (W (n - 1) ++ [l]) i = true
      · rw [if_pos hs] at hst
        rw [hs] at hstd
        have Kp : Kept [[1,2,3,9,16,244],[],[1,2,3,9,16],[1,2,3,9,16,250]] := ⟨⟩
        iterate 4 (refine Kp.s ?_; clear Kp; intro Kp; simp (disch := omega) [go_sem, -getElem?_pos, -List.map_take, -List.map_drop, IntWalk.iteOmega, IntWalk.toNatUp, IntWalk.i64_in, IntWalk.u8_in, IntWalk.i64_quo, IntWalk.u8_quo, IntWalk.rem_in, k3', hlt, w4, hRn])
        refine ICalls.then (hstd) ?_
        try simp (disch := omega) [go_sem, -getElem?_pos, -List.map_take, -List.map_drop, IntWalk.iteOmega, IntWalk.toNatUp, IntWalk.i64_in, IntWalk.u8_in, IntWalk.i64_quo, IntWalk.u8_quo, IntWalk.rem_in, k3', hlt, w4, hRn]
        have Kp : Kept [[],[1,2,3,9,16],[1,2,3,9,16]] := ⟨⟩
        iterate 3 (refine Kp.s ?_; clear Kp; intro Kp; simp (disch := omega) [go_sem, -getElem?_pos, -List.map_take, -List.map_drop, IntWalk.iteOmega, IntWalk.toNatUp, IntWalk.i64_in, IntWalk.u8_in, IntWalk.i64_quo, IntWalk.u8_quo, IntWalk.rem_in, k3', hlt, w4, hRn])
        exact ⟨R - (i + 1), by omega, i + 1, rfl, by omega, k1, k2, rfl, lv, l, ht, hst, by omega, hnK, by omega⟩
      · rw [if_neg hs] at hst
        have hs2 : standsS (W (n - 1) ++ [l]) i = false := by simpa using hs
        rw [hs2] at hstd
        obtain ⟨tb, t1, htv, t3, t4, t5⟩ := ht
        rw [hWl, show n - 1 + 1 = n by omega] at htv
        rw [htv] at k3' hstd
        have hb3K := Heap.lt_of_get k3
        have htbK := Heap.lt_of_get t3
        obtain ⟨lv', K3, e3, b3', o3, n3, f3, t3'⟩ := app_one (P := Tryd.prog) (t := 58) (e := 3) (sz := 1) (by_ := 8) (z := .int .i64 0) (by kernel_rfl) (by kernel_rfl) (by kernel_rfl) (by kernel_rfl) rfl (.int .i64 (i : Int)) [.int .i64 (i : Int)] t4 rfl rfl (by simp [one0]) hnK (by rw [List.length_map]; omega) (by rw [List.length_map]; omega)
        have u1 := (o3 b1 (by omega)).trans k1
        have u2 := hPt k2 fun b hb hc => o3 b (by omega)
        have u3 := (o3 b3 (by omega)).trans k3'
        have ub : K3.get tb = some ⟨(W (n - 1)).map (ints .i64) ++ [lv], true⟩ := by
          rw [f3 tb htbK fun o s l c e => by rw [e] at t5; simp [blkOf] at t5]; exact t3
        have gl : ((W (n - 1)).map (ints .i64) ++ [lv])[n - 1]? = some lv := by rw [List.getElem?_append_right (by simp [hWl]), List.length_map, hWl]; simp
        have hcl : ((W (n - 1)).map (ints .i64) ++ [lv]).length = n := by simp [hWl]; omega
        have hspl : splice ((W (n - 1)).map (ints .i64) ++ [lv]) (n - 1) [lv'] = (W (n - 1)).map (ints .i64) ++ [lv'] := by
          rw [splice_one' _ _ _ (by omega), List.set_append_right _ _ (by simp [hWl])]
          simp [hWl]
        rw [List.length_map] at t3'
        subst t3'
        have hlv' : ∀ H', H'.get tb = some ⟨(W (n - 1)).map (ints .i64) ++ [Value.slice (some ⟨K.next + 1, 0, some 1⟩) (l.length + 1) 1], true⟩ → (∀ j, j ≠ tb → H'.get j = K3.get j) → TabAt H' K9.next tv (Value.slice (some ⟨K.next + 1, 0, some 1⟩) (l.length + 1) 1) (W (n - 1)) (l ++ [(i : Int)]) := fun H' hg1 hg2 => by
          rcases b3'.2 with ⟨e1, _⟩ | ⟨c, c1, e1, c3⟩
          · cases e1
          · have e2 := e1
            simp only [Value.slice.injEq, Option.some.injEq, Addr.mk.injEq, true_and, and_true] at e2
            obtain ⟨e2, _⟩ := e2
            refine ⟨tb, t1, by rw [htv, hWl, show n - 1 + 1 = n by omega], hg1, ?_, by simp [blkOf]; omega⟩
            rw [List.map_append]
            exact ⟨b3'.1, .inr ⟨c, c1, e1, by rw [hg2 c (by omega)]; exact c3⟩⟩
        have wn := IntWalk.i64_in ((n : Int) - 1) (by omega)
        have wn2 : ((n : Int) - 1).toNat = n - 1 := by omega
        have hbne : ¬ b3 = tb := by omega
        have hlvc : lv = .slice none 0 0 ∨ ∃ c m, lv = .slice (some ⟨c, 0, some 1⟩) m 1 := t4.2.elim (fun h => .inl h.1) fun ⟨c, _, h, _⟩ => .inr ⟨c, _, h⟩
        generalize hCS : (W (n - 1)).map (ints .i64) ++ [lv] = CS at *
        generalize hCS2 : (W (n - 1)).map (ints .i64) ++ [Value.slice (some ⟨K.next + 1, 0, some 1⟩) (l.length + 1) 1] = CS2 at *
        have Kp : Kept [[1,2,3,9,16,244],[],[1,2,3,9,16],[1,2,3,9,16,250]] := ⟨⟩
        iterate 4 (refine Kp.s ?_; clear Kp; intro Kp; simp [go_sem, -getElem?_pos, -List.map_take, -List.map_drop, IntWalk.iteOmega, IntWalk.toNatUp, k3', hlt, w4, hRn, wn, wn2, t3, ub, gl, hcl, hspl, e3, u3, get_alloc, hbne, show ¬ b3 = K.next by omega, show ¬ tb = K.next by omega, show n - 1 < n by omega])
        refine ICalls.then (hstd) ?_
        try simp [go_sem, -getElem?_pos, -List.map_take, -List.map_drop, IntWalk.iteOmega, IntWalk.toNatUp, k3', hlt, w4, hRn, wn, wn2, t3, ub, gl, hcl, hspl, e3, u3, get_alloc, hbne, show ¬ b3 = K.next by omega, show ¬ tb = K.next by omega, show n - 1 < n by omega]
        refine IWp.one [] ?_
        simp [go_sem, -getElem?_pos, -List.map_take, -List.map_drop, IntWalk.iteOmega, IntWalk.toNatUp, k3', hlt, w4, hRn, wn, wn2, t3, ub, gl, hcl, hspl, e3, u3, get_alloc, hbne, show ¬ b3 = K.next by omega, show ¬ tb = K.next by omega, show n - 1 < n by omega]
        refine IWp.draw [1, 2, 3, 9, 16] [b3] (.val 0 (.val 2 (.val 3 (.val 4 (.val 6 (.val 7 (.val 10 (.val 1 (.val 5 (.val 8 (.eff 9 (.eff 11 (.eff 12 (.val 13 (.eff 14 .done .done)) .done) .done) (.eff 11 (.ld 9 [12, 13, 14] (.eff 12 (.val 13 (.eff 14 .done .done)) .done)) .done)))))))))))) follows (by kernel_rfl) ?_
        simp [go_sem, -getElem?_pos, -List.map_take, -List.map_drop, IntWalk.iteOmega, IntWalk.toNatUp, k3', hlt, w4, hRn, wn, wn2, t3, ub, gl, hcl, hspl, e3, u3, get_alloc, hbne, show ¬ b3 = K.next by omega, show ¬ tb = K.next by omega, show n - 1 < n by omega]
        refine IWp.one [1, 2, 3, 9, 16] ?_
        simp [go_sem, -getElem?_pos, -List.map_take, -List.map_drop, IntWalk.iteOmega, IntWalk.toNatUp, k3', hlt, w4, hRn, wn, wn2, t3, ub, gl, hcl, hspl, e3, u3, get_alloc, hbne, show ¬ b3 = K.next by omega, show ¬ tb = K.next by omega, show n - 1 < n by omega]
        exact ⟨R - (i + 1), by omega, i + 1, rfl, by omega, u1, hPt u2 fun b hb hc => by first | rw [get_set, if_neg (by omega), get_set, if_neg (by omega)] | rw [get_set, if_neg (by omega)], by rw [htv]; rfl, _, l ++ [(i : Int)], hlv' _ (by rw [get_set, if_pos rfl, ub]; rfl) (fun j hj => by rw [get_set, if_neg hj]), hst, by simp; omega, by omega, by omega⟩
    · have hiR : i = R := by omega
      subst hiR
      have Kp : Kept [[1,2,3,9,16,244],[],[1,2,3,9]] := ⟨⟩
      iterate 3 (refine Kp.s ?_; clear Kp; intro Kp; simp (disch := omega) [go_sem, -getElem?_pos, -List.map_take, -List.map_drop, IntWalk.iteOmega, IntWalk.toNatUp, IntWalk.i64_in, IntWalk.u8_in, IntWalk.i64_quo, IntWalk.u8_quo, IntWalk.rem_in, k3', hRn])
      exact ⟨k1, k2, rfl, lv, l, ht, by rw [← hTS, hFi], by omega, hnK⟩
  clear k1 k2 k3 ht hnK hF0 hF1 hTS hF F
  rintro e K ⟨lv, l, k1, k2, k3, ht, hTd, hl, hnK, rfl⟩
  obtain ⟨K5, hf5, h5, ho5, hn5⟩ := FrzH.one (S := fun j => decide (K9.next ≤ j)) (b := b3) (cs' := confTo (.slice (some ⟨bs, 0, some 2⟩) 3 1) (.slice (some ⟨rb, 0, some 9⟩) R 1) (frow 1 0 ((tableS d).map (ints .i64)))) (by simp; omega) k3 (.cons (.same _) (.cons (.same _) (.cons (by
    rw [hTd]
    obtain ⟨tb, t1, htv, t3, t4, t5⟩ := ht
    have := Frz.row (H := K) (S := fun j => decide (K9.next ≤ j)) (b := tb) (o := 0) (sz := 1) (c := 1) (us := (W (n - 1) ++ [l]).map (ints .i64)) t3 (by simpa using t1) (by rw [List.drop_zero]; exact frzE_tab (Bld.frzW t4 fun b hb => by simpa using hb) _)
    rw [List.length_map, List.length_append] at this
    rw [htv]; exact this) (FrzL.same _))))
  refine IWp.freezeH K5 _ (.cons (.same _) (.cons (.same _) (.cons (.same _) (.cons (.same _) .nil)))) hf5 ?_
  have s1 := (ho5 b1 (by omega) (by simp; omega)).trans k1
  have s9 := k2
  rw [hP] at s9
  have s2 := (ho5 b2 (by omega) (by simp; omega)).trans ((s9 b2 (by omega) (by omega)).trans ((hk9 b2 (by omega)).trans z2))
  have sS := (ho5 bs (by omega) (by simp; omega)).trans ((s9 bs (by omega) (by omega)).trans ((hk9 bs (by omega)).trans zs))
  have sR := (ho5 rb (by omega) (by simp; omega)).trans ((s9 rb (by omega) (by omega)).trans rb3)
  have sO : ∀ b, b < b1 → K5.get b = H.get b := fun b hb => (ho5 b (by omega) (by simp; omega)).trans ((s9 b (by omega) (by omega)).trans ((hk9 b (by omega)).trans (zo b hb)))
  clear hf5 ho5 ht k1 k2 k3
  have hTl : (tableS d).length = n := by rw [hTd]; simp [hWl]; omega
  have hTm : ∀ x ∈ tableS d, x.length ≤ 40 := fun x hx => by
    rw [hTd] at hx
    rcases List.mem_append.1 hx with hx | hx
    · have := hWm _ x hx; omega
    · simp at hx; subst hx; exact hl
  have hEn : ∀ m ≤ (tableS d).length, (entriesS ((tableS d).take m) : Int) < 9223372036854775808 := fun m hm => by
    have := entriesS_le 40 ((tableS d).take m) fun x hx => hTm x (List.mem_of_mem_take hx)
    rw [List.length_take] at this
    omega
  have hEb := entriesS_le 40 (tableS d) hTm
  rw [hTl] at hEb
  have hmk : makeS d = ⟨sigsS, RS, tableS d, 1 + d.bands % 16 % 3, 1 + d.bands % 16 / 2 % 3, 1 + d.bands % 16 / 4 % 4, (entriesS (tableS d) : Int) / n + 1 + d.drain % 4 / 3 * 2, 1 + d.pause % 30, 1 + d.off % 30, d.brk, 1 + d.log % 40⟩ := by
    unfold makeS; rw [hRv, ← hn]
  obtain ⟨cE, hcE⟩ : ∃ cE : Config, cE = ⟨sigsS, RS, tableS d, 1 + d.bands % 16 % 3, 1 + d.bands % 16 / 2 % 3, 1 + d.bands % 16 / 4 % 4, 0, 0, 0, false, 0⟩ := ⟨_, rfl⟩
  have hent : ∀ K : Heap, K.get bs = K5.get bs → K.get rb = K5.get rb → ICalls Tryd.prog 20 [.agg ⟨confO bs rb cE⟩] K fun v H' => v = .int .i64 (entriesS (tableS d)) ∧ H' = K := fun K h1 h2 => by
    refine ICalls.view (us := [cE.val]) (.cons (.agg ?_) .nil) (by rw [ClL_cons, Config.cl_val, ClL_nil]; exact ⟨trivial, trivial⟩) ((refEntries Heap.empty cE (by rw [hcE]; show (tableS d).length ≤ 1000000; omega) (by rw [hcE]; exact hEn)).mono ?_)
    · rw [hcE]
      refine .cons (frz_lit (sigsS.map Sig.val) (h1.trans sS) rfl (by simp [sigsS, Sig.val, Sig.cells, Value.cells]) (by simp) rfl) (.cons (frz_lit (RS.map Rule.val) (h2.trans sR) rfl (fun u hu => by obtain ⟨r, _, rfl⟩ := List.mem_map.1 hu; rfl) (by simp) rfl) (FrzL.same _))
    · rintro v _ ⟨rfl, rfl⟩
      exact ⟨rfl, by rw [hcE]⟩
  rw [hcE] at hent
  simp only [confO, sigsS, List.length_cons, List.length_nil, hRn] at hent
  clear hEn hTm hTd
  generalize hTT : tableS d = T at *
  simp only [Draft.cells] at s1
  simp only [confTo] at h5
  have hqn : (entriesS T : Int) / n ≤ entriesS T := Int.ediv_le_self _ (by omega)
  have hqp : 0 ≤ (entriesS T : Int) / n := Int.ediv_nonneg (by omega) (by omega)
  have Kp : Kept [[1,2,3,9,17],[1,2,3,9]] := ⟨⟩
  iterate 2 (refine Kp.s ?_; clear Kp; intro Kp; simp (disch := omega) [go_sem, -getElem?_pos, -List.map_take, -List.map_drop, IntWalk.iteOmega, IntWalk.toNatUp, IntWalk.i64_in, IntWalk.u8_in, IntWalk.i64_quo, IntWalk.u8_quo, IntWalk.rem_in, s1, s2, h5, confZ, Config.val, Config.cells, show ¬ b1 = b3 by omega, show ¬ b2 = b3 by omega, show ¬ (n : Int) = 0 by omega, show ¬ n = 0 by omega])
  refine IWp.seq ?_
  refine IWp.draw [1, 2, 3] [b1] (.ld 0 [1, 3, 4, 11, 12, 13] (.val 2 (.val 5 (.val 6 (.val 7 (.val 8 (.val 9 (.val 10 (.eff 1 (.val 3 (.val 4 (.val 11 (.val 12 (.eff 13 .done .done))))) .done))))))))) follows (by kernel_rfl) ?_
  simp (disch := omega) [go_sem, -getElem?_pos, -List.map_take, -List.map_drop, IntWalk.iteOmega, IntWalk.toNatUp, IntWalk.i64_in, IntWalk.u8_in, IntWalk.i64_quo, IntWalk.u8_quo, IntWalk.rem_in, s1, s2, h5, confZ, Config.val, Config.cells, show ¬ b1 = b3 by omega, show ¬ b2 = b3 by omega, show ¬ (n : Int) = 0 by omega, show ¬ n = 0 by omega]
  refine ICalls.then (hent _ (by simp [get_set, show ¬ bs = b3 by omega]) (by simp [get_set, show ¬ rb = b3 by omega])) ?_
  try simp (disch := omega) [go_sem, -getElem?_pos, -List.map_take, -List.map_drop, IntWalk.iteOmega, IntWalk.toNatUp, IntWalk.i64_in, IntWalk.u8_in, IntWalk.i64_quo, IntWalk.u8_quo, IntWalk.rem_in, s1, s2, h5, confZ, Config.val, Config.cells, show ¬ b1 = b3 by omega, show ¬ b2 = b3 by omega, show ¬ (n : Int) = 0 by omega, show ¬ n = 0 by omega]
  refine IWp.seq ?_
  refine IWp.draw [2, 3] [b1] (.val 0 (.ld 1 [2, 3, 4, 17, 18, 19, 20, 21, 22, 23, 24] (.val 2 (.val 3 (.val 4 (.val 5 (.val 10 (.val 12 (.val 17 (.val 6 (.val 7 (.val 8 (.val 9 (.val 11 (.val 13 (.val 14 (.val 15 (.val 16 (.eff 18 (.val 19 (.eff 20 (.val 21 (.eff 22 (.val 23 (.eff 24 .done .done)) .done)) .done)) .done))))))))))))))))))) follows (by kernel_rfl) ?_
  simp (disch := omega) [go_sem, -getElem?_pos, -List.map_take, -List.map_drop, IntWalk.iteOmega, IntWalk.toNatUp, IntWalk.i64_in, IntWalk.u8_in, IntWalk.i64_quo, IntWalk.u8_quo, IntWalk.rem_in, s1, s2, h5, confZ, Config.val, Config.cells, show ¬ b1 = b3 by omega, show ¬ b2 = b3 by omega, show ¬ (n : Int) = 0 by omega, show ¬ n = 0 by omega]
  have Kp : Kept [[2],[]] := ⟨⟩
  iterate 2 (refine Kp.s ?_; clear Kp; intro Kp; simp (disch := omega) [go_sem, -getElem?_pos, -List.map_take, -List.map_drop, IntWalk.iteOmega, IntWalk.toNatUp, IntWalk.i64_in, IntWalk.u8_in, IntWalk.i64_quo, IntWalk.u8_quo, IntWalk.rem_in, s1, s2, h5, confZ, Config.val, Config.cells, show ¬ b1 = b3 by omega, show ¬ b2 = b3 by omega, show ¬ (n : Int) = 0 by omega, show ¬ n = 0 by omega])
  refine ⟨bs, rb, by omega, by omega, by omega, ?_, ?_, ?_, ?_⟩
  · rw [hmk]
    simp only [confO, hRn]
    rfl
  · simp [get_set, show ¬ bs = b3 by omega, show ¬ bs = b2 by omega]
    exact sS
  · rw [hRv]
    simp [get_set, show ¬ rb = b3 by omega, show ¬ rb = b2 by omega]
    simpa using sR
  · refine ⟨fun b hb => ?_, ?_⟩
    · have := sO b (by omega)
      simp [get_set, show ¬ b = b3 by omega, show ¬ b = b2 by omega]
      exact this
    · show H.next ≤ K5.next
      omega
end Go.Proofs.YtoecebibhcadoaaDoor.I
namespace Go.Proofs.YtoecebibhcadoaaDoor.I
open Go Go.RowKit
set_option linter.unusedVariables false
set_option linter.unusedSimpArgs false
set_option maxRecDepth 4000 in
set_option maxHeartbeats 4000000 in
theorem imageAny_law (H : Heap) (d : Draft) (limit delay kind signal prio drain log : Int) (hd : d.wf) (w1 : -2147483648 ≤ limit ∧ limit < 2147483648) (w2 : -2147483648 ≤ delay ∧ delay < 2147483648) (w3 : 0 ≤ kind ∧ kind < 256) (w4 : 0 ≤ signal ∧ signal < 256) (w5 : 0 ≤ prio ∧ prio < 256) (w6 : 0 ≤ drain ∧ drain < 256) (w7 : -2147483648 ≤ log ∧ log < 2147483648) :
    IBody Tryd.prog 7 [d.val, .int .i32 limit, .int .i32 delay, .int .u8 kind, .int .u8 signal, .int .u8 prio, .int .u8 drain, .int .i32 log] H fun v _ => v = .bool true := by
  by_cases hs : shortD d
  · have dcs := decide_eq_true hs
    have hfit := make_fit hd
    have hwf := make_wf hd
    obtain ⟨r0, rs, hr⟩ : ∃ r0 rs, rulesS d = r0 :: rs := by
      have := (rulesS_pos d).1
      cases h : rulesS d with
      | nil => rw [h] at this; simp at this
      | cons r rs => exact ⟨r, rs, rfl⟩
    have hin := rulesS_in hd r0 (by rw [hr]; exact List.mem_cons_self ..)
    have mk := fun K => makeO K d hd
    obtain ⟨back, hback⟩ : ∃ b : Int, b = - limit.tdiv 2 := ⟨_, rfl⟩
    have hbr : -1073741824 ≤ limit.tdiv 2 ∧ limit.tdiv 2 ≤ 1073741824 := by
      by_cases h : 0 ≤ limit
      · rw [Int.tdiv_eq_ediv_of_nonneg h]; omega
      · rw [show limit = -(-limit) by omega, Int.neg_tdiv, Int.tdiv_eq_ediv_of_nonneg (by omega)]; omega
    obtain ⟨c, hc⟩ : ∃ c : Config, c = { makeS d with sigs := [⟨log, delay⟩, ⟨0, 250⟩, ⟨-2147483648, 2147483647⟩], rules := ⟨kind, signal, limit, back, delay, log, prio, r0.latch, r0.stages⟩ :: rs, drain := drain, log := log, pause := limit, off := delay } := ⟨_, rfl⟩
    have hrf := hfit.r
    rw [show (makeS d).rules = r0 :: rs from hr] at hrf
    have hf : Fit c := by
      rw [hc]
      refine ⟨⟨by simp, fun s h => ?_⟩, ⟨hrf.1, fun r h => ?_⟩, hfit.t, ⟨hfit.b.1, hfit.b.2.1, hfit.b.2.2.1, w6⟩, ⟨w1, w2, w7⟩⟩
      · simp only [List.mem_cons, List.not_mem_nil, or_false] at h
        rcases h with rfl | rfl | rfl
        · exact ⟨w7, w2⟩
        · exact ⟨⟨by decide, by decide⟩, ⟨by decide, by decide⟩⟩
        · exact ⟨⟨by decide, by decide⟩, ⟨by decide, by decide⟩⟩
      · rcases List.mem_cons.1 h with rfl | h
        · have := hrf.2 r0 (List.mem_cons_self ..)
          exact ⟨w4, w1, ⟨by simp only; omega, by simp only; omega⟩, w2, w7, this.2.2.2.2.2⟩
        · exact hrf.2 r (List.mem_cons_of_mem _ h)
    have hw : c.wf := by
      have hwr := hwf.2.1
      rw [show (makeS d).rules = r0 :: rs from hr] at hwr
      rw [hc]
      refine ⟨⟨fun s h => ?_, by simp [maxLen]⟩, ⟨fun r h => ?_, hwr.2⟩, hwf.2.2.1, hwf.2.2.2.1, hwf.2.2.2.2.1, hwf.2.2.2.2.2.1, by simp only; omega, by simp only; omega, by simp only; omega, by simp only; omega⟩
      · have := hf.s.2 s (by rw [hc]; exact h)
        unfold FitS I32 at this
        exact ⟨by omega, by omega⟩
      · rcases List.mem_cons.1 h with rfl | h
        · have := hwr.1 r0 (List.mem_cons_self ..)
          exact ⟨w3, by simp only; omega, by simp only; omega, by simp only; omega, by simp only; omega, by simp only; omega, w5, this.2.2.2.2.2.2.2⟩
        · exact hwr.1 r (List.mem_cons_of_mem _ h)
    have v1 := IntWalk.i64_in limit (by omega)
    have v2 := IntWalk.i64_in delay (by omega)
    have v3 := IntWalk.i64_in signal (by omega)
    have v4 := IntWalk.i64_in drain (by omega)
    have v5 := IntWalk.i64_in log (by omega)
    have v6 : IntKind.i32.wrap (limit.tdiv 2) = limit.tdiv 2 := IntWalk.i32_in _ (by omega)
    have v7 := IntWalk.i64_in (limit.tdiv 2) (by omega)
    have v8 : IntKind.i64.wrap (- limit.tdiv 2) = back := by rw [← hback]; exact IntWalk.i64_in _ (by omega)
    refine IBody.of Tryd.func7 rfl (by rw [Tryd.ntmps7]; simp) ?_
    rw [Tryd.ntmps7]
    have Kp : Kept [[1,2,3,4,5,6,7,8],[1,2,3,4,5,6,7,8,27]] := ⟨⟩
    iterate 2 (refine Kp.s ?_; clear Kp; intro Kp; simp [go_sem, -getElem?_pos, -List.map_take, -List.map_drop, IntWalk.iteOmega, IntWalk.toNatUp, Draft.val, Draft.cells, dcs, confO])
    refine ICalls.then (noneC _) ?_
    try simp [go_sem, -getElem?_pos, -List.map_take, -List.map_drop, IntWalk.iteOmega, IntWalk.toNatUp, Draft.val, Draft.cells, dcs, confO]
    refine ICalls.then (shortD' _ d) ?_
    try simp [go_sem, -getElem?_pos, -List.map_take, -List.map_drop, IntWalk.iteOmega, IntWalk.toNatUp, Draft.val, Draft.cells, dcs, confO]
    have Kp : Kept [[],[1,2,3,4,5,6,7,8],[1,2,3,4,5,6,7,17]] := ⟨⟩
    iterate 3 (refine Kp.s ?_; clear Kp; intro Kp; simp [go_sem, -getElem?_pos, -List.map_take, -List.map_drop, IntWalk.iteOmega, IntWalk.toNatUp, Draft.val, Draft.cells, dcs, confO])
    refine ICalls.mono (mk _) ?_
    rintro v K ⟨sb, rb, m1, m2, m3, m4, m5, m6, m7⟩
    subst m4
    try simp [go_sem, -getElem?_pos, -List.map_take, -List.map_drop, IntWalk.iteOmega, IntWalk.toNatUp, Draft.val, Draft.cells, dcs, confO, confO]
    refine IWp.seq ?_
    obtain ⟨X, hX⟩ : ∃ X, X = (rs.map Rule.val).flatMap (fun u => u.cells.toList) := ⟨_, rfl⟩
    have e6 : ((rulesS d).map Rule.val).flatMap (fun u => u.cells.toList) = .int .u8 r0.kind :: .int .i64 r0.sg :: .int .i64 r0.lim :: .int .i64 r0.back :: .int .i64 r0.delay :: .int .i64 r0.span :: .int .u8 r0.prio :: .bool r0.latch :: frow 2 0 (r0.stages.map Stage.val) :: X := by
      rw [hr, hX]; simp [Rule.val, Rule.cells, Value.cells]
    rw [e6] at m6
    rw [show sigsS.flatMap Sig.cells = [.int .i64 (-100), .int .i64 300, .int .i64 0, .int .i64 250, .int .i64 (-2147483648), .int .i64 2147483647] from rfl] at m5
    have l5 := Heap.lt_of_get m5
    have l6 := Heap.lt_of_get m6
    have hsg : (makeS d).sigs.length = 3 := rfl
    have hrl : (makeS d).rules.length = rs.length + 1 := by show (rulesS d).length = _; rw [hr]; rfl
    rw [hsg, hrl]
    obtain ⟨CM, hCM⟩ : ∃ CM, CM = makeS d := ⟨_, rfl⟩
    rw [← hCM]
    obtain ⟨CO, hCO⟩ : ∃ CO : Int → Int → Int → Int → List Value, CO = fun dr pa of lo => [.slice (some ⟨sb, 0, some 2⟩) 3 1, .slice (some ⟨rb, 0, some 9⟩) (rs.length + 1) 1, frow 1 0 (CM.table.map (ints .i64)), .int .i64 CM.b0, .int .i64 CM.b1, .int .i64 CM.b2, .int .i64 dr, .int .i64 pa, .int .i64 of, .bool CM.brk, .int .i64 lo] := ⟨_, rfl⟩
    have ek : ∀ a b c e, [.slice (some ⟨sb, 0, some 2⟩) 3 1, .slice (some ⟨rb, 0, some 9⟩) (rs.length + 1) 1, frow 1 0 (CM.table.map (ints .i64)), .int .i64 CM.b0, .int .i64 CM.b1, .int .i64 CM.b2, .int .i64 a, .int .i64 b, .int .i64 c, .bool CM.brk, .int .i64 e] = CO a b c e := fun a b c e => by rw [hCO]
    have gk : (K.alloc [.slice (some ⟨sb, 0, some 2⟩) 3 1, .slice (some ⟨rb, 0, some 9⟩) (rs.length + 1) 1, frow 1 0 (CM.table.map (ints .i64)), .int .i64 CM.b0, .int .i64 CM.b1, .int .i64 CM.b2, .int .i64 CM.drain, .int .i64 CM.pause, .int .i64 CM.off, .bool CM.brk, .int .i64 CM.log]).get K.next = some ⟨[.slice (some ⟨sb, 0, some 2⟩) 3 1, .slice (some ⟨rb, 0, some 9⟩) (rs.length + 1) 1, frow 1 0 (CM.table.map (ints .i64)), .int .i64 CM.b0, .int .i64 CM.b1, .int .i64 CM.b2, .int .i64 CM.drain, .int .i64 CM.pause, .int .i64 CM.off, .bool CM.brk, .int .i64 CM.log], true⟩ := Heap.get_alloc_new _ _
    have g5 := (Heap.get_alloc_lt K sb [.slice (some ⟨sb, 0, some 2⟩) 3 1, .slice (some ⟨rb, 0, some 9⟩) (rs.length + 1) 1, frow 1 0 (CM.table.map (ints .i64)), .int .i64 CM.b0, .int .i64 CM.b1, .int .i64 CM.b2, .int .i64 CM.drain, .int .i64 CM.pause, .int .i64 CM.off, .bool CM.brk, .int .i64 CM.log] l5).trans m5
    have g6 := (Heap.get_alloc_lt K rb [.slice (some ⟨sb, 0, some 2⟩) 3 1, .slice (some ⟨rb, 0, some 9⟩) (rs.length + 1) 1, frow 1 0 (CM.table.map (ints .i64)), .int .i64 CM.b0, .int .i64 CM.b1, .int .i64 CM.b2, .int .i64 CM.drain, .int .i64 CM.pause, .int .i64 CM.off, .bool CM.brk, .int .i64 CM.log] l6).trans m6
    have n1 : ¬ sb = K.next := by omega
    have n2 : ¬ rb = K.next := by omega
    have n3 : ¬ K.next = sb := by omega
    have n4 : ¬ K.next = rb := by omega
    have n5 : ¬ rb = sb := fun e => m3 e.symm
    clear m1 m2 m5 m6 m7 l5 l6
    generalize K.next = kb at *
    generalize K.alloc _ = M at gk g5 g6 ⊢
    refine IWp.draw [1, 2, 6, 7, 17] [kb] (.val 0 (.ld 1 [10, 11, 12, 13, 14, 15, 16, 17, 18] (.val 2 (.val 4 (.val 6 (.val 7 (.val 8 (.val 9 (.val 10 (.val 11 (.val 3 (.val 5 (.eff 12 (.val 13 (.val 14 (.eff 15 (.val 16 (.val 17 (.eff 18 .done .done))) .done))) .done))))))))))))) follows (by kernel_rfl) ?_
    simp [go_sem, -getElem?_pos, -List.map_take, -List.map_drop, IntWalk.iteOmega, IntWalk.toNatUp, gk, g6, v3, n1, n2, n3, n4, n5, m3, show (0 : Int) < (rs.length : Int) + 1 by omega]
    refine IWp.seq ?_
    obtain ⟨M4, h4, k4, k5, k6⟩ : ∃ M4, M4 = ((M.set rb (.int .u8 kind :: .int .i64 r0.sg :: .int .i64 r0.lim :: .int .i64 r0.back :: .int .i64 r0.delay :: .int .i64 r0.span :: .int .u8 r0.prio :: .bool r0.latch :: frow 2 0 (r0.stages.map Stage.val) :: X)).set rb (.int .u8 kind :: .int .i64 signal :: .int .i64 r0.lim :: .int .i64 r0.back :: .int .i64 r0.delay :: .int .i64 r0.span :: .int .u8 r0.prio :: .bool r0.latch :: frow 2 0 (r0.stages.map Stage.val) :: X)).set rb (.int .u8 kind :: .int .i64 signal :: .int .i64 r0.lim :: .int .i64 r0.back :: .int .i64 r0.delay :: .int .i64 r0.span :: .int .u8 prio :: .bool r0.latch :: frow 2 0 (r0.stages.map Stage.val) :: X) ∧ M4.get kb = some ⟨[.slice (some ⟨sb, 0, some 2⟩) 3 1, .slice (some ⟨rb, 0, some 9⟩) (rs.length + 1) 1, frow 1 0 (CM.table.map (ints .i64)), .int .i64 CM.b0, .int .i64 CM.b1, .int .i64 CM.b2, .int .i64 CM.drain, .int .i64 CM.pause, .int .i64 CM.off, .bool CM.brk, .int .i64 CM.log], true⟩ ∧ M4.get sb = some ⟨[.int .i64 (-100), .int .i64 300, .int .i64 0, .int .i64 250, .int .i64 (-2147483648), .int .i64 2147483647], true⟩ ∧ M4.get rb = some ⟨(.int .u8 kind :: .int .i64 signal :: .int .i64 r0.lim :: .int .i64 r0.back :: .int .i64 r0.delay :: .int .i64 r0.span :: .int .u8 prio :: .bool r0.latch :: frow 2 0 (r0.stages.map Stage.val) :: X), true⟩ := ⟨_, rfl, by simp only [get_set]; rw [if_neg n4, if_neg n4, if_neg n4]; exact gk, by simp only [get_set]; rw [if_neg m3, if_neg m3, if_neg m3]; exact g5, by simp only [get_set, if_true, g6, Option.map_some]⟩
    rw [← h4]
    clear h4 gk g5 g6
    refine IWp.draw [1, 2, 6, 7, 17] [kb] (.val 0 (.ld 1 [18, 19, 20, 21, 22, 23, 24, 25, 26, 27, 28, 29] (.val 2 (.val 4 (.val 6 (.val 8 (.val 9 (.val 10 (.val 11 (.val 12 (.val 13 (.val 14 (.val 15 (.val 16 (.val 17 (.val 18 (.val 19 (.val 3 (.val 5 (.val 7 (.eff 20 (.val 21 (.val 22 (.eff 23 (.val 24 (.val 25 (.eff 26 (.val 27 (.val 28 (.eff 29 .done .done))) .done))) .done))) .done))))))))))))))))))))) follows (by kernel_rfl) ?_
    simp [go_sem, -getElem?_pos, -List.map_take, -List.map_drop, IntWalk.iteOmega, IntWalk.toNatUp, k4, k6, v1, v2, v5, v6, v7, v8, n1, n2, n3, n4, n5, m3, show (0 : Int) < (rs.length : Int) + 1 by omega]
    refine IWp.seq ?_
    obtain ⟨M5, h5, gk, g5, g6⟩ : ∃ M5, M5 = (((M4.set rb (.int .u8 kind :: .int .i64 signal :: .int .i64 limit :: .int .i64 r0.back :: .int .i64 r0.delay :: .int .i64 r0.span :: .int .u8 prio :: .bool r0.latch :: frow 2 0 (r0.stages.map Stage.val) :: X)).set rb (.int .u8 kind :: .int .i64 signal :: .int .i64 limit :: .int .i64 back :: .int .i64 r0.delay :: .int .i64 r0.span :: .int .u8 prio :: .bool r0.latch :: frow 2 0 (r0.stages.map Stage.val) :: X)).set rb (.int .u8 kind :: .int .i64 signal :: .int .i64 limit :: .int .i64 back :: .int .i64 delay :: .int .i64 r0.span :: .int .u8 prio :: .bool r0.latch :: frow 2 0 (r0.stages.map Stage.val) :: X)).set rb (.int .u8 kind :: .int .i64 signal :: .int .i64 limit :: .int .i64 back :: .int .i64 delay :: .int .i64 log :: .int .u8 prio :: .bool r0.latch :: frow 2 0 (r0.stages.map Stage.val) :: X) ∧ M5.get kb = some ⟨[.slice (some ⟨sb, 0, some 2⟩) 3 1, .slice (some ⟨rb, 0, some 9⟩) (rs.length + 1) 1, frow 1 0 (CM.table.map (ints .i64)), .int .i64 CM.b0, .int .i64 CM.b1, .int .i64 CM.b2, .int .i64 CM.drain, .int .i64 CM.pause, .int .i64 CM.off, .bool CM.brk, .int .i64 CM.log], true⟩ ∧ M5.get sb = some ⟨[.int .i64 (-100), .int .i64 300, .int .i64 0, .int .i64 250, .int .i64 (-2147483648), .int .i64 2147483647], true⟩ ∧ M5.get rb = some ⟨(.int .u8 kind :: .int .i64 signal :: .int .i64 limit :: .int .i64 back :: .int .i64 delay :: .int .i64 log :: .int .u8 prio :: .bool r0.latch :: frow 2 0 (r0.stages.map Stage.val) :: X), true⟩ := ⟨_, rfl, by simp only [get_set]; rw [if_neg n4, if_neg n4, if_neg n4, if_neg n4]; exact k4, by simp only [get_set]; rw [if_neg m3, if_neg m3, if_neg m3, if_neg m3]; exact k5, by simp only [get_set, if_true, k6, Option.map_some]⟩
    rw [← h5]
    clear h5 k4 k5 k6
    refine IWp.one [1, 2, 6, 7, 17] ?_
    simp [go_sem, -getElem?_pos, -List.map_take, -List.map_drop, IntWalk.iteOmega, IntWalk.toNatUp, gk, g5, v2, v5, n3]
    refine IWp.seq ?_
    obtain ⟨M6, h6, k4, k5, k6⟩ : ∃ M6, M6 = M5.set sb [.int .i64 log, .int .i64 delay, .int .i64 0, .int .i64 250, .int .i64 (-2147483648), .int .i64 2147483647] ∧ M6.get kb = some ⟨[.slice (some ⟨sb, 0, some 2⟩) 3 1, .slice (some ⟨rb, 0, some 9⟩) (rs.length + 1) 1, frow 1 0 (CM.table.map (ints .i64)), .int .i64 CM.b0, .int .i64 CM.b1, .int .i64 CM.b2, .int .i64 CM.drain, .int .i64 CM.pause, .int .i64 CM.off, .bool CM.brk, .int .i64 CM.log], true⟩ ∧ M6.get sb = some ⟨[.int .i64 log, .int .i64 delay, .int .i64 0, .int .i64 250, .int .i64 (-2147483648), .int .i64 2147483647], true⟩ ∧ M6.get rb = some ⟨(.int .u8 kind :: .int .i64 signal :: .int .i64 limit :: .int .i64 back :: .int .i64 delay :: .int .i64 log :: .int .u8 prio :: .bool r0.latch :: frow 2 0 (r0.stages.map Stage.val) :: X), true⟩ := ⟨_, rfl, by rw [get_set, if_neg n3]; exact gk, by rw [get_set, if_pos rfl, g5]; rfl, by rw [get_set, if_neg n5]; exact g6⟩
    rw [← h6]
    clear h6 gk g5 g6
    refine IWp.one [17] ?_
    simp [go_sem, -getElem?_pos, -List.map_take, -List.map_drop, IntWalk.iteOmega, IntWalk.toNatUp, k4, v1, v2, v4, v5, n1, n2, n3, n4]
    refine IWp.seq ?_
    obtain ⟨M7, h7, gk, g5, g6⟩ : ∃ M7, M7 = (((M6.set kb [.slice (some ⟨sb, 0, some 2⟩) 3 1, .slice (some ⟨rb, 0, some 9⟩) (rs.length + 1) 1, frow 1 0 (CM.table.map (ints .i64)), .int .i64 CM.b0, .int .i64 CM.b1, .int .i64 CM.b2, .int .i64 drain, .int .i64 CM.pause, .int .i64 CM.off, .bool CM.brk, .int .i64 CM.log]).set kb [.slice (some ⟨sb, 0, some 2⟩) 3 1, .slice (some ⟨rb, 0, some 9⟩) (rs.length + 1) 1, frow 1 0 (CM.table.map (ints .i64)), .int .i64 CM.b0, .int .i64 CM.b1, .int .i64 CM.b2, .int .i64 drain, .int .i64 CM.pause, .int .i64 CM.off, .bool CM.brk, .int .i64 log]).set kb [.slice (some ⟨sb, 0, some 2⟩) 3 1, .slice (some ⟨rb, 0, some 9⟩) (rs.length + 1) 1, frow 1 0 (CM.table.map (ints .i64)), .int .i64 CM.b0, .int .i64 CM.b1, .int .i64 CM.b2, .int .i64 drain, .int .i64 limit, .int .i64 CM.off, .bool CM.brk, .int .i64 log]).set kb [.slice (some ⟨sb, 0, some 2⟩) 3 1, .slice (some ⟨rb, 0, some 9⟩) (rs.length + 1) 1, frow 1 0 (CM.table.map (ints .i64)), .int .i64 CM.b0, .int .i64 CM.b1, .int .i64 CM.b2, .int .i64 drain, .int .i64 limit, .int .i64 delay, .bool CM.brk, .int .i64 log] ∧ M7.get kb = some ⟨[.slice (some ⟨sb, 0, some 2⟩) 3 1, .slice (some ⟨rb, 0, some 9⟩) (rs.length + 1) 1, frow 1 0 (CM.table.map (ints .i64)), .int .i64 CM.b0, .int .i64 CM.b1, .int .i64 CM.b2, .int .i64 drain, .int .i64 limit, .int .i64 delay, .bool CM.brk, .int .i64 log], true⟩ ∧ M7.get sb = some ⟨[.int .i64 log, .int .i64 delay, .int .i64 0, .int .i64 250, .int .i64 (-2147483648), .int .i64 2147483647], true⟩ ∧ M7.get rb = some ⟨(.int .u8 kind :: .int .i64 signal :: .int .i64 limit :: .int .i64 back :: .int .i64 delay :: .int .i64 log :: .int .u8 prio :: .bool r0.latch :: frow 2 0 (r0.stages.map Stage.val) :: X), true⟩ := ⟨_, rfl, by simp only [get_set, if_true, k4, Option.map_some], by simp only [get_set]; rw [if_neg n1, if_neg n1, if_neg n1, if_neg n1]; exact k5, by simp only [get_set]; rw [if_neg n2, if_neg n2, if_neg n2, if_neg n2]; exact k6⟩
    rw [← h7]
    clear h7 k4 k5 k6
    obtain ⟨K0', hf0, f1, f2, f3⟩ := FrzH.one (S := fun j => j == sb || j == rb) (b := kb) (cs' := c.cells) (by simp [n3, n4]) gk (by
      rw [hc, ← hCM]
      refine .cons (frz_lit ([(⟨log, delay⟩ : Sig), ⟨0, 250⟩, ⟨-2147483648, 2147483647⟩].map Sig.val) g5 (by simp [Sig.val, Sig.cells, Value.cells]) (by intro u hu; obtain ⟨x, _, rfl⟩ := List.mem_map.1 hu; rfl) rfl (by simp)) (.cons ?_ (FrzL.same _))
      refine frz_lit (((⟨kind, signal, limit, back, delay, log, prio, r0.latch, r0.stages⟩ : Rule) :: rs).map Rule.val) g6 ?_ (by intro u hu; obtain ⟨x, _, rfl⟩ := List.mem_map.1 hu; rfl) (by simp) (by simp)
      rw [hX]; simp [Rule.val, Rule.cells, Value.cells])
    refine IWp.freezeH K0' _ (.cons (.same _) .nil) hf0 ?_
    clear hf0 f2 f3 gk g5 g6
    clear hCO ek
    simp only [Config.cells] at f1
    refine IWp.one [17, 18, 19, 20] ?_
    simp [go_sem, -getElem?_pos, -List.map_take, -List.map_drop, IntWalk.iteOmega, IntWalk.toNatUp, f1, Config.val, Config.cells, get_alloc, show ¬ kb = K0'.next from Nat.ne_of_lt (Heap.lt_of_get f1)]
    refine ICalls.then (encodeC _ c hw (cfgB_small hf)) ?_
    try simp [go_sem, -getElem?_pos, -List.map_take, -List.map_drop, IntWalk.iteOmega, IntWalk.toNatUp, f1, Config.val, Config.cells, get_alloc, show ¬ kb = K0'.next from Nat.ne_of_lt (Heap.lt_of_get f1)]
    refine ICalls.then (backC _ 0 hf hw) ?_
    try simp [go_sem, -getElem?_pos, -List.map_take, -List.map_drop, IntWalk.iteOmega, IntWalk.toNatUp, f1, Config.val, Config.cells, get_alloc, show ¬ kb = K0'.next from Nat.ne_of_lt (Heap.lt_of_get f1)]
    refine IWp.one [16] ?_
    simp [go_sem, -getElem?_pos, -List.map_take, -List.map_drop, IntWalk.iteOmega, IntWalk.toNatUp, f1, Config.val, Config.cells, get_alloc, show ¬ kb = K0'.next from Nat.ne_of_lt (Heap.lt_of_get f1)]
    refine ICalls.then (sameCfg _ c hw (slot_small hf)) ?_
    try simp [go_sem, -getElem?_pos, -List.map_take, -List.map_drop, IntWalk.iteOmega, IntWalk.toNatUp, f1, Config.val, Config.cells, get_alloc, show ¬ kb = K0'.next from Nat.ne_of_lt (Heap.lt_of_get f1)]
    refine IWp.one [] ?_
    simp [go_sem, -getElem?_pos, -List.map_take, -List.map_drop, IntWalk.iteOmega, IntWalk.toNatUp, f1, Config.val, Config.cells, get_alloc, show ¬ kb = K0'.next from Nat.ne_of_lt (Heap.lt_of_get f1)]
  · have dcs := decide_eq_false hs
    refine IBody.of Tryd.func7 rfl (by rw [Tryd.ntmps7]; simp) ?_
    rw [Tryd.ntmps7]
    have Kp : Kept [[1,2,3,4,5,6,7,8],[1,2,3,4,5,6,7,8,27]] := ⟨⟩
    iterate 2 (refine Kp.s ?_; clear Kp; intro Kp; simp [go_sem, -getElem?_pos, -List.map_take, -List.map_drop, IntWalk.iteOmega, IntWalk.toNatUp, Draft.val, Draft.cells, dcs])
    refine ICalls.then (noneC _) ?_
    try simp [go_sem, -getElem?_pos, -List.map_take, -List.map_drop, IntWalk.iteOmega, IntWalk.toNatUp, Draft.val, Draft.cells, dcs]
    refine ICalls.then (shortD' _ d) ?_
    try simp [go_sem, -getElem?_pos, -List.map_take, -List.map_drop, IntWalk.iteOmega, IntWalk.toNatUp, Draft.val, Draft.cells, dcs]
    have Kp : Kept [[],[16]] := ⟨⟩
    iterate 2 (refine Kp.s ?_; clear Kp; intro Kp; simp [go_sem, -getElem?_pos, -List.map_take, -List.map_drop, IntWalk.iteOmega, IntWalk.toNatUp, Draft.val, Draft.cells, dcs])
    refine ICalls.then (noneC _) ?_
    try simp [go_sem, -getElem?_pos, -List.map_take, -List.map_drop, IntWalk.iteOmega, IntWalk.toNatUp, Draft.val, Draft.cells, dcs]
    refine IWp.one [] ?_
    simp [go_sem, -getElem?_pos, -List.map_take, -List.map_drop, IntWalk.iteOmega, IntWalk.toNatUp, Draft.val, Draft.cells, dcs]
end Go.Proofs.YtoecebibhcadoaaDoor.I
