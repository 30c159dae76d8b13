/- A configuration laid: its lists, its rules. No condition. -/
import Derived.Test.YtoecebibhcadoaaDoorGImgF
import Derived.Test.YtoecebibhcadoaaDoorGSum
namespace Go.Proofs.YtoecebibhcadoaaDoor.I
open Go Go.RowKit
set_option linter.unusedVariables false
set_option linter.unusedSimpArgs false
def WrF (H : Heap) (b : Nat) (L : List Int) (F : List (Nat × List Value)) : Prop := ∃ r, WrAt H b r L ∧ ∀ p ∈ F, H.get p.1 = some ⟨p.2, true⟩ ∧ p.1 ≠ b ∧ r ≠ some p.1
section
variable {H K : Heap} {b : Nat} {L M : List Int} {F G : List (Nat × List Value)}
theorem WrF.at_ (h : WrF H b L F) {p : Nat × List Value} (hp : p ∈ F) : H.get p.1 = some ⟨p.2, true⟩ := by
  obtain ⟨r, _, h2⟩ := h
  exact (h2 p hp).1
theorem WrF.alloc (h : WrF H b L F) (cs : List Value) : WrF (H.alloc cs) b L F := by
  obtain ⟨r, h1, h2⟩ := h
  exact ⟨r, h1.same fun j hj => Heap.get_alloc_lt _ _ _ hj, fun p hp => ⟨by rw [Heap.get_alloc_lt _ _ _ (Heap.lt_of_get (h2 p hp).1)]; exact (h2 p hp).1, (h2 p hp).2⟩⟩
theorem WrF.more (h : WrF H b L F) (cs : List Value) : WrF (H.alloc cs) b L ((H.next, cs) :: F) := by
  obtain ⟨r, h1, h2⟩ := h
  have hl := h1.lt
  obtain ⟨r', h3, h4⟩ : WrF (H.alloc cs) b L F := WrF.alloc ⟨r, h1, h2⟩ cs
  refine ⟨r, h1.same fun j hj => Heap.get_alloc_lt _ _ _ hj, fun p hp => ?_⟩
  rcases List.mem_cons.1 hp with rfl | hp
  · exact ⟨Heap.get_alloc_new _ _, by simp only; omega, fun e => by have := hl.2 _ e; simp only at this; omega⟩
  · exact ⟨(h4 p hp).1, (h2 p hp).2⟩
theorem WrF.sub (h : WrF H b L F) (hs : ∀ p ∈ G, p ∈ F) : WrF H b L G := by
  obtain ⟨r, h1, h2⟩ := h
  exact ⟨r, h1, fun p hp => h2 p (hs p hp)⟩
theorem WrF.less {p : Nat × List Value} (h : WrF H b L (p :: F)) : WrF H b L F := h.sub fun x hx => List.mem_cons_of_mem _ hx
theorem WrF.step {r r' : Option Nat} (h1 : WrAt H b r L) (h2 : ∀ p ∈ F, H.get p.1 = some ⟨p.2, true⟩ ∧ p.1 ≠ b ∧ r ≠ some p.1) (h : WrAt K b r' M) (s : Step H K b r r') : WrF K b M F := by
  refine ⟨r', h, fun p hp => ?_⟩
  obtain ⟨a1, a2, a3⟩ := h2 p hp
  have hlt := Heap.lt_of_get a1
  refine ⟨by rw [s.get _ hlt a2 a3]; exact a1, a2, ?_⟩
  rcases s.row with rfl | ⟨q, rfl, hq⟩
  · exact a3
  · intro e; cases e; omega
theorem wfByte (h : WrF H b L F) (x : Int) (hl : L.length ≤ 900000) : ICalls Tryd.prog 22 [ptrTo b 0, .int .u8 x] H fun v K => v = ptrTo b 0 ∧ WrF K b (L ++ [x]) F := by
  obtain ⟨r, h1, h2⟩ := h
  exact (wByte H b r L x h1 hl).mono fun v K ⟨e, r', h3, h4⟩ => ⟨e, WrF.step h1 h2 h3 h4⟩
theorem wfInt (h : WrF H b L F) (x : Int) (hl : L.length ≤ 900000) : ICalls Tryd.prog 25 [ptrTo b 0, .int .i64 x] H fun v K => v = ptrTo b 0 ∧ WrF K b (L ++ i4 x) F := by
  obtain ⟨r, h1, h2⟩ := h
  exact (wInt H b r L x h1 hl).mono fun v K ⟨e, r', h3, h4⟩ => ⟨e, WrF.step h1 h2 h3 h4⟩
theorem wfFlag (h : WrF H b L F) (x : Bool) (hl : L.length ≤ 900000) : ICalls Tryd.prog 33 [ptrTo b 0, .bool x] H fun v K => v = ptrTo b 0 ∧ WrF K b (L ++ [if x then 1 else 0]) F := by
  obtain ⟨r, h1, h2⟩ := h
  exact (wFlag H b r L x h1 hl).mono fun v K ⟨e, r', h3, h4⟩ => ⟨e, WrF.step h1 h2 h3 h4⟩
end
theorem putSig {H : Heap} {b x : Nat} {L : List Int} {F : List (Nat × List Value)} (y : Sig) (h : WrF H b L F) (hx : (x, [ptrTo b 0]) ∈ F) (hl : (L ++ sigB y).length ≤ 700000) :
    ICalls Tryd.prog 24 [y.val, ptrTo x 0] H fun v K => v = .tuple #[] ∧ WrF K b (L ++ sigB y) F := by
  refine IBody.calls (by kernel_rfl) ?_
  have hl0 : L.length ≤ 700000 := by rw [List.length_append] at hl; omega
  have h1 := h.more [.int .i64 y.lo, .int .i64 y.hi]
  have a1 := h1.at_ (List.mem_cons_self ..)
  have a2 := h1.at_ (List.mem_cons_of_mem _ hx)
  simp only at a1 a2
  refine IBody.of Tryd.func24 rfl (by rw [Tryd.ntmps24]; simp) ?_
  rw [Tryd.ntmps24]
  refine IWp.one [1, 2] ?_
  simp [go_sem, -getElem?_pos, -List.map_take, -List.map_drop, IntWalk.iteOmega, IntWalk.toNatUp, Sig.val, Sig.cells]
  generalize H.alloc _ = K0 at h1 a1 a2 ⊢
  generalize H.next = yb at h1 a1 ⊢
  refine IWp.draw [] [yb, x] (.ld 0 [3, 6] (.val 1 (.ld 2 [3, 6] (.val 4 (.val 5 (.eff 3 (.eff 6 .done .done) .done)))))) follows (by kernel_rfl) ?_
  simp [go_sem, -getElem?_pos, -List.map_take, -List.map_drop, IntWalk.iteOmega, IntWalk.toNatUp, a1, a2]
  refine ICalls.mono (wfInt h1 y.lo (by omega)) ?_
  rintro v K1 ⟨rfl, h2⟩
  try simp [go_sem, -getElem?_pos, -List.map_take, -List.map_drop, IntWalk.iteOmega, IntWalk.toNatUp, a1, a2, h2.at_ (List.mem_cons_self ..), h2.at_ (List.mem_cons_of_mem _ hx)]
  refine ICalls.mono (wfInt h2 y.hi (by rw [List.length_append]; simp [i4]; omega)) ?_
  rintro v K2 ⟨rfl, h3⟩
  try simp [go_sem, -getElem?_pos, -List.map_take, -List.map_drop, IntWalk.iteOmega, IntWalk.toNatUp, a1, a2, h2.at_ (List.mem_cons_self ..), h2.at_ (List.mem_cons_of_mem _ hx), h3.at_ (List.mem_cons_self ..), h3.at_ (List.mem_cons_of_mem _ hx)]
  rw [List.append_assoc] at h3
  exact h3.less
set_option maxHeartbeats 4000000 in
theorem laySig {H : Heap} {b x : Nat} {L : List Int} {F : List (Nat × List Value)} (l : List Sig) (h : WrF H b L F) (hx : (x, [ptrTo b 0]) ∈ F) (hn : l.length ≤ 9223372036854775807) (hl : (L ++ [(l.length : Int) % 256] ++ l.flatMap sigB).length ≤ 700000) :
    ICalls Tryd.prog 23 [ptrTo b 0, frow 2 0 (l.map Sig.val), .func (.func 24) #[] #[ptrTo x 0]] H fun v K => v = .tuple #[] ∧ WrF K b (L ++ [(l.length : Int) % 256] ++ l.flatMap sigB) F := by
  refine IBody.calls (by kernel_rfl) ?_
  obtain ⟨CF, hCF⟩ : ∃ CF : Value, CF = .func (.func 24) #[] #[ptrTo x 0] := ⟨_, rfl⟩
  rw [← hCF]
  have hl0 : L.length ≤ 700000 := by rw [List.length_append, List.length_append] at hl; omega
  refine IBody.of Tryd.func23 rfl (by rw [Tryd.ntmps23]; simp) ?_
  rw [Tryd.ntmps23]
  refine IWp.one [1, 2] ?_
  simp [go_sem, -getElem?_pos, -List.map_take, -List.map_drop, IntWalk.iteOmega, IntWalk.toNatUp, u8_mod]
  refine ICalls.mono (wfByte h _ (by omega)) ?_
  rintro v K0 ⟨rfl, h0⟩
  try simp [go_sem, -getElem?_pos, -List.map_take, -List.map_drop, IntWalk.iteOmega, IntWalk.toNatUp, u8_mod]
  refine IWp.one [2, 13, 14, 15] ?_
  simp [go_sem, -getElem?_pos, -List.map_take, -List.map_drop, IntWalk.iteOmega, IntWalk.toNatUp, u8_mod]
  refine IWp.block ?_
  refine IWp.loop (fun j e K => ∃ i : Nat, j = l.length - i ∧ i ≤ l.length ∧ WrF K b (L ++ [(l.length : Int) % 256] ++ (l.take i).flatMap sigB) F ∧ e = [(2, CF), (13, frow 2 0 (l.map Sig.val)), (14, .int .i64 (l.length : Int)), (15, .int .i64 (i : Int))]) l.length ⟨0, rfl, Nat.zero_le _, by simpa using h0, by simp [go_sem]⟩ ?_
  rintro j e K ⟨i, rfl, hi, hk, rfl⟩
  by_cases hlt : i < l.length
  · have g : l[i]? = some l[i] := by simp [hlt]
    have hstep := lay_next sigB hlt
    have hb : (L ++ [(l.length : Int) % 256] ++ (l.take i).flatMap sigB ++ sigB l[i]).length ≤ 700000 := by
      refine Nat.le_trans ?_ hl
      rw [List.append_assoc, ← hstep]
      exact ((List.prefix_append_right_inj _).2 (lay_take sigB l (i + 1))).length_le
    generalize l[i] = y at g hstep hb
    have w1 := IntWalk.i64_in ((i : Int) + 1) (by omega)
    have c1 := putSig y (hk.more [.int .i64 y.lo, .int .i64 y.hi]) (List.mem_cons_of_mem _ hx) hb
    try simp only [Sig.val, Sig.cells] at c1
    have Kp : Kept [[2,13,14,15,16],[],[2,13,14,15],[2,7,13,14,15],[2,13,14,15]] := ⟨⟩
    iterate 5 (refine Kp.s ?_; clear Kp; intro Kp; simp [go_sem, -getElem?_pos, -List.map_take, -List.map_drop, IntWalk.iteOmega, IntWalk.toNatUp, hlt, g, Sig.val, Sig.cells])
    subst hCF
    simp [go_sem]
    refine ICalls.mono c1 ?_
    rintro v K1 ⟨rfl, hk1⟩
    simp [go_sem]
    refine IWp.one [2, 13, 14, 15] ?_
    simp [go_sem, -getElem?_pos, -List.map_take, -List.map_drop, IntWalk.iteOmega, IntWalk.toNatUp, w1]
    exact ⟨l.length - (i + 1), by omega, i + 1, rfl, by omega, by simpa [hstep] using hk1.less, by simp⟩
  · skip
    have Kp : Kept [[2,13,14,15,16],[],[]] := ⟨⟩
    iterate 3 (refine Kp.s ?_; clear Kp; intro Kp; simp [go_sem, -getElem?_pos, -List.map_take, -List.map_drop, IntWalk.iteOmega, IntWalk.toNatUp, show ¬ (i : Int) < l.length by omega])
    rw [List.take_of_length_le (by omega)] at hk
    simpa using hk
theorem putStage {H : Heap} {b x : Nat} {L : List Int} {F : List (Nat × List Value)} (y : Stage) (h : WrF H b L F) (hx : (x, [ptrTo b 0]) ∈ F) (hl : (L ++ stageB y).length ≤ 700000) :
    ICalls Tryd.prog 46 [y.val, ptrTo x 0] H fun v K => v = .tuple #[] ∧ WrF K b (L ++ stageB y) F := by
  refine IBody.calls (by kernel_rfl) ?_
  have hl0 : L.length ≤ 700000 := by rw [List.length_append] at hl; omega
  have h1 := h.more [.int .i64 y.wait, .int .u8 y.prio]
  have a1 := h1.at_ (List.mem_cons_self ..)
  have a2 := h1.at_ (List.mem_cons_of_mem _ hx)
  simp only at a1 a2
  refine IBody.of Tryd.func46 rfl (by rw [Tryd.ntmps46]; simp) ?_
  rw [Tryd.ntmps46]
  refine IWp.one [1, 2] ?_
  simp [go_sem, -getElem?_pos, -List.map_take, -List.map_drop, IntWalk.iteOmega, IntWalk.toNatUp, Stage.val, Stage.cells]
  generalize H.alloc _ = K0 at h1 a1 a2 ⊢
  generalize H.next = yb at h1 a1 ⊢
  refine IWp.draw [] [yb, x] (.ld 0 [3, 6] (.val 1 (.ld 2 [3, 6] (.val 4 (.val 5 (.eff 3 (.eff 6 .done .done) .done)))))) follows (by kernel_rfl) ?_
  simp [go_sem, -getElem?_pos, -List.map_take, -List.map_drop, IntWalk.iteOmega, IntWalk.toNatUp, a1, a2]
  refine ICalls.mono (wfInt h1 y.wait (by omega)) ?_
  rintro v K1 ⟨rfl, h2⟩
  try simp [go_sem, -getElem?_pos, -List.map_take, -List.map_drop, IntWalk.iteOmega, IntWalk.toNatUp, a1, a2, h2.at_ (List.mem_cons_self ..), h2.at_ (List.mem_cons_of_mem _ hx)]
  refine ICalls.mono (wfByte h2 y.prio (by rw [List.length_append]; simp [i4]; omega)) ?_
  rintro v K2 ⟨rfl, h3⟩
  try simp [go_sem, -getElem?_pos, -List.map_take, -List.map_drop, IntWalk.iteOmega, IntWalk.toNatUp, a1, a2, h2.at_ (List.mem_cons_self ..), h2.at_ (List.mem_cons_of_mem _ hx), h3.at_ (List.mem_cons_self ..), h3.at_ (List.mem_cons_of_mem _ hx)]
  rw [List.append_assoc] at h3
  exact h3.less
set_option maxHeartbeats 4000000 in
theorem layStage {H : Heap} {b x : Nat} {L : List Int} {F : List (Nat × List Value)} (l : List Stage) (h : WrF H b L F) (hx : (x, [ptrTo b 0]) ∈ F) (hn : l.length ≤ 9223372036854775807) (hl : (L ++ [(l.length : Int) % 256] ++ l.flatMap stageB).length ≤ 700000) :
    ICalls Tryd.prog 45 [ptrTo b 0, frow 2 0 (l.map Stage.val), .func (.func 46) #[] #[ptrTo x 0]] H fun v K => v = .tuple #[] ∧ WrF K b (L ++ [(l.length : Int) % 256] ++ l.flatMap stageB) F := by
  refine IBody.calls (by kernel_rfl) ?_
  obtain ⟨CF, hCF⟩ : ∃ CF : Value, CF = .func (.func 46) #[] #[ptrTo x 0] := ⟨_, rfl⟩
  rw [← hCF]
  have hl0 : L.length ≤ 700000 := by rw [List.length_append, List.length_append] at hl; omega
  refine IBody.of Tryd.func45 rfl (by rw [Tryd.ntmps45]; simp) ?_
  rw [Tryd.ntmps45]
  refine IWp.one [1, 2] ?_
  simp [go_sem, -getElem?_pos, -List.map_take, -List.map_drop, IntWalk.iteOmega, IntWalk.toNatUp, u8_mod]
  refine ICalls.mono (wfByte h _ (by omega)) ?_
  rintro v K0 ⟨rfl, h0⟩
  try simp [go_sem, -getElem?_pos, -List.map_take, -List.map_drop, IntWalk.iteOmega, IntWalk.toNatUp, u8_mod]
  refine IWp.one [2, 13, 14, 15] ?_
  simp [go_sem, -getElem?_pos, -List.map_take, -List.map_drop, IntWalk.iteOmega, IntWalk.toNatUp, u8_mod]
  refine IWp.block ?_
  refine IWp.loop (fun j e K => ∃ i : Nat, j = l.length - i ∧ i ≤ l.length ∧ WrF K b (L ++ [(l.length : Int) % 256] ++ (l.take i).flatMap stageB) F ∧ e = [(2, CF), (13, frow 2 0 (l.map Stage.val)), (14, .int .i64 (l.length : Int)), (15, .int .i64 (i : Int))]) l.length ⟨0, rfl, Nat.zero_le _, by simpa using h0, by simp [go_sem]⟩ ?_
  rintro j e K ⟨i, rfl, hi, hk, rfl⟩
  by_cases hlt : i < l.length
  · have g : l[i]? = some l[i] := by simp [hlt]
    have hstep := lay_next stageB hlt
    have hb : (L ++ [(l.length : Int) % 256] ++ (l.take i).flatMap stageB ++ stageB l[i]).length ≤ 700000 := by
      refine Nat.le_trans ?_ hl
      rw [List.append_assoc, ← hstep]
      exact ((List.prefix_append_right_inj _).2 (lay_take stageB l (i + 1))).length_le
    generalize l[i] = y at g hstep hb
    have w1 := IntWalk.i64_in ((i : Int) + 1) (by omega)
    have c1 := putStage y (hk.more [.int .i64 y.wait, .int .u8 y.prio]) (List.mem_cons_of_mem _ hx) hb
    try simp only [Stage.val, Stage.cells] at c1
    have Kp : Kept [[2,13,14,15,16],[],[2,13,14,15],[2,7,13,14,15],[2,13,14,15]] := ⟨⟩
    iterate 5 (refine Kp.s ?_; clear Kp; intro Kp; simp [go_sem, -getElem?_pos, -List.map_take, -List.map_drop, IntWalk.iteOmega, IntWalk.toNatUp, hlt, g, Stage.val, Stage.cells])
    subst hCF
    simp [go_sem]
    refine ICalls.mono c1 ?_
    rintro v K1 ⟨rfl, hk1⟩
    simp [go_sem]
    refine IWp.one [2, 13, 14, 15] ?_
    simp [go_sem, -getElem?_pos, -List.map_take, -List.map_drop, IntWalk.iteOmega, IntWalk.toNatUp, w1]
    exact ⟨l.length - (i + 1), by omega, i + 1, rfl, by omega, by simpa [hstep] using hk1.less, by simp⟩
  · skip
    have Kp : Kept [[2,13,14,15,16],[],[]] := ⟨⟩
    iterate 3 (refine Kp.s ?_; clear Kp; intro Kp; simp [go_sem, -getElem?_pos, -List.map_take, -List.map_drop, IntWalk.iteOmega, IntWalk.toNatUp, show ¬ (i : Int) < l.length by omega])
    rw [List.take_of_length_le (by omega)] at hk
    simpa using hk
set_option maxHeartbeats 4000000 in
theorem ruleW {H : Heap} {b : Nat} {L : List Int} {F : List (Nat × List Value)} (y : Rule) (h : WrF H b L F) (hn : y.stages.length ≤ 9223372036854775807) (hl : (L ++ ruleY y).length ≤ 700000) :
    ICalls Tryd.prog 28 [ptrTo b 0, y.val] H fun v K => v = .tuple #[] ∧ WrF K b (L ++ ruleY y) F := by
  refine IBody.calls (by kernel_rfl) ?_
  have hl0 : L.length ≤ 700000 := by rw [List.length_append] at hl; omega
  have h1 := (h.more [ptrTo b 0]).more [.int .u8 y.kind, .int .i64 y.sg, .int .i64 y.lim, .int .i64 y.back, .int .i64 y.delay, .int .i64 y.span, .int .u8 y.prio, .bool y.latch, frow 2 0 (y.stages.map Stage.val)]
  have a1 := h1.at_ (List.mem_cons_self ..)
  have a2 := h1.at_ (List.mem_cons_of_mem _ (List.mem_cons_self ..))
  simp only at a1 a2
  refine IBody.of Tryd.func28 rfl (by rw [Tryd.ntmps28]; simp) ?_
  rw [Tryd.ntmps28]
  refine IWp.one [2, 3] ?_
  simp [go_sem, -getElem?_pos, -List.map_take, -List.map_drop, IntWalk.iteOmega, IntWalk.toNatUp, Rule.val, Rule.cells]
  refine IWp.seq ?_
  simp only [next_alloc] at h1 a1
  try simp only [ptrTo] at h1
  try simp only [ptrTo] at a2
  try simp only [ptrTo] at a1
  generalize (H.alloc _).alloc _ = K0 at h1 a1 a2 ⊢
  generalize H.next + 1 = yb at h1 a1 ⊢
  generalize H.next = x at h1 a2 ⊢
  refine IWp.draw [2, 3] [yb, x] (.ld 0 [3, 7, 10, 13, 16, 19, 22, 25] (.val 1 (.ld 2 [3, 7, 10, 13, 16, 19, 22, 25] (.val 4 (.val 8 (.val 11 (.val 14 (.val 17 (.val 20 (.val 23 (.val 5 (.val 6 (.val 9 (.val 12 (.val 15 (.val 18 (.val 21 (.val 24 (.eff 3 (.eff 7 (.eff 10 (.eff 13 (.eff 16 (.eff 19 (.eff 22 (.eff 25 .done .done) .done) .done) .done) .done) .done) .done) .done))))))))))))))))))) follows (by kernel_rfl) ?_
  simp [go_sem, -getElem?_pos, -List.map_take, -List.map_drop, IntWalk.iteOmega, IntWalk.toNatUp, a1, a2, u8_mod]
  refine ICalls.mono (wfByte h1 y.kind (by (try simp [i4]); omega)) ?_
  rintro v K1 ⟨rfl, h2⟩
  try simp [go_sem, -getElem?_pos, -List.map_take, -List.map_drop, IntWalk.iteOmega, IntWalk.toNatUp, a1, a2, u8_mod, h2.at_ (List.mem_cons_self ..), h2.at_ (List.mem_cons_of_mem _ (List.mem_cons_self ..))]
  refine ICalls.mono (wfByte h2 (y.sg % 256) (by (try simp [i4]); omega)) ?_
  rintro v K2 ⟨rfl, h3⟩
  try simp [go_sem, -getElem?_pos, -List.map_take, -List.map_drop, IntWalk.iteOmega, IntWalk.toNatUp, a1, a2, u8_mod, h2.at_ (List.mem_cons_self ..), h2.at_ (List.mem_cons_of_mem _ (List.mem_cons_self ..)), h3.at_ (List.mem_cons_self ..), h3.at_ (List.mem_cons_of_mem _ (List.mem_cons_self ..))]
  refine ICalls.mono (wfInt h3 y.lim (by (try simp [i4]); omega)) ?_
  rintro v K3 ⟨rfl, h4⟩
  try simp [go_sem, -getElem?_pos, -List.map_take, -List.map_drop, IntWalk.iteOmega, IntWalk.toNatUp, a1, a2, u8_mod, h2.at_ (List.mem_cons_self ..), h2.at_ (List.mem_cons_of_mem _ (List.mem_cons_self ..)), h3.at_ (List.mem_cons_self ..), h3.at_ (List.mem_cons_of_mem _ (List.mem_cons_self ..)), h4.at_ (List.mem_cons_self ..), h4.at_ (List.mem_cons_of_mem _ (List.mem_cons_self ..))]
  refine ICalls.mono (wfInt h4 y.back (by (try simp [i4]); omega)) ?_
  rintro v K4 ⟨rfl, h5⟩
  try simp [go_sem, -getElem?_pos, -List.map_take, -List.map_drop, IntWalk.iteOmega, IntWalk.toNatUp, a1, a2, u8_mod, h2.at_ (List.mem_cons_self ..), h2.at_ (List.mem_cons_of_mem _ (List.mem_cons_self ..)), h3.at_ (List.mem_cons_self ..), h3.at_ (List.mem_cons_of_mem _ (List.mem_cons_self ..)), h4.at_ (List.mem_cons_self ..), h4.at_ (List.mem_cons_of_mem _ (List.mem_cons_self ..)), h5.at_ (List.mem_cons_self ..), h5.at_ (List.mem_cons_of_mem _ (List.mem_cons_self ..))]
  refine ICalls.mono (wfInt h5 y.delay (by (try simp [i4]); omega)) ?_
  rintro v K5 ⟨rfl, h6⟩
  try simp [go_sem, -getElem?_pos, -List.map_take, -List.map_drop, IntWalk.iteOmega, IntWalk.toNatUp, a1, a2, u8_mod, h2.at_ (List.mem_cons_self ..), h2.at_ (List.mem_cons_of_mem _ (List.mem_cons_self ..)), h3.at_ (List.mem_cons_self ..), h3.at_ (List.mem_cons_of_mem _ (List.mem_cons_self ..)), h4.at_ (List.mem_cons_self ..), h4.at_ (List.mem_cons_of_mem _ (List.mem_cons_self ..)), h5.at_ (List.mem_cons_self ..), h5.at_ (List.mem_cons_of_mem _ (List.mem_cons_self ..)), h6.at_ (List.mem_cons_self ..), h6.at_ (List.mem_cons_of_mem _ (List.mem_cons_self ..))]
  refine ICalls.mono (wfInt h6 y.span (by (try simp [i4]); omega)) ?_
  rintro v K6 ⟨rfl, h7⟩
  try simp [go_sem, -getElem?_pos, -List.map_take, -List.map_drop, IntWalk.iteOmega, IntWalk.toNatUp, a1, a2, u8_mod, h2.at_ (List.mem_cons_self ..), h2.at_ (List.mem_cons_of_mem _ (List.mem_cons_self ..)), h3.at_ (List.mem_cons_self ..), h3.at_ (List.mem_cons_of_mem _ (List.mem_cons_self ..)), h4.at_ (List.mem_cons_self ..), h4.at_ (List.mem_cons_of_mem _ (List.mem_cons_self ..)), h5.at_ (List.mem_cons_self ..), h5.at_ (List.mem_cons_of_mem _ (List.mem_cons_self ..)), h6.at_ (List.mem_cons_self ..), h6.at_ (List.mem_cons_of_mem _ (List.mem_cons_self ..)), h7.at_ (List.mem_cons_self ..), h7.at_ (List.mem_cons_of_mem _ (List.mem_cons_self ..))]
  refine ICalls.mono (wfByte h7 y.prio (by (try simp [i4]); omega)) ?_
  rintro v K7 ⟨rfl, h8⟩
  try simp [go_sem, -getElem?_pos, -List.map_take, -List.map_drop, IntWalk.iteOmega, IntWalk.toNatUp, a1, a2, u8_mod, h2.at_ (List.mem_cons_self ..), h2.at_ (List.mem_cons_of_mem _ (List.mem_cons_self ..)), h3.at_ (List.mem_cons_self ..), h3.at_ (List.mem_cons_of_mem _ (List.mem_cons_self ..)), h4.at_ (List.mem_cons_self ..), h4.at_ (List.mem_cons_of_mem _ (List.mem_cons_self ..)), h5.at_ (List.mem_cons_self ..), h5.at_ (List.mem_cons_of_mem _ (List.mem_cons_self ..)), h6.at_ (List.mem_cons_self ..), h6.at_ (List.mem_cons_of_mem _ (List.mem_cons_self ..)), h7.at_ (List.mem_cons_self ..), h7.at_ (List.mem_cons_of_mem _ (List.mem_cons_self ..)), h8.at_ (List.mem_cons_self ..), h8.at_ (List.mem_cons_of_mem _ (List.mem_cons_self ..))]
  refine ICalls.mono (wfFlag h8 y.latch (by (try simp [i4]); omega)) ?_
  rintro v K8 ⟨rfl, h9⟩
  try simp [go_sem, -getElem?_pos, -List.map_take, -List.map_drop, IntWalk.iteOmega, IntWalk.toNatUp, a1, a2, u8_mod, h2.at_ (List.mem_cons_self ..), h2.at_ (List.mem_cons_of_mem _ (List.mem_cons_self ..)), h3.at_ (List.mem_cons_self ..), h3.at_ (List.mem_cons_of_mem _ (List.mem_cons_self ..)), h4.at_ (List.mem_cons_self ..), h4.at_ (List.mem_cons_of_mem _ (List.mem_cons_self ..)), h5.at_ (List.mem_cons_self ..), h5.at_ (List.mem_cons_of_mem _ (List.mem_cons_self ..)), h6.at_ (List.mem_cons_self ..), h6.at_ (List.mem_cons_of_mem _ (List.mem_cons_self ..)), h7.at_ (List.mem_cons_self ..), h7.at_ (List.mem_cons_of_mem _ (List.mem_cons_self ..)), h8.at_ (List.mem_cons_self ..), h8.at_ (List.mem_cons_of_mem _ (List.mem_cons_self ..)), h9.at_ (List.mem_cons_self ..), h9.at_ (List.mem_cons_of_mem _ (List.mem_cons_self ..))]
  have e9 : L ++ ruleY y = L ++ [y.kind] ++ [y.sg % 256] ++ i4 y.lim ++ i4 y.back ++ i4 y.delay ++ i4 y.span ++ [y.prio] ++ [if y.latch = true then 1 else 0] ++ [(y.stages.length : Int) % 256] ++ y.stages.flatMap stageB := by simp [ruleY, flagB]
  rw [e9] at hl ⊢
  have c9 := layStage (x := x) y.stages h9 (List.mem_cons_of_mem _ (List.mem_cons_self ..)) hn hl
  simp only [ptrTo] at c9
  refine IWp.one [] ?_
  simp [go_sem, -getElem?_pos, -List.map_take, -List.map_drop, IntWalk.iteOmega, IntWalk.toNatUp, h9.at_ (List.mem_cons_self ..), h9.at_ (List.mem_cons_of_mem _ (List.mem_cons_self ..))]
  refine ICalls.mono (c9) ?_
  rintro v K9 ⟨rfl, h10⟩
  try simp [go_sem, -getElem?_pos, -List.map_take, -List.map_drop, IntWalk.iteOmega, IntWalk.toNatUp, h9.at_ (List.mem_cons_self ..), h9.at_ (List.mem_cons_of_mem _ (List.mem_cons_self ..))]
  simpa using h10.less.less
theorem putRule {H : Heap} {b x : Nat} {L : List Int} {F : List (Nat × List Value)} (y : Rule) (h : WrF H b L F) (hx : (x, [ptrTo b 0]) ∈ F) (hw : y.wf) (hl : (L ++ ruleY y).length ≤ 700000) :
    ICalls Tryd.prog 27 [y.val, ptrTo x 0] H fun v K => v = .tuple #[] ∧ WrF K b (L ++ ruleY y) F := by
  refine IBody.calls (by kernel_rfl) ?_
  have h1 := h.more [.int .u8 y.kind, .int .i64 y.sg, .int .i64 y.lim, .int .i64 y.back, .int .i64 y.delay, .int .i64 y.span, .int .u8 y.prio, .bool y.latch, frow 2 0 (y.stages.map Stage.val)]
  have a1 := h1.at_ (List.mem_cons_self ..)
  have a2 := h1.at_ (List.mem_cons_of_mem _ hx)
  simp only at a1 a2
  have c1 := ruleW y h1 (by have := hw.2.2.2.2.2.2.2.2; simp only [maxLen] at this; omega) hl
  simp only [Rule.val, Rule.cells] at c1
  refine IBody.of Tryd.func27 rfl (by rw [Tryd.ntmps27]; simp) ?_
  rw [Tryd.ntmps27]
  have Kp : Kept [[1,2],[]] := ⟨⟩
  iterate 2 (refine Kp.s ?_; clear Kp; intro Kp; simp [go_sem, -getElem?_pos, -List.map_take, -List.map_drop, IntWalk.iteOmega, IntWalk.toNatUp, a1, a2, Rule.val, Rule.cells])
  refine ICalls.mono (c1) ?_
  rintro v K1 ⟨rfl, h2⟩
  try simp [go_sem, -getElem?_pos, -List.map_take, -List.map_drop, IntWalk.iteOmega, IntWalk.toNatUp, a1, a2, Rule.val, Rule.cells]
  exact h2.less
theorem putEntry {H : Heap} {b x : Nat} {L : List Int} {F : List (Nat × List Value)} (y : Int) (h : WrF H b L F) (hx : (x, [ptrTo b 0]) ∈ F) (hl : (L ++ [y % 256]).length ≤ 700000) :
    ICalls Tryd.prog 32 [.int .i64 y, ptrTo x 0] H fun v K => v = .tuple #[] ∧ WrF K b (L ++ [y % 256]) F := by
  refine IBody.calls (by kernel_rfl) ?_
  have hl0 : L.length ≤ 700000 := by rw [List.length_append] at hl; omega
  have a2 := h.at_ hx
  simp only at a2
  refine IBody.of Tryd.func32 rfl (by rw [Tryd.ntmps32]; simp) ?_
  rw [Tryd.ntmps32]
  refine IWp.one [] ?_
  simp [go_sem, -getElem?_pos, -List.map_take, -List.map_drop, IntWalk.iteOmega, IntWalk.toNatUp, a2, u8_mod]
  refine ICalls.mono (wfByte h _ (by omega)) ?_
  rintro v K1 ⟨rfl, h2⟩
  try simp [go_sem, -getElem?_pos, -List.map_take, -List.map_drop, IntWalk.iteOmega, IntWalk.toNatUp, a2, u8_mod]
  exact h2
set_option maxHeartbeats 4000000 in
theorem layInt {H : Heap} {b x : Nat} {L : List Int} {F : List (Nat × List Value)} (l : List Int) (h : WrF H b L F) (hx : (x, [ptrTo b 0]) ∈ F) (hn : l.length ≤ 9223372036854775807) (hl : (L ++ [(l.length : Int) % 256] ++ l.flatMap (fun y => [y % 256])).length ≤ 700000) :
    ICalls Tryd.prog 31 [ptrTo b 0, frow 1 0 (l.map (Value.int .i64)), .func (.func 32) #[] #[ptrTo x 0]] H fun v K => v = .tuple #[] ∧ WrF K b (L ++ [(l.length : Int) % 256] ++ l.flatMap (fun y => [y % 256])) F := by
  refine IBody.calls (by kernel_rfl) ?_
  obtain ⟨CF, hCF⟩ : ∃ CF : Value, CF = .func (.func 32) #[] #[ptrTo x 0] := ⟨_, rfl⟩
  rw [← hCF]
  have hl0 : L.length ≤ 700000 := by rw [List.length_append, List.length_append] at hl; omega
  refine IBody.of Tryd.func31 rfl (by rw [Tryd.ntmps31]; simp) ?_
  rw [Tryd.ntmps31]
  refine IWp.one [1, 2] ?_
  simp [go_sem, -getElem?_pos, -List.map_take, -List.map_drop, IntWalk.iteOmega, IntWalk.toNatUp, u8_mod]
  refine ICalls.mono (wfByte h _ (by omega)) ?_
  rintro v K0 ⟨rfl, h0⟩
  try simp [go_sem, -getElem?_pos, -List.map_take, -List.map_drop, IntWalk.iteOmega, IntWalk.toNatUp, u8_mod]
  refine IWp.one [2, 13, 14, 15] ?_
  simp [go_sem, -getElem?_pos, -List.map_take, -List.map_drop, IntWalk.iteOmega, IntWalk.toNatUp, u8_mod]
  refine IWp.block ?_
  refine IWp.loop (fun j e K => ∃ i : Nat, j = l.length - i ∧ i ≤ l.length ∧ WrF K b (L ++ [(l.length : Int) % 256] ++ (l.take i).flatMap (fun y => [y % 256])) F ∧ e = [(2, CF), (13, frow 1 0 (l.map (Value.int .i64))), (14, .int .i64 (l.length : Int)), (15, .int .i64 (i : Int))]) l.length ⟨0, rfl, Nat.zero_le _, by simpa using h0, by simp [go_sem]⟩ ?_
  rintro j e K ⟨i, rfl, hi, hk, rfl⟩
  by_cases hlt : i < l.length
  · have g : l[i]? = some l[i] := by simp [hlt]
    have hstep := lay_next (fun y => [y % 256]) hlt
    have hb : (L ++ [(l.length : Int) % 256] ++ (l.take i).flatMap (fun y => [y % 256]) ++ (fun y => [y % 256]) l[i]).length ≤ 700000 := by
      refine Nat.le_trans ?_ hl
      rw [List.append_assoc, ← hstep]
      exact ((List.prefix_append_right_inj _).2 (lay_take (fun y => [y % 256]) l (i + 1))).length_le
    generalize l[i] = y at g hstep hb
    have w1 := IntWalk.i64_in ((i : Int) + 1) (by omega)
    have c1 := putEntry y (hk) hx hb
    try simp only [ints] at c1
    have Kp : Kept [[2,13,14,15,16],[],[2,13,14,15],[2,7,13,14,15],[2,13,14,15]] := ⟨⟩
    iterate 5 (refine Kp.s ?_; clear Kp; intro Kp; simp [go_sem, -getElem?_pos, -List.map_take, -List.map_drop, IntWalk.iteOmega, IntWalk.toNatUp, hlt, g, ints])
    subst hCF
    simp [go_sem]
    refine ICalls.mono c1 ?_
    rintro v K1 ⟨rfl, hk1⟩
    simp [go_sem]
    refine IWp.one [2, 13, 14, 15] ?_
    simp [go_sem, -getElem?_pos, -List.map_take, -List.map_drop, IntWalk.iteOmega, IntWalk.toNatUp, w1]
    exact ⟨l.length - (i + 1), by omega, i + 1, rfl, by omega, by simpa [hstep] using hk1, by simp⟩
  · skip
    have Kp : Kept [[2,13,14,15,16],[],[]] := ⟨⟩
    iterate 3 (refine Kp.s ?_; clear Kp; intro Kp; simp [go_sem, -getElem?_pos, -List.map_take, -List.map_drop, IntWalk.iteOmega, IntWalk.toNatUp, show ¬ (i : Int) < l.length by omega])
    rw [List.take_of_length_le (by omega)] at hk
    simpa using hk
theorem putSlot {H : Heap} {b x : Nat} {L : List Int} {F : List (Nat × List Value)} (y : List Int) (h : WrF H b L F) (hx : (x, [ptrTo b 0]) ∈ F) (hn : y.length ≤ 9223372036854775807) (hl : (L ++ slotB y).length ≤ 700000) :
    ICalls Tryd.prog 30 [ints .i64 y, ptrTo x 0] H fun v K => v = .tuple #[] ∧ WrF K b (L ++ slotB y) F := by
  refine IBody.calls (by kernel_rfl) ?_
  have a2 := h.at_ hx
  simp only at a2
  have e9 : L ++ slotB y = L ++ [(y.length : Int) % 256] ++ y.flatMap fun y => [y % 256] := by simp [slotB, flat_one]
  rw [e9] at hl ⊢
  refine IBody.of Tryd.func30 rfl (by rw [Tryd.ntmps30]; simp) ?_
  rw [Tryd.ntmps30]
  refine IWp.one [] ?_
  simp [go_sem, -getElem?_pos, -List.map_take, -List.map_drop, IntWalk.iteOmega, IntWalk.toNatUp, a2, ints]
  refine ICalls.mono (layInt (x := x) y h hx hn hl) ?_
  rintro v K1 ⟨rfl, h2⟩
  try simp [go_sem, -getElem?_pos, -List.map_take, -List.map_drop, IntWalk.iteOmega, IntWalk.toNatUp, a2, ints]
  simpa using h2
set_option maxHeartbeats 4000000 in
theorem laySlot {H : Heap} {b x : Nat} {L : List Int} {F : List (Nat × List Value)} (l : List (List Int)) (h : WrF H b L F) (hx : (x, [ptrTo b 0]) ∈ F) (hw : ∀ y ∈ l, y.length ≤ 9223372036854775807) (hn : l.length ≤ 9223372036854775807) (hl : (L ++ [(l.length : Int) % 256] ++ l.flatMap slotB).length ≤ 700000) :
    ICalls Tryd.prog 29 [ptrTo b 0, frow 1 0 (l.map (ints .i64)), .func (.func 30) #[] #[ptrTo x 0]] H fun v K => v = .tuple #[] ∧ WrF K b (L ++ [(l.length : Int) % 256] ++ l.flatMap slotB) F := by
  refine IBody.calls (by kernel_rfl) ?_
  obtain ⟨CF, hCF⟩ : ∃ CF : Value, CF = .func (.func 30) #[] #[ptrTo x 0] := ⟨_, rfl⟩
  rw [← hCF]
  have hl0 : L.length ≤ 700000 := by rw [List.length_append, List.length_append] at hl; omega
  refine IBody.of Tryd.func29 rfl (by rw [Tryd.ntmps29]; simp) ?_
  rw [Tryd.ntmps29]
  refine IWp.one [1, 2] ?_
  simp [go_sem, -getElem?_pos, -List.map_take, -List.map_drop, IntWalk.iteOmega, IntWalk.toNatUp, u8_mod]
  refine ICalls.mono (wfByte h _ (by omega)) ?_
  rintro v K0 ⟨rfl, h0⟩
  try simp [go_sem, -getElem?_pos, -List.map_take, -List.map_drop, IntWalk.iteOmega, IntWalk.toNatUp, u8_mod]
  refine IWp.one [2, 13, 14, 15] ?_
  simp [go_sem, -getElem?_pos, -List.map_take, -List.map_drop, IntWalk.iteOmega, IntWalk.toNatUp, u8_mod]
  refine IWp.block ?_
  refine IWp.loop (fun j e K => ∃ i : Nat, j = l.length - i ∧ i ≤ l.length ∧ WrF K b (L ++ [(l.length : Int) % 256] ++ (l.take i).flatMap slotB) F ∧ e = [(2, CF), (13, frow 1 0 (l.map (ints .i64))), (14, .int .i64 (l.length : Int)), (15, .int .i64 (i : Int))]) l.length ⟨0, rfl, Nat.zero_le _, by simpa using h0, by simp [go_sem]⟩ ?_
  rintro j e K ⟨i, rfl, hi, hk, rfl⟩
  by_cases hlt : i < l.length
  · have g : l[i]? = some l[i] := by simp [hlt]
    have hstep := lay_next slotB hlt
    have hb : (L ++ [(l.length : Int) % 256] ++ (l.take i).flatMap slotB ++ slotB l[i]).length ≤ 700000 := by
      refine Nat.le_trans ?_ hl
      rw [List.append_assoc, ← hstep]
      exact ((List.prefix_append_right_inj _).2 (lay_take slotB l (i + 1))).length_le
    have hy := hw l[i] (List.getElem_mem hlt)
    generalize l[i] = y at g hstep hb hy
    have w1 := IntWalk.i64_in ((i : Int) + 1) (by omega)
    have c1 := putSlot y (hk) hx hy hb
    try simp only [ints] at c1
    have Kp : Kept [[2,13,14,15,16],[],[2,13,14,15],[2,7,13,14,15],[2,13,14,15]] := ⟨⟩
    iterate 5 (refine Kp.s ?_; clear Kp; intro Kp; simp [go_sem, -getElem?_pos, -List.map_take, -List.map_drop, IntWalk.iteOmega, IntWalk.toNatUp, hlt, g, ints])
    subst hCF
    simp [go_sem]
    refine ICalls.mono c1 ?_
    rintro v K1 ⟨rfl, hk1⟩
    simp [go_sem]
    refine IWp.one [2, 13, 14, 15] ?_
    simp [go_sem, -getElem?_pos, -List.map_take, -List.map_drop, IntWalk.iteOmega, IntWalk.toNatUp, w1]
    exact ⟨l.length - (i + 1), by omega, i + 1, rfl, by omega, by simpa [hstep] using hk1, by simp⟩
  · skip
    have Kp : Kept [[2,13,14,15,16],[],[]] := ⟨⟩
    iterate 3 (refine Kp.s ?_; clear Kp; intro Kp; simp [go_sem, -getElem?_pos, -List.map_take, -List.map_drop, IntWalk.iteOmega, IntWalk.toNatUp, show ¬ (i : Int) < l.length by omega])
    rw [List.take_of_length_le (by omega)] at hk
    simpa using hk
set_option maxHeartbeats 4000000 in
theorem layRule {H : Heap} {b x : Nat} {L : List Int} {F : List (Nat × List Value)} (l : List Rule) (h : WrF H b L F) (hx : (x, [ptrTo b 0]) ∈ F) (hw : ∀ y ∈ l, y.wf) (hn : l.length ≤ 9223372036854775807) (hl : (L ++ [(l.length : Int) % 256] ++ l.flatMap ruleY).length ≤ 700000) :
    ICalls Tryd.prog 26 [ptrTo b 0, frow 9 0 (l.map Rule.val), .func (.func 27) #[] #[ptrTo x 0]] H fun v K => v = .tuple #[] ∧ WrF K b (L ++ [(l.length : Int) % 256] ++ l.flatMap ruleY) F := by
  refine IBody.calls (by kernel_rfl) ?_
  obtain ⟨CF, hCF⟩ : ∃ CF : Value, CF = .func (.func 27) #[] #[ptrTo x 0] := ⟨_, rfl⟩
  rw [← hCF]
  have hl0 : L.length ≤ 700000 := by rw [List.length_append, List.length_append] at hl; omega
  refine IBody.of Tryd.func26 rfl (by rw [Tryd.ntmps26]; simp) ?_
  rw [Tryd.ntmps26]
  refine IWp.one [1, 2] ?_
  simp [go_sem, -getElem?_pos, -List.map_take, -List.map_drop, IntWalk.iteOmega, IntWalk.toNatUp, u8_mod]
  refine ICalls.mono (wfByte h _ (by omega)) ?_
  rintro v K0 ⟨rfl, h0⟩
  try simp [go_sem, -getElem?_pos, -List.map_take, -List.map_drop, IntWalk.iteOmega, IntWalk.toNatUp, u8_mod]
  refine IWp.one [2, 13, 14, 15] ?_
  simp [go_sem, -getElem?_pos, -List.map_take, -List.map_drop, IntWalk.iteOmega, IntWalk.toNatUp, u8_mod]
  refine IWp.block ?_
  refine IWp.loop (fun j e K => ∃ i : Nat, j = l.length - i ∧ i ≤ l.length ∧ WrF K b (L ++ [(l.length : Int) % 256] ++ (l.take i).flatMap ruleY) F ∧ e = [(2, CF), (13, frow 9 0 (l.map Rule.val)), (14, .int .i64 (l.length : Int)), (15, .int .i64 (i : Int))]) l.length ⟨0, rfl, Nat.zero_le _, by simpa using h0, by simp [go_sem]⟩ ?_
  rintro j e K ⟨i, rfl, hi, hk, rfl⟩
  by_cases hlt : i < l.length
  · have g : l[i]? = some l[i] := by simp [hlt]
    have hstep := lay_next ruleY hlt
    have hb : (L ++ [(l.length : Int) % 256] ++ (l.take i).flatMap ruleY ++ ruleY l[i]).length ≤ 700000 := by
      refine Nat.le_trans ?_ hl
      rw [List.append_assoc, ← hstep]
      exact ((List.prefix_append_right_inj _).2 (lay_take ruleY l (i + 1))).length_le
    have hy := hw l[i] (List.getElem_mem hlt)
    generalize l[i] = y at g hstep hb hy
    have w1 := IntWalk.i64_in ((i : Int) + 1) (by omega)
    have c1 := putRule y (hk.more [.int .u8 y.kind, .int .i64 y.sg, .int .i64 y.lim, .int .i64 y.back, .int .i64 y.delay, .int .i64 y.span, .int .u8 y.prio, .bool y.latch, frow 2 0 (y.stages.map Stage.val)]) (List.mem_cons_of_mem _ hx) hy hb
    try simp only [Rule.val, Rule.cells] at c1
    have Kp : Kept [[2,13,14,15,16],[],[2,13,14,15],[2,7,13,14,15],[2,13,14,15]] := ⟨⟩
    iterate 5 (refine Kp.s ?_; clear Kp; intro Kp; simp [go_sem, -getElem?_pos, -List.map_take, -List.map_drop, IntWalk.iteOmega, IntWalk.toNatUp, hlt, g, Rule.val, Rule.cells])
    subst hCF
    simp [go_sem]
    refine ICalls.mono c1 ?_
    rintro v K1 ⟨rfl, hk1⟩
    simp [go_sem]
    refine IWp.one [2, 13, 14, 15] ?_
    simp [go_sem, -getElem?_pos, -List.map_take, -List.map_drop, IntWalk.iteOmega, IntWalk.toNatUp, w1]
    exact ⟨l.length - (i + 1), by omega, i + 1, rfl, by omega, by simpa [hstep] using hk1.less, by simp⟩
  · skip
    have Kp : Kept [[2,13,14,15,16],[],[]] := ⟨⟩
    iterate 3 (refine Kp.s ?_; clear Kp; intro Kp; simp [go_sem, -getElem?_pos, -List.map_take, -List.map_drop, IntWalk.iteOmega, IntWalk.toNatUp, show ¬ (i : Int) < l.length by omega])
    rw [List.take_of_length_le (by omega)] at hk
    simpa using hk
end Go.Proofs.YtoecebibhcadoaaDoor.I
