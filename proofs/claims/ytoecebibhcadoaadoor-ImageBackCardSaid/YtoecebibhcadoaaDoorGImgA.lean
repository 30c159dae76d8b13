/- A configuration read: the closures that read one thing; the lists. No condition. -/
import Derived.Test.YtoecebibhcadoaaDoorPCfg
import Derived.Test.YtoecebibhcadoaaDoorGMakeB
namespace Go.Proofs.YtoecebibhcadoaaDoor.I
open Go Go.RowKit
set_option linter.unusedVariables false
set_option linter.unusedSimpArgs false
structure On (b : Nat) (H K : Heap) : Prop where
  same : ∀ j, j < H.next → j ≠ b → K.get j = H.get j
  next : H.next ≤ K.next
theorem On.refl (b : Nat) (H : Heap) : On b H H := ⟨fun _ _ _ => rfl, Nat.le_refl _⟩
theorem On.trans {b : Nat} {A B C : Heap} (h : On b A B) (k : On b B C) : On b A C := ⟨fun j h1 h2 => (k.same j (Nat.lt_of_lt_of_le h1 h.next) h2).trans (h.same j h1 h2), Nat.le_trans h.next k.next⟩
theorem On.set (b : Nat) (H : Heap) (cs : List Value) : On b H (H.set b cs) := ⟨fun j _ h => Heap.get_set_ne _ _ _ _ h, Nat.le_refl _⟩
theorem On.alloc (b : Nat) (H : Heap) (cs : List Value) : On b H (H.alloc cs) := ⟨fun j h _ => Heap.get_alloc_lt _ _ _ h, by rw [next_alloc]; omega⟩
theorem On.set' {b : Nat} {H K : Heap} (h : On b H K) (cs : List Value) : On b H (K.set b cs) := h.trans (On.set _ _ _)
theorem On.alloc' {b : Nat} {H K : Heap} (h : On b H K) (cs : List Value) : On b H (K.alloc cs) := h.trans (On.alloc _ _ _)
theorem On.setN {b : Nat} {H K : Heap} (h : On b H K) {q : Nat} (hq : H.next ≤ q) (cs : List Value) : On b H (K.set q cs) := ⟨fun j h1 h2 => (Heap.get_set_ne _ _ _ _ (by omega)).trans (h.same j h1 h2), h.next⟩
theorem On.only {b : Nat} {H K : Heap} (h : On b H K) : On b H (K.only fun j => !decide (H.next ≤ j)) :=
  ⟨fun j h1 h2 => by
    show (if (!decide (H.next ≤ j)) = true then K.get j else none) = _
    rw [if_pos (by simp; omega)]; exact h.same j h1 h2, h.next⟩
theorem On.getb {b : Nat} {K : Heap} {n : Nat} (hn : b < n) : (K.only fun j => !decide (n ≤ j)).get b = K.get b := by
  show (if (!decide (n ≤ b)) = true then K.get b else none) = _
  rw [if_pos (by simp; omega)]
theorem Rd.byte_u8 (t : Rd) (ht : t.ok) : 0 ≤ t.byte.1 ∧ t.byte.1 < 256 := by
  unfold Rd.byte
  split
  · exact Rd.at_byte ht 0
  · simp
def Inv {α : Type} (one : Rd → α × Rd) (t : Rd) (n i : Nat) (acc : List α) (st : Rd) : Prop :=
  (n = t.byte.1.toNat ∧ listP one n t.byte.2 = (acc ++ (listP one (n - i) st).1, (listP one (n - i) st).2)) ∧ st.ok ∧ acc.length = i ∧ i ≤ n
theorem Inv.start {α : Type} (one : Rd → α × Rd) (t : Rd) (ht : t.ok) : Inv one t t.byte.1.toNat 0 [] t.byte.2 := ⟨⟨rfl, rfl⟩, Rd.byte_ok ht, rfl, Nat.zero_le _⟩
theorem Inv.parts {α : Type} {one : Rd → α × Rd} {t st : Rd} {n i : Nat} {acc : List α} (h : Inv one t n i acc st) : n = t.byte.1.toNat ∧ st.ok ∧ acc.length = i ∧ i ≤ n := ⟨h.1.1, h.2⟩
theorem Inv.step {α : Type} {one : Rd → α × Rd} {t st : Rd} {n i : Nat} {acc : List α} (h : Inv one t n i acc st) (ho : ∀ s, s.ok → (one s).2.ok) (hi : i < n) (he : st.e = 0) : Inv one t n (i + 1) (acc ++ [(one st).1]) (one st).2 := by
  obtain ⟨⟨h0, h1⟩, h2, h3, h4⟩ := h
  refine ⟨⟨h0, ?_⟩, ho _ h2, by simp [h3], hi⟩
  rw [h1, show n - i = (n - (i + 1)) + 1 by omega, listP_step one _ _ he]
  simp
theorem Inv.stop {α : Type} {one : Rd → α × Rd} {t st : Rd} {n i : Nat} {acc : List α} (h : Inv one t n i acc st) (he : ¬ st.e = 0 ∨ ¬ i < n) : (manyP one t).1 = acc ∧ (manyP one t).2 = st := by
  obtain ⟨⟨h0, h1⟩, h2, h3, h4⟩ := h
  have e : listP one (n - i) st = ([], st) := by
    rcases he with he | he
    · exact listP_stop one _ _ he
    · rw [show n - i = 0 by omega]; rfl
  unfold manyP
  rw [← h0, h1, e]
  simp
theorem box_ne (K : Heap) (b cb : Nat) (t : Rd) (ht : t.ok) (hb : K.get b = some ⟨t.cells, true⟩) (hcb : K.get cb = some ⟨[ptrTo b 0], true⟩) : ¬ cb = b := fun e => by
  rw [e, hb] at hcb
  simp [Rd.cells] at hcb
section
variable (K : Heap) (b cb : Nat) (t : Rd) (ht : t.ok) (hb : K.get b = some ⟨t.cells, true⟩) (hcb : K.get cb = some ⟨[ptrTo b 0], true⟩)
include ht hb hcb
theorem oneSig : ICalls Tryd.prog 67 [ptrTo cb 0] K fun v K' => v = (sigP t).1.val ∧ On b K K' ∧ K'.get b = some ⟨(sigP t).2.cells, true⟩ := by
  have hne := box_ne K b cb t ht hb hcb
  have l1 := Heap.lt_of_get hb
  have l2 := Heap.lt_of_get hcb
  have g1 : (K.alloc [.int .i64 0, .int .i64 0]).get b = some ⟨t.cells, true⟩ := by rw [Heap.get_alloc_lt _ _ _ l1]; exact hb
  have c1 := rInt _ b t ht g1
  have c2 := rInt ((K.alloc [.int .i64 0, .int .i64 0]).set b t.int.2.cells) b t.int.2 (Rd.int_ok ht) (by rw [get_set, if_pos rfl, g1]; rfl)
  refine IBody.calls (by kernel_rfl) ?_
  refine IBody.of Tryd.func67 rfl (by rw [Tryd.ntmps67]; simp) ?_
  rw [Tryd.ntmps67]
  refine IWp.one [0, 1] ?_
  simp [go_sem, -getElem?_pos, -List.map_take, -List.map_drop, IntWalk.iteOmega, IntWalk.toNatUp, hcb, hne, get_alloc, show ¬ cb = K.next by omega]
  refine IWp.seq ?_
  refine IWp.draw [1] [cb] (.ld 0 [1, 3, 4, 5] (.val 2 (.eff 1 (.eff 3 (.val 4 (.eff 5 .done .done)) .done) .done))) follows (by kernel_rfl) ?_
  simp [go_sem, -getElem?_pos, -List.map_take, -List.map_drop, IntWalk.iteOmega, IntWalk.toNatUp, hcb, hne, get_alloc, show ¬ cb = K.next by omega]
  refine ICalls.mono (c1) ?_
  rintro v _ ⟨rfl, rfl⟩
  try simp [go_sem, -getElem?_pos, -List.map_take, -List.map_drop, IntWalk.iteOmega, IntWalk.toNatUp, hcb, hne, get_alloc, show ¬ cb = K.next by omega]
  refine ICalls.mono (c2) ?_
  rintro v _ ⟨rfl, rfl⟩
  try simp [go_sem, -getElem?_pos, -List.map_take, -List.map_drop, IntWalk.iteOmega, IntWalk.toNatUp, hcb, hne, get_alloc, show ¬ cb = K.next by omega]
  refine IWp.one [] ?_
  simp [go_sem, -getElem?_pos, -List.map_take, -List.map_drop, IntWalk.iteOmega, IntWalk.toNatUp, hcb, hne, get_alloc, show ¬ cb = K.next by omega]
  exact ⟨rfl, ((((On.refl b K).alloc' _).set' _).set' _).setN (Nat.le_refl _) _, ⟨_, hb, rfl, rfl⟩⟩
theorem oneStage : ICalls Tryd.prog 87 [ptrTo cb 0] K fun v K' => v = (stageP t).1.val ∧ On b K K' ∧ K'.get b = some ⟨(stageP t).2.cells, true⟩ := by
  have hne := box_ne K b cb t ht hb hcb
  have l1 := Heap.lt_of_get hb
  have l2 := Heap.lt_of_get hcb
  have g1 : (K.alloc [.int .i64 0, .int .u8 0]).get b = some ⟨t.cells, true⟩ := by rw [Heap.get_alloc_lt _ _ _ l1]; exact hb
  have c1 := rInt _ b t ht g1
  have c2 := rByte ((K.alloc [.int .i64 0, .int .u8 0]).set b t.int.2.cells) b t.int.2 (Rd.int_ok ht) (by rw [get_set, if_pos rfl, g1]; rfl)
  refine IBody.calls (by kernel_rfl) ?_
  refine IBody.of Tryd.func87 rfl (by rw [Tryd.ntmps87]; simp) ?_
  rw [Tryd.ntmps87]
  refine IWp.one [0, 1] ?_
  simp [go_sem, -getElem?_pos, -List.map_take, -List.map_drop, IntWalk.iteOmega, IntWalk.toNatUp, hcb, hne, get_alloc, show ¬ cb = K.next by omega]
  refine IWp.seq ?_
  refine IWp.draw [1] [cb] (.ld 0 [1, 3, 4, 5] (.val 2 (.eff 1 (.eff 3 (.val 4 (.eff 5 .done .done)) .done) .done))) follows (by kernel_rfl) ?_
  simp [go_sem, -getElem?_pos, -List.map_take, -List.map_drop, IntWalk.iteOmega, IntWalk.toNatUp, hcb, hne, get_alloc, show ¬ cb = K.next by omega]
  refine ICalls.mono (c1) ?_
  rintro v _ ⟨rfl, rfl⟩
  try simp [go_sem, -getElem?_pos, -List.map_take, -List.map_drop, IntWalk.iteOmega, IntWalk.toNatUp, hcb, hne, get_alloc, show ¬ cb = K.next by omega]
  refine ICalls.mono (c2) ?_
  rintro v _ ⟨rfl, rfl⟩
  try simp [go_sem, -getElem?_pos, -List.map_take, -List.map_drop, IntWalk.iteOmega, IntWalk.toNatUp, hcb, hne, get_alloc, show ¬ cb = K.next by omega]
  refine IWp.one [] ?_
  simp [go_sem, -getElem?_pos, -List.map_take, -List.map_drop, IntWalk.iteOmega, IntWalk.toNatUp, hcb, hne, get_alloc, show ¬ cb = K.next by omega]
  exact ⟨rfl, ((((On.refl b K).alloc' _).set' _).set' _).setN (Nat.le_refl _) _, ⟨_, hb, rfl, rfl⟩⟩
theorem oneInt : ICalls Tryd.prog 75 [ptrTo cb 0] K fun v K' => v = .int .i64 t.byte.1 ∧ On b K K' ∧ K'.get b = some ⟨t.byte.2.cells, true⟩ := by
  have c1 := rByte K b t ht hb
  have hN := Rd.byte_u8 t ht
  have w1 := IntWalk.i64_in t.byte.1 (by omega)
  refine IBody.calls (by kernel_rfl) ?_
  refine IBody.of Tryd.func75 rfl (by rw [Tryd.ntmps75]; simp) ?_
  rw [Tryd.ntmps75]
  have Kp : Kept [[0],[1]] := ⟨⟩
  iterate 2 (refine Kp.s ?_; clear Kp; intro Kp; simp [go_sem, -getElem?_pos, -List.map_take, -List.map_drop, IntWalk.iteOmega, IntWalk.toNatUp, hcb, w1])
  refine ICalls.mono (c1) ?_
  rintro v _ ⟨rfl, rfl⟩
  try simp [go_sem, -getElem?_pos, -List.map_take, -List.map_drop, IntWalk.iteOmega, IntWalk.toNatUp, hcb, w1]
  refine IWp.one [] ?_
  simp [go_sem, -getElem?_pos, -List.map_take, -List.map_drop, IntWalk.iteOmega, IntWalk.toNatUp, hcb, w1]
  exact ⟨On.set _ _ _, _, hb, rfl⟩
end
set_option maxHeartbeats 4000000 in
theorem listInt (H : Heap) (b cb : Nat) (t : Rd) (ht : t.ok) (hb : H.get b = some ⟨t.cells, true⟩) (hcb : H.get cb = some ⟨[ptrTo b 0], true⟩) :
    ICalls Tryd.prog 74 [ptrTo b 0, .func (.func 75) #[] #[ptrTo cb 0]] H fun v K => v = frow 1 0 ((manyP Rd.byte t).1.map (Value.int .i64)) ∧ On b H K ∧ K.get b = some ⟨(manyP Rd.byte t).2.cells, true⟩ := by
  refine ICalls.frozen ?_
  have hne := box_ne H b cb t ht hb hcb
  have l1 := Heap.lt_of_get hb
  have l2 := Heap.lt_of_get hcb
  have c1 := rByte H b t ht hb
  have hN := Rd.byte_u8 t ht
  have g1 : (H.set b t.byte.2.cells).get b = some ⟨t.byte.2.cells, true⟩ := by rw [get_set, if_pos rfl, hb]; rfl
  have g2 : (H.set b t.byte.2.cells).get cb = some ⟨[ptrTo b 0], true⟩ := by rw [get_set, if_neg hne]; exact hcb
  have o1 := On.set b H t.byte.2.cells
  have hi0 := Inv.start Rd.byte t ht
  refine IBody.calls (by kernel_rfl) ?_
  refine IBody.of Tryd.func74 rfl (by rw [Tryd.ntmps74]; simp) ?_
  rw [Tryd.ntmps74]
  have Kp : Kept [[0,1],[0,1,5],[0,1,5,9,10]] := ⟨⟩
  iterate 3 (refine Kp.s ?_; clear Kp; intro Kp; simp [go_sem, -getElem?_pos, -List.map_take, -List.map_drop, IntWalk.iteOmega, IntWalk.toNatUp])
  refine ICalls.mono (c1) ?_
  rintro v _ ⟨rfl, rfl⟩
  try simp [go_sem, -getElem?_pos, -List.map_take, -List.map_drop, IntWalk.iteOmega, IntWalk.toNatUp]
  refine IWp.block ?_
  generalize H.set b t.byte.2.cells = H1 at *
  obtain ⟨N, hNe⟩ : ∃ N, N = t.byte.1 := ⟨_, rfl⟩
  rw [← hNe] at hN hi0 ⊢
  obtain ⟨CF, hCF⟩ : ∃ CF : Value, CF = .func (.func 75) #[] #[ptrTo cb 0] := ⟨_, rfl⟩
  try rw [← hCF]
  refine IWp.loop (fun j e K => ∃ (i : Nat) (v : Value) (acc : List (Int)) (st : Rd), j = N.toNat - i ∧ Inv Rd.byte t N.toNat i acc st ∧ K.get b = some ⟨st.cells, true⟩ ∧ K.get cb = some ⟨[ptrTo b 0], true⟩ ∧ On b H K ∧ Bld 1 K H.next v (acc.map (Value.int .i64)) ∧ e = [(0, ptrTo b 0), (1, CF), (5, v), (9, .int .u8 N), (10, .int .u8 (i : Int))]) N.toNat ⟨0, _, [], _, rfl, hi0, g1, g2, o1, Bld.nil _ _ _, by rw [hCF]; simp [go_sem]⟩ ?_
  clear g1 g2 o1 hi0 c1
  rintro j e K ⟨i, v, acc, st, rfl, hi, k1, k2, ho, hv, rfl⟩
  obtain ⟨hi1, hso, hil, hin⟩ := hi.parts
  by_cases hlt : i < N.toNat
  · have hlt2 : (i : Int) < N := by omega
    have c2 := rFault K b st k1
    by_cases he : st.e = 0
    · have hstep := hi.step (fun _ h => Rd.byte_ok h) hlt he
      have c3 := oneInt K b cb st hso k1 k2
      have w1 : IntKind.u8.wrap ((i : Int) + 1) = i + 1 := IntWalk.u8_in _ (by omega)
      subst hCF
      have Kp : Kept [[0,1,5,9,10,11],[],[0,1,5,9,10],[0,1,5,7,9,10]] := ⟨⟩
      iterate 4 (refine Kp.s ?_; clear Kp; intro Kp; simp [go_sem, -getElem?_pos, -List.map_take, -List.map_drop, IntWalk.iteOmega, IntWalk.toNatUp, hlt2, he, Rd.fault])
      refine ICalls.then (c2) ?_
      try simp [go_sem, -getElem?_pos, -List.map_take, -List.map_drop, IntWalk.iteOmega, IntWalk.toNatUp, hlt2, he, Rd.fault]
      have Kp : Kept [[0,1,5,9,10,18],[],[0,1,5,9,10],[0,1,5,9,10]] := ⟨⟩
      iterate 4 (refine Kp.s ?_; clear Kp; intro Kp; simp [go_sem, -getElem?_pos, -List.map_take, -List.map_drop, IntWalk.iteOmega, IntWalk.toNatUp, hlt2, he, Rd.fault])
      refine ICalls.mono c3 ?_
      rintro v1 K1 ⟨rfl, hon, hk1⟩
      have hk2 : K1.get cb = some ⟨[ptrTo b 0], true⟩ := by rw [hon.same cb (Heap.lt_of_get k2) hne]; exact k2
      have hv1 : Bld 1 K1 H.next v (acc.map (Value.int .i64)) := hv.same fun j k hj hk => by rw [hon.same j (Heap.lt_of_get hk) (by omega)]; exact hk
      have hn1 : H.next ≤ K1.next := Nat.le_trans ho.next hon.next
      generalize (Rd.byte st).1 = x at *
      obtain ⟨v', K3, e3, b3', s3, n3, f3, t3⟩ := app_one (P := Tryd.prog) (t := 58) (e := 3) (sz := 1) (by_ := 8) (z := .int .i64 0) (by kernel_rfl) (by kernel_rfl) (by kernel_rfl) (by kernel_rfl) rfl ((Value.int .i64) x) [.int .i64 x] hv1 rfl rfl (by simp [one0, ints, frow]) hn1 (by simp; omega) (by simp; omega)
      simp [go_sem, e3]
      refine IWp.one [0, 1, 5, 9, 10] ?_
      simp [go_sem, -getElem?_pos, -List.map_take, -List.map_drop, IntWalk.iteOmega, IntWalk.toNatUp, w1]
      exact ⟨N.toNat - (i + 1), by omega, i + 1, rfl, v', _, _, hstep, (s3 b l1).trans hk1, (s3 cb l2).trans hk2, ⟨fun j h1 h2 => (s3 j h1).trans ((ho.trans hon).same j h1 h2), Nat.le_trans hn1 n3⟩, by rw [List.map_append]; exact b3', rfl, by simp⟩
    · skip
      have Kp : Kept [[0,1,5,9,10,11],[],[0,1,5,9,10],[0,1,5,7,9,10]] := ⟨⟩
      iterate 4 (refine Kp.s ?_; clear Kp; intro Kp; simp [go_sem, -getElem?_pos, -List.map_take, -List.map_drop, IntWalk.iteOmega, IntWalk.toNatUp, hlt2, he, Rd.fault])
      refine ICalls.then (c2) ?_
      try simp [go_sem, -getElem?_pos, -List.map_take, -List.map_drop, IntWalk.iteOmega, IntWalk.toNatUp, hlt2, he, Rd.fault]
      have Kp : Kept [[0,1,5,9,10,18],[],[5],[4],[]] := ⟨⟩
      iterate 5 (refine Kp.s ?_; clear Kp; intro Kp; simp [go_sem, -getElem?_pos, -List.map_take, -List.map_drop, IntWalk.iteOmega, IntWalk.toNatUp, hlt2, he, Rd.fault])
      obtain ⟨q1, q2⟩ := hi.stop (.inl he)
      rw [q1, q2]
      exact ⟨fun j => decide (H.next ≤ j), _, hv.frzW (fun j h => by simpa using h), rfl, ho.only, by rw [On.getb l1]; exact k1⟩
  · skip
    have Kp : Kept [[0,1,5,9,10,11],[],[5],[4],[]] := ⟨⟩
    iterate 5 (refine Kp.s ?_; clear Kp; intro Kp; simp [go_sem, -getElem?_pos, -List.map_take, -List.map_drop, IntWalk.iteOmega, IntWalk.toNatUp, show ¬ (i : Int) < N by omega])
    obtain ⟨q1, q2⟩ := hi.stop (.inr hlt)
    rw [q1, q2]
    exact ⟨fun j => decide (H.next ≤ j), _, hv.frzW (fun j h => by simpa using h), rfl, ho.only, by rw [On.getb l1]; exact k1⟩
theorem oneSlot (K : Heap) (b cb : Nat) (t : Rd) (ht : t.ok) (hb : K.get b = some ⟨t.cells, true⟩) (hcb : K.get cb = some ⟨[ptrTo b 0], true⟩) : ICalls Tryd.prog 73 [ptrTo cb 0] K fun v K' => v = ints .i64 (slotP t).1 ∧ On b K K' ∧ K'.get b = some ⟨(slotP t).2.cells, true⟩ := by
  have c1 := listInt K b cb t ht hb hcb
  refine IBody.calls (by kernel_rfl) ?_
  refine IBody.of Tryd.func73 rfl (by rw [Tryd.ntmps73]; simp) ?_
  rw [Tryd.ntmps73]
  have Kp : Kept [[0],[1]] := ⟨⟩
  iterate 2 (refine Kp.s ?_; clear Kp; intro Kp; simp [go_sem, -getElem?_pos, -List.map_take, -List.map_drop, IntWalk.iteOmega, IntWalk.toNatUp, hcb])
  refine ICalls.mono (c1) ?_
  rintro v K1 ⟨rfl, h1, h2⟩
  try simp [go_sem, -getElem?_pos, -List.map_take, -List.map_drop, IntWalk.iteOmega, IntWalk.toNatUp, hcb]
  refine IWp.one [] ?_
  simp [go_sem, -getElem?_pos, -List.map_take, -List.map_drop, IntWalk.iteOmega, IntWalk.toNatUp, hcb]
  exact ⟨rfl, h1, h2⟩
set_option maxHeartbeats 4000000 in
theorem listSlot (H : Heap) (b cb : Nat) (t : Rd) (ht : t.ok) (hb : H.get b = some ⟨t.cells, true⟩) (hcb : H.get cb = some ⟨[ptrTo b 0], true⟩) :
    ICalls Tryd.prog 72 [ptrTo b 0, .func (.func 73) #[] #[ptrTo cb 0]] H fun v K => v = frow 1 0 ((manyP slotP t).1.map (ints .i64)) ∧ On b H K ∧ K.get b = some ⟨(manyP slotP t).2.cells, true⟩ := by
  refine ICalls.frozen ?_
  have hne := box_ne H b cb t ht hb hcb
  have l1 := Heap.lt_of_get hb
  have l2 := Heap.lt_of_get hcb
  have c1 := rByte H b t ht hb
  have hN := Rd.byte_u8 t ht
  have g1 : (H.set b t.byte.2.cells).get b = some ⟨t.byte.2.cells, true⟩ := by rw [get_set, if_pos rfl, hb]; rfl
  have g2 : (H.set b t.byte.2.cells).get cb = some ⟨[ptrTo b 0], true⟩ := by rw [get_set, if_neg hne]; exact hcb
  have o1 := On.set b H t.byte.2.cells
  have hi0 := Inv.start slotP t ht
  refine IBody.calls (by kernel_rfl) ?_
  refine IBody.of Tryd.func72 rfl (by rw [Tryd.ntmps72]; simp) ?_
  rw [Tryd.ntmps72]
  have Kp : Kept [[0,1],[0,1,5],[0,1,5,9,10]] := ⟨⟩
  iterate 3 (refine Kp.s ?_; clear Kp; intro Kp; simp [go_sem, -getElem?_pos, -List.map_take, -List.map_drop, IntWalk.iteOmega, IntWalk.toNatUp])
  refine ICalls.mono (c1) ?_
  rintro v _ ⟨rfl, rfl⟩
  try simp [go_sem, -getElem?_pos, -List.map_take, -List.map_drop, IntWalk.iteOmega, IntWalk.toNatUp]
  refine IWp.block ?_
  generalize H.set b t.byte.2.cells = H1 at *
  obtain ⟨N, hNe⟩ : ∃ N, N = t.byte.1 := ⟨_, rfl⟩
  rw [← hNe] at hN hi0 ⊢
  obtain ⟨CF, hCF⟩ : ∃ CF : Value, CF = .func (.func 73) #[] #[ptrTo cb 0] := ⟨_, rfl⟩
  try rw [← hCF]
  refine IWp.loop (fun j e K => ∃ (i : Nat) (v : Value) (acc : List (List Int)) (st : Rd), j = N.toNat - i ∧ Inv slotP t N.toNat i acc st ∧ K.get b = some ⟨st.cells, true⟩ ∧ K.get cb = some ⟨[ptrTo b 0], true⟩ ∧ On b H K ∧ Bld 1 K H.next v (acc.map (ints .i64)) ∧ e = [(0, ptrTo b 0), (1, CF), (5, v), (9, .int .u8 N), (10, .int .u8 (i : Int))]) N.toNat ⟨0, _, [], _, rfl, hi0, g1, g2, o1, Bld.nil _ _ _, by rw [hCF]; simp [go_sem]⟩ ?_
  clear g1 g2 o1 hi0 c1
  rintro j e K ⟨i, v, acc, st, rfl, hi, k1, k2, ho, hv, rfl⟩
  obtain ⟨hi1, hso, hil, hin⟩ := hi.parts
  by_cases hlt : i < N.toNat
  · have hlt2 : (i : Int) < N := by omega
    have c2 := rFault K b st k1
    by_cases he : st.e = 0
    · have hstep := hi.step slotP_ok hlt he
      have c3 := oneSlot K b cb st hso k1 k2
      have w1 : IntKind.u8.wrap ((i : Int) + 1) = i + 1 := IntWalk.u8_in _ (by omega)
      subst hCF
      have Kp : Kept [[0,1,5,9,10,11],[],[0,1,5,9,10],[0,1,5,7,9,10]] := ⟨⟩
      iterate 4 (refine Kp.s ?_; clear Kp; intro Kp; simp [go_sem, -getElem?_pos, -List.map_take, -List.map_drop, IntWalk.iteOmega, IntWalk.toNatUp, hlt2, he, Rd.fault])
      refine ICalls.then (c2) ?_
      try simp [go_sem, -getElem?_pos, -List.map_take, -List.map_drop, IntWalk.iteOmega, IntWalk.toNatUp, hlt2, he, Rd.fault]
      have Kp : Kept [[0,1,5,9,10,18],[],[0,1,5,9,10],[0,1,5,9,10]] := ⟨⟩
      iterate 4 (refine Kp.s ?_; clear Kp; intro Kp; simp [go_sem, -getElem?_pos, -List.map_take, -List.map_drop, IntWalk.iteOmega, IntWalk.toNatUp, hlt2, he, Rd.fault])
      refine ICalls.mono c3 ?_
      rintro v1 K1 ⟨rfl, hon, hk1⟩
      have hk2 : K1.get cb = some ⟨[ptrTo b 0], true⟩ := by rw [hon.same cb (Heap.lt_of_get k2) hne]; exact k2
      have hv1 : Bld 1 K1 H.next v (acc.map (ints .i64)) := hv.same fun j k hj hk => by rw [hon.same j (Heap.lt_of_get hk) (by omega)]; exact hk
      have hn1 : H.next ≤ K1.next := Nat.le_trans ho.next hon.next
      generalize (slotP st).1 = x at *
      obtain ⟨v', K3, e3, b3', s3, n3, f3, t3⟩ := app_one (P := Tryd.prog) (t := 30) (e := 58) (sz := 1) (by_ := 24) (z := .slice none 0 0) (by kernel_rfl) (by kernel_rfl) (by kernel_rfl) (by kernel_rfl) rfl ((ints .i64) x) [ints .i64 x] hv1 rfl rfl (by simp [one0, ints, frow]) hn1 (by simp; omega) (by simp; omega)
      simp [go_sem, e3]
      refine IWp.one [0, 1, 5, 9, 10] ?_
      simp [go_sem, -getElem?_pos, -List.map_take, -List.map_drop, IntWalk.iteOmega, IntWalk.toNatUp, w1]
      exact ⟨N.toNat - (i + 1), by omega, i + 1, rfl, v', _, _, hstep, (s3 b l1).trans hk1, (s3 cb l2).trans hk2, ⟨fun j h1 h2 => (s3 j h1).trans ((ho.trans hon).same j h1 h2), Nat.le_trans hn1 n3⟩, by rw [List.map_append]; exact b3', rfl, by simp⟩
    · skip
      have Kp : Kept [[0,1,5,9,10,11],[],[0,1,5,9,10],[0,1,5,7,9,10]] := ⟨⟩
      iterate 4 (refine Kp.s ?_; clear Kp; intro Kp; simp [go_sem, -getElem?_pos, -List.map_take, -List.map_drop, IntWalk.iteOmega, IntWalk.toNatUp, hlt2, he, Rd.fault])
      refine ICalls.then (c2) ?_
      try simp [go_sem, -getElem?_pos, -List.map_take, -List.map_drop, IntWalk.iteOmega, IntWalk.toNatUp, hlt2, he, Rd.fault]
      have Kp : Kept [[0,1,5,9,10,18],[],[5],[4],[]] := ⟨⟩
      iterate 5 (refine Kp.s ?_; clear Kp; intro Kp; simp [go_sem, -getElem?_pos, -List.map_take, -List.map_drop, IntWalk.iteOmega, IntWalk.toNatUp, hlt2, he, Rd.fault])
      obtain ⟨q1, q2⟩ := hi.stop (.inl he)
      rw [q1, q2]
      exact ⟨fun j => decide (H.next ≤ j), _, hv.frzW (fun j h => by simpa using h), rfl, ho.only, by rw [On.getb l1]; exact k1⟩
  · skip
    have Kp : Kept [[0,1,5,9,10,11],[],[5],[4],[]] := ⟨⟩
    iterate 5 (refine Kp.s ?_; clear Kp; intro Kp; simp [go_sem, -getElem?_pos, -List.map_take, -List.map_drop, IntWalk.iteOmega, IntWalk.toNatUp, show ¬ (i : Int) < N by omega])
    obtain ⟨q1, q2⟩ := hi.stop (.inr hlt)
    rw [q1, q2]
    exact ⟨fun j => decide (H.next ≤ j), _, hv.frzW (fun j h => by simpa using h), rfl, ho.only, by rw [On.getb l1]; exact k1⟩
set_option maxHeartbeats 4000000 in
theorem listSig (H : Heap) (b cb : Nat) (t : Rd) (ht : t.ok) (hb : H.get b = some ⟨t.cells, true⟩) (hcb : H.get cb = some ⟨[ptrTo b 0], true⟩) :
    ICalls Tryd.prog 66 [ptrTo b 0, .func (.func 67) #[] #[ptrTo cb 0]] H fun v K => v = frow 2 0 ((manyP sigP t).1.map Sig.val) ∧ On b H K ∧ K.get b = some ⟨(manyP sigP t).2.cells, true⟩ := by
  refine ICalls.frozen ?_
  have hne := box_ne H b cb t ht hb hcb
  have l1 := Heap.lt_of_get hb
  have l2 := Heap.lt_of_get hcb
  have c1 := rByte H b t ht hb
  have hN := Rd.byte_u8 t ht
  have g1 : (H.set b t.byte.2.cells).get b = some ⟨t.byte.2.cells, true⟩ := by rw [get_set, if_pos rfl, hb]; rfl
  have g2 : (H.set b t.byte.2.cells).get cb = some ⟨[ptrTo b 0], true⟩ := by rw [get_set, if_neg hne]; exact hcb
  have o1 := On.set b H t.byte.2.cells
  have hi0 := Inv.start sigP t ht
  refine IBody.calls (by kernel_rfl) ?_
  refine IBody.of Tryd.func66 rfl (by rw [Tryd.ntmps66]; simp) ?_
  rw [Tryd.ntmps66]
  have Kp : Kept [[0,1],[0,1,5],[0,1,5,9,10]] := ⟨⟩
  iterate 3 (refine Kp.s ?_; clear Kp; intro Kp; simp [go_sem, -getElem?_pos, -List.map_take, -List.map_drop, IntWalk.iteOmega, IntWalk.toNatUp])
  refine ICalls.mono (c1) ?_
  rintro v _ ⟨rfl, rfl⟩
  try simp [go_sem, -getElem?_pos, -List.map_take, -List.map_drop, IntWalk.iteOmega, IntWalk.toNatUp]
  refine IWp.block ?_
  generalize H.set b t.byte.2.cells = H1 at *
  obtain ⟨N, hNe⟩ : ∃ N, N = t.byte.1 := ⟨_, rfl⟩
  rw [← hNe] at hN hi0 ⊢
  obtain ⟨CF, hCF⟩ : ∃ CF : Value, CF = .func (.func 67) #[] #[ptrTo cb 0] := ⟨_, rfl⟩
  try rw [← hCF]
  refine IWp.loop (fun j e K => ∃ (i : Nat) (v : Value) (acc : List (Sig)) (st : Rd), j = N.toNat - i ∧ Inv sigP t N.toNat i acc st ∧ K.get b = some ⟨st.cells, true⟩ ∧ K.get cb = some ⟨[ptrTo b 0], true⟩ ∧ On b H K ∧ Bld 2 K H.next v (acc.map Sig.val) ∧ e = [(0, ptrTo b 0), (1, CF), (5, v), (9, .int .u8 N), (10, .int .u8 (i : Int))]) N.toNat ⟨0, _, [], _, rfl, hi0, g1, g2, o1, Bld.nil _ _ _, by rw [hCF]; simp [go_sem]⟩ ?_
  clear g1 g2 o1 hi0 c1
  rintro j e K ⟨i, v, acc, st, rfl, hi, k1, k2, ho, hv, rfl⟩
  obtain ⟨hi1, hso, hil, hin⟩ := hi.parts
  by_cases hlt : i < N.toNat
  · have hlt2 : (i : Int) < N := by omega
    have c2 := rFault K b st k1
    by_cases he : st.e = 0
    · have hstep := hi.step sigP_ok hlt he
      have c3 := oneSig K b cb st hso k1 k2
      have w1 : IntKind.u8.wrap ((i : Int) + 1) = i + 1 := IntWalk.u8_in _ (by omega)
      subst hCF
      have Kp : Kept [[0,1,5,9,10,11],[],[0,1,5,9,10],[0,1,5,7,9,10]] := ⟨⟩
      iterate 4 (refine Kp.s ?_; clear Kp; intro Kp; simp [go_sem, -getElem?_pos, -List.map_take, -List.map_drop, IntWalk.iteOmega, IntWalk.toNatUp, hlt2, he, Rd.fault])
      refine ICalls.then (c2) ?_
      try simp [go_sem, -getElem?_pos, -List.map_take, -List.map_drop, IntWalk.iteOmega, IntWalk.toNatUp, hlt2, he, Rd.fault]
      have Kp : Kept [[0,1,5,9,10,18],[],[0,1,5,9,10],[0,1,5,9,10]] := ⟨⟩
      iterate 4 (refine Kp.s ?_; clear Kp; intro Kp; simp [go_sem, -getElem?_pos, -List.map_take, -List.map_drop, IntWalk.iteOmega, IntWalk.toNatUp, hlt2, he, Rd.fault])
      refine ICalls.mono c3 ?_
      rintro v1 K1 ⟨rfl, hon, hk1⟩
      have hk2 : K1.get cb = some ⟨[ptrTo b 0], true⟩ := by rw [hon.same cb (Heap.lt_of_get k2) hne]; exact k2
      have hv1 : Bld 2 K1 H.next v (acc.map Sig.val) := hv.same fun j k hj hk => by rw [hon.same j (Heap.lt_of_get hk) (by omega)]; exact hk
      have hn1 : H.next ≤ K1.next := Nat.le_trans ho.next hon.next
      generalize (sigP st).1 = x at *
      obtain ⟨x1, x2⟩ := x
      obtain ⟨v', K3, e3, b3', s3, n3, f3, t3⟩ := app_one (P := Tryd.prog) (t := 28) (e := 51) (sz := 2) (by_ := 16) (z := .agg ⟨[.int .i64 0, .int .i64 0]⟩) (by kernel_rfl) (by kernel_rfl) (by kernel_rfl) (by kernel_rfl) rfl (Sig.val ⟨x1, x2⟩) [.int .i64 x1, .int .i64 x2] hv1 rfl rfl (by simp [one0, ints, frow]) hn1 (by simp; omega) (by simp; omega)
      simp [go_sem, e3, Sig.val, Sig.cells]
      refine IWp.one [0, 1, 5, 9, 10] ?_
      simp [go_sem, -getElem?_pos, -List.map_take, -List.map_drop, IntWalk.iteOmega, IntWalk.toNatUp, w1]
      exact ⟨N.toNat - (i + 1), by omega, i + 1, rfl, v', _, _, hstep, (s3 b l1).trans hk1, (s3 cb l2).trans hk2, ⟨fun j h1 h2 => (s3 j h1).trans ((ho.trans hon).same j h1 h2), Nat.le_trans hn1 n3⟩, by rw [List.map_append]; exact b3', rfl, by simp⟩
    · skip
      have Kp : Kept [[0,1,5,9,10,11],[],[0,1,5,9,10],[0,1,5,7,9,10]] := ⟨⟩
      iterate 4 (refine Kp.s ?_; clear Kp; intro Kp; simp [go_sem, -getElem?_pos, -List.map_take, -List.map_drop, IntWalk.iteOmega, IntWalk.toNatUp, hlt2, he, Rd.fault])
      refine ICalls.then (c2) ?_
      try simp [go_sem, -getElem?_pos, -List.map_take, -List.map_drop, IntWalk.iteOmega, IntWalk.toNatUp, hlt2, he, Rd.fault]
      have Kp : Kept [[0,1,5,9,10,18],[],[5],[4],[]] := ⟨⟩
      iterate 5 (refine Kp.s ?_; clear Kp; intro Kp; simp [go_sem, -getElem?_pos, -List.map_take, -List.map_drop, IntWalk.iteOmega, IntWalk.toNatUp, hlt2, he, Rd.fault])
      obtain ⟨q1, q2⟩ := hi.stop (.inl he)
      rw [q1, q2]
      exact ⟨fun j => decide (H.next ≤ j), _, hv.frzW (fun j h => by simpa using h), rfl, ho.only, by rw [On.getb l1]; exact k1⟩
  · skip
    have Kp : Kept [[0,1,5,9,10,11],[],[5],[4],[]] := ⟨⟩
    iterate 5 (refine Kp.s ?_; clear Kp; intro Kp; simp [go_sem, -getElem?_pos, -List.map_take, -List.map_drop, IntWalk.iteOmega, IntWalk.toNatUp, show ¬ (i : Int) < N by omega])
    obtain ⟨q1, q2⟩ := hi.stop (.inr hlt)
    rw [q1, q2]
    exact ⟨fun j => decide (H.next ≤ j), _, hv.frzW (fun j h => by simpa using h), rfl, ho.only, by rw [On.getb l1]; exact k1⟩
set_option maxHeartbeats 4000000 in
theorem listStage (H : Heap) (b cb : Nat) (t : Rd) (ht : t.ok) (hb : H.get b = some ⟨t.cells, true⟩) (hcb : H.get cb = some ⟨[ptrTo b 0], true⟩) :
    ICalls Tryd.prog 86 [ptrTo b 0, .func (.func 87) #[] #[ptrTo cb 0]] H fun v K => v = frow 2 0 ((manyP stageP t).1.map Stage.val) ∧ On b H K ∧ K.get b = some ⟨(manyP stageP t).2.cells, true⟩ := by
  refine ICalls.frozen ?_
  have hne := box_ne H b cb t ht hb hcb
  have l1 := Heap.lt_of_get hb
  have l2 := Heap.lt_of_get hcb
  have c1 := rByte H b t ht hb
  have hN := Rd.byte_u8 t ht
  have g1 : (H.set b t.byte.2.cells).get b = some ⟨t.byte.2.cells, true⟩ := by rw [get_set, if_pos rfl, hb]; rfl
  have g2 : (H.set b t.byte.2.cells).get cb = some ⟨[ptrTo b 0], true⟩ := by rw [get_set, if_neg hne]; exact hcb
  have o1 := On.set b H t.byte.2.cells
  have hi0 := Inv.start stageP t ht
  refine IBody.calls (by kernel_rfl) ?_
  refine IBody.of Tryd.func86 rfl (by rw [Tryd.ntmps86]; simp) ?_
  rw [Tryd.ntmps86]
  have Kp : Kept [[0,1],[0,1,5],[0,1,5,9,10]] := ⟨⟩
  iterate 3 (refine Kp.s ?_; clear Kp; intro Kp; simp [go_sem, -getElem?_pos, -List.map_take, -List.map_drop, IntWalk.iteOmega, IntWalk.toNatUp])
  refine ICalls.mono (c1) ?_
  rintro v _ ⟨rfl, rfl⟩
  try simp [go_sem, -getElem?_pos, -List.map_take, -List.map_drop, IntWalk.iteOmega, IntWalk.toNatUp]
  refine IWp.block ?_
  generalize H.set b t.byte.2.cells = H1 at *
  obtain ⟨N, hNe⟩ : ∃ N, N = t.byte.1 := ⟨_, rfl⟩
  rw [← hNe] at hN hi0 ⊢
  obtain ⟨CF, hCF⟩ : ∃ CF : Value, CF = .func (.func 87) #[] #[ptrTo cb 0] := ⟨_, rfl⟩
  try rw [← hCF]
  refine IWp.loop (fun j e K => ∃ (i : Nat) (v : Value) (acc : List (Stage)) (st : Rd), j = N.toNat - i ∧ Inv stageP t N.toNat i acc st ∧ K.get b = some ⟨st.cells, true⟩ ∧ K.get cb = some ⟨[ptrTo b 0], true⟩ ∧ On b H K ∧ Bld 2 K H.next v (acc.map Stage.val) ∧ e = [(0, ptrTo b 0), (1, CF), (5, v), (9, .int .u8 N), (10, .int .u8 (i : Int))]) N.toNat ⟨0, _, [], _, rfl, hi0, g1, g2, o1, Bld.nil _ _ _, by rw [hCF]; simp [go_sem]⟩ ?_
  clear g1 g2 o1 hi0 c1
  rintro j e K ⟨i, v, acc, st, rfl, hi, k1, k2, ho, hv, rfl⟩
  obtain ⟨hi1, hso, hil, hin⟩ := hi.parts
  by_cases hlt : i < N.toNat
  · have hlt2 : (i : Int) < N := by omega
    have c2 := rFault K b st k1
    by_cases he : st.e = 0
    · have hstep := hi.step stageP_ok hlt he
      have c3 := oneStage K b cb st hso k1 k2
      have w1 : IntKind.u8.wrap ((i : Int) + 1) = i + 1 := IntWalk.u8_in _ (by omega)
      subst hCF
      have Kp : Kept [[0,1,5,9,10,11],[],[0,1,5,9,10],[0,1,5,7,9,10]] := ⟨⟩
      iterate 4 (refine Kp.s ?_; clear Kp; intro Kp; simp [go_sem, -getElem?_pos, -List.map_take, -List.map_drop, IntWalk.iteOmega, IntWalk.toNatUp, hlt2, he, Rd.fault])
      refine ICalls.then (c2) ?_
      try simp [go_sem, -getElem?_pos, -List.map_take, -List.map_drop, IntWalk.iteOmega, IntWalk.toNatUp, hlt2, he, Rd.fault]
      have Kp : Kept [[0,1,5,9,10,18],[],[0,1,5,9,10],[0,1,5,9,10]] := ⟨⟩
      iterate 4 (refine Kp.s ?_; clear Kp; intro Kp; simp [go_sem, -getElem?_pos, -List.map_take, -List.map_drop, IntWalk.iteOmega, IntWalk.toNatUp, hlt2, he, Rd.fault])
      refine ICalls.mono c3 ?_
      rintro v1 K1 ⟨rfl, hon, hk1⟩
      have hk2 : K1.get cb = some ⟨[ptrTo b 0], true⟩ := by rw [hon.same cb (Heap.lt_of_get k2) hne]; exact k2
      have hv1 : Bld 2 K1 H.next v (acc.map Stage.val) := hv.same fun j k hj hk => by rw [hon.same j (Heap.lt_of_get hk) (by omega)]; exact hk
      have hn1 : H.next ≤ K1.next := Nat.le_trans ho.next hon.next
      generalize (stageP st).1 = x at *
      obtain ⟨x1, x2⟩ := x
      obtain ⟨v', K3, e3, b3', s3, n3, f3, t3⟩ := app_one (P := Tryd.prog) (t := 47) (e := 57) (sz := 2) (by_ := 16) (z := .agg ⟨[.int .i64 0, .int .u8 0]⟩) (by kernel_rfl) (by kernel_rfl) (by kernel_rfl) (by kernel_rfl) rfl (Stage.val ⟨x1, x2⟩) [.int .i64 x1, .int .u8 x2] hv1 rfl rfl (by simp [one0, ints, frow]) hn1 (by simp; omega) (by simp; omega)
      simp [go_sem, e3, Stage.val, Stage.cells]
      refine IWp.one [0, 1, 5, 9, 10] ?_
      simp [go_sem, -getElem?_pos, -List.map_take, -List.map_drop, IntWalk.iteOmega, IntWalk.toNatUp, w1]
      exact ⟨N.toNat - (i + 1), by omega, i + 1, rfl, v', _, _, hstep, (s3 b l1).trans hk1, (s3 cb l2).trans hk2, ⟨fun j h1 h2 => (s3 j h1).trans ((ho.trans hon).same j h1 h2), Nat.le_trans hn1 n3⟩, by rw [List.map_append]; exact b3', rfl, by simp⟩
    · skip
      have Kp : Kept [[0,1,5,9,10,11],[],[0,1,5,9,10],[0,1,5,7,9,10]] := ⟨⟩
      iterate 4 (refine Kp.s ?_; clear Kp; intro Kp; simp [go_sem, -getElem?_pos, -List.map_take, -List.map_drop, IntWalk.iteOmega, IntWalk.toNatUp, hlt2, he, Rd.fault])
      refine ICalls.then (c2) ?_
      try simp [go_sem, -getElem?_pos, -List.map_take, -List.map_drop, IntWalk.iteOmega, IntWalk.toNatUp, hlt2, he, Rd.fault]
      have Kp : Kept [[0,1,5,9,10,18],[],[5],[4],[]] := ⟨⟩
      iterate 5 (refine Kp.s ?_; clear Kp; intro Kp; simp [go_sem, -getElem?_pos, -List.map_take, -List.map_drop, IntWalk.iteOmega, IntWalk.toNatUp, hlt2, he, Rd.fault])
      obtain ⟨q1, q2⟩ := hi.stop (.inl he)
      rw [q1, q2]
      exact ⟨fun j => decide (H.next ≤ j), _, hv.frzW (fun j h => by simpa using h), rfl, ho.only, by rw [On.getb l1]; exact k1⟩
  · skip
    have Kp : Kept [[0,1,5,9,10,11],[],[5],[4],[]] := ⟨⟩
    iterate 5 (refine Kp.s ?_; clear Kp; intro Kp; simp [go_sem, -getElem?_pos, -List.map_take, -List.map_drop, IntWalk.iteOmega, IntWalk.toNatUp, show ¬ (i : Int) < N by omega])
    obtain ⟨q1, q2⟩ := hi.stop (.inr hlt)
    rw [q1, q2]
    exact ⟨fun j => decide (H.next ≤ j), _, hv.frzW (fun j h => by simpa using h), rfl, ho.only, by rw [On.getb l1]; exact k1⟩
end Go.Proofs.YtoecebibhcadoaaDoor.I
