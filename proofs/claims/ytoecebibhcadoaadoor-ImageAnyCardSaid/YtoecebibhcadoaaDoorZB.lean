/- A configuration read: the closures that read one thing; the lists. A configuration read: a rule; all of it. A configuration read: all of it. errors.As and errors.Is, at the targets that image.Decode has: closed facts of the entries for reflectlite; the walks. errors.As and errors.Is, walked: at an Errno, at a *placed that wraps one, at nil. errors.Is, walked: at an Errno, at a *placed that wraps one, at nil. errors.As and errors.Is on the ideal heap, at what image.Decode hands them. Rows of bytes held against each other by Go's library. The sum of bytes: what the program reckons. An image read: its sum, its letters, a configuration, or an error that tells where. An image read: image.Decode. No condition. -/
import Derived.Test.YtoecebibhcadoaaDoorZA
import Derived.Test.YtoecebibhcadoaaDoorProg
import Derived.WalkKit
import Derived.LaidEql
import Derived.Stop.Asserts
import Derived.RowKitTokens
import Derived.Lib.IfaceEq
import Derived.Test.YtoecebibhcadoaaDoorIRow
namespace Go.Proofs.YtoecebibhcadoaaDoor.I
open Go Go.RowKit
set_option linter.unusedVariables false
set_option linter.unusedSimpArgs false
structure On (b : Nat) (H K : Heap) : Prop where
  same : ∀ j, j < H.next → j ≠ b → K.get j = H.get j
  next : H.next ≤ K.next
theorem On.refl (b : Nat) (H : Heap) : On b H H := ⟨fun _ _ _ => rfl, Nat.le_refl _⟩
theorem On.trans {b : Nat} {A B C : Heap} (h : On b A B) (k : On b B C) : On b A C := ⟨fun j h1 h2 => (k.same j (Nat.lt_of_lt_of_le h1 h.next) h2).trans (h.same j h1 h2), Nat.le_trans h.next k.next⟩
theorem On.set (b : Nat) (H : Heap) (cs : List Value) : On b H (H.set b cs) := ⟨fun j _ h => Heap.get_set_ne _ _ _ _ h, Nat.le_refl _⟩
theorem On.alloc (b : Nat) (H : Heap) (cs : List Value) : On b H (H.alloc cs) := ⟨fun j h _ => Heap.get_alloc_lt _ _ _ h, by rw [next_alloc]; omega⟩
theorem On.set' {b : Nat} {H K : Heap} (h : On b H K) (cs : List Value) : On b H (K.set b cs) := h.trans (On.set _ _ _)
theorem On.alloc' {b : Nat} {H K : Heap} (h : On b H K) (cs : List Value) : On b H (K.alloc cs) := h.trans (On.alloc _ _ _)
theorem On.setN {b : Nat} {H K : Heap} (h : On b H K) {q : Nat} (hq : H.next ≤ q) (cs : List Value) : On b H (K.set q cs) := ⟨fun j h1 h2 => (Heap.get_set_ne _ _ _ _ (by omega)).trans (h.same j h1 h2), h.next⟩
theorem On.only {b : Nat} {H K : Heap} (h : On b H K) : On b H (K.only fun j => !decide (H.next ≤ j)) :=
  ⟨fun j h1 h2 => by
    show (if (!decide (H.next ≤ j)) = true then K.get j else none) = _
    rw [if_pos (by simp; omega)]; exact h.same j h1 h2, h.next⟩
theorem On.getb {b : Nat} {K : Heap} {n : Nat} (hn : b < n) : (K.only fun j => !decide (n ≤ j)).get b = K.get b := by
  show (if (!decide (n ≤ b)) = true then K.get b else none) = _
  rw [if_pos (by simp; omega)]
theorem Rd.byte_u8 (t : Rd) (ht : t.ok) : 0 ≤ t.byte.1 ∧ t.byte.1 < 256 := by
  unfold Rd.byte
  split
  · exact Rd.at_byte ht 0
  · simp
def Inv {α : Type} (one : Rd → α × Rd) (t : Rd) (n i : Nat) (acc : List α) (st : Rd) : Prop :=
  (n = t.byte.1.toNat ∧ listP one n t.byte.2 = (acc ++ (listP one (n - i) st).1, (listP one (n - i) st).2)) ∧ st.ok ∧ acc.length = i ∧ i ≤ n
theorem Inv.start {α : Type} (one : Rd → α × Rd) (t : Rd) (ht : t.ok) : Inv one t t.byte.1.toNat 0 [] t.byte.2 := ⟨⟨rfl, rfl⟩, Rd.byte_ok ht, rfl, Nat.zero_le _⟩
theorem Inv.parts {α : Type} {one : Rd → α × Rd} {t st : Rd} {n i : Nat} {acc : List α} (h : Inv one t n i acc st) : n = t.byte.1.toNat ∧ st.ok ∧ acc.length = i ∧ i ≤ n := ⟨h.1.1, h.2⟩
theorem Inv.step {α : Type} {one : Rd → α × Rd} {t st : Rd} {n i : Nat} {acc : List α} (h : Inv one t n i acc st) (ho : ∀ s, s.ok → (one s).2.ok) (hi : i < n) (he : st.e = 0) : Inv one t n (i + 1) (acc ++ [(one st).1]) (one st).2 := by
  obtain ⟨⟨h0, h1⟩, h2, h3, h4⟩ := h
  refine ⟨⟨h0, ?_⟩, ho _ h2, by simp [h3], hi⟩
  rw [h1, show n - i = (n - (i + 1)) + 1 by omega, listP_step one _ _ he]
  simp
theorem Inv.stop {α : Type} {one : Rd → α × Rd} {t st : Rd} {n i : Nat} {acc : List α} (h : Inv one t n i acc st) (he : ¬ st.e = 0 ∨ ¬ i < n) : (manyP one t).1 = acc ∧ (manyP one t).2 = st := by
  obtain ⟨⟨h0, h1⟩, h2, h3, h4⟩ := h
  have e : listP one (n - i) st = ([], st) := by
    rcases he with he | he
    · exact listP_stop one _ _ he
    · rw [show n - i = 0 by omega]; rfl
  unfold manyP
  rw [← h0, h1, e]
  simp
theorem box_ne (K : Heap) (b cb : Nat) (t : Rd) (ht : t.ok) (hb : K.get b = some ⟨t.cells, true⟩) (hcb : K.get cb = some ⟨[ptrTo b 0], true⟩) : ¬ cb = b := fun e => by
  rw [e, hb] at hcb
  simp [Rd.cells] at hcb
section
variable (K : Heap) (b cb : Nat) (t : Rd) (ht : t.ok) (hb : K.get b = some ⟨t.cells, true⟩) (hcb : K.get cb = some ⟨[ptrTo b 0], true⟩)
include ht hb hcb
theorem oneSig : ICalls Tryd.prog 67 [ptrTo cb 0] K fun v K' => v = (sigP t).1.val ∧ On b K K' ∧ K'.get b = some ⟨(sigP t).2.cells, true⟩ := by
  have hne := box_ne K b cb t ht hb hcb
  have l1 := Heap.lt_of_get hb
  have l2 := Heap.lt_of_get hcb
  have g1 : (K.alloc [.int .i64 0, .int .i64 0]).get b = some ⟨t.cells, true⟩ := by rw [Heap.get_alloc_lt _ _ _ l1]; exact hb
  have c1 := rInt _ b t ht g1
  have c2 := rInt ((K.alloc [.int .i64 0, .int .i64 0]).set b t.int.2.cells) b t.int.2 (Rd.int_ok ht) (by rw [get_set, if_pos rfl, g1]; rfl)
  refine IBody.calls (by kernel_rfl) ?_
  refine IBody.of Tryd.func67 rfl (by rw [Tryd.ntmps67]; simp) ?_
  rw [Tryd.ntmps67]
  refine IWp.one [0, 1] ?_
  simp [go_sem, -getElem?_pos, -List.map_take, -List.map_drop, IntWalk.iteOmega, IntWalk.toNatUp, hcb, hne, get_alloc, show ¬ cb = K.next by omega]
  refine IWp.seq ?_
  refine IWp.draw [1] [cb] (.ld 0 [1, 3, 4, 5] (.val 2 (.eff 1 (.eff 3 (.val 4 (.eff 5 .done .done)) .done) .done))) follows (by kernel_rfl) ?_
  simp [go_sem, -getElem?_pos, -List.map_take, -List.map_drop, IntWalk.iteOmega, IntWalk.toNatUp, hcb, hne, get_alloc, show ¬ cb = K.next by omega]
  refine ICalls.mono (c1) ?_
  rintro v _ ⟨rfl, rfl⟩
  try simp [go_sem, -getElem?_pos, -List.map_take, -List.map_drop, IntWalk.iteOmega, IntWalk.toNatUp, hcb, hne, get_alloc, show ¬ cb = K.next by omega]
  refine ICalls.mono (c2) ?_
  rintro v _ ⟨rfl, rfl⟩
  try simp [go_sem, -getElem?_pos, -List.map_take, -List.map_drop, IntWalk.iteOmega, IntWalk.toNatUp, hcb, hne, get_alloc, show ¬ cb = K.next by omega]
  refine IWp.one [] ?_
  simp [go_sem, -getElem?_pos, -List.map_take, -List.map_drop, IntWalk.iteOmega, IntWalk.toNatUp, hcb, hne, get_alloc, show ¬ cb = K.next by omega]
  exact ⟨rfl, ((((On.refl b K).alloc' _).set' _).set' _).setN (Nat.le_refl _) _, ⟨_, hb, rfl, rfl⟩⟩
theorem oneStage : ICalls Tryd.prog 87 [ptrTo cb 0] K fun v K' => v = (stageP t).1.val ∧ On b K K' ∧ K'.get b = some ⟨(stageP t).2.cells, true⟩ := by
  have hne := box_ne K b cb t ht hb hcb
  have l1 := Heap.lt_of_get hb
  have l2 := Heap.lt_of_get hcb
  have g1 : (K.alloc [.int .i64 0, .int .u8 0]).get b = some ⟨t.cells, true⟩ := by rw [Heap.get_alloc_lt _ _ _ l1]; exact hb
  have c1 := rInt _ b t ht g1
  have c2 := rByte ((K.alloc [.int .i64 0, .int .u8 0]).set b t.int.2.cells) b t.int.2 (Rd.int_ok ht) (by rw [get_set, if_pos rfl, g1]; rfl)
  refine IBody.calls (by kernel_rfl) ?_
  refine IBody.of Tryd.func87 rfl (by rw [Tryd.ntmps87]; simp) ?_
  rw [Tryd.ntmps87]
  refine IWp.one [0, 1] ?_
  simp [go_sem, -getElem?_pos, -List.map_take, -List.map_drop, IntWalk.iteOmega, IntWalk.toNatUp, hcb, hne, get_alloc, show ¬ cb = K.next by omega]
  refine IWp.seq ?_
  refine IWp.draw [1] [cb] (.ld 0 [1, 3, 4, 5] (.val 2 (.eff 1 (.eff 3 (.val 4 (.eff 5 .done .done)) .done) .done))) follows (by kernel_rfl) ?_
  simp [go_sem, -getElem?_pos, -List.map_take, -List.map_drop, IntWalk.iteOmega, IntWalk.toNatUp, hcb, hne, get_alloc, show ¬ cb = K.next by omega]
  refine ICalls.mono (c1) ?_
  rintro v _ ⟨rfl, rfl⟩
  try simp [go_sem, -getElem?_pos, -List.map_take, -List.map_drop, IntWalk.iteOmega, IntWalk.toNatUp, hcb, hne, get_alloc, show ¬ cb = K.next by omega]
  refine ICalls.mono (c2) ?_
  rintro v _ ⟨rfl, rfl⟩
  try simp [go_sem, -getElem?_pos, -List.map_take, -List.map_drop, IntWalk.iteOmega, IntWalk.toNatUp, hcb, hne, get_alloc, show ¬ cb = K.next by omega]
  refine IWp.one [] ?_
  simp [go_sem, -getElem?_pos, -List.map_take, -List.map_drop, IntWalk.iteOmega, IntWalk.toNatUp, hcb, hne, get_alloc, show ¬ cb = K.next by omega]
  exact ⟨rfl, ((((On.refl b K).alloc' _).set' _).set' _).setN (Nat.le_refl _) _, ⟨_, hb, rfl, rfl⟩⟩
theorem oneInt : ICalls Tryd.prog 75 [ptrTo cb 0] K fun v K' => v = .int .i64 t.byte.1 ∧ On b K K' ∧ K'.get b = some ⟨t.byte.2.cells, true⟩ := by
  have c1 := rByte K b t ht hb
  have hN := Rd.byte_u8 t ht
  have w1 := IntWalk.i64_in t.byte.1 (by omega)
  refine IBody.calls (by kernel_rfl) ?_
  refine IBody.of Tryd.func75 rfl (by rw [Tryd.ntmps75]; simp) ?_
  rw [Tryd.ntmps75]
  have Kp : Kept [[0],[1]] := ⟨⟩
  iterate 2 (refine Kp.s ?_; clear Kp; intro Kp; simp [go_sem, -getElem?_pos, -List.map_take, -List.map_drop, IntWalk.iteOmega, IntWalk.toNatUp, hcb, w1])
  refine ICalls.mono (c1) ?_
  rintro v _ ⟨rfl, rfl⟩
  try simp [go_sem, -getElem?_pos, -List.map_take, -List.map_drop, IntWalk.iteOmega, IntWalk.toNatUp, hcb, w1]
  refine IWp.one [] ?_
  simp [go_sem, -getElem?_pos, -List.map_take, -List.map_drop, IntWalk.iteOmega, IntWalk.toNatUp, hcb, w1]
  exact ⟨On.set _ _ _, _, hb, rfl⟩
end
set_option maxHeartbeats 4000000 in
theorem listInt (H : Heap) (b cb : Nat) (t : Rd) (ht : t.ok) (hb : H.get b = some ⟨t.cells, true⟩) (hcb : H.get cb = some ⟨[ptrTo b 0], true⟩) :
    ICalls Tryd.prog 74 [ptrTo b 0, .func (.func 75) #[] #[ptrTo cb 0]] H fun v K => v = frow 1 0 ((manyP Rd.byte t).1.map (Value.int .i64)) ∧ On b H K ∧ K.get b = some ⟨(manyP Rd.byte t).2.cells, true⟩ := by
  refine ICalls.frozen ?_
  have hne := box_ne H b cb t ht hb hcb
  have l1 := Heap.lt_of_get hb
  have l2 := Heap.lt_of_get hcb
  have c1 := rByte H b t ht hb
  have hN := Rd.byte_u8 t ht
  have g1 : (H.set b t.byte.2.cells).get b = some ⟨t.byte.2.cells, true⟩ := by rw [get_set, if_pos rfl, hb]; rfl
  have g2 : (H.set b t.byte.2.cells).get cb = some ⟨[ptrTo b 0], true⟩ := by rw [get_set, if_neg hne]; exact hcb
  have o1 := On.set b H t.byte.2.cells
  have hi0 := Inv.start Rd.byte t ht
  refine IBody.calls (by kernel_rfl) ?_
  refine IBody.of Tryd.func74 rfl (by rw [Tryd.ntmps74]; simp) ?_
  rw [Tryd.ntmps74]
  have Kp : Kept [[0,1],[0,1,5],[0,1,5,9,10]] := ⟨⟩
  iterate 3 (refine Kp.s ?_; clear Kp; intro Kp; simp [go_sem, -getElem?_pos, -List.map_take, -List.map_drop, IntWalk.iteOmega, IntWalk.toNatUp])
  refine ICalls.mono (c1) ?_
  rintro v _ ⟨rfl, rfl⟩
  try simp [go_sem, -getElem?_pos, -List.map_take, -List.map_drop, IntWalk.iteOmega, IntWalk.toNatUp]
  refine IWp.block ?_
  generalize H.set b t.byte.2.cells = H1 at *
  obtain ⟨N, hNe⟩ : ∃ N, N = t.byte.1 := ⟨_, rfl⟩
  rw [← hNe] at hN hi0 ⊢
  obtain ⟨CF, hCF⟩ : ∃ CF : Value, CF = .func (.func 75) #[] #[ptrTo cb 0] := ⟨_, rfl⟩
  try rw [← hCF]
  refine IWp.loop (fun j e K => ∃ (i : Nat) (v : Value) (acc : List (Int)) (st : Rd), j = N.toNat - i ∧ Inv Rd.byte t N.toNat i acc st ∧ K.get b = some ⟨st.cells, true⟩ ∧ K.get cb = some ⟨[ptrTo b 0], true⟩ ∧ On b H K ∧ Bld 1 K H.next v (acc.map (Value.int .i64)) ∧ e = [(0, ptrTo b 0), (1, CF), (5, v), (9, .int .u8 N), (10, .int .u8 (i : Int))]) N.toNat ⟨0, _, [], _, rfl, hi0, g1, g2, o1, Bld.nil _ _ _, by rw [hCF]; simp [go_sem]⟩ ?_
  clear g1 g2 o1 hi0 c1
  rintro j e K ⟨i, v, acc, st, rfl, hi, k1, k2, ho, hv, rfl⟩
  obtain ⟨hi1, hso, hil, hin⟩ := hi.parts
  by_cases hlt : i < N.toNat
  · have hlt2 : (i : Int) < N := by omega
    have c2 := rFault K b st k1
    by_cases he : st.e = 0
    · have hstep := hi.step (fun _ h => Rd.byte_ok h) hlt he
      have c3 := oneInt K b cb st hso k1 k2
      have w1 : IntKind.u8.wrap ((i : Int) + 1) = i + 1 := IntWalk.u8_in _ (by omega)
      subst hCF
      have Kp : Kept [[0,1,5,9,10,11],[],[0,1,5,9,10],[0,1,5,7,9,10]] := ⟨⟩
      iterate 4 (refine Kp.s ?_; clear Kp; intro Kp; simp [go_sem, -getElem?_pos, -List.map_take, -List.map_drop, IntWalk.iteOmega, IntWalk.toNatUp, hlt2, he, Rd.fault])
      refine ICalls.then (c2) ?_
      try simp [go_sem, -getElem?_pos, -List.map_take, -List.map_drop, IntWalk.iteOmega, IntWalk.toNatUp, hlt2, he, Rd.fault]
      have Kp : Kept [[0,1,5,9,10,18],[],[0,1,5,9,10],[0,1,5,9,10]] := ⟨⟩
      iterate 4 (refine Kp.s ?_; clear Kp; intro Kp; simp [go_sem, -getElem?_pos, -List.map_take, -List.map_drop, IntWalk.iteOmega, IntWalk.toNatUp, hlt2, he, Rd.fault])
      refine ICalls.mono c3 ?_
      rintro v1 K1 ⟨rfl, hon, hk1⟩
      have hk2 : K1.get cb = some ⟨[ptrTo b 0], true⟩ := by rw [hon.same cb (Heap.lt_of_get k2) hne]; exact k2
      have hv1 : Bld 1 K1 H.next v (acc.map (Value.int .i64)) := hv.same fun j k hj hk => by rw [hon.same j (Heap.lt_of_get hk) (by omega)]; exact hk
      have hn1 : H.next ≤ K1.next := Nat.le_trans ho.next hon.next
      generalize (Rd.byte st).1 = x at *
      obtain ⟨v', K3, e3, b3', s3, n3, f3, t3⟩ := app_one (P := Tryd.prog) (t := 58) (e := 3) (sz := 1) (by_ := 8) (z := .int .i64 0) (by kernel_rfl) (by kernel_rfl) (by kernel_rfl) (by kernel_rfl) rfl ((Value.int .i64) x) [.int .i64 x] hv1 rfl rfl (by simp [one0, ints, frow]) hn1 (by simp; omega) (by simp; omega)
      simp [go_sem, e3]
      refine IWp.one [0, 1, 5, 9, 10] ?_
      simp [go_sem, -getElem?_pos, -List.map_take, -List.map_drop, IntWalk.iteOmega, IntWalk.toNatUp, w1]
      exact ⟨N.toNat - (i + 1), by omega, i + 1, rfl, v', _, _, hstep, (s3 b l1).trans hk1, (s3 cb l2).trans hk2, ⟨fun j h1 h2 => (s3 j h1).trans ((ho.trans hon).same j h1 h2), Nat.le_trans hn1 n3⟩, by rw [List.map_append]; exact b3', rfl, by simp⟩
    · skip
      have Kp : Kept [[0,1,5,9,10,11],[],[0,1,5,9,10],[0,1,5,7,9,10]] := ⟨⟩
      iterate 4 (refine Kp.s ?_; clear Kp; intro Kp; simp [go_sem, -getElem?_pos, -List.map_take, -List.map_drop, IntWalk.iteOmega, IntWalk.toNatUp, hlt2, he, Rd.fault])
      refine ICalls.then (c2) ?_
      try simp [go_sem, -getElem?_pos, -List.map_take, -List.map_drop, IntWalk.iteOmega, IntWalk.toNatUp, hlt2, he, Rd.fault]
      have Kp : Kept [[0,1,5,9,10,18],[],[5],[4],[]] := ⟨⟩
      iterate 5 (refine Kp.s ?_; clear Kp; intro Kp; simp [go_sem, -getElem?_pos, -List.map_take, -List.map_drop, IntWalk.iteOmega, IntWalk.toNatUp, hlt2, he, Rd.fault])
      obtain ⟨q1, q2⟩ := hi.stop (.inl he)
      rw [q1, q2]
      exact ⟨fun j => decide (H.next ≤ j), _, hv.frzW (fun j h => by simpa using h), rfl, ho.only, by rw [On.getb l1]; exact k1⟩
  · skip
    have Kp : Kept [[0,1,5,9,10,11],[],[5],[4],[]] := ⟨⟩
    iterate 5 (refine Kp.s ?_; clear Kp; intro Kp; simp [go_sem, -getElem?_pos, -List.map_take, -List.map_drop, IntWalk.iteOmega, IntWalk.toNatUp, show ¬ (i : Int) < N by omega])
    obtain ⟨q1, q2⟩ := hi.stop (.inr hlt)
    rw [q1, q2]
    exact ⟨fun j => decide (H.next ≤ j), _, hv.frzW (fun j h => by simpa using h), rfl, ho.only, by rw [On.getb l1]; exact k1⟩
theorem oneSlot (K : Heap) (b cb : Nat) (t : Rd) (ht : t.ok) (hb : K.get b = some ⟨t.cells, true⟩) (hcb : K.get cb = some ⟨[ptrTo b 0], true⟩) : ICalls Tryd.prog 73 [ptrTo cb 0] K fun v K' => v = ints .i64 (slotP t).1 ∧ On b K K' ∧ K'.get b = some ⟨(slotP t).2.cells, true⟩ := by
  have c1 := listInt K b cb t ht hb hcb
  refine IBody.calls (by kernel_rfl) ?_
  refine IBody.of Tryd.func73 rfl (by rw [Tryd.ntmps73]; simp) ?_
  rw [Tryd.ntmps73]
  have Kp : Kept [[0],[1]] := ⟨⟩
  iterate 2 (refine Kp.s ?_; clear Kp; intro Kp; simp [go_sem, -getElem?_pos, -List.map_take, -List.map_drop, IntWalk.iteOmega, IntWalk.toNatUp, hcb])
  refine ICalls.mono (c1) ?_
  rintro v K1 ⟨rfl, h1, h2⟩
  try simp [go_sem, -getElem?_pos, -List.map_take, -List.map_drop, IntWalk.iteOmega, IntWalk.toNatUp, hcb]
  refine IWp.one [] ?_
  simp [go_sem, -getElem?_pos, -List.map_take, -List.map_drop, IntWalk.iteOmega, IntWalk.toNatUp, hcb]
  exact ⟨rfl, h1, h2⟩
set_option maxHeartbeats 4000000 in
theorem listSlot (H : Heap) (b cb : Nat) (t : Rd) (ht : t.ok) (hb : H.get b = some ⟨t.cells, true⟩) (hcb : H.get cb = some ⟨[ptrTo b 0], true⟩) :
    ICalls Tryd.prog 72 [ptrTo b 0, .func (.func 73) #[] #[ptrTo cb 0]] H fun v K => v = frow 1 0 ((manyP slotP t).1.map (ints .i64)) ∧ On b H K ∧ K.get b = some ⟨(manyP slotP t).2.cells, true⟩ := by
  refine ICalls.frozen ?_
  have hne := box_ne H b cb t ht hb hcb
  have l1 := Heap.lt_of_get hb
  have l2 := Heap.lt_of_get hcb
  have c1 := rByte H b t ht hb
  have hN := Rd.byte_u8 t ht
  have g1 : (H.set b t.byte.2.cells).get b = some ⟨t.byte.2.cells, true⟩ := by rw [get_set, if_pos rfl, hb]; rfl
  have g2 : (H.set b t.byte.2.cells).get cb = some ⟨[ptrTo b 0], true⟩ := by rw [get_set, if_neg hne]; exact hcb
  have o1 := On.set b H t.byte.2.cells
  have hi0 := Inv.start slotP t ht
  refine IBody.calls (by kernel_rfl) ?_
  refine IBody.of Tryd.func72 rfl (by rw [Tryd.ntmps72]; simp) ?_
  rw [Tryd.ntmps72]
  have Kp : Kept [[0,1],[0,1,5],[0,1,5,9,10]] := ⟨⟩
  iterate 3 (refine Kp.s ?_; clear Kp; intro Kp; simp [go_sem, -getElem?_pos, -List.map_take, -List.map_drop, IntWalk.iteOmega, IntWalk.toNatUp])
  refine ICalls.mono (c1) ?_
  rintro v _ ⟨rfl, rfl⟩
  try simp [go_sem, -getElem?_pos, -List.map_take, -List.map_drop, IntWalk.iteOmega, IntWalk.toNatUp]
  refine IWp.block ?_
  generalize H.set b t.byte.2.cells = H1 at *
  obtain ⟨N, hNe⟩ : ∃ N, N = t.byte.1 := ⟨_, rfl⟩
  rw [← hNe] at hN hi0 ⊢
  obtain ⟨CF, hCF⟩ : ∃ CF : Value, CF = .func (.func 73) #[] #[ptrTo cb 0] := ⟨_, rfl⟩
  try rw [← hCF]
  refine IWp.loop (fun j e K => ∃ (i : Nat) (v : Value) (acc : List (List Int)) (st : Rd), j = N.toNat - i ∧ Inv slotP t N.toNat i acc st ∧ K.get b = some ⟨st.cells, true⟩ ∧ K.get cb = some ⟨[ptrTo b 0], true⟩ ∧ On b H K ∧ Bld 1 K H.next v (acc.map (ints .i64)) ∧ e = [(0, ptrTo b 0), (1, CF), (5, v), (9, .int .u8 N), (10, .int .u8 (i : Int))]) N.toNat ⟨0, _, [], _, rfl, hi0, g1, g2, o1, Bld.nil _ _ _, by rw [hCF]; simp [go_sem]⟩ ?_
  clear g1 g2 o1 hi0 c1
  rintro j e K ⟨i, v, acc, st, rfl, hi, k1, k2, ho, hv, rfl⟩
  obtain ⟨hi1, hso, hil, hin⟩ := hi.parts
  by_cases hlt : i < N.toNat
  · have hlt2 : (i : Int) < N := by omega
    have c2 := rFault K b st k1
    by_cases he : st.e = 0
    · have hstep := hi.step slotP_ok hlt he
      have c3 := oneSlot K b cb st hso k1 k2
      have w1 : IntKind.u8.wrap ((i : Int) + 1) = i + 1 := IntWalk.u8_in _ (by omega)
      subst hCF
      have Kp : Kept [[0,1,5,9,10,11],[],[0,1,5,9,10],[0,1,5,7,9,10]] := ⟨⟩
      iterate 4 (refine Kp.s ?_; clear Kp; intro Kp; simp [go_sem, -getElem?_pos, -List.map_take, -List.map_drop, IntWalk.iteOmega, IntWalk.toNatUp, hlt2, he, Rd.fault])
      refine ICalls.then (c2) ?_
      try simp [go_sem, -getElem?_pos, -List.map_take, -List.map_drop, IntWalk.iteOmega, IntWalk.toNatUp, hlt2, he, Rd.fault]
      have Kp : Kept [[0,1,5,9,10,18],[],[0,1,5,9,10],[0,1,5,9,10]] := ⟨⟩
      iterate 4 (refine Kp.s ?_; clear Kp; intro Kp; simp [go_sem, -getElem?_pos, -List.map_take, -List.map_drop, IntWalk.iteOmega, IntWalk.toNatUp, hlt2, he, Rd.fault])
      refine ICalls.mono c3 ?_
      rintro v1 K1 ⟨rfl, hon, hk1⟩
      have hk2 : K1.get cb = some ⟨[ptrTo b 0], true⟩ := by rw [hon.same cb (Heap.lt_of_get k2) hne]; exact k2
      have hv1 : Bld 1 K1 H.next v (acc.map (ints .i64)) := hv.same fun j k hj hk => by rw [hon.same j (Heap.lt_of_get hk) (by omega)]; exact hk
      have hn1 : H.next ≤ K1.next := Nat.le_trans ho.next hon.next
      generalize (slotP st).1 = x at *
      obtain ⟨v', K3, e3, b3', s3, n3, f3, t3⟩ := app_one (P := Tryd.prog) (t := 30) (e := 58) (sz := 1) (by_ := 24) (z := .slice none 0 0) (by kernel_rfl) (by kernel_rfl) (by kernel_rfl) (by kernel_rfl) rfl ((ints .i64) x) [ints .i64 x] hv1 rfl rfl (by simp [one0, ints, frow]) hn1 (by simp; omega) (by simp; omega)
      simp [go_sem, e3]
      refine IWp.one [0, 1, 5, 9, 10] ?_
      simp [go_sem, -getElem?_pos, -List.map_take, -List.map_drop, IntWalk.iteOmega, IntWalk.toNatUp, w1]
      exact ⟨N.toNat - (i + 1), by omega, i + 1, rfl, v', _, _, hstep, (s3 b l1).trans hk1, (s3 cb l2).trans hk2, ⟨fun j h1 h2 => (s3 j h1).trans ((ho.trans hon).same j h1 h2), Nat.le_trans hn1 n3⟩, by rw [List.map_append]; exact b3', rfl, by simp⟩
    · skip
      have Kp : Kept [[0,1,5,9,10,11],[],[0,1,5,9,10],[0,1,5,7,9,10]] := ⟨⟩
      iterate 4 (refine Kp.s ?_; clear Kp; intro Kp; simp [go_sem, -getElem?_pos, -List.map_take, -List.map_drop, IntWalk.iteOmega, IntWalk.toNatUp, hlt2, he, Rd.fault])
      refine ICalls.then (c2) ?_
      try simp [go_sem, -getElem?_pos, -List.map_take, -List.map_drop, IntWalk.iteOmega, IntWalk.toNatUp, hlt2, he, Rd.fault]
      have Kp : Kept [[0,1,5,9,10,18],[],[5],[4],[]] := ⟨⟩
      iterate 5 (refine Kp.s ?_; clear Kp; intro Kp; simp [go_sem, -getElem?_pos, -List.map_take, -List.map_drop, IntWalk.iteOmega, IntWalk.toNatUp, hlt2, he, Rd.fault])
      obtain ⟨q1, q2⟩ := hi.stop (.inl he)
      rw [q1, q2]
      exact ⟨fun j => decide (H.next ≤ j), _, hv.frzW (fun j h => by simpa using h), rfl, ho.only, by rw [On.getb l1]; exact k1⟩
  · skip
    have Kp : Kept [[0,1,5,9,10,11],[],[5],[4],[]] := ⟨⟩
    iterate 5 (refine Kp.s ?_; clear Kp; intro Kp; simp [go_sem, -getElem?_pos, -List.map_take, -List.map_drop, IntWalk.iteOmega, IntWalk.toNatUp, show ¬ (i : Int) < N by omega])
    obtain ⟨q1, q2⟩ := hi.stop (.inr hlt)
    rw [q1, q2]
    exact ⟨fun j => decide (H.next ≤ j), _, hv.frzW (fun j h => by simpa using h), rfl, ho.only, by rw [On.getb l1]; exact k1⟩
set_option maxHeartbeats 4000000 in
theorem listSig (H : Heap) (b cb : Nat) (t : Rd) (ht : t.ok) (hb : H.get b = some ⟨t.cells, true⟩) (hcb : H.get cb = some ⟨[ptrTo b 0], true⟩) :
    ICalls Tryd.prog 66 [ptrTo b 0, .func (.func 67) #[] #[ptrTo cb 0]] H fun v K => v = frow 2 0 ((manyP sigP t).1.map Sig.val) ∧ On b H K ∧ K.get b = some ⟨(manyP sigP t).2.cells, true⟩ := by
  refine ICalls.frozen ?_
  have hne := box_ne H b cb t ht hb hcb
  have l1 := Heap.lt_of_get hb
  have l2 := Heap.lt_of_get hcb
  have c1 := rByte H b t ht hb
  have hN := Rd.byte_u8 t ht
  have g1 : (H.set b t.byte.2.cells).get b = some ⟨t.byte.2.cells, true⟩ := by rw [get_set, if_pos rfl, hb]; rfl
  have g2 : (H.set b t.byte.2.cells).get cb = some ⟨[ptrTo b 0], true⟩ := by rw [get_set, if_neg hne]; exact hcb
  have o1 := On.set b H t.byte.2.cells
  have hi0 := Inv.start sigP t ht
  refine IBody.calls (by kernel_rfl) ?_
  refine IBody.of Tryd.func66 rfl (by rw [Tryd.ntmps66]; simp) ?_
  rw [Tryd.ntmps66]
  have Kp : Kept [[0,1],[0,1,5],[0,1,5,9,10]] := ⟨⟩
  iterate 3 (refine Kp.s ?_; clear Kp; intro Kp; simp [go_sem, -getElem?_pos, -List.map_take, -List.map_drop, IntWalk.iteOmega, IntWalk.toNatUp])
  refine ICalls.mono (c1) ?_
  rintro v _ ⟨rfl, rfl⟩
  try simp [go_sem, -getElem?_pos, -List.map_take, -List.map_drop, IntWalk.iteOmega, IntWalk.toNatUp]
  refine IWp.block ?_
  generalize H.set b t.byte.2.cells = H1 at *
  obtain ⟨N, hNe⟩ : ∃ N, N = t.byte.1 := ⟨_, rfl⟩
  rw [← hNe] at hN hi0 ⊢
  obtain ⟨CF, hCF⟩ : ∃ CF : Value, CF = .func (.func 67) #[] #[ptrTo cb 0] := ⟨_, rfl⟩
  try rw [← hCF]
  refine IWp.loop (fun j e K => ∃ (i : Nat) (v : Value) (acc : List (Sig)) (st : Rd), j = N.toNat - i ∧ Inv sigP t N.toNat i acc st ∧ K.get b = some ⟨st.cells, true⟩ ∧ K.get cb = some ⟨[ptrTo b 0], true⟩ ∧ On b H K ∧ Bld 2 K H.next v (acc.map Sig.val) ∧ e = [(0, ptrTo b 0), (1, CF), (5, v), (9, .int .u8 N), (10, .int .u8 (i : Int))]) N.toNat ⟨0, _, [], _, rfl, hi0, g1, g2, o1, Bld.nil _ _ _, by rw [hCF]; simp [go_sem]⟩ ?_
  clear g1 g2 o1 hi0 c1
  rintro j e K ⟨i, v, acc, st, rfl, hi, k1, k2, ho, hv, rfl⟩
  obtain ⟨hi1, hso, hil, hin⟩ := hi.parts
  by_cases hlt : i < N.toNat
  · have hlt2 : (i : Int) < N := by omega
    have c2 := rFault K b st k1
    by_cases he : st.e = 0
    · have hstep := hi.step sigP_ok hlt he
      have c3 := oneSig K b cb st hso k1 k2
      have w1 : IntKind.u8.wrap ((i : Int) + 1) = i + 1 := IntWalk.u8_in _ (by omega)
      subst hCF
      have Kp : Kept [[0,1,5,9,10,11],[],[0,1,5,9,10],[0,1,5,7,9,10]] := ⟨⟩
      iterate 4 (refine Kp.s ?_; clear Kp; intro Kp; simp [go_sem, -getElem?_pos, -List.map_take, -List.map_drop, IntWalk.iteOmega, IntWalk.toNatUp, hlt2, he, Rd.fault])
      refine ICalls.then (c2) ?_
      try simp [go_sem, -getElem?_pos, -List.map_take, -List.map_drop, IntWalk.iteOmega, IntWalk.toNatUp, hlt2, he, Rd.fault]
      have Kp : Kept [[0,1,5,9,10,18],[],[0,1,5,9,10],[0,1,5,9,10]] := ⟨⟩
      iterate 4 (refine Kp.s ?_; clear Kp; intro Kp; simp [go_sem, -getElem?_pos, -List.map_take, -List.map_drop, IntWalk.iteOmega, IntWalk.toNatUp, hlt2, he, Rd.fault])
      refine ICalls.mono c3 ?_
      rintro v1 K1 ⟨rfl, hon, hk1⟩
      have hk2 : K1.get cb = some ⟨[ptrTo b 0], true⟩ := by rw [hon.same cb (Heap.lt_of_get k2) hne]; exact k2
      have hv1 : Bld 2 K1 H.next v (acc.map Sig.val) := hv.same fun j k hj hk => by rw [hon.same j (Heap.lt_of_get hk) (by omega)]; exact hk
      have hn1 : H.next ≤ K1.next := Nat.le_trans ho.next hon.next
      generalize (sigP st).1 = x at *
      obtain ⟨x1, x2⟩ := x
      obtain ⟨v', K3, e3, b3', s3, n3, f3, t3⟩ := app_one (P := Tryd.prog) (t := 28) (e := 51) (sz := 2) (by_ := 16) (z := .agg ⟨[.int .i64 0, .int .i64 0]⟩) (by kernel_rfl) (by kernel_rfl) (by kernel_rfl) (by kernel_rfl) rfl (Sig.val ⟨x1, x2⟩) [.int .i64 x1, .int .i64 x2] hv1 rfl rfl (by simp [one0, ints, frow]) hn1 (by simp; omega) (by simp; omega)
      simp [go_sem, e3, Sig.val, Sig.cells]
      refine IWp.one [0, 1, 5, 9, 10] ?_
      simp [go_sem, -getElem?_pos, -List.map_take, -List.map_drop, IntWalk.iteOmega, IntWalk.toNatUp, w1]
      exact ⟨N.toNat - (i + 1), by omega, i + 1, rfl, v', _, _, hstep, (s3 b l1).trans hk1, (s3 cb l2).trans hk2, ⟨fun j h1 h2 => (s3 j h1).trans ((ho.trans hon).same j h1 h2), Nat.le_trans hn1 n3⟩, by rw [List.map_append]; exact b3', rfl, by simp⟩
    · skip
      have Kp : Kept [[0,1,5,9,10,11],[],[0,1,5,9,10],[0,1,5,7,9,10]] := ⟨⟩
      iterate 4 (refine Kp.s ?_; clear Kp; intro Kp; simp [go_sem, -getElem?_pos, -List.map_take, -List.map_drop, IntWalk.iteOmega, IntWalk.toNatUp, hlt2, he, Rd.fault])
      refine ICalls.then (c2) ?_
      try simp [go_sem, -getElem?_pos, -List.map_take, -List.map_drop, IntWalk.iteOmega, IntWalk.toNatUp, hlt2, he, Rd.fault]
      have Kp : Kept [[0,1,5,9,10,18],[],[5],[4],[]] := ⟨⟩
      iterate 5 (refine Kp.s ?_; clear Kp; intro Kp; simp [go_sem, -getElem?_pos, -List.map_take, -List.map_drop, IntWalk.iteOmega, IntWalk.toNatUp, hlt2, he, Rd.fault])
      obtain ⟨q1, q2⟩ := hi.stop (.inl he)
      rw [q1, q2]
      exact ⟨fun j => decide (H.next ≤ j), _, hv.frzW (fun j h => by simpa using h), rfl, ho.only, by rw [On.getb l1]; exact k1⟩
  · skip
    have Kp : Kept [[0,1,5,9,10,11],[],[5],[4],[]] := ⟨⟩
    iterate 5 (refine Kp.s ?_; clear Kp; intro Kp; simp [go_sem, -getElem?_pos, -List.map_take, -List.map_drop, IntWalk.iteOmega, IntWalk.toNatUp, show ¬ (i : Int) < N by omega])
    obtain ⟨q1, q2⟩ := hi.stop (.inr hlt)
    rw [q1, q2]
    exact ⟨fun j => decide (H.next ≤ j), _, hv.frzW (fun j h => by simpa using h), rfl, ho.only, by rw [On.getb l1]; exact k1⟩
set_option maxHeartbeats 4000000 in
theorem listStage (H : Heap) (b cb : Nat) (t : Rd) (ht : t.ok) (hb : H.get b = some ⟨t.cells, true⟩) (hcb : H.get cb = some ⟨[ptrTo b 0], true⟩) :
    ICalls Tryd.prog 86 [ptrTo b 0, .func (.func 87) #[] #[ptrTo cb 0]] H fun v K => v = frow 2 0 ((manyP stageP t).1.map Stage.val) ∧ On b H K ∧ K.get b = some ⟨(manyP stageP t).2.cells, true⟩ := by
  refine ICalls.frozen ?_
  have hne := box_ne H b cb t ht hb hcb
  have l1 := Heap.lt_of_get hb
  have l2 := Heap.lt_of_get hcb
  have c1 := rByte H b t ht hb
  have hN := Rd.byte_u8 t ht
  have g1 : (H.set b t.byte.2.cells).get b = some ⟨t.byte.2.cells, true⟩ := by rw [get_set, if_pos rfl, hb]; rfl
  have g2 : (H.set b t.byte.2.cells).get cb = some ⟨[ptrTo b 0], true⟩ := by rw [get_set, if_neg hne]; exact hcb
  have o1 := On.set b H t.byte.2.cells
  have hi0 := Inv.start stageP t ht
  refine IBody.calls (by kernel_rfl) ?_
  refine IBody.of Tryd.func86 rfl (by rw [Tryd.ntmps86]; simp) ?_
  rw [Tryd.ntmps86]
  have Kp : Kept [[0,1],[0,1,5],[0,1,5,9,10]] := ⟨⟩
  iterate 3 (refine Kp.s ?_; clear Kp; intro Kp; simp [go_sem, -getElem?_pos, -List.map_take, -List.map_drop, IntWalk.iteOmega, IntWalk.toNatUp])
  refine ICalls.mono (c1) ?_
  rintro v _ ⟨rfl, rfl⟩
  try simp [go_sem, -getElem?_pos, -List.map_take, -List.map_drop, IntWalk.iteOmega, IntWalk.toNatUp]
  refine IWp.block ?_
  generalize H.set b t.byte.2.cells = H1 at *
  obtain ⟨N, hNe⟩ : ∃ N, N = t.byte.1 := ⟨_, rfl⟩
  rw [← hNe] at hN hi0 ⊢
  obtain ⟨CF, hCF⟩ : ∃ CF : Value, CF = .func (.func 87) #[] #[ptrTo cb 0] := ⟨_, rfl⟩
  try rw [← hCF]
  refine IWp.loop (fun j e K => ∃ (i : Nat) (v : Value) (acc : List (Stage)) (st : Rd), j = N.toNat - i ∧ Inv stageP t N.toNat i acc st ∧ K.get b = some ⟨st.cells, true⟩ ∧ K.get cb = some ⟨[ptrTo b 0], true⟩ ∧ On b H K ∧ Bld 2 K H.next v (acc.map Stage.val) ∧ e = [(0, ptrTo b 0), (1, CF), (5, v), (9, .int .u8 N), (10, .int .u8 (i : Int))]) N.toNat ⟨0, _, [], _, rfl, hi0, g1, g2, o1, Bld.nil _ _ _, by rw [hCF]; simp [go_sem]⟩ ?_
  clear g1 g2 o1 hi0 c1
  rintro j e K ⟨i, v, acc, st, rfl, hi, k1, k2, ho, hv, rfl⟩
  obtain ⟨hi1, hso, hil, hin⟩ := hi.parts
  by_cases hlt : i < N.toNat
  · have hlt2 : (i : Int) < N := by omega
    have c2 := rFault K b st k1
    by_cases he : st.e = 0
    · have hstep := hi.step stageP_ok hlt he
      have c3 := oneStage K b cb st hso k1 k2
      have w1 : IntKind.u8.wrap ((i : Int) + 1) = i + 1 := IntWalk.u8_in _ (by omega)
      subst hCF
      have Kp : Kept [[0,1,5,9,10,11],[],[0,1,5,9,10],[0,1,5,7,9,10]] := ⟨⟩
      iterate 4 (refine Kp.s ?_; clear Kp; intro Kp; simp [go_sem, -getElem?_pos, -List.map_take, -List.map_drop, IntWalk.iteOmega, IntWalk.toNatUp, hlt2, he, Rd.fault])
      refine ICalls.then (c2) ?_
      try simp [go_sem, -getElem?_pos, -List.map_take, -List.map_drop, IntWalk.iteOmega, IntWalk.toNatUp, hlt2, he, Rd.fault]
      have Kp : Kept [[0,1,5,9,10,18],[],[0,1,5,9,10],[0,1,5,9,10]] := ⟨⟩
      iterate 4 (refine Kp.s ?_; clear Kp; intro Kp; simp [go_sem, -getElem?_pos, -List.map_take, -List.map_drop, IntWalk.iteOmega, IntWalk.toNatUp, hlt2, he, Rd.fault])
      refine ICalls.mono c3 ?_
      rintro v1 K1 ⟨rfl, hon, hk1⟩
      have hk2 : K1.get cb = some ⟨[ptrTo b 0], true⟩ := by rw [hon.same cb (Heap.lt_of_get k2) hne]; exact k2
      have hv1 : Bld 2 K1 H.next v (acc.map Stage.val) := hv.same fun j k hj hk => by rw [hon.same j (Heap.lt_of_get hk) (by omega)]; exact hk
      have hn1 : H.next ≤ K1.next := Nat.le_trans ho.next hon.next
      generalize (stageP st).1 = x at *
      obtain ⟨x1, x2⟩ := x
      obtain ⟨v', K3, e3, b3', s3, n3, f3, t3⟩ := app_one (P := Tryd.prog) (t := 47) (e := 57) (sz := 2) (by_ := 16) (z := .agg ⟨[.int .i64 0, .int .u8 0]⟩) (by kernel_rfl) (by kernel_rfl) (by kernel_rfl) (by kernel_rfl) rfl (Stage.val ⟨x1, x2⟩) [.int .i64 x1, .int .u8 x2] hv1 rfl rfl (by simp [one0, ints, frow]) hn1 (by simp; omega) (by simp; omega)
      simp [go_sem, e3, Stage.val, Stage.cells]
      refine IWp.one [0, 1, 5, 9, 10] ?_
      simp [go_sem, -getElem?_pos, -List.map_take, -List.map_drop, IntWalk.iteOmega, IntWalk.toNatUp, w1]
      exact ⟨N.toNat - (i + 1), by omega, i + 1, rfl, v', _, _, hstep, (s3 b l1).trans hk1, (s3 cb l2).trans hk2, ⟨fun j h1 h2 => (s3 j h1).trans ((ho.trans hon).same j h1 h2), Nat.le_trans hn1 n3⟩, by rw [List.map_append]; exact b3', rfl, by simp⟩
    · skip
      have Kp : Kept [[0,1,5,9,10,11],[],[0,1,5,9,10],[0,1,5,7,9,10]] := ⟨⟩
      iterate 4 (refine Kp.s ?_; clear Kp; intro Kp; simp [go_sem, -getElem?_pos, -List.map_take, -List.map_drop, IntWalk.iteOmega, IntWalk.toNatUp, hlt2, he, Rd.fault])
      refine ICalls.then (c2) ?_
      try simp [go_sem, -getElem?_pos, -List.map_take, -List.map_drop, IntWalk.iteOmega, IntWalk.toNatUp, hlt2, he, Rd.fault]
      have Kp : Kept [[0,1,5,9,10,18],[],[5],[4],[]] := ⟨⟩
      iterate 5 (refine Kp.s ?_; clear Kp; intro Kp; simp [go_sem, -getElem?_pos, -List.map_take, -List.map_drop, IntWalk.iteOmega, IntWalk.toNatUp, hlt2, he, Rd.fault])
      obtain ⟨q1, q2⟩ := hi.stop (.inl he)
      rw [q1, q2]
      exact ⟨fun j => decide (H.next ≤ j), _, hv.frzW (fun j h => by simpa using h), rfl, ho.only, by rw [On.getb l1]; exact k1⟩
  · skip
    have Kp : Kept [[0,1,5,9,10,11],[],[5],[4],[]] := ⟨⟩
    iterate 5 (refine Kp.s ?_; clear Kp; intro Kp; simp [go_sem, -getElem?_pos, -List.map_take, -List.map_drop, IntWalk.iteOmega, IntWalk.toNatUp, show ¬ (i : Int) < N by omega])
    obtain ⟨q1, q2⟩ := hi.stop (.inr hlt)
    rw [q1, q2]
    exact ⟨fun j => decide (H.next ≤ j), _, hv.frzW (fun j h => by simpa using h), rfl, ho.only, by rw [On.getb l1]; exact k1⟩
end Go.Proofs.YtoecebibhcadoaaDoor.I
namespace Go.Proofs.YtoecebibhcadoaaDoor.I
open Go Go.RowKit
set_option linter.unusedVariables false
set_option linter.unusedSimpArgs false
theorem walkS_as {P : Program} {n : Nat} {ops : Array Oper} {ks : List Nat} {H0 : Heap} {Q : Env → Heap → Prop} {e : Env} {H : Heap} {p : Plan} {tk : Tok (ops, Q)}
    (h : ∀ W : Plan → Env → Heap → Prop, (∀ p e H, W p e H = walkS P n ops ks H0 Q true p e H ⟨⟩) → W p e H) : walkS P n ops ks H0 Q true p e H tk :=
  h (fun p e H => walkS P n ops ks H0 Q true p e H ⟨⟩) fun _ _ _ => rfl
def ruleZ : List Value := [.int .u8 0, .int .i64 0, .int .i64 0, .int .i64 0, .int .i64 0, .int .i64 0, .int .u8 0, .bool false, .slice none 0 0]
set_option maxHeartbeats 4000000 in
theorem readRule (H : Heap) (b : Nat) (s : Rd) (hs : s.ok) (hb : H.get b = some ⟨s.cells, true⟩) :
    ICalls Tryd.prog 71 [ptrTo b 0] H fun v K => v = (ruleP s).1.val ∧ On b H K ∧ K.get b = some ⟨(ruleP s).2.cells, true⟩ := by
  obtain ⟨H2, hH2⟩ : ∃ H2, H2 = (H.alloc [ptrTo b 0]).alloc ruleZ := ⟨_, rfl⟩
  have l0 := Heap.lt_of_get hb
  have hn2 : H2.next = H.next + 1 + 1 := by rw [hH2]; rfl
  have gb : H2.get b = some ⟨s.cells, true⟩ := by rw [hH2, Heap.get_alloc_lt _ _ _ (by rw [next_alloc]; omega), Heap.get_alloc_lt _ _ _ l0]; exact hb
  have gc : H2.get H.next = some ⟨[ptrTo b 0], true⟩ := by rw [hH2, Heap.get_alloc_lt _ _ _ (by rw [next_alloc]; omega), Heap.get_alloc_new]
  have gr : H2.get (H.next + 1) = some ⟨ruleZ, true⟩ := by rw [hH2, get_alloc, next_alloc, if_pos rfl]
  have o2 : On b H H2 := by rw [hH2]; exact ((On.refl b H).alloc' _).alloc' _
  obtain ⟨s0, hs0⟩ : ∃ x, x = s := ⟨_, rfl⟩
  obtain ⟨v1, hv1⟩ : ∃ x, x = s0.byte.1 := ⟨_, rfl⟩
  obtain ⟨s1, hs1⟩ : ∃ x, x = s0.byte.2 := ⟨_, rfl⟩
  obtain ⟨v2, hv2⟩ : ∃ x, x = s1.byte.1 := ⟨_, rfl⟩
  obtain ⟨s2, hs2⟩ : ∃ x, x = s1.byte.2 := ⟨_, rfl⟩
  obtain ⟨v3, hv3⟩ : ∃ x, x = s2.int.1 := ⟨_, rfl⟩
  obtain ⟨s3, hs3⟩ : ∃ x, x = s2.int.2 := ⟨_, rfl⟩
  obtain ⟨v4, hv4⟩ : ∃ x, x = s3.int.1 := ⟨_, rfl⟩
  obtain ⟨s4, hs4⟩ : ∃ x, x = s3.int.2 := ⟨_, rfl⟩
  obtain ⟨v5, hv5⟩ : ∃ x, x = s4.int.1 := ⟨_, rfl⟩
  obtain ⟨s5, hs5⟩ : ∃ x, x = s4.int.2 := ⟨_, rfl⟩
  obtain ⟨v6, hv6⟩ : ∃ x, x = s5.int.1 := ⟨_, rfl⟩
  obtain ⟨s6, hs6⟩ : ∃ x, x = s5.int.2 := ⟨_, rfl⟩
  obtain ⟨v7, hv7⟩ : ∃ x, x = s6.byte.1 := ⟨_, rfl⟩
  obtain ⟨s7, hs7⟩ : ∃ x, x = s6.byte.2 := ⟨_, rfl⟩
  obtain ⟨v8, hv8⟩ : ∃ x, x = s7.flag.1 := ⟨_, rfl⟩
  obtain ⟨s8, hs8⟩ : ∃ x, x = s7.flag.2 := ⟨_, rfl⟩
  have k0 : s0.ok := by rw [hs0]; exact hs
  have k1 : s1.ok := by rw [hs1]; exact Rd.byte_ok k0
  have k2 : s2.ok := by rw [hs2]; exact Rd.byte_ok k1
  have k3 : s3.ok := by rw [hs3]; exact Rd.int_ok k2
  have k4 : s4.ok := by rw [hs4]; exact Rd.int_ok k3
  have k5 : s5.ok := by rw [hs5]; exact Rd.int_ok k4
  have k6 : s6.ok := by rw [hs6]; exact Rd.int_ok k5
  have k7 : s7.ok := by rw [hs7]; exact Rd.byte_ok k6
  have k8 : s8.ok := by rw [hs8]; exact Rd.flag_ok k7
  have hhd : headP s = (⟨v1, v2, v3, v4, v5, v6, v7, v8⟩, s8) := by
    subst hs0 hv1 hs1 hv2 hs2 hv3 hs3 hv4 hs4 hv5 hs5 hv6 hs6 hv7 hs7 hv8 hs8; rfl
  have w2 : IntKind.i64.wrap v2 = v2 := by
    have := Rd.byte_u8 s1 k1
    rw [← hv2] at this
    exact IntWalk.i64_in _ (by omega)
  have hru : ruleP s = (⟨v1, v2, v3, v4, v5, v6, v7, v8, (manyP stageP s8).1⟩, (manyP stageP s8).2) := by unfold ruleP; rw [hhd]
  rw [hru]
  rw [← hs0] at gb
  refine IBody.calls (by kernel_rfl) ?_
  refine IBody.of Tryd.func71 rfl (by rw [Tryd.ntmps71]; simp) ?_
  rw [Tryd.ntmps71]
  refine IWp.one [1, 2] ?_
  simp [go_sem, -getElem?_pos, -List.map_take, -List.map_drop, IntWalk.iteOmega, IntWalk.toNatUp]
  have hH2' := hH2
  simp only [ruleZ, ptrTo] at hH2'
  try rw [← hH2']
  generalize hcb : H.next = cb at *
  generalize hrb : cb + 1 = rb at *
  have hne : ¬ cb = b := by omega
  obtain ⟨Z, hZ⟩ : ∃ Z : Env → Heap → Prop, Z = fun e K => On b H2 K ∧ K.get b = some ⟨s8.cells, true⟩ ∧ K.get H2.next = some ⟨[.int .u8 v1, .int .i64 v2, .int .i64 v3, .int .i64 v4, .int .i64 v5, .int .i64 v6, .int .u8 v7, .bool v8, .slice none 0 0], true⟩ ∧ e = [(1, ptrTo cb 0), (2, ptrTo rb 0), (3, ptrTo H2.next 0)] := ⟨_, rfl⟩
  refine IWp.cut Z ?_ ?_
  · obtain ⟨q8, hq8⟩ : ∃ p : Plan, p = .val 17 (.eff 19 .done .done) := ⟨_, rfl⟩
    obtain ⟨p8, hp8⟩ : ∃ p : Plan, p = .val 17 (.eff 18 (.eff 19 .done .done) .done) := ⟨_, rfl⟩
    obtain ⟨q7, hq7⟩ : ∃ p : Plan, p = .eff 16 q8 .done := ⟨_, rfl⟩
    obtain ⟨p7, hp7⟩ : ∃ p : Plan, p = .eff 16 p8 (.eff 18 q7 .done) := ⟨_, rfl⟩
    obtain ⟨q6, hq6⟩ : ∃ p : Plan, p = .eff 14 q7 .done := ⟨_, rfl⟩
    obtain ⟨p6, hp6⟩ : ∃ p : Plan, p = .eff 14 p7 (.eff 18 q6 .done) := ⟨_, rfl⟩
    obtain ⟨q5, hq5⟩ : ∃ p : Plan, p = .eff 12 q6 .done := ⟨_, rfl⟩
    obtain ⟨p5, hp5⟩ : ∃ p : Plan, p = .eff 12 p6 (.eff 18 q5 .done) := ⟨_, rfl⟩
    obtain ⟨q4, hq4⟩ : ∃ p : Plan, p = .eff 10 q5 .done := ⟨_, rfl⟩
    obtain ⟨p4, hp4⟩ : ∃ p : Plan, p = .eff 10 p5 (.eff 18 q4 .done) := ⟨_, rfl⟩
    obtain ⟨q3, hq3⟩ : ∃ p : Plan, p = .eff 8 q4 .done := ⟨_, rfl⟩
    obtain ⟨p3, hp3⟩ : ∃ p : Plan, p = .eff 8 p4 (.eff 18 q3 .done) := ⟨_, rfl⟩
    obtain ⟨q2, hq2⟩ : ∃ p : Plan, p = .eff 6 q3 .done := ⟨_, rfl⟩
    obtain ⟨p2, hp2⟩ : ∃ p : Plan, p = .eff 6 p3 (.eff 18 q2 .done) := ⟨_, rfl⟩
    obtain ⟨q1, hq1⟩ : ∃ p : Plan, p = .eff 3 (.val 4 q2) .done := ⟨_, rfl⟩
    obtain ⟨p1, hp1⟩ : ∃ p : Plan, p = .eff 3 (.val 4 p2) (.eff 18 q1 .done) := ⟨_, rfl⟩
    obtain ⟨q0, hq0⟩ : ∃ p : Plan, p = .eff 1 q1 .done := ⟨_, rfl⟩
    obtain ⟨p0, hp0⟩ : ∃ p : Plan, p = .eff 1 p1 (.eff 18 q0 .done) := ⟨_, rfl⟩
    refine IWp.draw [1, 2, 3] [cb] (.val 0 (.val 2 (.val 5 (.val 7 (.val 9 (.val 11 (.val 13 (.val 15 p0)))))))) follows (by subst hp0 hq0 hp1 hq1 hp2 hq2 hp3 hq3 hp4 hq4 hp5 hq5 hp6 hq6 hp7 hq7 hp8 hq8; kernel_rfl) ?_
    refine walkS_as fun W hW => ?_
    have m8 : ∀ K, On b H2 K → K.get b = some ⟨s8.cells, true⟩ → K.get H2.next = some ⟨ruleZ, true⟩ → K.next = H2.next + 1 → W q8 [(1, ptrTo cb 0), (2, ptrTo rb 0), (3, ptrTo H2.next 0), (4, ptrTo b 0), (5, .int .u8 v1), (6, ptrTo b 0), (7, .int .u8 v2), (8, .int .i64 v2), (9, ptrTo b 0), (10, .int .i64 v3), (11, ptrTo b 0), (12, .int .i64 v4), (13, ptrTo b 0), (14, .int .i64 v5), (15, ptrTo b 0), (16, .int .i64 v6), (17, ptrTo b 0), (18, .int .u8 v7), (19, ptrTo b 0), (20, .bool v8)] K := fun K h1 h2 h3 h4 => by
      have hc : K.get cb = H2.get cb := h1.same cb (by omega) hne
      rw [hW, hq8]
      simp only [ruleZ] at h3
      simp [go_sem, h3, hc, show ¬ cb = H2.next by omega]
      rw [hZ]
      refine ⟨h1.setN (Nat.le_refl _) _, by rw [get_set, if_neg (by omega)]; exact h2, ?_, rfl⟩
      rw [get_set, if_pos rfl, h3]; rfl
    have n8 : ∀ K, On b H2 K → K.get b = some ⟨s8.cells, true⟩ → K.next = H2.next → W p8 [(1, ptrTo cb 0), (2, ptrTo rb 0), (4, ptrTo b 0), (5, .int .u8 v1), (6, ptrTo b 0), (7, .int .u8 v2), (8, .int .i64 v2), (9, ptrTo b 0), (10, .int .i64 v3), (11, ptrTo b 0), (12, .int .i64 v4), (13, ptrTo b 0), (14, .int .i64 v5), (15, ptrTo b 0), (16, .int .i64 v6), (17, ptrTo b 0), (18, .int .u8 v7), (19, ptrTo b 0), (20, .bool v8)] K := fun K h1 h2 h4 => by
      have hc : K.get cb = H2.get cb := h1.same cb (by omega) hne
      rw [hW, hp8]
      simp [go_sem, h4, hc, get_alloc, show ¬ cb = H2.next by omega]
      rw [hZ]
      exact ⟨h1.alloc' _, by rw [get_alloc, if_neg (by omega)]; exact h2, by rw [get_alloc, h4, if_pos rfl], rfl⟩
    have m7 : ∀ K, On b H2 K → K.get b = some ⟨s7.cells, true⟩ → K.get H2.next = some ⟨ruleZ, true⟩ → K.next = H2.next + 1 → W q7 [(1, ptrTo cb 0), (2, ptrTo rb 0), (3, ptrTo H2.next 0), (4, ptrTo b 0), (5, .int .u8 v1), (6, ptrTo b 0), (7, .int .u8 v2), (8, .int .i64 v2), (9, ptrTo b 0), (10, .int .i64 v3), (11, ptrTo b 0), (12, .int .i64 v4), (13, ptrTo b 0), (14, .int .i64 v5), (15, ptrTo b 0), (16, .int .i64 v6), (17, ptrTo b 0), (18, .int .u8 v7), (19, ptrTo b 0)] K := fun K h1 h2 h3 h4 => by
      have hc : K.get cb = H2.get cb := h1.same cb (by omega) hne
      have c1 := rFlag K b s7 k7 h2
      rw [hW, hq7]
      simp [go_sem]
      refine ICalls.mono c1 ?_
      rintro v _ ⟨rfl, rfl⟩
      simp [go_sem, hc, get_set, hne, ← hv8]
      exact (hW _ _ _).mp (m8 _ (h1.set' _) (by rw [get_set, if_pos rfl, h2, hs8]; rfl) (by rw [get_set, if_neg (by omega)]; exact h3) h4)
    have n7 : ∀ K, On b H2 K → K.get b = some ⟨s7.cells, true⟩ → K.next = H2.next → W p7 [(1, ptrTo cb 0), (2, ptrTo rb 0), (4, ptrTo b 0), (5, .int .u8 v1), (6, ptrTo b 0), (7, .int .u8 v2), (8, .int .i64 v2), (9, ptrTo b 0), (10, .int .i64 v3), (11, ptrTo b 0), (12, .int .i64 v4), (13, ptrTo b 0), (14, .int .i64 v5), (15, ptrTo b 0), (16, .int .i64 v6), (17, ptrTo b 0), (18, .int .u8 v7), (19, ptrTo b 0)] K := fun K h1 h2 h4 => by
      have hc : K.get cb = H2.get cb := h1.same cb (by omega) hne
      have c1 := rFlag K b s7 k7 h2
      rw [hW, hp7]
      simp [go_sem]
      refine ⟨?_, ?_⟩
      · refine ICalls.mono c1 ?_
        rintro v _ ⟨rfl, rfl⟩
        simp [go_sem, hc, get_set, hne, ← hv8]
        exact (hW _ _ _).mp (n8 _ (h1.set' _) (by rw [get_set, if_pos rfl, h2, hs8]; rfl) h4)
      · simp [go_sem, hc, h4, get_alloc, show ¬ cb = H2.next by omega]
        exact (hW _ _ _).mp (m7 _ (h1.alloc' _) (by rw [get_alloc, if_neg (by omega)]; exact h2) (by rw [get_alloc, h4, if_pos rfl]; rfl) (by rw [next_alloc, h4]))
    have m6 : ∀ K, On b H2 K → K.get b = some ⟨s6.cells, true⟩ → K.get H2.next = some ⟨ruleZ, true⟩ → K.next = H2.next + 1 → W q6 [(1, ptrTo cb 0), (2, ptrTo rb 0), (3, ptrTo H2.next 0), (4, ptrTo b 0), (5, .int .u8 v1), (6, ptrTo b 0), (7, .int .u8 v2), (8, .int .i64 v2), (9, ptrTo b 0), (10, .int .i64 v3), (11, ptrTo b 0), (12, .int .i64 v4), (13, ptrTo b 0), (14, .int .i64 v5), (15, ptrTo b 0), (16, .int .i64 v6), (17, ptrTo b 0), (19, ptrTo b 0)] K := fun K h1 h2 h3 h4 => by
      have hc : K.get cb = H2.get cb := h1.same cb (by omega) hne
      have c1 := rByte K b s6 k6 h2
      rw [hW, hq6]
      simp [go_sem]
      refine ICalls.mono c1 ?_
      rintro v _ ⟨rfl, rfl⟩
      simp [go_sem, hc, get_set, hne, ← hv7]
      exact (hW _ _ _).mp (m7 _ (h1.set' _) (by rw [get_set, if_pos rfl, h2, hs7]; rfl) (by rw [get_set, if_neg (by omega)]; exact h3) h4)
    have n6 : ∀ K, On b H2 K → K.get b = some ⟨s6.cells, true⟩ → K.next = H2.next → W p6 [(1, ptrTo cb 0), (2, ptrTo rb 0), (4, ptrTo b 0), (5, .int .u8 v1), (6, ptrTo b 0), (7, .int .u8 v2), (8, .int .i64 v2), (9, ptrTo b 0), (10, .int .i64 v3), (11, ptrTo b 0), (12, .int .i64 v4), (13, ptrTo b 0), (14, .int .i64 v5), (15, ptrTo b 0), (16, .int .i64 v6), (17, ptrTo b 0), (19, ptrTo b 0)] K := fun K h1 h2 h4 => by
      have hc : K.get cb = H2.get cb := h1.same cb (by omega) hne
      have c1 := rByte K b s6 k6 h2
      rw [hW, hp6]
      simp [go_sem]
      refine ⟨?_, ?_⟩
      · refine ICalls.mono c1 ?_
        rintro v _ ⟨rfl, rfl⟩
        simp [go_sem, hc, get_set, hne, ← hv7]
        exact (hW _ _ _).mp (n7 _ (h1.set' _) (by rw [get_set, if_pos rfl, h2, hs7]; rfl) h4)
      · simp [go_sem, hc, h4, get_alloc, show ¬ cb = H2.next by omega]
        exact (hW _ _ _).mp (m6 _ (h1.alloc' _) (by rw [get_alloc, if_neg (by omega)]; exact h2) (by rw [get_alloc, h4, if_pos rfl]; rfl) (by rw [next_alloc, h4]))
    have m5 : ∀ K, On b H2 K → K.get b = some ⟨s5.cells, true⟩ → K.get H2.next = some ⟨ruleZ, true⟩ → K.next = H2.next + 1 → W q5 [(1, ptrTo cb 0), (2, ptrTo rb 0), (3, ptrTo H2.next 0), (4, ptrTo b 0), (5, .int .u8 v1), (6, ptrTo b 0), (7, .int .u8 v2), (8, .int .i64 v2), (9, ptrTo b 0), (10, .int .i64 v3), (11, ptrTo b 0), (12, .int .i64 v4), (13, ptrTo b 0), (14, .int .i64 v5), (15, ptrTo b 0), (17, ptrTo b 0), (19, ptrTo b 0)] K := fun K h1 h2 h3 h4 => by
      have hc : K.get cb = H2.get cb := h1.same cb (by omega) hne
      have c1 := rInt K b s5 k5 h2
      rw [hW, hq5]
      simp [go_sem]
      refine ICalls.mono c1 ?_
      rintro v _ ⟨rfl, rfl⟩
      simp [go_sem, hc, get_set, hne, ← hv6]
      exact (hW _ _ _).mp (m6 _ (h1.set' _) (by rw [get_set, if_pos rfl, h2, hs6]; rfl) (by rw [get_set, if_neg (by omega)]; exact h3) h4)
    have n5 : ∀ K, On b H2 K → K.get b = some ⟨s5.cells, true⟩ → K.next = H2.next → W p5 [(1, ptrTo cb 0), (2, ptrTo rb 0), (4, ptrTo b 0), (5, .int .u8 v1), (6, ptrTo b 0), (7, .int .u8 v2), (8, .int .i64 v2), (9, ptrTo b 0), (10, .int .i64 v3), (11, ptrTo b 0), (12, .int .i64 v4), (13, ptrTo b 0), (14, .int .i64 v5), (15, ptrTo b 0), (17, ptrTo b 0), (19, ptrTo b 0)] K := fun K h1 h2 h4 => by
      have hc : K.get cb = H2.get cb := h1.same cb (by omega) hne
      have c1 := rInt K b s5 k5 h2
      rw [hW, hp5]
      simp [go_sem]
      refine ⟨?_, ?_⟩
      · refine ICalls.mono c1 ?_
        rintro v _ ⟨rfl, rfl⟩
        simp [go_sem, hc, get_set, hne, ← hv6]
        exact (hW _ _ _).mp (n6 _ (h1.set' _) (by rw [get_set, if_pos rfl, h2, hs6]; rfl) h4)
      · simp [go_sem, hc, h4, get_alloc, show ¬ cb = H2.next by omega]
        exact (hW _ _ _).mp (m5 _ (h1.alloc' _) (by rw [get_alloc, if_neg (by omega)]; exact h2) (by rw [get_alloc, h4, if_pos rfl]; rfl) (by rw [next_alloc, h4]))
    have m4 : ∀ K, On b H2 K → K.get b = some ⟨s4.cells, true⟩ → K.get H2.next = some ⟨ruleZ, true⟩ → K.next = H2.next + 1 → W q4 [(1, ptrTo cb 0), (2, ptrTo rb 0), (3, ptrTo H2.next 0), (4, ptrTo b 0), (5, .int .u8 v1), (6, ptrTo b 0), (7, .int .u8 v2), (8, .int .i64 v2), (9, ptrTo b 0), (10, .int .i64 v3), (11, ptrTo b 0), (12, .int .i64 v4), (13, ptrTo b 0), (15, ptrTo b 0), (17, ptrTo b 0), (19, ptrTo b 0)] K := fun K h1 h2 h3 h4 => by
      have hc : K.get cb = H2.get cb := h1.same cb (by omega) hne
      have c1 := rInt K b s4 k4 h2
      rw [hW, hq4]
      simp [go_sem]
      refine ICalls.mono c1 ?_
      rintro v _ ⟨rfl, rfl⟩
      simp [go_sem, hc, get_set, hne, ← hv5]
      exact (hW _ _ _).mp (m5 _ (h1.set' _) (by rw [get_set, if_pos rfl, h2, hs5]; rfl) (by rw [get_set, if_neg (by omega)]; exact h3) h4)
    have n4 : ∀ K, On b H2 K → K.get b = some ⟨s4.cells, true⟩ → K.next = H2.next → W p4 [(1, ptrTo cb 0), (2, ptrTo rb 0), (4, ptrTo b 0), (5, .int .u8 v1), (6, ptrTo b 0), (7, .int .u8 v2), (8, .int .i64 v2), (9, ptrTo b 0), (10, .int .i64 v3), (11, ptrTo b 0), (12, .int .i64 v4), (13, ptrTo b 0), (15, ptrTo b 0), (17, ptrTo b 0), (19, ptrTo b 0)] K := fun K h1 h2 h4 => by
      have hc : K.get cb = H2.get cb := h1.same cb (by omega) hne
      have c1 := rInt K b s4 k4 h2
      rw [hW, hp4]
      simp [go_sem]
      refine ⟨?_, ?_⟩
      · refine ICalls.mono c1 ?_
        rintro v _ ⟨rfl, rfl⟩
        simp [go_sem, hc, get_set, hne, ← hv5]
        exact (hW _ _ _).mp (n5 _ (h1.set' _) (by rw [get_set, if_pos rfl, h2, hs5]; rfl) h4)
      · simp [go_sem, hc, h4, get_alloc, show ¬ cb = H2.next by omega]
        exact (hW _ _ _).mp (m4 _ (h1.alloc' _) (by rw [get_alloc, if_neg (by omega)]; exact h2) (by rw [get_alloc, h4, if_pos rfl]; rfl) (by rw [next_alloc, h4]))
    have m3 : ∀ K, On b H2 K → K.get b = some ⟨s3.cells, true⟩ → K.get H2.next = some ⟨ruleZ, true⟩ → K.next = H2.next + 1 → W q3 [(1, ptrTo cb 0), (2, ptrTo rb 0), (3, ptrTo H2.next 0), (4, ptrTo b 0), (5, .int .u8 v1), (6, ptrTo b 0), (7, .int .u8 v2), (8, .int .i64 v2), (9, ptrTo b 0), (10, .int .i64 v3), (11, ptrTo b 0), (13, ptrTo b 0), (15, ptrTo b 0), (17, ptrTo b 0), (19, ptrTo b 0)] K := fun K h1 h2 h3 h4 => by
      have hc : K.get cb = H2.get cb := h1.same cb (by omega) hne
      have c1 := rInt K b s3 k3 h2
      rw [hW, hq3]
      simp [go_sem]
      refine ICalls.mono c1 ?_
      rintro v _ ⟨rfl, rfl⟩
      simp [go_sem, hc, get_set, hne, ← hv4]
      exact (hW _ _ _).mp (m4 _ (h1.set' _) (by rw [get_set, if_pos rfl, h2, hs4]; rfl) (by rw [get_set, if_neg (by omega)]; exact h3) h4)
    have n3 : ∀ K, On b H2 K → K.get b = some ⟨s3.cells, true⟩ → K.next = H2.next → W p3 [(1, ptrTo cb 0), (2, ptrTo rb 0), (4, ptrTo b 0), (5, .int .u8 v1), (6, ptrTo b 0), (7, .int .u8 v2), (8, .int .i64 v2), (9, ptrTo b 0), (10, .int .i64 v3), (11, ptrTo b 0), (13, ptrTo b 0), (15, ptrTo b 0), (17, ptrTo b 0), (19, ptrTo b 0)] K := fun K h1 h2 h4 => by
      have hc : K.get cb = H2.get cb := h1.same cb (by omega) hne
      have c1 := rInt K b s3 k3 h2
      rw [hW, hp3]
      simp [go_sem]
      refine ⟨?_, ?_⟩
      · refine ICalls.mono c1 ?_
        rintro v _ ⟨rfl, rfl⟩
        simp [go_sem, hc, get_set, hne, ← hv4]
        exact (hW _ _ _).mp (n4 _ (h1.set' _) (by rw [get_set, if_pos rfl, h2, hs4]; rfl) h4)
      · simp [go_sem, hc, h4, get_alloc, show ¬ cb = H2.next by omega]
        exact (hW _ _ _).mp (m3 _ (h1.alloc' _) (by rw [get_alloc, if_neg (by omega)]; exact h2) (by rw [get_alloc, h4, if_pos rfl]; rfl) (by rw [next_alloc, h4]))
    have m2 : ∀ K, On b H2 K → K.get b = some ⟨s2.cells, true⟩ → K.get H2.next = some ⟨ruleZ, true⟩ → K.next = H2.next + 1 → W q2 [(1, ptrTo cb 0), (2, ptrTo rb 0), (3, ptrTo H2.next 0), (4, ptrTo b 0), (5, .int .u8 v1), (6, ptrTo b 0), (7, .int .u8 v2), (8, .int .i64 v2), (9, ptrTo b 0), (11, ptrTo b 0), (13, ptrTo b 0), (15, ptrTo b 0), (17, ptrTo b 0), (19, ptrTo b 0)] K := fun K h1 h2 h3 h4 => by
      have hc : K.get cb = H2.get cb := h1.same cb (by omega) hne
      have c1 := rInt K b s2 k2 h2
      rw [hW, hq2]
      simp [go_sem]
      refine ICalls.mono c1 ?_
      rintro v _ ⟨rfl, rfl⟩
      simp [go_sem, hc, get_set, hne, ← hv3]
      exact (hW _ _ _).mp (m3 _ (h1.set' _) (by rw [get_set, if_pos rfl, h2, hs3]; rfl) (by rw [get_set, if_neg (by omega)]; exact h3) h4)
    have n2 : ∀ K, On b H2 K → K.get b = some ⟨s2.cells, true⟩ → K.next = H2.next → W p2 [(1, ptrTo cb 0), (2, ptrTo rb 0), (4, ptrTo b 0), (5, .int .u8 v1), (6, ptrTo b 0), (7, .int .u8 v2), (8, .int .i64 v2), (9, ptrTo b 0), (11, ptrTo b 0), (13, ptrTo b 0), (15, ptrTo b 0), (17, ptrTo b 0), (19, ptrTo b 0)] K := fun K h1 h2 h4 => by
      have hc : K.get cb = H2.get cb := h1.same cb (by omega) hne
      have c1 := rInt K b s2 k2 h2
      rw [hW, hp2]
      simp [go_sem]
      refine ⟨?_, ?_⟩
      · refine ICalls.mono c1 ?_
        rintro v _ ⟨rfl, rfl⟩
        simp [go_sem, hc, get_set, hne, ← hv3]
        exact (hW _ _ _).mp (n3 _ (h1.set' _) (by rw [get_set, if_pos rfl, h2, hs3]; rfl) h4)
      · simp [go_sem, hc, h4, get_alloc, show ¬ cb = H2.next by omega]
        exact (hW _ _ _).mp (m2 _ (h1.alloc' _) (by rw [get_alloc, if_neg (by omega)]; exact h2) (by rw [get_alloc, h4, if_pos rfl]; rfl) (by rw [next_alloc, h4]))
    have m1 : ∀ K, On b H2 K → K.get b = some ⟨s1.cells, true⟩ → K.get H2.next = some ⟨ruleZ, true⟩ → K.next = H2.next + 1 → W q1 [(1, ptrTo cb 0), (2, ptrTo rb 0), (3, ptrTo H2.next 0), (4, ptrTo b 0), (5, .int .u8 v1), (6, ptrTo b 0), (9, ptrTo b 0), (11, ptrTo b 0), (13, ptrTo b 0), (15, ptrTo b 0), (17, ptrTo b 0), (19, ptrTo b 0)] K := fun K h1 h2 h3 h4 => by
      have hc : K.get cb = H2.get cb := h1.same cb (by omega) hne
      have c1 := rByte K b s1 k1 h2
      rw [hW, hq1]
      simp [go_sem]
      refine ICalls.mono c1 ?_
      rintro v _ ⟨rfl, rfl⟩
      simp [go_sem, hc, get_set, hne, ← hv2, w2]
      exact (hW _ _ _).mp (m2 _ (h1.set' _) (by rw [get_set, if_pos rfl, h2, hs2]; rfl) (by rw [get_set, if_neg (by omega)]; exact h3) h4)
    have n1 : ∀ K, On b H2 K → K.get b = some ⟨s1.cells, true⟩ → K.next = H2.next → W p1 [(1, ptrTo cb 0), (2, ptrTo rb 0), (4, ptrTo b 0), (5, .int .u8 v1), (6, ptrTo b 0), (9, ptrTo b 0), (11, ptrTo b 0), (13, ptrTo b 0), (15, ptrTo b 0), (17, ptrTo b 0), (19, ptrTo b 0)] K := fun K h1 h2 h4 => by
      have hc : K.get cb = H2.get cb := h1.same cb (by omega) hne
      have c1 := rByte K b s1 k1 h2
      rw [hW, hp1]
      simp [go_sem]
      refine ⟨?_, ?_⟩
      · refine ICalls.mono c1 ?_
        rintro v _ ⟨rfl, rfl⟩
        simp [go_sem, hc, get_set, hne, ← hv2, w2]
        exact (hW _ _ _).mp (n2 _ (h1.set' _) (by rw [get_set, if_pos rfl, h2, hs2]; rfl) h4)
      · simp [go_sem, hc, h4, get_alloc, show ¬ cb = H2.next by omega]
        exact (hW _ _ _).mp (m1 _ (h1.alloc' _) (by rw [get_alloc, if_neg (by omega)]; exact h2) (by rw [get_alloc, h4, if_pos rfl]; rfl) (by rw [next_alloc, h4]))
    have m0 : ∀ K, On b H2 K → K.get b = some ⟨s0.cells, true⟩ → K.get H2.next = some ⟨ruleZ, true⟩ → K.next = H2.next + 1 → W q0 [(1, ptrTo cb 0), (2, ptrTo rb 0), (3, ptrTo H2.next 0), (4, ptrTo b 0), (6, ptrTo b 0), (9, ptrTo b 0), (11, ptrTo b 0), (13, ptrTo b 0), (15, ptrTo b 0), (17, ptrTo b 0), (19, ptrTo b 0)] K := fun K h1 h2 h3 h4 => by
      have hc : K.get cb = H2.get cb := h1.same cb (by omega) hne
      have c1 := rByte K b s0 k0 h2
      rw [hW, hq0]
      simp [go_sem]
      refine ICalls.mono c1 ?_
      rintro v _ ⟨rfl, rfl⟩
      simp [go_sem, hc, get_set, hne, ← hv1]
      exact (hW _ _ _).mp (m1 _ (h1.set' _) (by rw [get_set, if_pos rfl, h2, hs1]; rfl) (by rw [get_set, if_neg (by omega)]; exact h3) h4)
    have n0 : ∀ K, On b H2 K → K.get b = some ⟨s0.cells, true⟩ → K.next = H2.next → W p0 [(1, ptrTo cb 0), (2, ptrTo rb 0), (4, ptrTo b 0), (6, ptrTo b 0), (9, ptrTo b 0), (11, ptrTo b 0), (13, ptrTo b 0), (15, ptrTo b 0), (17, ptrTo b 0), (19, ptrTo b 0)] K := fun K h1 h2 h4 => by
      have hc : K.get cb = H2.get cb := h1.same cb (by omega) hne
      have c1 := rByte K b s0 k0 h2
      rw [hW, hp0]
      simp [go_sem]
      refine ⟨?_, ?_⟩
      · refine ICalls.mono c1 ?_
        rintro v _ ⟨rfl, rfl⟩
        simp [go_sem, hc, get_set, hne, ← hv1]
        exact (hW _ _ _).mp (n1 _ (h1.set' _) (by rw [get_set, if_pos rfl, h2, hs1]; rfl) h4)
      · simp [go_sem, hc, h4, get_alloc, show ¬ cb = H2.next by omega]
        exact (hW _ _ _).mp (m0 _ (h1.alloc' _) (by rw [get_alloc, if_neg (by omega)]; exact h2) (by rw [get_alloc, h4, if_pos rfl]; rfl) (by rw [next_alloc, h4]))
    rw [hW]
    simp [go_sem, gc]
    exact (hW _ _ _).mp (n0 H2 (On.refl _ _) gb rfl)
  rintro e K hK
  rw [hZ] at hK
  obtain ⟨h1, h2, h3, rfl⟩ := hK
  have hc : K.get cb = some ⟨[ptrTo b 0], true⟩ := (h1.same cb (by omega) hne).trans gc
  have hr : K.get rb = some ⟨ruleZ, true⟩ := (h1.same rb (by omega) (by omega)).trans gr
  have c9 := listStage K b cb s8 k8 h2 hc
  refine IWp.one [2, 3] ?_
  simp [go_sem, -getElem?_pos, -List.map_take, -List.map_drop, IntWalk.iteOmega, IntWalk.toNatUp, hc, h3]
  refine ICalls.mono (c9) ?_
  rintro v K1 ⟨rfl, g1, g2⟩
  have h3' := (g1.same H2.next (Heap.lt_of_get h3) (by omega)).trans h3; have hr' := (g1.same rb (Heap.lt_of_get hr) (by omega)).trans hr
  try simp [go_sem, -getElem?_pos, -List.map_take, -List.map_drop, IntWalk.iteOmega, IntWalk.toNatUp, hc, h3, h3', hr', ruleZ, get_set, show ¬ rb = H2.next by omega]
  have Kp : Kept [[2],[]] := ⟨⟩
  iterate 2 (refine Kp.s ?_; clear Kp; intro Kp; simp [go_sem, -getElem?_pos, -List.map_take, -List.map_drop, IntWalk.iteOmega, IntWalk.toNatUp, hc, h3, h3', hr', ruleZ, get_set, show ¬ rb = H2.next by omega])
  exact ⟨rfl, (((o2.trans h1).trans g1).setN (by omega) _).setN (by omega) _, g2⟩
theorem oneRule (K : Heap) (b cb : Nat) (t : Rd) (ht : t.ok) (hb : K.get b = some ⟨t.cells, true⟩) (hcb : K.get cb = some ⟨[ptrTo b 0], true⟩) : ICalls Tryd.prog 70 [ptrTo cb 0] K fun v K' => v = (ruleP t).1.val ∧ On b K K' ∧ K'.get b = some ⟨(ruleP t).2.cells, true⟩ := by
  have l1 := Heap.lt_of_get hb
  have l2 := Heap.lt_of_get hcb
  have c1 := readRule (K.alloc ruleZ) b t ht (by rw [Heap.get_alloc_lt _ _ _ l1]; exact hb)
  have hz : (K.alloc ruleZ).get K.next = some ⟨ruleZ, true⟩ := Heap.get_alloc_new _ _
  have on := On.alloc b K ruleZ
  have hn : (K.alloc ruleZ).next = K.next + 1 := rfl
  refine IBody.calls (by kernel_rfl) ?_
  refine IBody.of Tryd.func70 rfl (by rw [Tryd.ntmps70]; simp) ?_
  rw [Tryd.ntmps70]
  refine IWp.one [0, 1] ?_
  simp [go_sem, -getElem?_pos, -List.map_take, -List.map_drop, IntWalk.iteOmega, IntWalk.toNatUp]
  refine IWp.seq ?_
  have e : K.alloc [.int .u8 0, .int .i64 0, .int .i64 0, .int .i64 0, .int .i64 0, .int .i64 0, .int .u8 0, .bool false, .slice none 0 0] = K.alloc ruleZ := rfl
  try rw [e]
  have hcb2 : (K.alloc ruleZ).get cb = some ⟨[ptrTo b 0], true⟩ := by rw [Heap.get_alloc_lt _ _ _ l2]; exact hcb
  generalize K.alloc ruleZ = K0 at *
  refine IWp.one [1] ?_
  simp [go_sem, -getElem?_pos, -List.map_take, -List.map_drop, IntWalk.iteOmega, IntWalk.toNatUp, hcb2]
  refine ICalls.mono (c1) ?_
  rintro v K1 ⟨rfl, g1, g2⟩
  have hz' := (g1.same K.next (by omega) (by omega)).trans hz
  try simp [go_sem, -getElem?_pos, -List.map_take, -List.map_drop, IntWalk.iteOmega, IntWalk.toNatUp, hcb2, hz', Rule.val, Rule.cells, ruleZ]
  refine IWp.one [] ?_
  simp [go_sem, -getElem?_pos, -List.map_take, -List.map_drop, IntWalk.iteOmega, IntWalk.toNatUp, hcb2, hz', Rule.val, Rule.cells, ruleZ]
  exact ⟨(on.trans g1).setN (Nat.le_refl _) _, g2⟩
set_option maxHeartbeats 4000000 in
theorem listRule (H : Heap) (b cb : Nat) (t : Rd) (ht : t.ok) (hb : H.get b = some ⟨t.cells, true⟩) (hcb : H.get cb = some ⟨[ptrTo b 0], true⟩) :
    ICalls Tryd.prog 69 [ptrTo b 0, .func (.func 70) #[] #[ptrTo cb 0]] H fun v K => v = frow 9 0 ((manyP ruleP t).1.map Rule.val) ∧ On b H K ∧ K.get b = some ⟨(manyP ruleP t).2.cells, true⟩ := by
  refine ICalls.frozen ?_
  have hne := box_ne H b cb t ht hb hcb
  have l1 := Heap.lt_of_get hb
  have l2 := Heap.lt_of_get hcb
  have c1 := rByte H b t ht hb
  have hN := Rd.byte_u8 t ht
  have g1 : (H.set b t.byte.2.cells).get b = some ⟨t.byte.2.cells, true⟩ := by rw [get_set, if_pos rfl, hb]; rfl
  have g2 : (H.set b t.byte.2.cells).get cb = some ⟨[ptrTo b 0], true⟩ := by rw [get_set, if_neg hne]; exact hcb
  have o1 := On.set b H t.byte.2.cells
  have hi0 := Inv.start ruleP t ht
  refine IBody.calls (by kernel_rfl) ?_
  refine IBody.of Tryd.func69 rfl (by rw [Tryd.ntmps69]; simp) ?_
  rw [Tryd.ntmps69]
  have Kp : Kept [[0,1],[0,1,5],[0,1,5,9,10]] := ⟨⟩
  iterate 3 (refine Kp.s ?_; clear Kp; intro Kp; simp [go_sem, -getElem?_pos, -List.map_take, -List.map_drop, IntWalk.iteOmega, IntWalk.toNatUp])
  refine ICalls.mono (c1) ?_
  rintro v _ ⟨rfl, rfl⟩
  try simp [go_sem, -getElem?_pos, -List.map_take, -List.map_drop, IntWalk.iteOmega, IntWalk.toNatUp]
  refine IWp.block ?_
  generalize H.set b t.byte.2.cells = H1 at *
  obtain ⟨N, hNe⟩ : ∃ N, N = t.byte.1 := ⟨_, rfl⟩
  rw [← hNe] at hN hi0 ⊢
  obtain ⟨CF, hCF⟩ : ∃ CF : Value, CF = .func (.func 70) #[] #[ptrTo cb 0] := ⟨_, rfl⟩
  try rw [← hCF]
  refine IWp.loop (fun j e K => ∃ (i : Nat) (v : Value) (acc : List (Rule)) (st : Rd), j = N.toNat - i ∧ Inv ruleP t N.toNat i acc st ∧ K.get b = some ⟨st.cells, true⟩ ∧ K.get cb = some ⟨[ptrTo b 0], true⟩ ∧ On b H K ∧ Bld 9 K H.next v (acc.map Rule.val) ∧ e = [(0, ptrTo b 0), (1, CF), (5, v), (9, .int .u8 N), (10, .int .u8 (i : Int))]) N.toNat ⟨0, _, [], _, rfl, hi0, g1, g2, o1, Bld.nil _ _ _, by rw [hCF]; simp [go_sem]⟩ ?_
  clear g1 g2 o1 hi0 c1
  rintro j e K ⟨i, v, acc, st, rfl, hi, k1, k2, ho, hv, rfl⟩
  obtain ⟨hi1, hso, hil, hin⟩ := hi.parts
  by_cases hlt : i < N.toNat
  · have hlt2 : (i : Int) < N := by omega
    have c2 := rFault K b st k1
    by_cases he : st.e = 0
    · have hstep := hi.step ruleP_ok hlt he
      have c3 := oneRule K b cb st hso k1 k2
      have w1 : IntKind.u8.wrap ((i : Int) + 1) = i + 1 := IntWalk.u8_in _ (by omega)
      subst hCF
      have Kp : Kept [[0,1,5,9,10,11],[],[0,1,5,9,10],[0,1,5,7,9,10]] := ⟨⟩
      iterate 4 (refine Kp.s ?_; clear Kp; intro Kp; simp [go_sem, -getElem?_pos, -List.map_take, -List.map_drop, IntWalk.iteOmega, IntWalk.toNatUp, hlt2, he, Rd.fault])
      refine ICalls.then (c2) ?_
      try simp [go_sem, -getElem?_pos, -List.map_take, -List.map_drop, IntWalk.iteOmega, IntWalk.toNatUp, hlt2, he, Rd.fault]
      have Kp : Kept [[0,1,5,9,10,18],[],[0,1,5,9,10],[0,1,5,9,10]] := ⟨⟩
      iterate 4 (refine Kp.s ?_; clear Kp; intro Kp; simp [go_sem, -getElem?_pos, -List.map_take, -List.map_drop, IntWalk.iteOmega, IntWalk.toNatUp, hlt2, he, Rd.fault])
      refine ICalls.mono c3 ?_
      rintro v1 K1 ⟨rfl, hon, hk1⟩
      have hk2 : K1.get cb = some ⟨[ptrTo b 0], true⟩ := by rw [hon.same cb (Heap.lt_of_get k2) hne]; exact k2
      have hv1 : Bld 9 K1 H.next v (acc.map Rule.val) := hv.same fun j k hj hk => by rw [hon.same j (Heap.lt_of_get hk) (by omega)]; exact hk
      have hn1 : H.next ≤ K1.next := Nat.le_trans ho.next hon.next
      generalize (ruleP st).1 = x at *
      obtain ⟨x1, x2, x3, x4, x5, x6, x7, x8, x9⟩ := x
      obtain ⟨v', K3, e3, b3', s3, n3, f3, t3⟩ := app_one (P := Tryd.prog) (t := 29) (e := 49) (sz := 9) (by_ := 80) (z := .agg ⟨[.int .u8 0, .int .i64 0, .int .i64 0, .int .i64 0, .int .i64 0, .int .i64 0, .int .u8 0, .bool false, .slice none 0 0]⟩) (by kernel_rfl) (by kernel_rfl) (by kernel_rfl) (by kernel_rfl) rfl (Rule.val ⟨x1, x2, x3, x4, x5, x6, x7, x8, x9⟩) [.int .u8 x1, .int .i64 x2, .int .i64 x3, .int .i64 x4, .int .i64 x5, .int .i64 x6, .int .u8 x7, .bool x8, frow 2 0 (x9.map Stage.val)] hv1 rfl rfl (by simp [one0, ints, frow]) hn1 (by simp; omega) (by simp; omega)
      simp [go_sem, e3, Rule.val, Rule.cells]
      refine IWp.one [0, 1, 5, 9, 10] ?_
      simp [go_sem, -getElem?_pos, -List.map_take, -List.map_drop, IntWalk.iteOmega, IntWalk.toNatUp, w1]
      exact ⟨N.toNat - (i + 1), by omega, i + 1, rfl, v', _, _, hstep, (s3 b l1).trans hk1, (s3 cb l2).trans hk2, ⟨fun j h1 h2 => (s3 j h1).trans ((ho.trans hon).same j h1 h2), Nat.le_trans hn1 n3⟩, by rw [List.map_append]; exact b3', rfl, by simp⟩
    · skip
      have Kp : Kept [[0,1,5,9,10,11],[],[0,1,5,9,10],[0,1,5,7,9,10]] := ⟨⟩
      iterate 4 (refine Kp.s ?_; clear Kp; intro Kp; simp [go_sem, -getElem?_pos, -List.map_take, -List.map_drop, IntWalk.iteOmega, IntWalk.toNatUp, hlt2, he, Rd.fault])
      refine ICalls.then (c2) ?_
      try simp [go_sem, -getElem?_pos, -List.map_take, -List.map_drop, IntWalk.iteOmega, IntWalk.toNatUp, hlt2, he, Rd.fault]
      have Kp : Kept [[0,1,5,9,10,18],[],[5],[4],[]] := ⟨⟩
      iterate 5 (refine Kp.s ?_; clear Kp; intro Kp; simp [go_sem, -getElem?_pos, -List.map_take, -List.map_drop, IntWalk.iteOmega, IntWalk.toNatUp, hlt2, he, Rd.fault])
      obtain ⟨q1, q2⟩ := hi.stop (.inl he)
      rw [q1, q2]
      exact ⟨fun j => decide (H.next ≤ j), _, hv.frzW (fun j h => by simpa using h), rfl, ho.only, by rw [On.getb l1]; exact k1⟩
  · skip
    have Kp : Kept [[0,1,5,9,10,11],[],[5],[4],[]] := ⟨⟩
    iterate 5 (refine Kp.s ?_; clear Kp; intro Kp; simp [go_sem, -getElem?_pos, -List.map_take, -List.map_drop, IntWalk.iteOmega, IntWalk.toNatUp, show ¬ (i : Int) < N by omega])
    obtain ⟨q1, q2⟩ := hi.stop (.inr hlt)
    rw [q1, q2]
    exact ⟨fun j => decide (H.next ≤ j), _, hv.frzW (fun j h => by simpa using h), rfl, ho.only, by rw [On.getb l1]; exact k1⟩
end Go.Proofs.YtoecebibhcadoaaDoor.I
namespace Go.Proofs.YtoecebibhcadoaaDoor.I
open Go Go.RowKit
set_option linter.unusedVariables false
set_option linter.unusedSimpArgs false
def confB (a b c : Value) (x y z d p o : Int) (k : Bool) (l : Int) : List Value := [a, b, c, .int .i64 x, .int .i64 y, .int .i64 z, .int .i64 d, .int .i64 p, .int .i64 o, .bool k, .int .i64 l]
structure RC (H : Heap) (b cb rb xb : Nat) (s : Rd) (cs zs : List Value) (M : Heap) : Prop where
  on : On b H M
  rd : M.get b = some ⟨s.cells, true⟩
  q : M.get cb = some ⟨[ptrTo b 0], true⟩
  r : M.get rb = some ⟨zs, true⟩
  x : M.get xb = some ⟨cs, true⟩
  ne : ¬ cb = b ∧ ¬ xb = b ∧ ¬ cb = xb ∧ ¬ rb = b ∧ ¬ rb = xb ∧ H.next ≤ xb
theorem RC.x' {H M K : Heap} {b cb rb xb : Nat} {s : Rd} {cs zs : List Value} (h : RC H b cb rb xb s cs zs M) (g : On b M K) : K.get xb = some ⟨cs, true⟩ := (g.same xb (Heap.lt_of_get h.x) h.ne.2.1).trans h.x
theorem RC.to {H M K : Heap} {b cb rb xb : Nat} {s t : Rd} {cs zs : List Value} (h : RC H b cb rb xb s cs zs M) (g : On b M K) (gb : K.get b = some ⟨t.cells, true⟩) : RC H b cb rb xb t cs zs K :=
  ⟨h.on.trans g, gb, (g.same cb (Heap.lt_of_get h.q) h.ne.1).trans h.q, (g.same rb (Heap.lt_of_get h.r) h.ne.2.2.2.1).trans h.r, h.x' g, h.ne⟩
theorem RC.put {H M : Heap} {b cb rb xb : Nat} {s : Rd} {cs zs : List Value} (h : RC H b cb rb xb s cs zs M) (cs' : List Value) : RC H b cb rb xb s cs' zs (M.set xb cs') :=
  ⟨h.on.setN h.ne.2.2.2.2.2 _, by rw [get_set, if_neg (Ne.symm h.ne.2.1)]; exact h.rd, by rw [get_set, if_neg h.ne.2.2.1]; exact h.q, by rw [get_set, if_neg h.ne.2.2.2.2.1]; exact h.r, by rw [get_set, if_pos rfl, h.x]; rfl, h.ne⟩
def bst (y : Rd) : Nat → Rd
  | 0 => y
  | n + 1 => (bst y n).byte.2
theorem bst_ok {y : Rd} (h : y.ok) : ∀ n, (bst y n).ok
  | 0 => h
  | n + 1 => Rd.byte_ok (bst_ok h n)
set_option maxHeartbeats 4000000 in
theorem readC (H : Heap) (b : Nat) (s : Rd) (hs : s.ok) (hb : H.get b = some ⟨s.cells, true⟩) :
    ICalls Tryd.prog 52 [ptrTo b 0] H fun v K => v = (cfgP s).1.val ∧ On b H K ∧ K.get b = some ⟨(cfgP s).2.cells, true⟩ := by
  obtain ⟨ZC, hZC⟩ : ∃ ZC, ZC = confB (.slice none 0 0) (.slice none 0 0) (.slice none 0 0) 0 0 0 0 0 0 false 0 := ⟨_, rfl⟩
  obtain ⟨H3, hH3⟩ : ∃ H3, H3 = ((H.alloc [ptrTo b 0]).alloc ZC).alloc ZC := ⟨_, rfl⟩
  have l0 := Heap.lt_of_get hb
  have hn3 : H3.next = H.next + 1 + 1 + 1 := by rw [hH3]; rfl
  have gb : H3.get b = some ⟨s.cells, true⟩ := by rw [hH3]; simp only [get_alloc, next_alloc]; rw [if_neg (by omega), if_neg (by omega), if_neg (by omega)]; exact hb
  have gc : H3.get H.next = some ⟨[ptrTo b 0], true⟩ := by rw [hH3]; simp only [get_alloc, next_alloc]; rw [if_neg (by omega), if_neg (by omega)]; simp
  have gr : H3.get (H.next + 1) = some ⟨ZC, true⟩ := by rw [hH3]; simp only [get_alloc, next_alloc]; rw [if_neg (by omega)]; simp
  have gx : H3.get (H.next + 1 + 1) = some ⟨ZC, true⟩ := by rw [hH3]; simp only [get_alloc, next_alloc]; simp
  have o3 : On b H H3 := by rw [hH3]; exact (((On.refl b H).alloc' _).alloc' _).alloc' _
  refine IBody.calls (by kernel_rfl) ?_
  refine IBody.of Tryd.func52 rfl (by rw [Tryd.ntmps52]; simp) ?_
  rw [Tryd.ntmps52]
  have Kp : Kept [[1,2],[1,2,3]] := ⟨⟩
  iterate 2 (refine Kp.s ?_; clear Kp; intro Kp; simp [go_sem, -getElem?_pos, -List.map_take, -List.map_drop, IntWalk.iteOmega, IntWalk.toNatUp])
  refine IWp.seq ?_
  simp only [hZC, confB, ptrTo] at hH3
  try rw [← hH3]
  generalize hcb : H.next = cb at *
  generalize hrb : cb + 1 = rb at *
  generalize hxb : rb + 1 = xb at *
  have hcn : ¬ cb = b := by omega
  have hxn : ¬ xb = b := by omega
  have hcx : ¬ cb = xb := by omega
  have hrn : ¬ rb = b := by omega
  have hrx : ¬ rb = xb := by omega
  simp only [hZC, confB] at gx gr
  obtain ⟨SV, hSV⟩ : ∃ y, y = (manyP sigP s).1 := ⟨_, rfl⟩
  obtain ⟨s1, hs1⟩ : ∃ y, y = (manyP sigP s).2 := ⟨_, rfl⟩
  have k1 : s1.ok := by rw [hs1]; exact manyP_ok _ sigP_ok _ hs
  obtain ⟨RV, hRV⟩ : ∃ y, y = (manyP ruleP s1).1 := ⟨_, rfl⟩
  obtain ⟨s2, hs2⟩ : ∃ y, y = (manyP ruleP s1).2 := ⟨_, rfl⟩
  have k2 : s2.ok := by rw [hs2]; exact manyP_ok _ ruleP_ok _ k1
  obtain ⟨TV, hTV⟩ : ∃ y, y = (manyP slotP s2).1 := ⟨_, rfl⟩
  obtain ⟨s3, hs3⟩ : ∃ y, y = (manyP slotP s2).2 := ⟨_, rfl⟩
  have k3 : s3.ok := by rw [hs3]; exact manyP_ok _ slotP_ok _ k2
  have c1 := listSig H3 b cb s hs gb gc
  rw [← hSV, ← hs1] at c1
  clear hH3
  have h0 : RC H b cb rb xb s _ _ H3 := ⟨o3, gb, gc, gr, gx, hcn, hxn, hcx, hrn, hrx, by omega⟩
  clear gb gr gx o3
  refine IWp.one [1, 2, 3] ?_
  simp [go_sem, -getElem?_pos, -List.map_take, -List.map_drop, IntWalk.iteOmega, IntWalk.toNatUp, gc]
  refine ICalls.mono (c1) ?_
  rintro v K1 ⟨rfl, g1, b1⟩
  have x1 := h0.x' g1
  try simp [go_sem, -getElem?_pos, -List.map_take, -List.map_drop, IntWalk.iteOmega, IntWalk.toNatUp, gc, x1]
  refine IWp.seq ?_
  have h1 := (h0.to g1 b1).put (confB (frow 2 0 (SV.map Sig.val)) (.slice none 0 0) (.slice none 0 0) 0 0 0 0 0 0 false 0)
  simp only [confB] at h1
  generalize K1.set xb _ = M1 at *
  clear x1 b1 g1 gc c1 h0
  have c1 := listRule M1 b cb s1 k1 h1.rd h1.q
  rw [← hRV, ← hs2] at c1
  have gc := h1.q
  refine IWp.one [1, 2, 3] ?_
  simp [go_sem, -getElem?_pos, -List.map_take, -List.map_drop, IntWalk.iteOmega, IntWalk.toNatUp, gc]
  refine ICalls.mono (c1) ?_
  rintro v K1 ⟨rfl, g1, b1⟩
  have x1 := h1.x' g1
  try simp [go_sem, -getElem?_pos, -List.map_take, -List.map_drop, IntWalk.iteOmega, IntWalk.toNatUp, gc, x1]
  refine IWp.seq ?_
  have h2 := (h1.to g1 b1).put (confB (frow 2 0 (SV.map Sig.val)) (frow 9 0 (RV.map Rule.val)) (.slice none 0 0) 0 0 0 0 0 0 false 0)
  simp only [confB] at h2
  generalize K1.set xb _ = M2 at *
  clear x1 b1 g1 gc c1 h1
  have c1 := listSlot M2 b cb s2 k2 h2.rd h2.q
  rw [← hTV, ← hs3] at c1
  have gc := h2.q
  refine IWp.one [1, 2, 3] ?_
  simp [go_sem, -getElem?_pos, -List.map_take, -List.map_drop, IntWalk.iteOmega, IntWalk.toNatUp, gc]
  refine ICalls.mono (c1) ?_
  rintro v K1 ⟨rfl, g1, b1⟩
  have x1 := h2.x' g1
  try simp [go_sem, -getElem?_pos, -List.map_take, -List.map_drop, IntWalk.iteOmega, IntWalk.toNatUp, gc, x1]
  have h3 := (h2.to g1 b1).put (confB (frow 2 0 (SV.map Sig.val)) (frow 9 0 (RV.map Rule.val)) (frow 1 0 (TV.map (ints .i64))) 0 0 0 0 0 0 false 0)
  simp only [confB] at h3
  generalize K1.set xb _ = M3 at *
  clear x1 b1 g1 gc c1 h2
  obtain ⟨CB, hCB⟩ : ∃ CB : Nat → List Value, CB = fun i => confB (frow 2 0 (SV.map Sig.val)) (frow 9 0 (RV.map Rule.val)) (frow 1 0 (TV.map (ints .i64))) (if 0 < i then s3.byte.1 else 0) (if 1 < i then (bst s3 1).byte.1 else 0) (if 2 < i then (bst s3 2).byte.1 else 0) 0 0 0 false 0 := ⟨_, rfl⟩
  obtain ⟨ZS, hZS⟩ : ∃ ZS : List Value, ZS = confB (.slice none 0 0) (.slice none 0 0) (.slice none 0 0) 0 0 0 0 0 0 false 0 := ⟨_, rfl⟩
  have h3' : RC H b cb rb xb (bst s3 0) (CB 0) ZS M3 := by rw [hCB, hZS]; simpa [confB, bst] using h3
  refine IWp.cut (fun e K => RC H b cb rb xb (bst s3 3) (CB 3) ZS K ∧ e = [(1, ptrTo cb 0), (2, ptrTo rb 0), (3, ptrTo xb 0)]) ?_ ?_
  · skip
    refine IWp.one [1, 2, 3, 18] ?_
    simp [go_sem, -getElem?_pos, -List.map_take, -List.map_drop, IntWalk.iteOmega, IntWalk.toNatUp]
    refine IWp.block ?_
    refine IWp.loop (fun j e K => ∃ i : Nat, j = 3 - i ∧ i ≤ 3 ∧ RC H b cb rb xb (bst s3 i) (CB i) ZS K ∧ e = [(1, ptrTo cb 0), (2, ptrTo rb 0), (3, ptrTo xb 0), (18, .int .i64 (i : Int))]) 3 ⟨0, rfl, Nat.zero_le _, h3', by simp [go_sem]⟩ ?_
    clear h3 h3'
    rintro j e K ⟨i, rfl, hi, h, rfl⟩
    have kq := h.q
    have kx := h.x
    have ki := bst_ok k3 i
    have c1 := rByte K b (bst s3 i) ki h.rd
    have hu := Rd.byte_u8 _ ki
    have w1 := IntWalk.i64_in (bst s3 i).byte.1 (by omega)
    have w2 := IntWalk.i64_in ((i : Int) + 1) (by omega)
    by_cases hlt : i < 3
    · have hk := h.to (On.set b K (bst s3 i).byte.2.cells) (t := (bst s3 i).byte.2) (by rw [get_set, if_pos rfl, h.rd]; rfl)
      have hk2 := hk.put (CB (i + 1))
      have kx2 := hk.x
      have h012 : i = 0 ∨ i = 1 ∨ i = 2 := by omega
      rcases h012 with rfl | rfl | rfl
      · rw [hCB] at kx2
        simp [confB] at kx2
        have Kp : Kept [[1,2,3,18,19],[],[1,2,3,18],[1,2,3,4,18],[1,2,3,18]] := ⟨⟩
        iterate 5 (refine Kp.s ?_; clear Kp; intro Kp; simp [go_sem, -getElem?_pos, -List.map_take, -List.map_drop, IntWalk.iteOmega, IntWalk.toNatUp, kq, w1, w2, show IntKind.i64.wrap 1 = 1 from IntWalk.i64_in _ (by omega)])
        refine ICalls.mono (c1) ?_
        rintro v _ ⟨rfl, rfl⟩
        try simp [go_sem, -getElem?_pos, -List.map_take, -List.map_drop, IntWalk.iteOmega, IntWalk.toNatUp, kq, w1, w2, show IntKind.i64.wrap 1 = 1 from IntWalk.i64_in _ (by omega), kx2]
        refine IWp.one [1, 2, 3, 18] ?_
        simp [go_sem, -getElem?_pos, -List.map_take, -List.map_drop, IntWalk.iteOmega, IntWalk.toNatUp, kq, w1, w2, show IntKind.i64.wrap 1 = 1 from IntWalk.i64_in _ (by omega), kx2]
        refine ⟨2, by omega, 1, rfl, by omega, ?_, rfl⟩
        rw [hCB] at hk2 ⊢
        simpa [confB, bst] using hk2
      · rw [hCB] at kx2
        simp [confB] at kx2
        have Kp : Kept [[1,2,3,18,19],[],[1,2,3,18],[1,2,3,4,18],[1,2,3,18]] := ⟨⟩
        iterate 5 (refine Kp.s ?_; clear Kp; intro Kp; simp [go_sem, -getElem?_pos, -List.map_take, -List.map_drop, IntWalk.iteOmega, IntWalk.toNatUp, kq, w1, w2, show IntKind.i64.wrap 2 = 2 from IntWalk.i64_in _ (by omega)])
        refine ICalls.mono (c1) ?_
        rintro v _ ⟨rfl, rfl⟩
        try simp [go_sem, -getElem?_pos, -List.map_take, -List.map_drop, IntWalk.iteOmega, IntWalk.toNatUp, kq, w1, w2, show IntKind.i64.wrap 2 = 2 from IntWalk.i64_in _ (by omega), kx2]
        refine IWp.one [1, 2, 3, 18] ?_
        simp [go_sem, -getElem?_pos, -List.map_take, -List.map_drop, IntWalk.iteOmega, IntWalk.toNatUp, kq, w1, w2, show IntKind.i64.wrap 2 = 2 from IntWalk.i64_in _ (by omega), kx2]
        refine ⟨1, by omega, 2, rfl, by omega, ?_, rfl⟩
        rw [hCB] at hk2 ⊢
        simpa [confB, bst] using hk2
      · rw [hCB] at kx2
        simp [confB] at kx2
        have Kp : Kept [[1,2,3,18,19],[],[1,2,3,18],[1,2,3,4,18],[1,2,3,18]] := ⟨⟩
        iterate 5 (refine Kp.s ?_; clear Kp; intro Kp; simp [go_sem, -getElem?_pos, -List.map_take, -List.map_drop, IntWalk.iteOmega, IntWalk.toNatUp, kq, w1, w2, show IntKind.i64.wrap 3 = 3 from IntWalk.i64_in _ (by omega)])
        refine ICalls.mono (c1) ?_
        rintro v _ ⟨rfl, rfl⟩
        try simp [go_sem, -getElem?_pos, -List.map_take, -List.map_drop, IntWalk.iteOmega, IntWalk.toNatUp, kq, w1, w2, show IntKind.i64.wrap 3 = 3 from IntWalk.i64_in _ (by omega), kx2]
        refine IWp.one [1, 2, 3, 18] ?_
        simp [go_sem, -getElem?_pos, -List.map_take, -List.map_drop, IntWalk.iteOmega, IntWalk.toNatUp, kq, w1, w2, show IntKind.i64.wrap 3 = 3 from IntWalk.i64_in _ (by omega), kx2]
        refine ⟨3, by omega, by omega, ?_, rfl⟩
        rw [hCB] at hk2 ⊢
        simpa [confB, bst] using hk2
    · have hi3 : i = 3 := by omega
      subst hi3
      have Kp : Kept [[1,2,3,18,19],[],[1,2,3]] := ⟨⟩
      iterate 3 (refine Kp.s ?_; clear Kp; intro Kp; simp [go_sem, -getElem?_pos, -List.map_take, -List.map_drop, IntWalk.iteOmega, IntWalk.toNatUp])
      exact h
  rintro e K ⟨h, rfl⟩
  have hx3 := h.x
  have hZ := h.r
  rw [hZS] at hZ
  rw [hCB] at hx3
  simp only [confB, Nat.lt_add_one, if_true, show (0:Nat) < 3 by omega, show (1:Nat) < 3 by omega, show (2:Nat) < 3 by omega] at hx3 hZ
  obtain ⟨y0, hy0⟩ : ∃ y, y = bst s3 3 := ⟨_, rfl⟩
  have hy : y0 = s3.byte.2.byte.2.byte.2 := by rw [hy0]; rfl
  have ky0 : y0.ok := by rw [hy0]; exact bst_ok k3 3
  obtain ⟨d, hd⟩ : ∃ y, y = y0.byte.1 := ⟨_, rfl⟩
  obtain ⟨y1, hy1⟩ : ∃ y, y = y0.byte.2 := ⟨_, rfl⟩
  have ky1 : y1.ok := by rw [hy1]; exact Rd.byte_ok ky0
  obtain ⟨p, hp⟩ : ∃ y, y = y1.int.1 := ⟨_, rfl⟩
  obtain ⟨y2, hy2⟩ : ∃ y, y = y1.int.2 := ⟨_, rfl⟩
  have ky2 : y2.ok := by rw [hy2]; exact Rd.int_ok ky1
  obtain ⟨o, ho⟩ : ∃ y, y = y2.int.1 := ⟨_, rfl⟩
  obtain ⟨y3, hy3⟩ : ∃ y, y = y2.int.2 := ⟨_, rfl⟩
  have ky3 : y3.ok := by rw [hy3]; exact Rd.int_ok ky2
  obtain ⟨k, hk⟩ : ∃ y, y = y3.flag.1 := ⟨_, rfl⟩
  obtain ⟨y4, hy4⟩ : ∃ y, y = y3.flag.2 := ⟨_, rfl⟩
  have ky4 : y4.ok := by rw [hy4]; exact Rd.flag_ok ky3
  obtain ⟨lg, hlg⟩ : ∃ y, y = y4.int.1 := ⟨_, rfl⟩
  obtain ⟨y5, hy5⟩ : ∃ y, y = y4.int.2 := ⟨_, rfl⟩
  have hcfg : cfgP s = (⟨SV, RV, TV, s3.byte.1, (bst s3 1).byte.1, (bst s3 2).byte.1, d, p, o, k, lg⟩, y5) := by
    subst hSV hs1 hRV hs2 hTV hs3 hd hy1 hp hy2 ho hy3 hk hy4 hlg hy5; rw [hy]; rfl
  rw [hcfg]
  rw [← hy0] at h
  have e0 := h
  have step : ∀ (M : Heap) (t t' : Rd), RC H b cb rb xb t (CB 3) ZS M → t' = t' → RC H b cb rb xb t' (CB 3) ZS (M.set b t'.cells) := fun M t t' h _ => h.to (On.set b M _) (by rw [get_set, if_pos rfl, h.rd]; rfl)
  have c1 := rByte K b y0 ky0 h.rd
  have h1 := step K y0 y1 h rfl
  rw [← hd, ← hy1] at c1
  have c2 := rInt _ b y1 ky1 h1.rd
  have h2 := step _ y1 y2 h1 rfl
  rw [← hp, ← hy2] at c2
  have c3 := rInt _ b y2 ky2 h2.rd
  have h4 := step _ y2 y3 h2 rfl
  rw [← ho, ← hy3] at c3
  have c4 := rFlag _ b y3 ky3 h4.rd
  have h5 := step _ y3 y4 h4 rfl
  rw [← hk, ← hy4] at c4
  have c5 := rInt _ b y4 ky4 h5.rd
  have h6 := step _ y4 y5 h5 rfl
  rw [← hlg, ← hy5] at c5
  have hu := Rd.byte_u8 _ ky0
  rw [← hd] at hu
  have w1 := IntWalk.i64_in d (by omega)
  have kq := h.q
  refine IWp.seq ?_
  refine IWp.draw [2, 3] [cb] (.ld 0 [1, 2, 4, 6, 8, 10, 11, 12, 13, 14, 15, 16, 17, 18, 19, 20] (.val 3 (.val 5 (.val 7 (.val 9 (.eff 1 (.val 2 (.val 11 (.eff 4 (.eff 6 (.eff 8 (.eff 10 (.eff 12 (.val 13 (.eff 14 (.val 15 (.eff 16 (.val 17 (.eff 18 (.val 19 (.eff 20 .done .done)) .done)) .done)) .done)) .done) .done) .done) .done) .done))) .done)))))) follows (by kernel_rfl) ?_
  simp [go_sem, -getElem?_pos, -List.map_take, -List.map_drop, IntWalk.iteOmega, IntWalk.toNatUp, kq, w1, get_set, hcn, hxn, hx3, hZ, hrx, show ¬ rb = b from hrn]
  refine ICalls.mono (c1) ?_
  rintro v _ ⟨rfl, rfl⟩
  try simp [go_sem, -getElem?_pos, -List.map_take, -List.map_drop, IntWalk.iteOmega, IntWalk.toNatUp, kq, w1, get_set, hcn, hxn, hx3, hZ, hrx, show ¬ rb = b from hrn]
  refine ICalls.mono (c2) ?_
  rintro v _ ⟨rfl, rfl⟩
  try simp [go_sem, -getElem?_pos, -List.map_take, -List.map_drop, IntWalk.iteOmega, IntWalk.toNatUp, kq, w1, get_set, hcn, hxn, hx3, hZ, hrx, show ¬ rb = b from hrn]
  refine ICalls.mono (c3) ?_
  rintro v _ ⟨rfl, rfl⟩
  try simp [go_sem, -getElem?_pos, -List.map_take, -List.map_drop, IntWalk.iteOmega, IntWalk.toNatUp, kq, w1, get_set, hcn, hxn, hx3, hZ, hrx, show ¬ rb = b from hrn]
  refine ICalls.mono (c4) ?_
  rintro v _ ⟨rfl, rfl⟩
  try simp [go_sem, -getElem?_pos, -List.map_take, -List.map_drop, IntWalk.iteOmega, IntWalk.toNatUp, kq, w1, get_set, hcn, hxn, hx3, hZ, hrx, show ¬ rb = b from hrn]
  refine ICalls.mono (c5) ?_
  rintro v _ ⟨rfl, rfl⟩
  try simp [go_sem, -getElem?_pos, -List.map_take, -List.map_drop, IntWalk.iteOmega, IntWalk.toNatUp, kq, w1, get_set, hcn, hxn, hx3, hZ, hrx, show ¬ rb = b from hrn]
  have Kp : Kept [[2],[]] := ⟨⟩
  iterate 2 (refine Kp.s ?_; clear Kp; intro Kp; simp [go_sem, -getElem?_pos, -List.map_take, -List.map_drop, IntWalk.iteOmega, IntWalk.toNatUp, kq, w1, get_set, hcn, hxn, hx3, hZ, hrx, show ¬ rb = b from hrn])
  exact ⟨rfl, (((((h6.on.setN (by omega) _).setN (by omega) _).setN (by omega) _).setN (by omega) _).setN (by omega) _).setN (by omega) _, _, h.rd, rfl⟩
end Go.Proofs.YtoecebibhcadoaaDoor.I
namespace Go.Proofs.YtoecebibhcadoaaDoor.I
open Go Go.RowKit Go.Extern.Stop Go.Stop Go.Extern
set_option linter.unusedVariables false
set_option linter.unusedSimpArgs false
theorem rlm (z : Sem Value) (f : TypeId → Addr → Nat → Nat → Sem Value) (v : Value) :
    ReflectliteValue.method z f #[v] = (do match ← ReflectliteValue.parts v with | none => z | some (t, a, fl) => f t a fl (fl % 32)) := rfl
theorem rls (v x : Value) : ReflectliteValue.set #[v, x] = (do
    let (some (dst, a, fl), some (src, b, _)) := (← ReflectliteValue.parts v, ← ReflectliteValue.parts x)
      | unsupported (.noEntry "extern/(internal/reflectlite.Value).Set.zeroValue")
    if fl / ReflectliteValue.flagAddr % 2 == 0 then unsupported (.noEntry "extern/(internal/reflectlite.Value).Set.unaddressable")
    let val ← loadVar src b
    if ← Rtype.directlyAssignable dst src then storeVar dst a val
    else if ← Rtype.implements dst src then
      if (← Rtype.kind src) == 20 then
        match val with
        | .nilIface => unsupported (.noEntry "extern/reflectlite: a nil value of one interface type handed on as a value of another")
        | _ => storeVar dst a val
      else storeVar dst a (.iface src val)
    else panicString ("reflectlite.Set: value of type " ++ (← Rtype.spelt src) ++ " is not assignable to type " ++ (← Rtype.spelt dst))
    pure (.tuple #[])) := rfl
theorem as_nil (t : Value) (w : World) :
    Calls Tryd.prog 37 #[.nilIface, t] w fun e w' => e = .returned (.bool false) ∧ w' = w := by
  go_enter Tryd.func37, Tryd.ntmps37
  go_wp2
  go_ret
  exact ⟨rfl, rfl⟩
theorem valueOf84 (t : Addr) (w : World) : (ReflectliteValue.unpack (.iface 84 (.pointer (some t)))).run Tryd.prog w
    = .ok (.agg #[.pointer (some ⟨1, 84, none⟩), .pointer (some ⟨w.heap.size, 0, none⟩), .int .u64 150]) (w.alloc (.cells #[.pointer (some t)] 84)) := by kernel_rfl
theorem type84 (a : Addr) (w : World) : (ReflectliteValue.methodAny (ReflectliteValue.valueError "reflectlite.Value.Type" 0) (fun t _ _ _ => ReflectliteType.toType t) #[.agg #[.pointer (some ⟨1, 84, none⟩), .pointer (some a), .int .u64 150]]).run Tryd.prog w
    = .ok (.iface 135 (.agg #[.pointer (some ⟨1, 84, none⟩)])) w := by kernel_rfl
theorem kind84 (w : World) : ((ReflectliteType.abiMethod fun t => (fun a : Nat => Value.int IntKind.u8 (a : Int)) <$> Rtype.kind t) #[.pointer (some ⟨1, 84, none⟩)]).run Tryd.prog w = .ok (.int .u8 22) w := by kernel_rfl
theorem kind80 (w : World) : ((ReflectliteType.abiMethod fun t => (fun a : Nat => Value.int IntKind.u8 (a : Int)) <$> Rtype.kind t) #[.pointer (some ⟨1, 80, none⟩)]).run Tryd.prog w = .ok (.int .u8 22) w := by kernel_rfl
theorem parts84 (a : Addr) (w : World) : (ReflectliteValue.parts (.agg #[.pointer (some ⟨1, 84, none⟩), .pointer (some a), .int .u64 150])).run Tryd.prog w = .ok (some (84, a, 150)) w := by kernel_rfl
theorem isNil84 (a p : Addr) (W : World) (ha : W.cell? a = some (.pointer (some p))) :
    (ReflectliteValue.method (ReflectliteValue.valueError "reflectlite.Value.IsNil" 0) ReflectliteValue.isNil #[.agg #[.pointer (some ⟨1, 84, none⟩), .pointer (some a), .int .u64 150]]).run Tryd.prog W = .ok (.bool false) W := by
  rw [rlm]
  simp only [Sem.run_bind, parts84, Result.andThen]
  simp [ReflectliteValue.isNil, loadVar, isAgg, underlying, Tryd.underlying84, ha, Result.andThen]
theorem elem84 (w : World) : (ReflectliteType.method ReflectliteType.elem #[.agg #[.pointer (some ⟨1, 84, none⟩)]]).run Tryd.prog w = .ok (.iface 135 (.agg #[.pointer (some ⟨1, 80, none⟩)])) w := by kernel_rfl
theorem implements80 (w : World) : (ReflectliteType.relation "Implements" ReflectliteType.implements_ #[.agg #[.pointer (some ⟨1, 80, none⟩)], .iface 135 (.agg #[.pointer (some ⟨1, 77, none⟩)])]).run Tryd.prog w = .ok (.bool true) w := by kernel_rfl
theorem typeOf80 (v : Value) (w : World) : (ReflectliteType.typeOf #[.iface 80 v]).run Tryd.prog w = .ok (.iface 135 (.agg #[.pointer (some ⟨1, 80, none⟩)])) w := by kernel_rfl
theorem assignable80 (w : World) : (ReflectliteType.relation "AssignableTo" ReflectliteType.assignableTo #[.agg #[.pointer (some ⟨1, 80, none⟩)], .iface 135 (.agg #[.pointer (some ⟨1, 80, none⟩)])]).run Tryd.prog w = .ok (.bool true) w := by kernel_rfl
theorem elemOf84 (w : World) : (Rtype.elem? 84).run Tryd.prog w = .ok (some 80) w := by kernel_rfl
theorem mk80 (p : Addr) (w : World) : (ReflectliteValue.mk 80 p ReflectliteValue.flagAddr).run Tryd.prog w = .ok (.agg #[.pointer (some ⟨1, 80, none⟩), .pointer (some p), .int .u64 406]) w := by kernel_rfl
theorem elemV84 (a p : Addr) (W : World) (ha : W.cell? a = some (.pointer (some p))) :
    (ReflectliteValue.method (ReflectliteValue.valueError "reflectlite.Value.Elem" 0) ReflectliteValue.elem #[.agg #[.pointer (some ⟨1, 84, none⟩), .pointer (some a), .int .u64 150]]).run Tryd.prog W
      = .ok (.agg #[.pointer (some ⟨1, 80, none⟩), .pointer (some p), .int .u64 406]) W := by
  rw [rlm]
  simp only [Sem.run_bind, parts84, Result.andThen]
  simp [ReflectliteValue.elem, loadVar, isAgg, underlying, Tryd.underlying84, ha, Result.andThen, elemOf84, mk80]
theorem valueOf80 (e : Addr) (w : World) : (ReflectliteValue.unpack (.iface 80 (.pointer (some e)))).run Tryd.prog w
    = .ok (.agg #[.pointer (some ⟨1, 80, none⟩), .pointer (some ⟨w.heap.size, 0, none⟩), .int .u64 150]) (w.alloc (.cells #[.pointer (some e)] 80)) := by kernel_rfl
theorem parts80a (a : Addr) (w : World) : (ReflectliteValue.parts (.agg #[.pointer (some ⟨1, 80, none⟩), .pointer (some a), .int .u64 406])).run Tryd.prog w = .ok (some (80, a, 406)) w := by kernel_rfl
theorem parts80 (a : Addr) (w : World) : (ReflectliteValue.parts (.agg #[.pointer (some ⟨1, 80, none⟩), .pointer (some a), .int .u64 150])).run Tryd.prog w = .ok (some (80, a, 150)) w := by kernel_rfl
theorem direct80 (w : World) : (Rtype.directlyAssignable 80 80).run Tryd.prog w = .ok true w := by kernel_rfl
theorem size80 (w : World) : (sizeOf 80).run Tryd.prog w = .ok 1 w := by kernel_rfl
theorem set80 (ta b : Addr) (e : Addr) (old : Value) (W : World) (hb : W.cell? b = some (.pointer (some e))) (ht : W.cell? ta = some old) (hf : W.frozen? ta = false) :
    (ReflectliteValue.set #[.agg #[.pointer (some ⟨1, 80, none⟩), .pointer (some ta), .int .u64 406], .agg #[.pointer (some ⟨1, 80, none⟩), .pointer (some b), .int .u64 150]]).run Tryd.prog W
      = .ok (.tuple #[]) (W.setCell ta (.pointer (some e))) := by
  rw [rls]
  simp only [Sem.run_bind, parts80a, parts80, Result.andThen]
  simp [ReflectliteValue.flagAddr, loadVar, isAgg, underlying, Tryd.underlying80, hb, Result.andThen, direct80, storeVar, Value.cells, storeCells, Addr.add]
  rw [run_store Tryd.prog W ta _ _ (by rfl)]
  simp [ht, hf]
theorem valueOf85 (t : Addr) (w : World) : (ReflectliteValue.unpack (.iface 85 (.pointer (some t)))).run Tryd.prog w
    = .ok (.agg #[.pointer (some ⟨1, 85, none⟩), .pointer (some ⟨w.heap.size, 0, none⟩), .int .u64 150]) (w.alloc (.cells #[.pointer (some t)] 85)) := by kernel_rfl
theorem type85 (a : Addr) (w : World) : (ReflectliteValue.methodAny (ReflectliteValue.valueError "reflectlite.Value.Type" 0) (fun t _ _ _ => ReflectliteType.toType t) #[.agg #[.pointer (some ⟨1, 85, none⟩), .pointer (some a), .int .u64 150]]).run Tryd.prog w
    = .ok (.iface 135 (.agg #[.pointer (some ⟨1, 85, none⟩)])) w := by kernel_rfl
theorem kind85 (w : World) : ((ReflectliteType.abiMethod fun t => (fun a : Nat => Value.int IntKind.u8 (a : Int)) <$> Rtype.kind t) #[.pointer (some ⟨1, 85, none⟩)]).run Tryd.prog w = .ok (.int .u8 22) w := by kernel_rfl
theorem kind36 (w : World) : ((ReflectliteType.abiMethod fun t => (fun a : Nat => Value.int IntKind.u8 (a : Int)) <$> Rtype.kind t) #[.pointer (some ⟨1, 36, none⟩)]).run Tryd.prog w = .ok (.int .u8 2) w := by kernel_rfl
theorem parts85 (a : Addr) (w : World) : (ReflectliteValue.parts (.agg #[.pointer (some ⟨1, 85, none⟩), .pointer (some a), .int .u64 150])).run Tryd.prog w = .ok (some (85, a, 150)) w := by kernel_rfl
theorem isNil85 (a p : Addr) (W : World) (ha : W.cell? a = some (.pointer (some p))) :
    (ReflectliteValue.method (ReflectliteValue.valueError "reflectlite.Value.IsNil" 0) ReflectliteValue.isNil #[.agg #[.pointer (some ⟨1, 85, none⟩), .pointer (some a), .int .u64 150]]).run Tryd.prog W = .ok (.bool false) W := by
  rw [rlm]
  simp only [Sem.run_bind, parts85, Result.andThen]
  simp [ReflectliteValue.isNil, loadVar, isAgg, underlying, Tryd.underlying85, ha, Result.andThen]
theorem elem85 (w : World) : (ReflectliteType.method ReflectliteType.elem #[.agg #[.pointer (some ⟨1, 85, none⟩)]]).run Tryd.prog w = .ok (.iface 135 (.agg #[.pointer (some ⟨1, 36, none⟩)])) w := by kernel_rfl
theorem implements36 (w : World) : (ReflectliteType.relation "Implements" ReflectliteType.implements_ #[.agg #[.pointer (some ⟨1, 36, none⟩)], .iface 135 (.agg #[.pointer (some ⟨1, 77, none⟩)])]).run Tryd.prog w = .ok (.bool true) w := by kernel_rfl
theorem typeOf36 (v : Value) (w : World) : (ReflectliteType.typeOf #[.iface 36 v]).run Tryd.prog w = .ok (.iface 135 (.agg #[.pointer (some ⟨1, 36, none⟩)])) w := by kernel_rfl
theorem assignable36 (w : World) : (ReflectliteType.relation "AssignableTo" ReflectliteType.assignableTo #[.agg #[.pointer (some ⟨1, 36, none⟩)], .iface 135 (.agg #[.pointer (some ⟨1, 36, none⟩)])]).run Tryd.prog w = .ok (.bool true) w := by kernel_rfl
theorem elemOf85 (w : World) : (Rtype.elem? 85).run Tryd.prog w = .ok (some 36) w := by kernel_rfl
theorem mk36 (p : Addr) (w : World) : (ReflectliteValue.mk 36 p ReflectliteValue.flagAddr).run Tryd.prog w = .ok (.agg #[.pointer (some ⟨1, 36, none⟩), .pointer (some p), .int .u64 386]) w := by kernel_rfl
theorem elemV85 (a p : Addr) (W : World) (ha : W.cell? a = some (.pointer (some p))) :
    (ReflectliteValue.method (ReflectliteValue.valueError "reflectlite.Value.Elem" 0) ReflectliteValue.elem #[.agg #[.pointer (some ⟨1, 85, none⟩), .pointer (some a), .int .u64 150]]).run Tryd.prog W
      = .ok (.agg #[.pointer (some ⟨1, 36, none⟩), .pointer (some p), .int .u64 386]) W := by
  rw [rlm]
  simp only [Sem.run_bind, parts85, Result.andThen]
  simp [ReflectliteValue.elem, loadVar, isAgg, underlying, Tryd.underlying85, ha, Result.andThen, elemOf85, mk36]
theorem valueOf36 (e : Int) (w : World) : (ReflectliteValue.unpack (.iface 36 (.int .i64 e))).run Tryd.prog w
    = .ok (.agg #[.pointer (some ⟨1, 36, none⟩), .pointer (some ⟨w.heap.size, 0, none⟩), .int .u64 130]) (w.alloc (.cells #[.int .i64 e] 36)) := by kernel_rfl
theorem parts36a (a : Addr) (w : World) : (ReflectliteValue.parts (.agg #[.pointer (some ⟨1, 36, none⟩), .pointer (some a), .int .u64 386])).run Tryd.prog w = .ok (some (36, a, 386)) w := by kernel_rfl
theorem parts36 (a : Addr) (w : World) : (ReflectliteValue.parts (.agg #[.pointer (some ⟨1, 36, none⟩), .pointer (some a), .int .u64 130])).run Tryd.prog w = .ok (some (36, a, 130)) w := by kernel_rfl
theorem direct36 (w : World) : (Rtype.directlyAssignable 36 36).run Tryd.prog w = .ok true w := by kernel_rfl
theorem size36 (w : World) : (sizeOf 36).run Tryd.prog w = .ok 1 w := by kernel_rfl
theorem set36 (ta b : Addr) (e : Int) (old : Value) (W : World) (hb : W.cell? b = some (.int .i64 e)) (ht : W.cell? ta = some old) (hf : W.frozen? ta = false) :
    (ReflectliteValue.set #[.agg #[.pointer (some ⟨1, 36, none⟩), .pointer (some ta), .int .u64 386], .agg #[.pointer (some ⟨1, 36, none⟩), .pointer (some b), .int .u64 130]]).run Tryd.prog W
      = .ok (.tuple #[]) (W.setCell ta (.int .i64 e)) := by
  rw [rls]
  simp only [Sem.run_bind, parts36a, parts36, Result.andThen]
  simp [ReflectliteValue.flagAddr, loadVar, isAgg, underlying, Tryd.underlying36, hb, Result.andThen, direct36, storeVar, Value.cells, storeCells, Addr.add]
  rw [run_store Tryd.prog W ta _ _ (by rfl)]
  simp [ht, hf]
theorem methodKind (h : Value) (w : World) : (Go.method 280 135 (.agg #[h]) "Kind").run Tryd.prog w = .ok (102, h) w := by kernel_rfl
theorem methodElem (h : Value) (w : World) : (Go.method 280 135 (.agg #[h]) "Elem").run Tryd.prog w = .ok (114, .agg #[h]) w := by kernel_rfl
theorem methodImplements (h : Value) (w : World) : (Go.method 280 135 (.agg #[h]) "Implements").run Tryd.prog w = .ok (115, .agg #[h]) w := by kernel_rfl
theorem methodAssignableTo (h : Value) (w : World) : (Go.method 280 135 (.agg #[h]) "AssignableTo").run Tryd.prog w = .ok (112, .agg #[h]) w := by kernel_rfl
theorem methodComparable (h : Value) (w : World) : (Go.method 280 135 (.agg #[h]) "Comparable").run Tryd.prog w = .ok (113, .agg #[h]) w := by kernel_rfl
theorem notTo80 (w : World) : (ReflectliteType.relation "AssignableTo" ReflectliteType.assignableTo #[.agg #[.pointer (some ⟨1, 36, none⟩)], .iface 135 (.agg #[.pointer (some ⟨1, 80, none⟩)])]).run Tryd.prog w = .ok (.bool false) w := by kernel_rfl
theorem notTo36 (w : World) : (ReflectliteType.relation "AssignableTo" ReflectliteType.assignableTo #[.agg #[.pointer (some ⟨1, 80, none⟩)], .iface 135 (.agg #[.pointer (some ⟨1, 36, none⟩)])]).run Tryd.prog w = .ok (.bool false) w := by kernel_rfl
theorem comparable36 (w : World) : ((ReflectliteType.method fun t => (fun a => Value.bool a.comparable) <$> typeInfo t) #[.agg #[.pointer (some ⟨1, 36, none⟩)]]).run Tryd.prog w = .ok (.bool true) w := by kernel_rfl
theorem noAs36 (v : Value) (xT : TypeId) (w : World) : (Instr.typeAssert (.iface 36 v) xT 139 true).run Tryd.prog w = .ok (.tuple #[.nilIface, .bool false]) w := run_typeAssert_lacksB Tryd.underlying139 (by kernel_rfl) (by kernel_rfl) v xT w
theorem noAs80 (v : Value) (xT : TypeId) (w : World) : (Instr.typeAssert (.iface 80 v) xT 139 true).run Tryd.prog w = .ok (.tuple #[.nilIface, .bool false]) w := run_typeAssert_lacksB Tryd.underlying139 (by kernel_rfl) (by kernel_rfl) v xT w
theorem noIs36 (v : Value) (xT : TypeId) (w : World) : (Instr.typeAssert (.iface 36 v) xT 147 true).run Tryd.prog w = .ok (.tuple #[.nilIface, .bool false]) w := run_typeAssert_lacksB Tryd.underlying147 (by kernel_rfl) (by kernel_rfl) v xT w
theorem noIs80 (v : Value) (xT : TypeId) (w : World) : (Instr.typeAssert (.iface 80 v) xT 147 true).run Tryd.prog w = .ok (.tuple #[.nilIface, .bool false]) w := run_typeAssert_lacksB Tryd.underlying147 (by kernel_rfl) (by kernel_rfl) v xT w
theorem noUnwrap36 (v : Value) (xT : TypeId) (w : World) : (Instr.typeAssert (.iface 36 v) xT 142 true).run Tryd.prog w = .ok (.tuple #[.nilIface, .bool false]) w := run_typeAssert_lacksB Tryd.underlying142 (by kernel_rfl) (by kernel_rfl) v xT w
theorem noUnwraps36 (v : Value) (xT : TypeId) (w : World) : (Instr.typeAssert (.iface 36 v) xT 144 true).run Tryd.prog w = .ok (.tuple #[.nilIface, .bool false]) w := run_typeAssert_lacksB Tryd.underlying144 (by kernel_rfl) (by kernel_rfl) v xT w
theorem hasUnwrap80 (v : Value) (xT : TypeId) (w : World) : (Instr.typeAssert (.iface 80 v) xT 142 true).run Tryd.prog w = .ok (.tuple #[.iface 80 v, .bool true]) w := run_typeAssert_hasB Tryd.underlying142 (by kernel_rfl) v xT w
theorem methodUnwrap (v : Value) (w : World) : (Go.method 280 80 v "Unwrap").run Tryd.prog w = .ok (107, v) w := by kernel_rfl
end Go.Proofs.YtoecebibhcadoaaDoor.I
namespace Go.Proofs.YtoecebibhcadoaaDoor.I
open Go Go.RowKit Go.Extern.Stop Go.Stop Go.Extern
set_option linter.unusedVariables false
set_option linter.unusedSimpArgs false
set_option maxHeartbeats 4000000 in
theorem as_hit80 (e : Addr) (t : Addr) (old : Value) (w : World) (hg : w.cell? ⟨0, 0, none⟩ = some (.iface 135 (.agg #[.pointer (some ⟨1, 77, none⟩)]))) (ht0 : w.cell? t = some old) (hf0 : w.frozen? t = false) :
    Calls Tryd.prog 37 #[.iface 80 (.pointer (some e)), .iface 84 (.pointer (some t))] w fun ev w' => ev = .returned (.bool true) ∧ w' = ((((w.alloc (.cells #[.pointer (some t)] 84)).alloc (.cells #[.pointer (some ⟨1, 84, none⟩), .pointer (some ⟨w.heap.size, 0, none⟩), .int .u64 150] 105)).alloc (.cells #[.pointer (some ⟨1, 84, none⟩), .pointer (some ⟨w.heap.size, 0, none⟩), .int .u64 150] 105)).alloc (.cells #[.pointer (some e)] 80)).setCell t (.pointer (some e)) := by
  have h54 := @run_callFunc_extern Tryd.prog 54 _ (fun args => ReflectliteValue.unpack (args.getD 0 (.tuple #[]))) Tryd.func54 (by kernel_rfl) (by kernel_rfl) (by kernel_rfl) (by kernel_rfl)
  have h55 := @run_callFunc_extern Tryd.prog 55 _ (ReflectliteValue.methodAny (ReflectliteValue.valueError "reflectlite.Value.Type" 0) (fun t _ _ _ => ReflectliteType.toType t)) Tryd.func55 (by kernel_rfl) (by kernel_rfl) (by kernel_rfl) (by kernel_rfl)
  have h56 := @run_callFunc_extern Tryd.prog 56 _ (ReflectliteValue.method (ReflectliteValue.valueError "reflectlite.Value.IsNil" 0) ReflectliteValue.isNil) Tryd.func56 (by kernel_rfl) (by kernel_rfl) (by kernel_rfl) (by kernel_rfl)
  have h102 := @run_callFunc_extern Tryd.prog 102 _ (ReflectliteType.abiMethod fun t => do pure (.int .u8 (← Rtype.kind t))) Tryd.func102 (by kernel_rfl) (by kernel_rfl) (by kernel_rfl) (by kernel_rfl)
  have h114 := @run_callFunc_extern Tryd.prog 114 _ (ReflectliteType.method ReflectliteType.elem) Tryd.func114 (by kernel_rfl) (by kernel_rfl) (by kernel_rfl) (by kernel_rfl)
  have h115 := @run_callFunc_extern Tryd.prog 115 _ (ReflectliteType.relation "Implements" ReflectliteType.implements_) Tryd.func115 (by kernel_rfl) (by kernel_rfl) (by kernel_rfl) (by kernel_rfl)
  have h58 := @run_callFunc_extern Tryd.prog 58 _ ReflectliteType.typeOf Tryd.func58 (by kernel_rfl) (by kernel_rfl) (by kernel_rfl) (by kernel_rfl)
  have h112 := @run_callFunc_extern Tryd.prog 112 _ (ReflectliteType.relation "AssignableTo" ReflectliteType.assignableTo) Tryd.func112 (by kernel_rfl) (by kernel_rfl) (by kernel_rfl) (by kernel_rfl)
  have h80 := @run_callFunc_extern Tryd.prog 80 _ (ReflectliteValue.method (ReflectliteValue.valueError "reflectlite.Value.Elem" 0) ReflectliteValue.elem) Tryd.func80 (by kernel_rfl) (by kernel_rfl) (by kernel_rfl) (by kernel_rfl)
  have h81 := @run_callFunc_extern Tryd.prog 81 _ ReflectliteValue.set Tryd.func81 (by kernel_rfl) (by kernel_rfl) (by kernel_rfl) (by kernel_rfl)
  have mK := methodKind
  have mE := methodElem
  have mI := methodImplements
  have mA := methodAssignableTo
  have mU := methodUnwrap
  have q1 := noAs36
  have q2 := noAs80
  have q3 := noUnwrap36
  have q4 := noUnwraps36
  have q5 := hasUnwrap80
  have q6 := notTo80
  have q7 := notTo36
  have tO := typeOf80
  have tO' := typeOf36
  have a80 := assignable80
  have a36 := assignable36
  have v80 := valueOf80
  have v36 := valueOf36
  have f6 := valueOf84
  have f7 := type84
  have k1 := kind84
  have k2 := kind80
  have e1 := elem84
  have i1 := implements80
  have n8 := isNil84 ⟨w.heap.size, 0, none⟩ t ((w.alloc (.cells #[.pointer (some t)] 84)).alloc (.cells #[.pointer (some ⟨1, 84, none⟩), .pointer (some ⟨w.heap.size, 0, none⟩), .int .u64 150] 105)) (by simp)
  have hlt : 0 < w.heap.size := by
    rcases Nat.eq_zero_or_pos w.heap.size with h0 | h
    · simp [World.cell?, h0] at hg
    · exact h
  have hg2 : ((w.alloc (.cells #[.pointer (some t)] 84)).alloc (.cells #[.pointer (some ⟨1, 84, none⟩), .pointer (some ⟨w.heap.size, 0, none⟩), .int .u64 150] 105)).cell? ⟨0, 0, none⟩ = some (.iface 135 (.agg #[.pointer (some ⟨1, 77, none⟩)])) := by
    rw [World.cell?_alloc_lt _ _ ⟨0, 0, none⟩ (by simp), World.cell?_alloc_lt _ _ ⟨0, 0, none⟩ hlt]; exact hg
  have htl : t.block < w.heap.size := by
    rcases Nat.lt_or_ge t.block w.heap.size with h | h
    · exact h
    · simp [World.cell?, Array.getElem?_eq_none h] at ht0
  have el := elemV84 ⟨w.heap.size, 0, none⟩ t (((w.alloc (.cells #[.pointer (some t)] 84)).alloc (.cells #[.pointer (some ⟨1, 84, none⟩), .pointer (some ⟨w.heap.size, 0, none⟩), .int .u64 150] 105)).alloc (.cells #[.pointer (some ⟨1, 84, none⟩), .pointer (some ⟨w.heap.size, 0, none⟩), .int .u64 150] 105)) (by rw [World.cell?_alloc_lt _ _ ⟨w.heap.size, 0, none⟩ (by simp; omega)]; simp)
  have st := set80 t ⟨w.heap.size + 1 + 1 + 1, 0, none⟩ e old ((((w.alloc (.cells #[.pointer (some t)] 84)).alloc (.cells #[.pointer (some ⟨1, 84, none⟩), .pointer (some ⟨w.heap.size, 0, none⟩), .int .u64 150] 105)).alloc (.cells #[.pointer (some ⟨1, 84, none⟩), .pointer (some ⟨w.heap.size, 0, none⟩), .int .u64 150] 105)).alloc (.cells #[.pointer (some e)] 80))
    (by rw [World.cell?_alloc_at _ _ _ _ (by simp)]; rfl)
    (by rw [World.cell?_alloc_lt _ _ t (by simp; omega), World.cell?_alloc_lt _ _ t (by simp; omega), World.cell?_alloc_lt _ _ t (by simp; omega), World.cell?_alloc_lt _ _ t htl]; exact ht0)
    (by rw [World.frozen?_alloc_old _ _ t (by simp; omega), World.frozen?_alloc_old _ _ t (by simp; omega), World.frozen?_alloc_old _ _ t (by simp; omega), World.frozen?_alloc_old _ _ t (Nat.ne_of_lt htl)]; exact hf0)
  go_enter Tryd.func37, Tryd.ntmps37
  go_wp2
  refine wp_loop_rounds 1 ?_
  rw [rounds_succ]
  go_wp2
  go_ret
  exact ⟨rfl, rfl⟩
set_option maxHeartbeats 4000000 in
theorem as_hit36 (e : Int) (t : Addr) (old : Value) (w : World) (hg : w.cell? ⟨0, 0, none⟩ = some (.iface 135 (.agg #[.pointer (some ⟨1, 77, none⟩)]))) (ht0 : w.cell? t = some old) (hf0 : w.frozen? t = false) :
    Calls Tryd.prog 37 #[.iface 36 (.int .i64 e), .iface 85 (.pointer (some t))] w fun ev w' => ev = .returned (.bool true) ∧ w' = ((((w.alloc (.cells #[.pointer (some t)] 85)).alloc (.cells #[.pointer (some ⟨1, 85, none⟩), .pointer (some ⟨w.heap.size, 0, none⟩), .int .u64 150] 105)).alloc (.cells #[.pointer (some ⟨1, 85, none⟩), .pointer (some ⟨w.heap.size, 0, none⟩), .int .u64 150] 105)).alloc (.cells #[.int .i64 e] 36)).setCell t (.int .i64 e) := by
  have h54 := @run_callFunc_extern Tryd.prog 54 _ (fun args => ReflectliteValue.unpack (args.getD 0 (.tuple #[]))) Tryd.func54 (by kernel_rfl) (by kernel_rfl) (by kernel_rfl) (by kernel_rfl)
  have h55 := @run_callFunc_extern Tryd.prog 55 _ (ReflectliteValue.methodAny (ReflectliteValue.valueError "reflectlite.Value.Type" 0) (fun t _ _ _ => ReflectliteType.toType t)) Tryd.func55 (by kernel_rfl) (by kernel_rfl) (by kernel_rfl) (by kernel_rfl)
  have h56 := @run_callFunc_extern Tryd.prog 56 _ (ReflectliteValue.method (ReflectliteValue.valueError "reflectlite.Value.IsNil" 0) ReflectliteValue.isNil) Tryd.func56 (by kernel_rfl) (by kernel_rfl) (by kernel_rfl) (by kernel_rfl)
  have h102 := @run_callFunc_extern Tryd.prog 102 _ (ReflectliteType.abiMethod fun t => do pure (.int .u8 (← Rtype.kind t))) Tryd.func102 (by kernel_rfl) (by kernel_rfl) (by kernel_rfl) (by kernel_rfl)
  have h114 := @run_callFunc_extern Tryd.prog 114 _ (ReflectliteType.method ReflectliteType.elem) Tryd.func114 (by kernel_rfl) (by kernel_rfl) (by kernel_rfl) (by kernel_rfl)
  have h115 := @run_callFunc_extern Tryd.prog 115 _ (ReflectliteType.relation "Implements" ReflectliteType.implements_) Tryd.func115 (by kernel_rfl) (by kernel_rfl) (by kernel_rfl) (by kernel_rfl)
  have h58 := @run_callFunc_extern Tryd.prog 58 _ ReflectliteType.typeOf Tryd.func58 (by kernel_rfl) (by kernel_rfl) (by kernel_rfl) (by kernel_rfl)
  have h112 := @run_callFunc_extern Tryd.prog 112 _ (ReflectliteType.relation "AssignableTo" ReflectliteType.assignableTo) Tryd.func112 (by kernel_rfl) (by kernel_rfl) (by kernel_rfl) (by kernel_rfl)
  have h80 := @run_callFunc_extern Tryd.prog 80 _ (ReflectliteValue.method (ReflectliteValue.valueError "reflectlite.Value.Elem" 0) ReflectliteValue.elem) Tryd.func80 (by kernel_rfl) (by kernel_rfl) (by kernel_rfl) (by kernel_rfl)
  have h81 := @run_callFunc_extern Tryd.prog 81 _ ReflectliteValue.set Tryd.func81 (by kernel_rfl) (by kernel_rfl) (by kernel_rfl) (by kernel_rfl)
  have mK := methodKind
  have mE := methodElem
  have mI := methodImplements
  have mA := methodAssignableTo
  have mU := methodUnwrap
  have q1 := noAs36
  have q2 := noAs80
  have q3 := noUnwrap36
  have q4 := noUnwraps36
  have q5 := hasUnwrap80
  have q6 := notTo80
  have q7 := notTo36
  have tO := typeOf80
  have tO' := typeOf36
  have a80 := assignable80
  have a36 := assignable36
  have v80 := valueOf80
  have v36 := valueOf36
  have f6 := valueOf85
  have f7 := type85
  have k1 := kind85
  have k2 := kind36
  have e1 := elem85
  have i1 := implements36
  have n8 := isNil85 ⟨w.heap.size, 0, none⟩ t ((w.alloc (.cells #[.pointer (some t)] 85)).alloc (.cells #[.pointer (some ⟨1, 85, none⟩), .pointer (some ⟨w.heap.size, 0, none⟩), .int .u64 150] 105)) (by simp)
  have hlt : 0 < w.heap.size := by
    rcases Nat.eq_zero_or_pos w.heap.size with h0 | h
    · simp [World.cell?, h0] at hg
    · exact h
  have hg2 : ((w.alloc (.cells #[.pointer (some t)] 85)).alloc (.cells #[.pointer (some ⟨1, 85, none⟩), .pointer (some ⟨w.heap.size, 0, none⟩), .int .u64 150] 105)).cell? ⟨0, 0, none⟩ = some (.iface 135 (.agg #[.pointer (some ⟨1, 77, none⟩)])) := by
    rw [World.cell?_alloc_lt _ _ ⟨0, 0, none⟩ (by simp), World.cell?_alloc_lt _ _ ⟨0, 0, none⟩ hlt]; exact hg
  have htl : t.block < w.heap.size := by
    rcases Nat.lt_or_ge t.block w.heap.size with h | h
    · exact h
    · simp [World.cell?, Array.getElem?_eq_none h] at ht0
  have el := elemV85 ⟨w.heap.size, 0, none⟩ t (((w.alloc (.cells #[.pointer (some t)] 85)).alloc (.cells #[.pointer (some ⟨1, 85, none⟩), .pointer (some ⟨w.heap.size, 0, none⟩), .int .u64 150] 105)).alloc (.cells #[.pointer (some ⟨1, 85, none⟩), .pointer (some ⟨w.heap.size, 0, none⟩), .int .u64 150] 105)) (by rw [World.cell?_alloc_lt _ _ ⟨w.heap.size, 0, none⟩ (by simp; omega)]; simp)
  have st := set36 t ⟨w.heap.size + 1 + 1 + 1, 0, none⟩ e old ((((w.alloc (.cells #[.pointer (some t)] 85)).alloc (.cells #[.pointer (some ⟨1, 85, none⟩), .pointer (some ⟨w.heap.size, 0, none⟩), .int .u64 150] 105)).alloc (.cells #[.pointer (some ⟨1, 85, none⟩), .pointer (some ⟨w.heap.size, 0, none⟩), .int .u64 150] 105)).alloc (.cells #[.int .i64 e] 36))
    (by rw [World.cell?_alloc_at _ _ _ _ (by simp)]; rfl)
    (by rw [World.cell?_alloc_lt _ _ t (by simp; omega), World.cell?_alloc_lt _ _ t (by simp; omega), World.cell?_alloc_lt _ _ t (by simp; omega), World.cell?_alloc_lt _ _ t htl]; exact ht0)
    (by rw [World.frozen?_alloc_old _ _ t (by simp; omega), World.frozen?_alloc_old _ _ t (by simp; omega), World.frozen?_alloc_old _ _ t (by simp; omega), World.frozen?_alloc_old _ _ t (Nat.ne_of_lt htl)]; exact hf0)
  go_enter Tryd.func37, Tryd.ntmps37
  go_wp2
  refine wp_loop_rounds 1 ?_
  rw [rounds_succ]
  go_wp2
  go_ret
  exact ⟨rfl, rfl⟩
set_option maxHeartbeats 4000000 in
theorem as_miss80 (e : Int) (t : Addr) (w : World) (hg : w.cell? ⟨0, 0, none⟩ = some (.iface 135 (.agg #[.pointer (some ⟨1, 77, none⟩)]))) :
    Calls Tryd.prog 37 #[.iface 36 (.int .i64 e), .iface 84 (.pointer (some t))] w fun ev w' => ev = .returned (.bool false) ∧ w' = (((w.alloc (.cells #[.pointer (some t)] 84)).alloc (.cells #[.pointer (some ⟨1, 84, none⟩), .pointer (some ⟨w.heap.size, 0, none⟩), .int .u64 150] 105)).alloc (.cells #[.pointer (some ⟨1, 84, none⟩), .pointer (some ⟨w.heap.size, 0, none⟩), .int .u64 150] 105)) := by
  have h54 := @run_callFunc_extern Tryd.prog 54 _ (fun args => ReflectliteValue.unpack (args.getD 0 (.tuple #[]))) Tryd.func54 (by kernel_rfl) (by kernel_rfl) (by kernel_rfl) (by kernel_rfl)
  have h55 := @run_callFunc_extern Tryd.prog 55 _ (ReflectliteValue.methodAny (ReflectliteValue.valueError "reflectlite.Value.Type" 0) (fun t _ _ _ => ReflectliteType.toType t)) Tryd.func55 (by kernel_rfl) (by kernel_rfl) (by kernel_rfl) (by kernel_rfl)
  have h56 := @run_callFunc_extern Tryd.prog 56 _ (ReflectliteValue.method (ReflectliteValue.valueError "reflectlite.Value.IsNil" 0) ReflectliteValue.isNil) Tryd.func56 (by kernel_rfl) (by kernel_rfl) (by kernel_rfl) (by kernel_rfl)
  have h102 := @run_callFunc_extern Tryd.prog 102 _ (ReflectliteType.abiMethod fun t => do pure (.int .u8 (← Rtype.kind t))) Tryd.func102 (by kernel_rfl) (by kernel_rfl) (by kernel_rfl) (by kernel_rfl)
  have h114 := @run_callFunc_extern Tryd.prog 114 _ (ReflectliteType.method ReflectliteType.elem) Tryd.func114 (by kernel_rfl) (by kernel_rfl) (by kernel_rfl) (by kernel_rfl)
  have h115 := @run_callFunc_extern Tryd.prog 115 _ (ReflectliteType.relation "Implements" ReflectliteType.implements_) Tryd.func115 (by kernel_rfl) (by kernel_rfl) (by kernel_rfl) (by kernel_rfl)
  have h58 := @run_callFunc_extern Tryd.prog 58 _ ReflectliteType.typeOf Tryd.func58 (by kernel_rfl) (by kernel_rfl) (by kernel_rfl) (by kernel_rfl)
  have h112 := @run_callFunc_extern Tryd.prog 112 _ (ReflectliteType.relation "AssignableTo" ReflectliteType.assignableTo) Tryd.func112 (by kernel_rfl) (by kernel_rfl) (by kernel_rfl) (by kernel_rfl)
  have h80 := @run_callFunc_extern Tryd.prog 80 _ (ReflectliteValue.method (ReflectliteValue.valueError "reflectlite.Value.Elem" 0) ReflectliteValue.elem) Tryd.func80 (by kernel_rfl) (by kernel_rfl) (by kernel_rfl) (by kernel_rfl)
  have h81 := @run_callFunc_extern Tryd.prog 81 _ ReflectliteValue.set Tryd.func81 (by kernel_rfl) (by kernel_rfl) (by kernel_rfl) (by kernel_rfl)
  have mK := methodKind
  have mE := methodElem
  have mI := methodImplements
  have mA := methodAssignableTo
  have mU := methodUnwrap
  have q1 := noAs36
  have q2 := noAs80
  have q3 := noUnwrap36
  have q4 := noUnwraps36
  have q5 := hasUnwrap80
  have q6 := notTo80
  have q7 := notTo36
  have tO := typeOf80
  have tO' := typeOf36
  have a80 := assignable80
  have a36 := assignable36
  have v80 := valueOf80
  have v36 := valueOf36
  have f6 := valueOf84
  have f7 := type84
  have k1 := kind84
  have k2 := kind80
  have e1 := elem84
  have i1 := implements80
  have n8 := isNil84 ⟨w.heap.size, 0, none⟩ t ((w.alloc (.cells #[.pointer (some t)] 84)).alloc (.cells #[.pointer (some ⟨1, 84, none⟩), .pointer (some ⟨w.heap.size, 0, none⟩), .int .u64 150] 105)) (by simp)
  have hlt : 0 < w.heap.size := by
    rcases Nat.eq_zero_or_pos w.heap.size with h0 | h
    · simp [World.cell?, h0] at hg
    · exact h
  have hg2 : ((w.alloc (.cells #[.pointer (some t)] 84)).alloc (.cells #[.pointer (some ⟨1, 84, none⟩), .pointer (some ⟨w.heap.size, 0, none⟩), .int .u64 150] 105)).cell? ⟨0, 0, none⟩ = some (.iface 135 (.agg #[.pointer (some ⟨1, 77, none⟩)])) := by
    rw [World.cell?_alloc_lt _ _ ⟨0, 0, none⟩ (by simp), World.cell?_alloc_lt _ _ ⟨0, 0, none⟩ hlt]; exact hg
  go_enter Tryd.func37, Tryd.ntmps37
  go_wp2
  refine wp_loop_rounds 1 ?_
  rw [rounds_succ]
  go_wp2
  go_ret
  exact ⟨rfl, rfl⟩
set_option maxHeartbeats 4000000 in
theorem as_unwrap36 (pb po : Nat) (e : Int) (t : Addr) (old : Value) (w : World) (hg : w.cell? ⟨0, 0, none⟩ = some (.iface 135 (.agg #[.pointer (some ⟨1, 77, none⟩)]))) (ht0 : w.cell? t = some old) (hf0 : w.frozen? t = false) (h1 : w.cell? ⟨pb, po + 1, none⟩ = some (.iface 36 (.int .i64 e))) :
    Calls Tryd.prog 37 #[.iface 80 (.pointer (some ⟨pb, po, none⟩)), .iface 85 (.pointer (some t))] w fun ev w' => ev = .returned (.bool true) ∧ w' = ((((w.alloc (.cells #[.pointer (some t)] 85)).alloc (.cells #[.pointer (some ⟨1, 85, none⟩), .pointer (some ⟨w.heap.size, 0, none⟩), .int .u64 150] 105)).alloc (.cells #[.pointer (some ⟨1, 85, none⟩), .pointer (some ⟨w.heap.size, 0, none⟩), .int .u64 150] 105)).alloc (.cells #[.int .i64 e] 36)).setCell t (.int .i64 e) := by
  have h54 := @run_callFunc_extern Tryd.prog 54 _ (fun args => ReflectliteValue.unpack (args.getD 0 (.tuple #[]))) Tryd.func54 (by kernel_rfl) (by kernel_rfl) (by kernel_rfl) (by kernel_rfl)
  have h55 := @run_callFunc_extern Tryd.prog 55 _ (ReflectliteValue.methodAny (ReflectliteValue.valueError "reflectlite.Value.Type" 0) (fun t _ _ _ => ReflectliteType.toType t)) Tryd.func55 (by kernel_rfl) (by kernel_rfl) (by kernel_rfl) (by kernel_rfl)
  have h56 := @run_callFunc_extern Tryd.prog 56 _ (ReflectliteValue.method (ReflectliteValue.valueError "reflectlite.Value.IsNil" 0) ReflectliteValue.isNil) Tryd.func56 (by kernel_rfl) (by kernel_rfl) (by kernel_rfl) (by kernel_rfl)
  have h102 := @run_callFunc_extern Tryd.prog 102 _ (ReflectliteType.abiMethod fun t => do pure (.int .u8 (← Rtype.kind t))) Tryd.func102 (by kernel_rfl) (by kernel_rfl) (by kernel_rfl) (by kernel_rfl)
  have h114 := @run_callFunc_extern Tryd.prog 114 _ (ReflectliteType.method ReflectliteType.elem) Tryd.func114 (by kernel_rfl) (by kernel_rfl) (by kernel_rfl) (by kernel_rfl)
  have h115 := @run_callFunc_extern Tryd.prog 115 _ (ReflectliteType.relation "Implements" ReflectliteType.implements_) Tryd.func115 (by kernel_rfl) (by kernel_rfl) (by kernel_rfl) (by kernel_rfl)
  have h58 := @run_callFunc_extern Tryd.prog 58 _ ReflectliteType.typeOf Tryd.func58 (by kernel_rfl) (by kernel_rfl) (by kernel_rfl) (by kernel_rfl)
  have h112 := @run_callFunc_extern Tryd.prog 112 _ (ReflectliteType.relation "AssignableTo" ReflectliteType.assignableTo) Tryd.func112 (by kernel_rfl) (by kernel_rfl) (by kernel_rfl) (by kernel_rfl)
  have h80 := @run_callFunc_extern Tryd.prog 80 _ (ReflectliteValue.method (ReflectliteValue.valueError "reflectlite.Value.Elem" 0) ReflectliteValue.elem) Tryd.func80 (by kernel_rfl) (by kernel_rfl) (by kernel_rfl) (by kernel_rfl)
  have h81 := @run_callFunc_extern Tryd.prog 81 _ ReflectliteValue.set Tryd.func81 (by kernel_rfl) (by kernel_rfl) (by kernel_rfl) (by kernel_rfl)
  have mK := methodKind
  have mE := methodElem
  have mI := methodImplements
  have mA := methodAssignableTo
  have mU := methodUnwrap
  have q1 := noAs36
  have q2 := noAs80
  have q3 := noUnwrap36
  have q4 := noUnwraps36
  have q5 := hasUnwrap80
  have q6 := notTo80
  have q7 := notTo36
  have tO := typeOf80
  have tO' := typeOf36
  have a80 := assignable80
  have a36 := assignable36
  have v80 := valueOf80
  have v36 := valueOf36
  have f6 := valueOf85
  have f7 := type85
  have k1 := kind85
  have k2 := kind36
  have e1 := elem85
  have i1 := implements36
  have n8 := isNil85 ⟨w.heap.size, 0, none⟩ t ((w.alloc (.cells #[.pointer (some t)] 85)).alloc (.cells #[.pointer (some ⟨1, 85, none⟩), .pointer (some ⟨w.heap.size, 0, none⟩), .int .u64 150] 105)) (by simp)
  have hlt : 0 < w.heap.size := by
    rcases Nat.eq_zero_or_pos w.heap.size with h0 | h
    · simp [World.cell?, h0] at hg
    · exact h
  have hg2 : ((w.alloc (.cells #[.pointer (some t)] 85)).alloc (.cells #[.pointer (some ⟨1, 85, none⟩), .pointer (some ⟨w.heap.size, 0, none⟩), .int .u64 150] 105)).cell? ⟨0, 0, none⟩ = some (.iface 135 (.agg #[.pointer (some ⟨1, 77, none⟩)])) := by
    rw [World.cell?_alloc_lt _ _ ⟨0, 0, none⟩ (by simp), World.cell?_alloc_lt _ _ ⟨0, 0, none⟩ hlt]; exact hg
  have htl : t.block < w.heap.size := by
    rcases Nat.lt_or_ge t.block w.heap.size with h | h
    · exact h
    · simp [World.cell?, Array.getElem?_eq_none h] at ht0
  have el := elemV85 ⟨w.heap.size, 0, none⟩ t (((w.alloc (.cells #[.pointer (some t)] 85)).alloc (.cells #[.pointer (some ⟨1, 85, none⟩), .pointer (some ⟨w.heap.size, 0, none⟩), .int .u64 150] 105)).alloc (.cells #[.pointer (some ⟨1, 85, none⟩), .pointer (some ⟨w.heap.size, 0, none⟩), .int .u64 150] 105)) (by rw [World.cell?_alloc_lt _ _ ⟨w.heap.size, 0, none⟩ (by simp; omega)]; simp)
  have st := set36 t ⟨w.heap.size + 1 + 1 + 1, 0, none⟩ e old ((((w.alloc (.cells #[.pointer (some t)] 85)).alloc (.cells #[.pointer (some ⟨1, 85, none⟩), .pointer (some ⟨w.heap.size, 0, none⟩), .int .u64 150] 105)).alloc (.cells #[.pointer (some ⟨1, 85, none⟩), .pointer (some ⟨w.heap.size, 0, none⟩), .int .u64 150] 105)).alloc (.cells #[.int .i64 e] 36))
    (by rw [World.cell?_alloc_at _ _ _ _ (by simp)]; rfl)
    (by rw [World.cell?_alloc_lt _ _ t (by simp; omega), World.cell?_alloc_lt _ _ t (by simp; omega), World.cell?_alloc_lt _ _ t (by simp; omega), World.cell?_alloc_lt _ _ t htl]; exact ht0)
    (by rw [World.frozen?_alloc_old _ _ t (by simp; omega), World.frozen?_alloc_old _ _ t (by simp; omega), World.frozen?_alloc_old _ _ t (by simp; omega), World.frozen?_alloc_old _ _ t (Nat.ne_of_lt htl)]; exact hf0)
  have hpl : pb < w.heap.size := by
    rcases Nat.lt_or_ge pb w.heap.size with h | h
    · exact h
    · simp [World.cell?, Array.getElem?_eq_none h] at h1
  have hp3 : (((w.alloc (.cells #[.pointer (some t)] 85)).alloc (.cells #[.pointer (some ⟨1, 85, none⟩), .pointer (some ⟨w.heap.size, 0, none⟩), .int .u64 150] 105)).alloc (.cells #[.pointer (some ⟨1, 85, none⟩), .pointer (some ⟨w.heap.size, 0, none⟩), .int .u64 150] 105)).cell? ⟨pb, po + 1, none⟩ = some (.iface 36 (.int .i64 e)) := by
    rw [World.cell?_alloc_lt _ _ ⟨pb, po + 1, none⟩ (by simp; omega), World.cell?_alloc_lt _ _ ⟨pb, po + 1, none⟩ (by simp; omega), World.cell?_alloc_lt _ _ ⟨pb, po + 1, none⟩ hpl]; exact h1
  go_enter Tryd.func37, Tryd.ntmps37
  go_wp2
  refine wp_loop_rounds 2 ?_
  rw [rounds_succ]
  go_wp2
  rw [rounds_succ]
  go_wp2
  go_ret
  exact ⟨rfl, rfl⟩
end Go.Proofs.YtoecebibhcadoaaDoor.I
namespace Go.Proofs.YtoecebibhcadoaaDoor.I
open Go Go.RowKit Go.Extern.Stop Go.Stop Go.Extern Go.Lib
set_option linter.unusedVariables false
set_option linter.unusedSimpArgs false
theorem comparable36' (w : World) : ((ReflectliteType.method fun t => do Rtype.noPackHeld "Comparable" t; (fun a => Value.bool a.comparable) <$> typeInfo t) #[.agg #[.pointer (some ⟨1, 36, none⟩)]]).run Tryd.prog w = .ok (.bool true) w := by kernel_rfl
theorem is_nil (x : Int) (w : World) : Calls Tryd.prog 38 #[.nilIface, .iface 36 (.int .i64 x)] w fun e w' => e = .returned (.bool false) ∧ w' = w := by
  have hn := run_eql_iface_nil_left (P := Tryd.prog) w 36 (.int .i64 x) Tryd.underlying77
  go_enter Tryd.func38, Tryd.ntmps38
  go_wp2
  go_ret
  exact ⟨rfl, rfl⟩
theorem is_same36 (x : Int) (w : World) : Calls Tryd.prog 38 #[.iface 36 (.int .i64 x), .iface 36 (.int .i64 x)] w fun e w' => e = .returned (.bool true) ∧ w' = w := by
  obtain ⟨e, he⟩ : ∃ e, e = x := ⟨_, rfl⟩
  have h58 := @run_callFunc_extern Tryd.prog 58 _ ReflectliteType.typeOf Tryd.func58 (by kernel_rfl) (by kernel_rfl) (by kernel_rfl) (by kernel_rfl)
  have h113 := @run_callFunc_extern Tryd.prog 113 _ (ReflectliteType.method fun t => do Rtype.noPackHeld "Comparable" t; pure (.bool (← typeInfo t).comparable)) Tryd.func113 (by kernel_rfl) (by kernel_rfl) (by kernel_rfl) (by kernel_rfl)
  have tO' := typeOf36
  have cT := comparable36'
  have mC := methodComparable
  have mU := methodUnwrap
  have q1 := noIs36
  have q2 := noIs80
  have q3 := noUnwrap36
  have q4 := noUnwraps36
  have q5 := hasUnwrap80
  have heq := fun W => run_eql_iface_int (P := Tryd.prog) (k := .i64) W x x Tryd.underlying77 (by kernel_rfl) Tryd.underlying36
  simp only [beq_self_eq_true] at heq
  go_enter Tryd.func38, Tryd.ntmps38
  go_wp2
  refine wp_loop_rounds 1 ?_
  rw [rounds_succ]
  go_wp2
  go_ret
  exact ⟨rfl, rfl⟩
theorem is_other36 (e x : Int) (w : World) (hne : e ≠ x) : Calls Tryd.prog 38 #[.iface 36 (.int .i64 e), .iface 36 (.int .i64 x)] w fun e w' => e = .returned (.bool false) ∧ w' = w := by
  have h58 := @run_callFunc_extern Tryd.prog 58 _ ReflectliteType.typeOf Tryd.func58 (by kernel_rfl) (by kernel_rfl) (by kernel_rfl) (by kernel_rfl)
  have h113 := @run_callFunc_extern Tryd.prog 113 _ (ReflectliteType.method fun t => do Rtype.noPackHeld "Comparable" t; pure (.bool (← typeInfo t).comparable)) Tryd.func113 (by kernel_rfl) (by kernel_rfl) (by kernel_rfl) (by kernel_rfl)
  have tO' := typeOf36
  have cT := comparable36'
  have mC := methodComparable
  have mU := methodUnwrap
  have q1 := noIs36
  have q2 := noIs80
  have q3 := noUnwrap36
  have q4 := noUnwraps36
  have q5 := hasUnwrap80
  have heq := fun W => run_eql_iface_int (P := Tryd.prog) (k := .i64) W e x Tryd.underlying77 (by kernel_rfl) Tryd.underlying36
  simp only [show (e == x) = false by simpa using hne] at heq
  go_enter Tryd.func38, Tryd.ntmps38
  go_wp2
  refine wp_loop_rounds 1 ?_
  rw [rounds_succ]
  go_wp2
  go_ret
  exact ⟨rfl, rfl⟩
theorem is_wrap (pb po : Nat) (e x : Int) (w : World) (hne : e ≠ x) (h1 : w.cell? ⟨pb, po + 1, none⟩ = some (.iface 36 (.int .i64 e))) : Calls Tryd.prog 38 #[.iface 80 (.pointer (some ⟨pb, po, none⟩)), .iface 36 (.int .i64 x)] w fun e w' => e = .returned (.bool false) ∧ w' = w := by
  have h58 := @run_callFunc_extern Tryd.prog 58 _ ReflectliteType.typeOf Tryd.func58 (by kernel_rfl) (by kernel_rfl) (by kernel_rfl) (by kernel_rfl)
  have h113 := @run_callFunc_extern Tryd.prog 113 _ (ReflectliteType.method fun t => do Rtype.noPackHeld "Comparable" t; pure (.bool (← typeInfo t).comparable)) Tryd.func113 (by kernel_rfl) (by kernel_rfl) (by kernel_rfl) (by kernel_rfl)
  have tO' := typeOf36
  have cT := comparable36'
  have mC := methodComparable
  have mU := methodUnwrap
  have q1 := noIs36
  have q2 := noIs80
  have q3 := noUnwrap36
  have q4 := noUnwraps36
  have q5 := hasUnwrap80
  have heq := fun W => run_eql_iface_int (P := Tryd.prog) (k := .i64) W e x Tryd.underlying77 (by kernel_rfl) Tryd.underlying36
  simp only [show (e == x) = false by simpa using hne] at heq
  have hty := run_eql_iface_types (P := Tryd.prog) 80 36 (.pointer (some ⟨pb, po, none⟩)) (.int .i64 x) Tryd.underlying77 (by decide) w
  go_enter Tryd.func38, Tryd.ntmps38
  go_wp2
  refine wp_loop_rounds 2 ?_
  rw [rounds_succ]
  go_wp2
  rw [rounds_succ]
  go_wp2
  go_ret
  exact ⟨rfl, rfl⟩
end Go.Proofs.YtoecebibhcadoaaDoor.I
namespace Go.Proofs.YtoecebibhcadoaaDoor.I
open Go Go.RowKit
set_option linter.unusedVariables false
set_option linter.unusedSimpArgs false
theorem HR.errT {B : Nat} {w0 w : World} {ρ : Ren} {H : Heap} (h : HR B w0 ρ H w) : w.cell? ⟨0, 0, none⟩ = some (.iface 135 (.agg #[.pointer (some ⟨1, 77, none⟩)])) :=
  ((h.pin.later h.below h.base) (0, .iface 135 (.agg #[.pointer (some ⟨1, 77, none⟩)])) (List.mem_singleton.2 rfl)).2
def errV (e : Int) : Value := .iface 36 (.int .i64 e)
def placedV (b : Nat) : Value := .iface 80 (.pointer (some ⟨b, 0, none⟩))
theorem vr_ifp {ρ : Ren} {t : TypeId} {b o : Nat} {v : Value} (h : VR ρ (.iface t (.pointer (some ⟨b, o, none⟩))) v) : ∃ q s n, ρ b = some (.lies q s n) ∧ v = .iface t (.pointer (some ⟨q, s + o, none⟩)) := by
  cases h with
  | plain hq => simp [plain0] at hq
  | iface h =>
    cases h with
    | plain hq => simp [plain0] at hq
    | ptr e => exact ⟨_, _, _, e, rfl⟩
theorem vr_ife {ρ : Ren} {e : Int} {v : Value} (h : VR ρ (errV e) v) : v = errV e := by
  cases h with
  | plain hq => rfl
  | iface h => rw [h.eq_of_plain0 rfl]; rfl
theorem vr2 {ρ : Ren} {a b : Value} {l : List Value} (h : VRL ρ [a, b] l) : ∃ a' b', l = [a', b'] ∧ VR ρ a a' ∧ VR ρ b b' := by
  cases h with
  | cons h1 h2 =>
  cases h2 with
  | cons h2 h3 =>
  cases h3
  exact ⟨_, _, rfl, h1, h2⟩
theorem HR.box {B : Nat} {w0 w : World} {ρ : Ren} {H : Heap} (h : HR B w0 ρ H w) {b : Nat} {old : Value} (hb : H.get b = some ⟨[old], true⟩) {q s n : Nat} (e : ρ b = some (.lies q s n)) :
    ∃ u, w.cell? ⟨q, s + 0, none⟩ = some u ∧ w.frozen? ⟨q, s + 0, none⟩ = false := by
  obtain ⟨q', s', n', e', hl, hc, ho⟩ := h.live b _ hb
  rw [e] at e'; cases e'
  obtain ⟨u, h1, _⟩ := hc 0 old rfl
  exact ⟨u, h1, ((ho rfl).2 (s + 0) (by simp at hl ⊢; omega)).1⟩
theorem HR.put1 {B : Nat} {w0 w w' : World} {ρ : Ren} {H : Heap} (h : HR B w0 ρ H w) (hw : Below w.heap.size w w') {b : Nat} {old v v' : Value} (hb : H.get b = some ⟨[old], true⟩) {q s n : Nat} (e : ρ b = some (.lies q s n)) (hv : VR ρ v v') :
    HR B w0 ρ (H.set b [v]) (w'.setCell ⟨q, s + 0, none⟩ v') := by
  have hp : H.put b 0 [v] = some (H.set b [v]) := by unfold Heap.put; rw [hb]; simp [splice]
  obtain ⟨q', s', n', e', _, _, h3⟩ := (h.of_same hw).put hp (.cons hv .nil)
  rw [e] at e'; cases e'
  exact h3
theorem below4 (w : World) (a b c d : Obj) : Below w.heap.size w ((((w.alloc a).alloc b).alloc c).alloc d) := by
  refine Below.trans (Below.refl w.heap.size w) ?_
  refine ((((Below.refl w.heap.size w).alloc (Nat.le_refl _) a).alloc (by simp) b).alloc (by simp; omega) c).alloc (by simp; omega) d
theorem below3 (w : World) (a b c : Obj) : Below w.heap.size w (((w.alloc a).alloc b).alloc c) :=
  ((((Below.refl w.heap.size w).alloc (Nat.le_refl _) a).alloc (by simp) b).alloc (by simp; omega) c)
section
variable (H : Heap)
theorem asNil (v : Value) : ICalls Tryd.prog 37 [.nilIface, v] H fun u H' => u = .bool false ∧ H' = H := by
  refine IBody.calls (by kernel_rfl) fun B w0 ρ args' w hh hargs => ?_
  obtain ⟨args⟩ := args'
  obtain ⟨a', b', rfl, h1, h2⟩ := vr2 hargs
  rw [h1.eq_of_plain0 rfl]
  refine (as_nil b' w).mono ?_
  rintro e w' ⟨rfl, rfl⟩
  exact ⟨ρ, _, _, H, rfl, ⟨rfl, rfl⟩, .plain rfl, hh, Ren.Le.refl _, Nat.le_refl _⟩
theorem asMiss (e : Int) (b : Nat) : ICalls Tryd.prog 37 [errV e, .iface 84 (.pointer (some ⟨b, 0, none⟩))] H fun u H' => u = .bool false ∧ H' = H := by
  refine IBody.calls (by kernel_rfl) fun B w0 ρ args' w hh hargs => ?_
  obtain ⟨args⟩ := args'
  obtain ⟨a', b', rfl, h1, h2⟩ := vr2 hargs
  rw [vr_ife h1]
  obtain ⟨q, s, n, e1, rfl⟩ := vr_ifp h2
  refine (as_miss80 e _ w hh.errT).mono ?_
  rintro e w' ⟨rfl, rfl⟩
  exact ⟨ρ, _, _, H, rfl, ⟨rfl, rfl⟩, .plain rfl, hh.of_same (below3 _ _ _ _), Ren.Le.refl _, Nat.le_refl _⟩
theorem asHitE (e : Int) (b : Nat) (old : Value) (hb : H.get b = some ⟨[old], true⟩) : ICalls Tryd.prog 37 [errV e, .iface 85 (.pointer (some ⟨b, 0, none⟩))] H fun u H' => u = .bool true ∧ H' = H.set b [.int .i64 e] := by
  refine IBody.calls (by kernel_rfl) fun B w0 ρ args' w hh hargs => ?_
  obtain ⟨args⟩ := args'
  obtain ⟨a', b', rfl, h1, h2⟩ := vr2 hargs
  rw [vr_ife h1]
  obtain ⟨q, s, n, e1, rfl⟩ := vr_ifp h2
  obtain ⟨u, h3, h4⟩ := hh.box hb e1
  refine (as_hit36 e _ u w hh.errT h3 h4).mono ?_
  rintro e' w' ⟨rfl, rfl⟩
  exact ⟨ρ, _, _, _, rfl, ⟨rfl, rfl⟩, .plain rfl, hh.put1 (below4 _ _ _ _ _) hb e1 (.plain rfl), Ren.Le.refl _, Nat.le_refl _⟩
theorem asHitP (p b : Nat) (old : Value) (hb : H.get b = some ⟨[old], true⟩) : ICalls Tryd.prog 37 [placedV p, .iface 84 (.pointer (some ⟨b, 0, none⟩))] H fun u H' => u = .bool true ∧ H' = H.set b [.pointer (some ⟨p, 0, none⟩)] := by
  refine IBody.calls (by kernel_rfl) fun B w0 ρ args' w hh hargs => ?_
  obtain ⟨args⟩ := args'
  obtain ⟨a', b', rfl, h1, h2⟩ := vr2 hargs
  obtain ⟨q2, s2, n2, e2, rfl⟩ := vr_ifp h1
  obtain ⟨q, s, n, e1, rfl⟩ := vr_ifp h2
  obtain ⟨u, h3, h4⟩ := hh.box hb e1
  refine (as_hit80 _ _ u w hh.errT h3 h4).mono ?_
  rintro e' w' ⟨rfl, rfl⟩
  exact ⟨ρ, _, _, _, rfl, ⟨rfl, rfl⟩, .plain rfl, hh.put1 (below4 _ _ _ _ _) hb e1 (.ptr e2), Ren.Le.refl _, Nat.le_refl _⟩
theorem HR.placed {B : Nat} {w0 w : World} {ρ : Ren} {H : Heap} (h : HR B w0 ρ H w) {p : Nat} {at_ e : Int} {own : Bool} (hp : H.get p = some ⟨[.int .i64 at_, errV e], own⟩) {q s n : Nat} (e1 : ρ p = some (.lies q s n)) :
    w.cell? ⟨q, s + 0 + 1, none⟩ = some (.iface 36 (.int .i64 e)) := by
  obtain ⟨q', s', n', e', hl, hc, ho⟩ := h.live p _ hp
  rw [e1] at e'; cases e'
  obtain ⟨u, h1, h2⟩ := hc 1 _ rfl
  rw [vr_ife h2] at h1
  exact h1
theorem asWrapE (p b : Nat) (at_ e : Int) (own : Bool) (old : Value) (hp : H.get p = some ⟨[.int .i64 at_, errV e], own⟩) (hb : H.get b = some ⟨[old], true⟩) :
    ICalls Tryd.prog 37 [placedV p, .iface 85 (.pointer (some ⟨b, 0, none⟩))] H fun u H' => u = .bool true ∧ H' = H.set b [.int .i64 e] := by
  refine IBody.calls (by kernel_rfl) fun B w0 ρ args' w hh hargs => ?_
  obtain ⟨args⟩ := args'
  obtain ⟨a', b', rfl, h1, h2⟩ := vr2 hargs
  obtain ⟨q2, s2, n2, e2, rfl⟩ := vr_ifp h1
  obtain ⟨q, s, n, e1, rfl⟩ := vr_ifp h2
  obtain ⟨u, h3, h4⟩ := hh.box hb e1
  refine (as_unwrap36 _ _ e _ u w hh.errT h3 h4 (hh.placed hp e2)).mono ?_
  rintro e' w' ⟨rfl, rfl⟩
  exact ⟨ρ, _, _, _, rfl, ⟨rfl, rfl⟩, .plain rfl, hh.put1 (below4 _ _ _ _ _) hb e1 (.plain rfl), Ren.Le.refl _, Nat.le_refl _⟩
theorem isNil (x : Int) : ICalls Tryd.prog 38 [.nilIface, errV x] H fun u H' => u = .bool false ∧ H' = H := by
  refine IBody.calls (by kernel_rfl) fun B w0 ρ args' w hh hargs => ?_
  obtain ⟨args⟩ := args'
  obtain ⟨a', b', rfl, h1, h2⟩ := vr2 hargs
  rw [h1.eq_of_plain0 rfl, vr_ife h2]
  refine (is_nil x w).mono ?_
  rintro e w' ⟨rfl, rfl⟩
  exact ⟨ρ, _, _, H, rfl, ⟨rfl, rfl⟩, .plain rfl, hh, Ren.Le.refl _, Nat.le_refl _⟩
theorem isErr (e x : Int) : ICalls Tryd.prog 38 [errV e, errV x] H fun u H' => u = .bool (decide (e = x)) ∧ H' = H := by
  refine IBody.calls (by kernel_rfl) fun B w0 ρ args' w hh hargs => ?_
  obtain ⟨args⟩ := args'
  obtain ⟨a', b', rfl, h1, h2⟩ := vr2 hargs
  rw [vr_ife h1, vr_ife h2]
  by_cases he : e = x
  · subst he
    refine (is_same36 e w).mono ?_
    rintro e' w' ⟨rfl, rfl⟩
    exact ⟨ρ, _, _, H, rfl, ⟨by simp, rfl⟩, .plain rfl, hh, Ren.Le.refl _, Nat.le_refl _⟩
  · refine (is_other36 e x w he).mono ?_
    rintro e' w' ⟨rfl, rfl⟩
    exact ⟨ρ, _, _, H, rfl, ⟨by simp [he], rfl⟩, .plain rfl, hh, Ren.Le.refl _, Nat.le_refl _⟩
theorem isWrap (p : Nat) (at_ e x : Int) (own : Bool) (hne : e ≠ x) (hp : H.get p = some ⟨[.int .i64 at_, errV e], own⟩) : ICalls Tryd.prog 38 [placedV p, errV x] H fun u H' => u = .bool false ∧ H' = H := by
  refine IBody.calls (by kernel_rfl) fun B w0 ρ args' w hh hargs => ?_
  obtain ⟨args⟩ := args'
  obtain ⟨a', b', rfl, h1, h2⟩ := vr2 hargs
  obtain ⟨q2, s2, n2, e2, rfl⟩ := vr_ifp h1
  rw [vr_ife h2]
  refine (is_wrap _ _ e x w hne (hh.placed hp e2)).mono ?_
  rintro e' w' ⟨rfl, rfl⟩
  exact ⟨ρ, _, _, H, rfl, ⟨rfl, rfl⟩, .plain rfl, hh, Ren.Le.refl _, Nat.le_refl _⟩
end
end Go.Proofs.YtoecebibhcadoaaDoor.I
namespace Go.Proofs.YtoecebibhcadoaaDoor.I
open Go Go.RowKit
set_option linter.unusedVariables false
set_option linter.unusedSimpArgs false
theorem equal (H : Heap) (m k : Int) (L M : List Int) (hL : Bs L) (hM : Bs M) :
    ICalls Tryd.prog 65 [frow 1 m (L.map (Value.int .u8)), frow 1 k (M.map (Value.int .u8))] H fun v H' => v = .bool (decide (L = M)) ∧ H' = H := by
  refine IBody.calls (by kernel_rfl) ?_
  refine IBody.of Tryd.func65 rfl (by rw [Tryd.ntmps65]; simp) ?_
  rw [Tryd.ntmps65]
  have Kp : Kept [[0,1],[4],[]] := ⟨⟩
  iterate 3 (refine Kp.s ?_; clear Kp; intro Kp; simp [go_sem, -getElem?_pos, -List.map_take, -List.map_drop, IntWalk.iteOmega, IntWalk.toNatUp, strOf_beq hL hM])
end Go.Proofs.YtoecebibhcadoaaDoor.I
namespace Go.Proofs.YtoecebibhcadoaaDoor.I
open Go Go.RowKit
set_option linter.unusedVariables false
set_option linter.unusedSimpArgs false
def turn1 (x : BitVec 16) : BitVec 16 := if x &&& 32768#16 = 0#16 then x <<< 1 else (x <<< 1) ^^^ 4129#16
def turns : Nat → BitVec 16 → BitVec 16
  | 0, x => x
  | k + 1, x => turn1 (turns k x)
def crcByte (x : BitVec 16) (b : Int) : BitVec 16 := turns 8 (x ^^^ (BitVec.ofInt 16 b <<< 8))
def crc (L : List Int) : BitVec 16 := L.foldl crcByte 65535#16
theorem b16 (x : BitVec 16) : BitVec.ofInt 16 (x.toNat : Int) = x := by
  apply BitVec.eq_of_toNat_eq; rw [BitVec.toNat_ofInt]; have := x.isLt; omega
theorem w16 (x : BitVec 16) : IntKind.u16.wrap (x.toNat : Int) = x.toNat := IntWalk.u16_in _ (by have := x.isLt; omega)
theorem wrap_u16' (n : Int) : IntKind.u16.wrap n = n % 65536 := by simp [IntKind.wrap, IntKind.bits, IntKind.signed]
theorem sh1 (x : BitVec 16) : IntKind.u16.wrap ((x.toNat : Int) * 2) = ((x <<< 1).toNat : Int) := by
  rw [wrap_u16', BitVec.toNat_shiftLeft, Nat.shiftLeft_eq]; omega
theorem sh8 (b : Int) (h : 0 ≤ b ∧ b < 256) : IntKind.u16.wrap (b * 256) = ((BitVec.ofInt 16 b <<< 8).toNat : Int) := by
  rw [wrap_u16', BitVec.toNat_shiftLeft, Nat.shiftLeft_eq, BitVec.toNat_ofInt]; omega
theorem zero16 (x : BitVec 16) : ((x.toNat : Int) = 0) = (x = 0#16) := by
  apply propext
  refine ⟨fun h => BitVec.eq_of_toNat_eq (by simp; omega), fun h => by rw [h]; rfl⟩
theorem zero16n (x : BitVec 16) : (x.toNat = 0) = (x = 0#16) := by
  apply propext
  exact ⟨fun h => BitVec.eq_of_toNat_eq (by simp; omega), fun h => by rw [h]; rfl⟩
theorem sumOf (H : Heap) (m : Int) (L : List Int) (hL : L.length ≤ 1000000) (hB : Bs L) :
    ICalls Tryd.prog 47 [frow 1 m (L.map (Value.int .u8))] H fun v H' => v = .int .u16 ((crc L).toNat : Int) ∧ H' = H := by
  refine IBody.calls (by kernel_rfl) ?_
  refine IBody.of Tryd.func47 rfl (by rw [Tryd.ntmps47]; simp) ?_
  rw [Tryd.ntmps47]
  have Kp : Kept [[0],[0,3],[3,7,8,9]] := ⟨⟩
  iterate 3 (refine Kp.s ?_; clear Kp; intro Kp; simp [go_sem, -getElem?_pos, -List.map_take, -List.map_drop, IntWalk.iteOmega, IntWalk.toNatUp])
  refine IWp.block ?_
  refine IWp.loop (fun j e K => ∃ i : Nat, j = L.length - i ∧ i ≤ L.length ∧ e = [(3, .int .u16 ((crc (L.take i)).toNat : Int)), (7, frow 1 m (L.map (Value.int .u8))), (8, .int .i64 (L.length : Int)), (9, .int .i64 (i : Int))] ∧ K = H) L.length ⟨0, rfl, Nat.zero_le _, rfl, rfl⟩ ?_
  rintro j e K ⟨i, rfl, hi, rfl, rfl⟩
  by_cases hlt : i < L.length
  · have w1 := IntWalk.i64_in ((i : Int) + 1) (by omega)
    have hb := hB _ (List.getElem_mem hlt)
    have w2 := IntWalk.u16_in L[i] (by omega)
    have w3 := sh8 L[i] hb
    have Kp : Kept [[3,7,8,9,10],[],[3,7,8,9],[3,5,7,8,9],[3,7,8,9],[3,7,8,9,18]] := ⟨⟩
    iterate 6 (refine Kp.s ?_; clear Kp; intro Kp; simp [go_sem, -getElem?_pos, -List.map_take, -List.map_drop, IntWalk.iteOmega, IntWalk.toNatUp, hlt, List.getElem?_eq_getElem hlt, w1, w2, w3, b16, w16, -BitVec.toNat_and, -BitVec.toNat_xor, -BitVec.toNat_shiftLeft, show ¬ ((i : Int) < 0) by omega])
    refine IWp.block ?_
    refine IWp.loop (fun j e K2 => ∃ k : Nat, j = 8 - k ∧ k ≤ 8 ∧ e = [(3, .int .u16 ((turns k (crc (L.take i) ^^^ (BitVec.ofInt 16 L[i] <<< 8))).toNat : Int)), (7, frow 1 m (L.map (Value.int .u8))), (8, .int .i64 (L.length : Int)), (9, .int .i64 (i : Int)), (18, .int .i64 (k : Int))] ∧ K2 = K) 8 ⟨0, rfl, by omega, rfl, rfl⟩ ?_
    rintro j e K2 ⟨k, rfl, hm, rfl, rfl⟩
    by_cases hm8 : k < 8
    · have w5 := IntWalk.i64_in ((k : Int) + 1) (by omega)
      generalize hx : turns k (crc (L.take i) ^^^ (BitVec.ofInt 16 L[i] <<< 8)) = x
      by_cases ht : x &&& 32768#16 = 0#16
      · have ht2 : (x &&& 32768#16).toNat = 0 := by rw [ht]; rfl
        have Kp : Kept [[3,7,8,9,18,19],[],[3,7,8,9,18],[3,6,7,8,9,18],[3,6,7,8,9,18],[3,7,8,9,18,25],[],[3,7,8,9,18],[3,7,8,9,18]] := ⟨⟩
        iterate 9 (refine Kp.s ?_; clear Kp; intro Kp; simp [go_sem, -getElem?_pos, -List.map_take, -List.map_drop, IntWalk.iteOmega, IntWalk.toNatUp, ht2, b16, w16, sh1, w5, -BitVec.toNat_and, -BitVec.toNat_xor, -BitVec.toNat_shiftLeft, show (k : Int) < 8 by omega])
        exact ⟨8 - (k + 1), by omega, k + 1, rfl, by omega, by simp only [turns, hx, turn1, if_pos ht], rfl⟩
      · have ht2 : ¬ (x &&& 32768#16).toNat = 0 := fun e => ht (BitVec.eq_of_toNat_eq (by rw [e]; rfl))
        have Kp : Kept [[3,7,8,9,18,19],[],[3,7,8,9,18],[3,6,7,8,9,18],[3,6,7,8,9,18],[3,7,8,9,18,25],[],[3,7,8,9,18],[3,7,8,9,18]] := ⟨⟩
        iterate 9 (refine Kp.s ?_; clear Kp; intro Kp; simp [go_sem, -getElem?_pos, -List.map_take, -List.map_drop, IntWalk.iteOmega, IntWalk.toNatUp, ht2, b16, w16, sh1, w5, -BitVec.toNat_and, -BitVec.toNat_xor, -BitVec.toNat_shiftLeft, show (k : Int) < 8 by omega])
        exact ⟨8 - (k + 1), by omega, k + 1, rfl, by omega, by simp only [turns, hx, turn1, if_neg ht], rfl⟩
    · have hm' : k = 8 := by omega
      subst hm'
      have Kp : Kept [[3,7,8,9,18,19],[],[3,7,8,9],[3,7,8,9]] := ⟨⟩
      iterate 4 (refine Kp.s ?_; clear Kp; intro Kp; simp [go_sem, -getElem?_pos, -List.map_take, -List.map_drop, IntWalk.iteOmega, IntWalk.toNatUp, w1])
      exact ⟨L.length - (i + 1), by omega, i + 1, rfl, by omega, by rw [List.take_succ_eq_append_getElem hlt]; simp only [crc, List.foldl_append, List.foldl_cons, List.foldl_nil, crcByte], rfl⟩
  · skip
    have Kp : Kept [[3,7,8,9,10],[],[3],[2],[]] := ⟨⟩
    iterate 5 (refine Kp.s ?_; clear Kp; intro Kp; simp [go_sem, -getElem?_pos, -List.map_take, -List.map_drop, IntWalk.iteOmega, IntWalk.toNatUp, show ¬ ((i : Int) < L.length) by omega])
    rw [List.take_of_length_le (by omega)]
theorem fd8 (x : BitVec 16) : (x.toNat : Int).fdiv 256 = (x.toNat : Int) / 256 := Int.fdiv_eq_ediv_of_nonneg _ (by decide)
theorem lo8 (x : BitVec 16) : IntKind.u8.wrap (x.toNat : Int) = (x.toNat : Int) % 256 := by rw [IntKind.wrap_u8]
theorem hi8 (x : BitVec 16) : IntKind.u8.wrap ((x.toNat : Int) / 256) = (x.toNat : Int) / 256 := by rw [IntKind.wrap_u8]; have := x.isLt; omega
def closed (L : List Int) : List Int := L ++ [((crc L).toNat : Int) / 256, ((crc L).toNat : Int) % 256]
theorem close_own (H : Heap) (m : Int) (L : List Int) (hL : L.length ≤ 900000) (hB : Bs L) :
    ICalls Tryd.prog 34 [frow 1 m (L.map (Value.int .u8))] H fun v H' => Bld 1 H' H.next v ((closed L).map (Value.int .u8)) ∧ Old H H' := by
  refine IBody.calls (by kernel_rfl) ?_
  refine IBody.of Tryd.func34 rfl (by rw [Tryd.ntmps34]; simp) ?_
  rw [Tryd.ntmps34]
  have Kp : Kept [[0],[0,3]] := ⟨⟩
  iterate 2 (refine Kp.s ?_; clear Kp; intro Kp; simp [go_sem, -getElem?_pos, -List.map_take, -List.map_drop, IntWalk.iteOmega, IntWalk.toNatUp, b16, w16, fd8, lo8, hi8])
  refine ICalls.mono (sumOf H m L (by omega) hB) ?_
  rintro v _ ⟨rfl, rfl⟩
  try simp [go_sem, -getElem?_pos, -List.map_take, -List.map_drop, IntWalk.iteOmega, IntWalk.toNatUp, b16, w16, fd8, lo8, hi8]
  refine IWp.one [2] ?_
  simp [go_sem, -getElem?_pos, -List.map_take, -List.map_drop, IntWalk.iteOmega, IntWalk.toNatUp, b16, w16, fd8, lo8, hi8]
  refine ICalls.mono (clone_own _ m L (by omega)) ?_
  rintro v H1 ⟨b1, s1⟩
  have hx := (crc L).isLt
  obtain ⟨v2, H2, e2, b2, s2, n2, _⟩ := app_own (P := Tryd.prog) (t := 23) (e := 5) (sz := 1) (by_ := 1) (z := .int .u8 0) (ws := [((crc L).toNat : Int) / 256, ((crc L).toNat : Int) % 256].map (Value.int .u8)) (x := .slice (some ⟨H1.next, 0, some 1⟩) 2 1) (by kernel_rfl) (by kernel_rfl) (by kernel_rfl) (by kernel_rfl) rfl
    (b1.alloc ([((crc L).toNat : Int) / 256, ((crc L).toNat : Int) % 256].map (Value.int .u8))) (map_sz .u8 _) (irow_blk (ws := [((crc L).toNat : Int) / 256, ((crc L).toNat : Int) % 256].map (Value.int .u8)) (own := true) (by rw [Heap.get_alloc_new, map_flat]) (map_sz .u8 _)) (by rw [map_flat]; exact map_one .u8 _) (Nat.le_succ_of_le s1.2) (by simp; omega) (by simp; omega)
  simp only [List.map_cons, List.map_nil] at e2
  simp [go_sem, e2, fd8, lo8, hi8, w16]
  refine IWp.one [] ?_
  simp [go_sem, -getElem?_pos, -List.map_take, -List.map_drop, IntWalk.iteOmega, IntWalk.toNatUp]
  refine ⟨by simpa [closed] using b2, fun b hb => ?_, by rw [next_alloc] at n2; have := s1.2; omega⟩
  rw [s2 b hb, Heap.get_alloc_lt _ _ _ (Nat.lt_of_lt_of_le hb s1.2)]
  exact s1.1 b hb
theorem close (H : Heap) (m : Int) (L : List Int) (hL : L.length ≤ 900000) (hB : Bs L) :
    ICalls Tryd.prog 34 [frow 1 m (L.map (Value.int .u8))] H fun v H' => v = byts (closed L) ∧ H' = H :=
  ICalls.ans (by rw [cl_ints]; trivial) fun H => (close_own H m L hL hB).mono fun v H' h => h.1.frz
theorem closed_bs {L : List Int} (h : Bs L) : Bs (closed L) := fun x hx => by
  have := (crc L).isLt
  rcases List.mem_append.1 hx with hx | hx
  · exact h x hx
  · simp at hx; omega
def opened (L : List Int) : List Int × Int := if L.length < 2 then ([], 4) else if closed (L.take (L.length - 2)) = L then (L.take (L.length - 2), 0) else ([], 3)
theorem Bs.take {L : List Int} (h : Bs L) (n : Nat) : Bs (L.take n) := fun x hx => h x (List.mem_of_mem_take hx)
theorem openSum (H : Heap) (m : Int) (L : List Int) (hL : L.length ≤ 800000) (hB : Bs L) :
    ICalls Tryd.prog 49 [frow 1 m (L.map (Value.int .u8))] H fun v H' => v = .tuple #[byts (opened L).1, .int .i64 (opened L).2] ∧ H' = H := by
  refine ICalls.ans (by simp [go_sem]) fun H => IBody.calls (by kernel_rfl) ?_
  by_cases hs : L.length < 2
  · have ho : opened L = ([], 4) := by unfold opened; rw [if_pos hs]
    rw [ho]
    refine IBody.of Tryd.func49 rfl (by rw [Tryd.ntmps49]; simp) ?_
    rw [Tryd.ntmps49]
    have Kp : Kept [[0],[0,7],[],[2,3],[]] := ⟨⟩
    iterate 5 (refine Kp.s ?_; clear Kp; intro Kp; simp [go_sem, -getElem?_pos, -List.map_take, -List.map_drop, IntWalk.iteOmega, IntWalk.toNatUp, hs, show (L.length : Int) < 2 by omega])
  · have w1 := IntWalk.i64_in ((L.length : Int) - 2) (by omega)
    have hto : ((L.length : Int) - 2).toNat = L.length - 2 := by omega
    have hB2 := hB.take (L.length - 2)
    have hl2 : (L.take (L.length - 2)).length ≤ 800000 := by simp; omega
    refine IBody.of Tryd.func49 rfl (by rw [Tryd.ntmps49]; simp) ?_
    rw [Tryd.ntmps49]
    have Kp : Kept [[0],[0,7],[],[0],[0,4]] := ⟨⟩
    iterate 5 (refine Kp.s ?_; clear Kp; intro Kp; simp [go_sem, -getElem?_pos, -List.map_take, -List.map_drop, IntWalk.iteOmega, IntWalk.toNatUp, w1, hto, show ¬ ((L.length : Int) < 2) by omega, show (2 : Int) ≤ L.length by omega])
    refine ICalls.mono (clone _ _ (L.take (L.length - 2)) (by omega)) ?_
    rintro v _ ⟨rfl, rfl⟩
    try simp [go_sem, -getElem?_pos, -List.map_take, -List.map_drop, IntWalk.iteOmega, IntWalk.toNatUp, w1, hto, show ¬ ((L.length : Int) < 2) by omega, show (2 : Int) ≤ L.length by omega]
    refine IWp.one [4, 18] ?_
    simp [go_sem, -getElem?_pos, -List.map_take, -List.map_drop, IntWalk.iteOmega, IntWalk.toNatUp, w1, hto, show ¬ ((L.length : Int) < 2) by omega, show (2 : Int) ≤ L.length by omega]
    refine ICalls.mono (close _ _ (L.take (L.length - 2)) (by omega) hB2) ?_
    rintro v _ ⟨rfl, rfl⟩
    try simp [go_sem, -getElem?_pos, -List.map_take, -List.map_drop, IntWalk.iteOmega, IntWalk.toNatUp, w1, hto, show ¬ ((L.length : Int) < 2) by omega, show (2 : Int) ≤ L.length by omega]
    refine ICalls.mono (equal _ _ _ (closed (L.take (L.length - 2))) L (closed_bs hB2) hB) ?_
    rintro v _ ⟨rfl, rfl⟩
    try simp [go_sem, -getElem?_pos, -List.map_take, -List.map_drop, IntWalk.iteOmega, IntWalk.toNatUp, w1, hto, show ¬ ((L.length : Int) < 2) by omega, show (2 : Int) ≤ L.length by omega]
    by_cases he : closed (L.take (L.length - 2)) = L
    · have ho : opened L = (L.take (L.length - 2), 0) := by unfold opened; rw [if_neg hs, if_pos he]
      rw [ho]
      have Kp : Kept [[],[4],[2,3],[]] := ⟨⟩
      iterate 4 (refine Kp.s ?_; clear Kp; intro Kp; simp [go_sem, -getElem?_pos, -List.map_take, -List.map_drop, IntWalk.iteOmega, IntWalk.toNatUp, he])
    · have ho : opened L = ([], 3) := by unfold opened; rw [if_neg hs, if_neg he]
      rw [ho]
      have Kp : Kept [[],[2,3],[]] := ⟨⟩
      iterate 3 (refine Kp.s ?_; clear Kp; intro Kp; simp [go_sem, -getElem?_pos, -List.map_take, -List.map_drop, IntWalk.iteOmega, IntWalk.toNatUp, he])
end Go.Proofs.YtoecebibhcadoaaDoor.I
namespace Go.Proofs.YtoecebibhcadoaaDoor.I
open Go Go.RowKit
set_option linter.unusedVariables false
set_option linter.unusedSimpArgs false
theorem slEqual (H : Heap) (m k : Int) (L M : List Int) (hl : L.length ≤ 1000000) :
    ICalls Tryd.prog 50 [frow 1 m (L.map (Value.int .u8)), frow 1 k (M.map (Value.int .u8))] H fun v H' => v = .bool (decide (L = M)) ∧ H' = H := by
  refine IBody.calls (by kernel_rfl) ?_
  by_cases hlen : L.length = M.length
  · skip
    refine IBody.of Tryd.func50 rfl (by rw [Tryd.ntmps50]; simp) ?_
    rw [Tryd.ntmps50]
    have Kp : Kept [[0,1],[0,1,10],[],[0,1],[0,1,12,13]] := ⟨⟩
    iterate 5 (refine Kp.s ?_; clear Kp; intro Kp; simp [go_sem, -getElem?_pos, -List.map_take, -List.map_drop, IntWalk.iteOmega, IntWalk.toNatUp, hlen])
    refine IWp.block ?_
    refine IWp.loop (fun j e K => ∃ i : Nat, j = L.length - i ∧ i ≤ L.length ∧ e = [(0, frow 1 m (L.map (Value.int .u8))), (1, frow 1 k (M.map (Value.int .u8))), (12, .int .i64 (L.length : Int)), (13, .int .i64 (i : Int))] ∧ K = H ∧ L.take i = M.take i) L.length ⟨0, rfl, Nat.zero_le _, by simp [go_sem, hlen], rfl, rfl⟩ ?_
    rintro j e K ⟨i, rfl, hi, rfl, rfl, hpre⟩
    by_cases hlt : i < L.length
    · have hltM : i < M.length := by omega
      have w1 := IntWalk.i64_in ((i : Int) + 1) (by omega)
      by_cases he : L[i] = M[i]
      · skip
        have Kp : Kept [[0,1,12,13,14],[],[0,1,12,13],[0,1,5,12,13]] := ⟨⟩
        iterate 4 (refine Kp.s ?_; clear Kp; intro Kp; simp [go_sem, -getElem?_pos, -List.map_take, -List.map_drop, IntWalk.iteOmega, IntWalk.toNatUp, hlt, hltM, List.getElem?_eq_getElem hlt, List.getElem?_eq_getElem hltM, he, w1, show ¬ ((i : Int) < 0) by omega, show (i : Int) < M.length by omega, show (i : Int) < L.length by omega])
        refine IWp.seq ?_
        refine IWp.read [0, 1, 12, 13, 24] follows (by kernel_rfl) ?_
        simp [go_sem, -getElem?_pos, -List.map_take, -List.map_drop, IntWalk.iteOmega, IntWalk.toNatUp, hlt, hltM, List.getElem?_eq_getElem hlt, List.getElem?_eq_getElem hltM, he, w1, show ¬ ((i : Int) < 0) by omega, show (i : Int) < M.length by omega, show (i : Int) < L.length by omega]
        have Kp : Kept [[],[0,1,12,13],[0,1,12,13]] := ⟨⟩
        iterate 3 (refine Kp.s ?_; clear Kp; intro Kp; simp [go_sem, -getElem?_pos, -List.map_take, -List.map_drop, IntWalk.iteOmega, IntWalk.toNatUp, hlt, hltM, List.getElem?_eq_getElem hlt, List.getElem?_eq_getElem hltM, he, w1, show ¬ ((i : Int) < 0) by omega, show (i : Int) < M.length by omega, show (i : Int) < L.length by omega])
        exact ⟨L.length - (i + 1), by omega, i + 1, rfl, by omega, rfl, by rw [List.take_succ_eq_append_getElem hlt, List.take_succ_eq_append_getElem hltM, hpre, he]⟩
      · skip
        have Kp : Kept [[0,1,12,13,14],[],[0,1,12,13],[0,1,5,12,13]] := ⟨⟩
        iterate 4 (refine Kp.s ?_; clear Kp; intro Kp; simp [go_sem, -getElem?_pos, -List.map_take, -List.map_drop, IntWalk.iteOmega, IntWalk.toNatUp, hlt, hltM, List.getElem?_eq_getElem hlt, List.getElem?_eq_getElem hltM, he, w1, show ¬ ((i : Int) < 0) by omega, show (i : Int) < M.length by omega, show (i : Int) < L.length by omega])
        refine IWp.seq ?_
        refine IWp.read [0, 1, 12, 13, 24] follows (by kernel_rfl) ?_
        simp [go_sem, -getElem?_pos, -List.map_take, -List.map_drop, IntWalk.iteOmega, IntWalk.toNatUp, hlt, hltM, List.getElem?_eq_getElem hlt, List.getElem?_eq_getElem hltM, he, w1, show ¬ ((i : Int) < 0) by omega, show (i : Int) < M.length by omega, show (i : Int) < L.length by omega]
        have Kp : Kept [[],[4],[]] := ⟨⟩
        iterate 3 (refine Kp.s ?_; clear Kp; intro Kp; simp [go_sem, -getElem?_pos, -List.map_take, -List.map_drop, IntWalk.iteOmega, IntWalk.toNatUp, hlt, hltM, List.getElem?_eq_getElem hlt, List.getElem?_eq_getElem hltM, he, w1, show ¬ ((i : Int) < 0) by omega, show (i : Int) < M.length by omega, show (i : Int) < L.length by omega])
        exact fun e => he (by subst e; rfl)
    · skip
      have Kp : Kept [[0,1,12,13,14],[],[],[4],[]] := ⟨⟩
      iterate 5 (refine Kp.s ?_; clear Kp; intro Kp; simp [go_sem, -getElem?_pos, -List.map_take, -List.map_drop, IntWalk.iteOmega, IntWalk.toNatUp, show ¬ ((i : Int) < M.length) by omega, show ¬ ((i : Int) < L.length) by omega])
      rw [← List.take_of_length_le (show L.length ≤ i by omega), hpre, List.take_of_length_le (by omega)]
  · skip
    refine IBody.of Tryd.func50 rfl (by rw [Tryd.ntmps50]; simp) ?_
    rw [Tryd.ntmps50]
    have Kp : Kept [[0,1],[0,1,10],[],[4],[]] := ⟨⟩
    iterate 5 (refine Kp.s ?_; clear Kp; intro Kp; simp [go_sem, -getElem?_pos, -List.map_take, -List.map_drop, IntWalk.iteOmega, IntWalk.toNatUp, hlen, show ¬ ((L.length : Int) = M.length) by omega])
    exact fun e => hlen (by rw [e])
def cfgZ : Config := ⟨[], [], [], 0, 0, 0, 0, 0, 0, false, 0⟩
def decP (L : List Int) : Config × Int × Int :=
  if ¬ (opened L).2 = 0 then (cfgZ, 0, (opened L).2)
  else if ¬ (opened L).1.take 3 = [72, 66, 49] then (cfgZ, 0, 2)
  else
    let r := cfgP ⟨(opened L).1.drop 3, 0, 0⟩
    if ¬ r.2.ending.2 = 0 then (cfgZ, 3 + r.2.ending.1, r.2.ending.2) else (r.1, 0, 0)
def WholeR (L : List Int) (v : Value) (K : Heap) : Prop :=
  (∃ e, v = .tuple #[cfgZ.val, errV e] ∧ decP L = (cfgZ, 0, e)) ∨
  (∃ p at_ e, v = .tuple #[cfgZ.val, placedV p] ∧ K.get p = some ⟨[.int .i64 at_, errV e], true⟩ ∧ decP L = (cfgZ, at_, e) ∧ ¬ e = 3) ∨
  (∃ c : Config, v = .tuple #[c.val, .nilIface] ∧ decP L = (c, 0, 0))
theorem opened_len (L : List Int) : (opened L).1.length ≤ L.length := by
  unfold opened
  split
  · simp
  · split
    · simp
    · simp
theorem opened_bs {L : List Int} (h : Bs L) : Bs (opened L).1 := by
  unfold opened
  split
  · intro x hx; cases hx
  · split
    · exact h.take _
    · intro x hx; cases hx
theorem only_none (H : Heap) : (H.only fun _ => !false) = H := Heap.ext' (fun j => by simp [Heap.only]) rfl rfl
theorem frzZ (H : Heap) (S : Nat → Bool) : Frz H S (.agg #[.slice none 0 0, .slice none 0 0, .slice none 0 0, .int .i64 0, .int .i64 0, .int .i64 0, .int .i64 0, .int .i64 0, .int .i64 0, .bool false, .int .i64 0]) cfgZ.val :=
  .agg (.cons (.nil 2) (.cons (.nil 9) (.cons (.nil 1) (FrzL.same _))))
def Err (s : Rd) : Prop := s.e = 0 ∨ s.e = 2 ∨ s.e = 4
theorem Err.ready {s : Rd} (h : Err s) (n : Nat) : Err (s.ready n) := by
  unfold Rd.ready; split
  · exact .inr (.inr rfl)
  · exact h
theorem Err.byte {s : Rd} (h : Err s) : Err s.byte.2 := by
  unfold Rd.byte; split
  · exact h
  · exact h.ready 1
theorem Err.int {s : Rd} (h : Err s) : Err s.int.2 := by
  unfold Rd.int; split
  · exact h
  · exact h.ready 4
theorem Err.flag {s : Rd} (h : Err s) : Err s.flag.2 := by
  unfold Rd.flag; split
  · split
    · exact .inr (.inl rfl)
    · exact h
  · exact h.ready 1
theorem Err.list {α : Type} (one : Rd → α × Rd) (h1 : ∀ s, Err s → Err (one s).2) : ∀ (n : Nat) (s : Rd), Err s → Err (listP one n s).2
  | 0, s, h => h
  | n + 1, s, h => by
    by_cases he : s.e = 0
    · rw [listP_step one n s he]; exact Err.list one h1 n _ (h1 s h)
    · rw [listP_stop one _ s he]; exact h
theorem Err.many {α : Type} (one : Rd → α × Rd) (h1 : ∀ s, Err s → Err (one s).2) (s : Rd) (h : Err s) : Err (manyP one s).2 := Err.list one h1 _ _ h.byte
theorem Err.slot (s : Rd) (h : Err s) : Err (slotP s).2 := Err.many _ (fun _ h => Err.byte h) s h
theorem Err.sig (s : Rd) (h : Err s) : Err (sigP s).2 := h.int.int
theorem Err.stage (s : Rd) (h : Err s) : Err (stageP s).2 := h.int.byte
theorem Err.rule (s : Rd) (h : Err s) : Err (ruleP s).2 := Err.many _ Err.stage _ (show Err (headP s).2 from h.byte.byte.int.int.int.int.byte.flag)
theorem Err.cfg (s : Rd) (h : Err s) : Err (cfgP s).2 := (Err.many _ Err.slot _ (Err.many _ Err.rule _ (Err.many _ Err.sig s h))).byte.byte.byte.byte.int.int.flag.int
theorem ending_in {s : Rd} (h : s.ok) : 0 ≤ s.ending.1 ∧ s.ending.1 ≤ 1000000 := by
  have h1 := h.1
  have h2 := h.2.1
  unfold Rd.ending Rd.fault
  split
  · simp only; omega
  · split
    · simp
    · simp only; omega
theorem ending_err {s : Rd} (h : Err s) : ¬ s.ending.2 = 3 := by
  unfold Rd.ending Rd.fault
  split
  · simp
  · split
    · simp
    · rcases h with h | h | h <;> simp only [h] <;> decide
set_option maxRecDepth 8000 in
set_option maxHeartbeats 4000000 in
theorem wholeC (H : Heap) (m : Int) (L : List Int) (hL : L.length ≤ 800000) (hB : Bs L) :
    ICalls Tryd.prog 36 [frow 1 m (L.map (Value.int .u8))] H fun v K => WholeR L v K ∧ Old H K := by
  have ol := opened_len L
  have ob := opened_bs hB
  refine ICalls.frozen (IBody.calls (by kernel_rfl) ?_)
  by_cases h1 : (opened L).2 = 0
  · obtain ⟨Q, hQ⟩ : ∃ Q, Q = (opened L).1 := ⟨_, rfl⟩
    rw [← hQ] at ol ob
    obtain ⟨K0, hK0⟩ : ∃ K0, K0 = H.alloc [.slice none 0 0, .slice none 0 0, .slice none 0 0, .int .i64 0, .int .i64 0, .int .i64 0, .int .i64 0, .int .i64 0, .int .i64 0, .bool false, .int .i64 0] := ⟨_, rfl⟩
    have g0 : K0.get H.next = some ⟨[.slice none 0 0, .slice none 0 0, .slice none 0 0, .int .i64 0, .int .i64 0, .int .i64 0, .int .i64 0, .int .i64 0, .int .i64 0, .bool false, .int .i64 0], true⟩ := by rw [hK0]; exact Heap.get_alloc_new _ _
    have n0 : K0.next = H.next + 1 := by rw [hK0]; rfl
    have o0 : Old H K0 := by rw [hK0]; exact (Old.refl H).alloc _
    have c1 := openSum K0 m L hL hB
    rw [← hQ] at c1
    have hT : Q.take (if (3:Int) < Q.length then 3 else (Q.length : Int)).toNat = Q.take 3 := by
      split
      · rfl
      · rw [List.take_of_length_le (by omega), List.take_of_length_le (by omega)]
    have lit : (K0.alloc [.int .u8 72, .int .u8 66, .int .u8 49]).get K0.next = some ⟨[(72 : Int), 66, 49].map (Value.int .u8), true⟩ := Heap.get_alloc_new _ _
    obtain ⟨K1, hK1⟩ : ∃ K1, K1 = (K0.alloc [.int .u8 72, .int .u8 66, .int .u8 49]).kill K0.next := ⟨_, rfl⟩
    have o1 : Old K0 K1 := by rw [hK1]; exact ((Old.refl _).alloc _).kill (Nat.le_refl _)
    have g1 := o1.some _ _ g0
    have n1 : K1.next = K0.next + 1 := by rw [hK1]; rfl
    have oH := o0.trans o1
    refine IBody.of Tryd.func36 rfl (by rw [Tryd.ntmps36]; simp) ?_
    rw [Tryd.ntmps36]
    refine IWp.one [0, 2] ?_
    simp [go_sem, -getElem?_pos, -List.map_take, -List.map_drop, IntWalk.iteOmega, IntWalk.toNatUp]
    refine IWp.seq ?_
    rw [← hK0]
    refine IWp.one [2, 4, 5] ?_
    simp [go_sem, -getElem?_pos, -List.map_take, -List.map_drop, IntWalk.iteOmega, IntWalk.toNatUp, h1, hT]
    refine ICalls.then (c1) ?_
    try simp [go_sem, -getElem?_pos, -List.map_take, -List.map_drop, IntWalk.iteOmega, IntWalk.toNatUp, h1, hT]
    have Kp : Kept [[2,4,5,16],[],[2,4],[2,4,28]] := ⟨⟩
    iterate 4 (refine Kp.s ?_; clear Kp; intro Kp; simp [go_sem, -getElem?_pos, -List.map_take, -List.map_drop, IntWalk.iteOmega, IntWalk.toNatUp, h1, hT])
    refine ICalls.freeze1 K0.next (.cons (.same _) (.cons (frz_lit ([(72 : Int), 66, 49].map (Value.int .u8)) lit rfl (fun u hu => by obtain ⟨x, _, rfl⟩ := List.mem_map.1 hu; rfl) rfl (by simp)) .nil)) (ICalls.mono (slEqual _ 0 0 (Q.take 3) [72, 66, 49] (by simp; omega)) ?_)
    rintro v _ ⟨rfl, rfl⟩
    rw [← hK1]
    clear lit hK1 g0 o1 c1 hT
    by_cases h2 : Q.take 3 = [72, 66, 49]
    · have hq3 : 3 ≤ Q.length := by
        have := congrArg List.length h2
        simp at this; omega
      obtain ⟨s0, hs0⟩ : ∃ x : Rd, x = ⟨Q.drop 3, 0, 0⟩ := ⟨_, rfl⟩
      have ks0 : s0.ok := by rw [hs0]; exact ⟨Nat.zero_le _, by simp; omega, fun x hx => ob x (List.mem_of_mem_drop hx)⟩
      have er := Err.cfg s0 (by rw [hs0]; exact .inl rfl)
      obtain ⟨C, hC⟩ : ∃ x, x = (cfgP s0).1 := ⟨_, rfl⟩
      obtain ⟨s9, hs9⟩ : ∃ x, x = (cfgP s0).2 := ⟨_, rfl⟩
      have ks9 : s9.ok := by rw [hs9]; exact cfgP_ok _ ks0
      have e1 := ending_in ks9
      rw [← hs9] at er
      have e3 := ending_err er
      have hd : decP L = if ¬ s9.ending.2 = 0 then (cfgZ, 3 + s9.ending.1, s9.ending.2) else (C, 0, 0) := by
        unfold decP
        rw [if_neg (by simpa using h1), ← hQ, if_neg (by simpa using h2), ← hs0]
        show (if ¬ (cfgP s0).2.ending.2 = 0 then _ else _) = _
        rw [← hs9, ← hC]
      have c2 := newReader K1 0 (Q.drop 3) (by simp; omega)
      obtain ⟨K2, hK2⟩ : ∃ K2, K2 = K1.alloc s0.cells := ⟨_, rfl⟩
      rw [← hs0, ← hK2] at c2
      have n2 : K2.next = K1.next + 1 := by rw [hK2]; rfl
      have b2 : K2.get K1.next = some ⟨s0.cells, true⟩ := by rw [hK2]; exact Heap.get_alloc_new _ _
      have o2 : Old K1 K2 := by rw [hK2]; exact (Old.refl _).alloc _
      have c3 := readC K2 K1.next s0 ks0 b2
      rw [← hC, ← hs9] at c3
      have g2 := o2.some _ _ g1
      simp [go_sem, h2]
      have Kp : Kept [[],[2,4]] := ⟨⟩
      iterate 2 (refine Kp.s ?_; clear Kp; intro Kp; simp [go_sem, -getElem?_pos, -List.map_take, -List.map_drop, IntWalk.iteOmega, IntWalk.toNatUp])
      refine IWp.seq ?_
      refine IWp.one [2, 6] ?_
      simp [go_sem, -getElem?_pos, -List.map_take, -List.map_drop, IntWalk.iteOmega, IntWalk.toNatUp, show (3 : Int) ≤ Q.length by omega, List.take_of_length_le (show (Q.drop 3).length ≤ Q.length - 3 by simp)]
      refine ICalls.mono (c2) ?_
      rintro v _ ⟨rfl, rfl⟩
      try simp [go_sem, -getElem?_pos, -List.map_take, -List.map_drop, IntWalk.iteOmega, IntWalk.toNatUp, show (3 : Int) ≤ Q.length by omega, List.take_of_length_le (show (Q.drop 3).length ≤ Q.length - 3 by simp)]
      refine IWp.seq ?_
      clear c2
      refine IWp.one [2, 6, 7] ?_
      simp [go_sem, -getElem?_pos, -List.map_take, -List.map_drop, IntWalk.iteOmega, IntWalk.toNatUp]
      refine ICalls.mono (c3) ?_
      rintro v K3 ⟨rfl, f3, b3⟩
      try simp [go_sem, -getElem?_pos, -List.map_take, -List.map_drop, IntWalk.iteOmega, IntWalk.toNatUp, Config.val, Config.cells]
      refine IWp.seq ?_
      refine IWp.seq ?_
      have g3 := (f3.same H.next (by have := Heap.lt_of_get g2; omega) (by omega)).trans g2
      have o3 : Old H K3 := ⟨fun j hj => (f3.same j (by omega) (by omega)).trans ((o2.1 j (by omega)).trans (oH.1 j hj)), by have := f3.next; have := oH.2; omega⟩
      have hC2 : C.val = .agg #[frow 2 0 (C.sigs.map Sig.val), frow 9 0 (C.rules.map Rule.val), frow 1 0 (C.table.map (ints .i64)), .int .i64 C.b0, .int .i64 C.b1, .int .i64 C.b2, .int .i64 C.drain, .int .i64 C.pause, .int .i64 C.off, .bool C.brk, .int .i64 C.log] := rfl
      have c4 := rEnd (K3.alloc [frow 2 0 (C.sigs.map Sig.val), frow 9 0 (C.rules.map Rule.val), frow 1 0 (C.table.map (ints .i64)), .int .i64 C.b0, .int .i64 C.b1, .int .i64 C.b2, .int .i64 C.drain, .int .i64 C.pause, .int .i64 C.off, .bool C.brk, .int .i64 C.log]) K1.next s9 ks9 (by rw [Heap.get_alloc_lt _ _ _ (Heap.lt_of_get b3)]; exact b3)
      have w1 := IntWalk.i64_in (3 + s9.ending.1) (by omega)
      have lg3 := Heap.lt_of_get g3
      by_cases h9 : s9.ending.2 = 0
      · rw [if_neg (by simpa using h9)] at hd
        refine IWp.one [2, 7, 8, 9] ?_
        simp [go_sem, -getElem?_pos, -List.map_take, -List.map_drop, IntWalk.iteOmega, IntWalk.toNatUp, h9, g3, get_alloc, show ¬ H.next = K3.next by omega]
        refine ICalls.then (c4) ?_
        try simp [go_sem, -getElem?_pos, -List.map_take, -List.map_drop, IntWalk.iteOmega, IntWalk.toNatUp, h9, g3, get_alloc, show ¬ H.next = K3.next by omega]
        have Kp : Kept [[2,7,8,9,42],[],[2,7],[2,3],[]] := ⟨⟩
        iterate 5 (refine Kp.s ?_; clear Kp; intro Kp; simp [go_sem, -getElem?_pos, -List.map_take, -List.map_drop, IntWalk.iteOmega, IntWalk.toNatUp, h9, g3, get_alloc, show ¬ H.next = K3.next by omega])
        refine ⟨fun _ => false, _, .same _, ?_, ?_⟩
        · exact .inr (.inr ⟨C, rfl, hd⟩)
        · rw [only_none]
          exact (o3.alloc _).set (Nat.le_refl _) _
      · rw [if_pos h9] at hd
        refine IWp.one [2, 7, 8, 9] ?_
        simp [go_sem, -getElem?_pos, -List.map_take, -List.map_drop, IntWalk.iteOmega, IntWalk.toNatUp, h9, g3, w1, get_alloc, next_alloc, show ¬ H.next = K3.next by omega, show ¬ H.next = K3.next + 1 by omega]
        refine ICalls.then (c4) ?_
        try simp [go_sem, -getElem?_pos, -List.map_take, -List.map_drop, IntWalk.iteOmega, IntWalk.toNatUp, h9, g3, w1, get_alloc, next_alloc, show ¬ H.next = K3.next by omega, show ¬ H.next = K3.next + 1 by omega]
        have Kp : Kept [[2,7,8,9,42],[],[2,3],[]] := ⟨⟩
        iterate 4 (refine Kp.s ?_; clear Kp; intro Kp; simp [go_sem, -getElem?_pos, -List.map_take, -List.map_drop, IntWalk.iteOmega, IntWalk.toNatUp, h9, g3, w1, get_alloc, next_alloc, show ¬ H.next = K3.next by omega, show ¬ H.next = K3.next + 1 by omega])
        refine ⟨fun _ => false, _, .tuple (.cons (frzZ _ _) (.cons (.same _) .nil)), .inr (.inl ⟨K3.next + 1, 3 + s9.ending.1, s9.ending.2, rfl, ?_, hd, e3⟩), ?_⟩
        · rw [only_none, get_set, if_neg (by omega), get_alloc, next_alloc, if_pos rfl]; rfl
        · rw [only_none]
          exact ((o3.alloc _).alloc _).set (Nat.le_refl _) _
    · have hd : decP L = (cfgZ, 0, 2) := by unfold decP; rw [if_neg (by simpa using h1), ← hQ, if_pos h2]
      rw [show decide (Q.take 3 = [72, 66, 49]) = false from decide_eq_false h2]
      simp [go_sem, -List.map_take, -List.map_drop]
      have Kp : Kept [[],[2,3],[]] := ⟨⟩
      iterate 3 (refine Kp.s ?_; clear Kp; intro Kp; simp [go_sem, -getElem?_pos, -List.map_take, -List.map_drop, IntWalk.iteOmega, IntWalk.toNatUp, g1])
      refine ⟨fun _ => false, _, .tuple (.cons (frzZ _ _) (.cons (.same _) .nil)), ?_, ?_⟩
      · exact .inl ⟨2, rfl, hd⟩
      · rw [only_none]
        exact oH.set (Nat.le_refl _) _
  · have hd : decP L = (cfgZ, 0, (opened L).2) := by unfold decP; rw [if_pos h1]
    have c1 := openSum (H.alloc [.slice none 0 0, .slice none 0 0, .slice none 0 0, .int .i64 0, .int .i64 0, .int .i64 0, .int .i64 0, .int .i64 0, .int .i64 0, .bool false, .int .i64 0]) m L hL hB
    refine IBody.of Tryd.func36 rfl (by rw [Tryd.ntmps36]; simp) ?_
    rw [Tryd.ntmps36]
    have Kp : Kept [[0,2],[2,4,5]] := ⟨⟩
    iterate 2 (refine Kp.s ?_; clear Kp; intro Kp; simp [go_sem, -getElem?_pos, -List.map_take, -List.map_drop, IntWalk.iteOmega, IntWalk.toNatUp, h1])
    refine ICalls.then (c1) ?_
    try simp [go_sem, -getElem?_pos, -List.map_take, -List.map_drop, IntWalk.iteOmega, IntWalk.toNatUp, h1]
    have Kp : Kept [[2,4,5,16],[],[2,3],[]] := ⟨⟩
    iterate 4 (refine Kp.s ?_; clear Kp; intro Kp; simp [go_sem, -getElem?_pos, -List.map_take, -List.map_drop, IntWalk.iteOmega, IntWalk.toNatUp, h1])
    refine ⟨fun _ => false, _, .tuple (.cons (frzZ _ _) (.cons (.same _) .nil)), ?_, ?_⟩
    · exact .inl ⟨_, rfl, hd⟩
    · rw [only_none]
      exact (Old.refl H).alloc _
end Go.Proofs.YtoecebibhcadoaaDoor.I
namespace Go.Proofs.YtoecebibhcadoaaDoor.I
open Go Go.RowKit
set_option linter.unusedVariables false
set_option linter.unusedSimpArgs false
set_option maxRecDepth 8000 in
set_option maxHeartbeats 4000000 in
theorem decodeC (H : Heap) (m : Int) (L : List Int) (hL : L.length ≤ 800000) (hB : Bs L) :
    ICalls Tryd.prog 13 [frow 1 m (L.map (Value.int .u8))] H fun v H' => v = .tuple #[(decP L).1.val, .int .i64 (decP L).2.1, .int .i64 (decP L).2.2] ∧ H' = H := by
  refine ICalls.ans (by simp only [Cl_tuple, ClL_cons, Config.cl_val, Cl_int, ClL_nil]; exact ⟨trivial, trivial, trivial, trivial⟩) fun H => IBody.calls (by kernel_rfl) ?_
  obtain ⟨K0, hK0⟩ : ∃ K0, K0 = H.alloc [.slice none 0 0, .slice none 0 0, .slice none 0 0, .int .i64 0, .int .i64 0, .int .i64 0, .int .i64 0, .int .i64 0, .int .i64 0, .bool false, .int .i64 0] := ⟨_, rfl⟩
  have g0 : K0.get H.next = some ⟨[.slice none 0 0, .slice none 0 0, .slice none 0 0, .int .i64 0, .int .i64 0, .int .i64 0, .int .i64 0, .int .i64 0, .int .i64 0, .bool false, .int .i64 0], true⟩ := by rw [hK0]; exact Heap.get_alloc_new _ _
  refine IBody.of Tryd.func13 rfl (by rw [Tryd.ntmps13]; simp) ?_
  rw [Tryd.ntmps13]
  refine IWp.one [0, 2] ?_
  simp [go_sem, -getElem?_pos, -List.map_take, -List.map_drop, IntWalk.iteOmega, IntWalk.toNatUp]
  refine IWp.seq ?_
  rw [← hK0]
  refine IWp.one [2, 5, 6] ?_
  simp [go_sem, -getElem?_pos, -List.map_take, -List.map_drop, IntWalk.iteOmega, IntWalk.toNatUp]
  refine ICalls.mono (wholeC K0 m L hL hB) ?_
  rintro v K ⟨hw, ho⟩
  have g1 := ho.some _ _ g0
  have l1 := Heap.lt_of_get g1
  have lt0 : ¬ H.next = K.next := by omega
  have lt1 : ¬ H.next = K.next + 1 := by omega
  have lt2 : ¬ H.next = K.next + 1 + 1 := by omega
  have lt3 : ¬ H.next = K.next + 1 + 1 + 1 := by omega
  rcases hw with ⟨e, rfl, hd⟩ | ⟨p, at_, e, rfl, hp, hd, he⟩ | ⟨c, rfl, hd⟩
  · obtain ⟨c, hc⟩ : ∃ c, c = cfgZ := ⟨_, rfl⟩
    rw [hd, ← hc]
    rw [← hc] at hd
    simp [go_sem, Config.val, Config.cells]
    by_cases h3 : e = 3
    · subst h3
      have Kp : Kept [[2,5,6,7,8],[2,5,6,7,8]] := ⟨⟩
      iterate 2 (refine Kp.s ?_; clear Kp; intro Kp; simp [go_sem, -getElem?_pos, -List.map_take, -List.map_drop, IntWalk.iteOmega, IntWalk.toNatUp, g1, get_alloc, next_alloc, lt0, lt1, lt2, lt3])
      refine ICalls.mono (asMiss _ _ _) ?_
      rintro v _ ⟨rfl, rfl⟩
      try simp [go_sem, -getElem?_pos, -List.map_take, -List.map_drop, IntWalk.iteOmega, IntWalk.toNatUp, g1, get_alloc, next_alloc, lt0, lt1, lt2, lt3]
      refine IWp.one [2, 5, 6, 7, 8] ?_
      simp [go_sem, -getElem?_pos, -List.map_take, -List.map_drop, IntWalk.iteOmega, IntWalk.toNatUp, g1, get_alloc, next_alloc, lt0, lt1, lt2, lt3]
      refine ICalls.mono (asHitE _ _ _ (.int .i64 0) (Heap.get_alloc_new _ _)) ?_
      rintro v _ ⟨rfl, rfl⟩
      try simp [go_sem, -getElem?_pos, -List.map_take, -List.map_drop, IntWalk.iteOmega, IntWalk.toNatUp, g1, get_alloc, next_alloc, lt0, lt1, lt2, lt3]
      refine IWp.one [2, 5, 7, 8, 24] ?_
      simp [go_sem, -getElem?_pos, -List.map_take, -List.map_drop, IntWalk.iteOmega, IntWalk.toNatUp, g1, get_alloc, next_alloc, lt0, lt1, lt2, lt3]
      refine ICalls.mono (isErr _ _ 3) ?_
      rintro v _ ⟨rfl, rfl⟩
      try simp [go_sem, -getElem?_pos, -List.map_take, -List.map_drop, IntWalk.iteOmega, IntWalk.toNatUp, g1, get_alloc, next_alloc, lt0, lt1, lt2, lt3]
      have Kp : Kept [[],[2,3,4],[]] := ⟨⟩
      iterate 3 (refine Kp.s ?_; clear Kp; intro Kp; simp [go_sem, -getElem?_pos, -List.map_take, -List.map_drop, IntWalk.iteOmega, IntWalk.toNatUp, g1, get_alloc, next_alloc, lt0, lt1, lt2, lt3])
      subst hc
      exact ⟨.nil 2, .nil 9, .nil 1, .same _, .same _, .same _, .same _, .same _, .same _, .same _, .same _⟩
    · skip
      have Kp : Kept [[2,5,6,7,8],[2,5,6,7,8]] := ⟨⟩
      iterate 2 (refine Kp.s ?_; clear Kp; intro Kp; simp [go_sem, -getElem?_pos, -List.map_take, -List.map_drop, IntWalk.iteOmega, IntWalk.toNatUp, h3, g1, get_alloc, next_alloc, lt0, lt1, lt2, lt3])
      refine ICalls.mono (asMiss _ _ _) ?_
      rintro v _ ⟨rfl, rfl⟩
      try simp [go_sem, -getElem?_pos, -List.map_take, -List.map_drop, IntWalk.iteOmega, IntWalk.toNatUp, h3, g1, get_alloc, next_alloc, lt0, lt1, lt2, lt3]
      refine IWp.one [2, 5, 6, 7, 8] ?_
      simp [go_sem, -getElem?_pos, -List.map_take, -List.map_drop, IntWalk.iteOmega, IntWalk.toNatUp, h3, g1, get_alloc, next_alloc, lt0, lt1, lt2, lt3]
      refine ICalls.mono (asHitE _ _ _ (.int .i64 0) (Heap.get_alloc_new _ _)) ?_
      rintro v _ ⟨rfl, rfl⟩
      try simp [go_sem, -getElem?_pos, -List.map_take, -List.map_drop, IntWalk.iteOmega, IntWalk.toNatUp, h3, g1, get_alloc, next_alloc, lt0, lt1, lt2, lt3]
      refine IWp.one [2, 5, 7, 8, 24] ?_
      simp [go_sem, -getElem?_pos, -List.map_take, -List.map_drop, IntWalk.iteOmega, IntWalk.toNatUp, h3, g1, get_alloc, next_alloc, lt0, lt1, lt2, lt3]
      refine ICalls.mono (isErr _ _ 3) ?_
      rintro v _ ⟨rfl, rfl⟩
      try simp [go_sem, -getElem?_pos, -List.map_take, -List.map_drop, IntWalk.iteOmega, IntWalk.toNatUp, h3, g1, get_alloc, next_alloc, lt0, lt1, lt2, lt3]
      have Kp : Kept [[],[2,5,7,8]] := ⟨⟩
      iterate 2 (refine Kp.s ?_; clear Kp; intro Kp; simp [go_sem, -getElem?_pos, -List.map_take, -List.map_drop, IntWalk.iteOmega, IntWalk.toNatUp, h3, g1, get_alloc, next_alloc, lt0, lt1, lt2, lt3])
      refine IWp.seq ?_
      refine IWp.draw [2, 3, 4] [K.next, K.next + 1 + 1, K.next + 1, K.next + 1 + 1 + 1] (.ld 0 [6, 7, 8] (.val 1 (.val 2 (.val 3 (.val 4 (.val 5 (.eff 6 (.val 7 (.val 8 .done)) .done))))))) follows (by kernel_rfl) ?_
      simp [go_sem, -getElem?_pos, -List.map_take, -List.map_drop, IntWalk.iteOmega, IntWalk.toNatUp, h3, g1, get_alloc, next_alloc, lt0, lt1, lt2, lt3]
      refine IWp.one [] ?_
      simp [go_sem, -getElem?_pos, -List.map_take, -List.map_drop, IntWalk.iteOmega, IntWalk.toNatUp, h3, g1, get_alloc, next_alloc, lt0, lt1, lt2, lt3]
      done
  · obtain ⟨c, hc⟩ : ∃ c, c = cfgZ := ⟨_, rfl⟩
    rw [hd, ← hc]
    rw [← hc] at hd
    have lp := Heap.lt_of_get hp
    have np : ¬ p = H.next := fun e => by rw [e, g1] at hp; simp at hp
    have hp4 : ∀ a b c d : List Value, ((((K.alloc a).alloc b).alloc c).alloc d).get p = some ⟨[.int .i64 at_, errV e], true⟩ := fun a b c d => by
      simp only [get_alloc, next_alloc]
      rw [if_neg (by omega), if_neg (by omega), if_neg (by omega), if_neg (by omega)]
      exact hp
    have q0 : ¬ p = K.next := by omega
    have q1 : ¬ p = K.next + 1 := by omega
    have q2 : ¬ p = K.next + 1 + 1 := by omega
    have q3 : ¬ p = K.next + 1 + 1 + 1 := by omega
    simp [go_sem, Config.val, Config.cells]
    have Kp : Kept [[2,5,6,7,8],[2,5,6,7,8]] := ⟨⟩
    iterate 2 (refine Kp.s ?_; clear Kp; intro Kp; simp [go_sem, -getElem?_pos, -List.map_take, -List.map_drop, IntWalk.iteOmega, IntWalk.toNatUp, hp, g1, get_alloc, next_alloc, lt0, lt1, lt2, lt3, q0, q1, q2, q3])
    refine ICalls.mono (asHitP _ _ _ (.pointer (some ⟨K.next + 1, 0, none⟩)) (by simp [get_alloc, next_alloc])) ?_
    rintro v _ ⟨rfl, rfl⟩
    try simp [go_sem, -getElem?_pos, -List.map_take, -List.map_drop, IntWalk.iteOmega, IntWalk.toNatUp, hp, g1, get_alloc, next_alloc, lt0, lt1, lt2, lt3, q0, q1, q2, q3]
    refine IWp.one [2, 5, 6, 7, 8] ?_
    simp [go_sem, -getElem?_pos, -List.map_take, -List.map_drop, IntWalk.iteOmega, IntWalk.toNatUp, hp, g1, get_alloc, next_alloc, lt0, lt1, lt2, lt3, q0, q1, q2, q3]
    refine ICalls.mono (asWrapE _ _ _ _ _ _ (.int .i64 0) (hp4 _ _ _ _) (Heap.get_alloc_new _ _)) ?_
    rintro v _ ⟨rfl, rfl⟩
    try simp [go_sem, -getElem?_pos, -List.map_take, -List.map_drop, IntWalk.iteOmega, IntWalk.toNatUp, hp, g1, get_alloc, next_alloc, lt0, lt1, lt2, lt3, q0, q1, q2, q3]
    refine IWp.one [2, 5, 7, 8, 24] ?_
    simp [go_sem, -getElem?_pos, -List.map_take, -List.map_drop, IntWalk.iteOmega, IntWalk.toNatUp, hp, g1, get_alloc, next_alloc, lt0, lt1, lt2, lt3, q0, q1, q2, q3]
    refine ICalls.mono (isWrap _ _ _ _ _ _ he (hp4 _ _ _ _)) ?_
    rintro v _ ⟨rfl, rfl⟩
    try simp [go_sem, -getElem?_pos, -List.map_take, -List.map_drop, IntWalk.iteOmega, IntWalk.toNatUp, hp, g1, get_alloc, next_alloc, lt0, lt1, lt2, lt3, q0, q1, q2, q3]
    have Kp : Kept [[],[2,5,7,8]] := ⟨⟩
    iterate 2 (refine Kp.s ?_; clear Kp; intro Kp; simp [go_sem, -getElem?_pos, -List.map_take, -List.map_drop, IntWalk.iteOmega, IntWalk.toNatUp, hp, g1, get_alloc, next_alloc, lt0, lt1, lt2, lt3, q0, q1, q2, q3])
    refine IWp.seq ?_
    refine IWp.draw [2, 3, 4] [K.next, K.next + 1 + 1, p, K.next + 1 + 1 + 1] (.ld 0 [6, 7, 8] (.val 1 (.val 2 (.val 3 (.val 4 (.val 5 (.eff 6 (.val 7 (.val 8 .done)) .done))))))) follows (by kernel_rfl) ?_
    simp [go_sem, -getElem?_pos, -List.map_take, -List.map_drop, IntWalk.iteOmega, IntWalk.toNatUp, hp, g1, get_alloc, next_alloc, lt0, lt1, lt2, lt3, q0, q1, q2, q3]
    refine IWp.one [] ?_
    simp [go_sem, -getElem?_pos, -List.map_take, -List.map_drop, IntWalk.iteOmega, IntWalk.toNatUp, hp, g1, get_alloc, next_alloc, lt0, lt1, lt2, lt3, q0, q1, q2, q3]
    done
  · rw [hd]
    simp [go_sem, Config.val, Config.cells]
    have Kp : Kept [[2,5,6,7,8],[2,5,6,7,8]] := ⟨⟩
    iterate 2 (refine Kp.s ?_; clear Kp; intro Kp; simp [go_sem, -getElem?_pos, -List.map_take, -List.map_drop, IntWalk.iteOmega, IntWalk.toNatUp, g1, get_alloc, next_alloc, lt0, lt1, lt2, lt3])
    refine ICalls.mono (asNil _ _) ?_
    rintro v _ ⟨rfl, rfl⟩
    try simp [go_sem, -getElem?_pos, -List.map_take, -List.map_drop, IntWalk.iteOmega, IntWalk.toNatUp, g1, get_alloc, next_alloc, lt0, lt1, lt2, lt3]
    refine IWp.one [2, 5, 6, 7, 8] ?_
    simp [go_sem, -getElem?_pos, -List.map_take, -List.map_drop, IntWalk.iteOmega, IntWalk.toNatUp, g1, get_alloc, next_alloc, lt0, lt1, lt2, lt3]
    refine ICalls.mono (asNil _ _) ?_
    rintro v _ ⟨rfl, rfl⟩
    try simp [go_sem, -getElem?_pos, -List.map_take, -List.map_drop, IntWalk.iteOmega, IntWalk.toNatUp, g1, get_alloc, next_alloc, lt0, lt1, lt2, lt3]
    refine IWp.one [2, 5, 7, 8, 24] ?_
    simp [go_sem, -getElem?_pos, -List.map_take, -List.map_drop, IntWalk.iteOmega, IntWalk.toNatUp, g1, get_alloc, next_alloc, lt0, lt1, lt2, lt3]
    refine ICalls.mono (isNil _ 3) ?_
    rintro v _ ⟨rfl, rfl⟩
    try simp [go_sem, -getElem?_pos, -List.map_take, -List.map_drop, IntWalk.iteOmega, IntWalk.toNatUp, g1, get_alloc, next_alloc, lt0, lt1, lt2, lt3]
    have Kp : Kept [[],[2,5,7,8]] := ⟨⟩
    iterate 2 (refine Kp.s ?_; clear Kp; intro Kp; simp [go_sem, -getElem?_pos, -List.map_take, -List.map_drop, IntWalk.iteOmega, IntWalk.toNatUp, g1, get_alloc, next_alloc, lt0, lt1, lt2, lt3])
    refine IWp.seq ?_
    refine IWp.draw [2, 3, 4] [K.next, K.next + 1 + 1, K.next + 1, K.next + 1 + 1 + 1] (.ld 0 [6, 7, 8] (.val 1 (.val 2 (.val 3 (.val 4 (.val 5 (.eff 6 (.val 7 (.val 8 .done)) .done))))))) follows (by kernel_rfl) ?_
    simp [go_sem, -getElem?_pos, -List.map_take, -List.map_drop, IntWalk.iteOmega, IntWalk.toNatUp, g1, get_alloc, next_alloc, lt0, lt1, lt2, lt3]
    refine IWp.one [] ?_
    simp [go_sem, -getElem?_pos, -List.map_take, -List.map_drop, IntWalk.iteOmega, IntWalk.toNatUp, g1, get_alloc, next_alloc, lt0, lt1, lt2, lt3]
    done
end Go.Proofs.YtoecebibhcadoaaDoor.I
