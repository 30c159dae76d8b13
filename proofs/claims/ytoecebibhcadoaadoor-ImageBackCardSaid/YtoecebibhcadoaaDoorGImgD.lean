/- An image read: its sum, its letters, a configuration, or an error that tells where. No condition. -/
import Derived.Test.YtoecebibhcadoaaDoorGImgC
import Derived.Test.YtoecebibhcadoaaDoorGErr
import Derived.Test.YtoecebibhcadoaaDoorGSum
namespace Go.Proofs.YtoecebibhcadoaaDoor.I
open Go Go.RowKit
set_option linter.unusedVariables false
set_option linter.unusedSimpArgs false
theorem slEqual (H : Heap) (m k : Int) (L M : List Int) (hl : L.length ≤ 1000000) :
    ICalls Tryd.prog 50 [frow 1 m (L.map (Value.int .u8)), frow 1 k (M.map (Value.int .u8))] H fun v H' => v = .bool (decide (L = M)) ∧ H' = H := by
  refine IBody.calls (by kernel_rfl) ?_
  by_cases hlen : L.length = M.length
  · skip
    refine IBody.of Tryd.func50 rfl (by rw [Tryd.ntmps50]; simp) ?_
    rw [Tryd.ntmps50]
    have Kp : Kept [[0,1],[0,1,10],[],[0,1],[0,1,12,13]] := ⟨⟩
    iterate 5 (refine Kp.s ?_; clear Kp; intro Kp; simp [go_sem, -getElem?_pos, -List.map_take, -List.map_drop, IntWalk.iteOmega, IntWalk.toNatUp, hlen])
    refine IWp.block ?_
    refine IWp.loop (fun j e K => ∃ i : Nat, j = L.length - i ∧ i ≤ L.length ∧ e = [(0, frow 1 m (L.map (Value.int .u8))), (1, frow 1 k (M.map (Value.int .u8))), (12, .int .i64 (L.length : Int)), (13, .int .i64 (i : Int))] ∧ K = H ∧ L.take i = M.take i) L.length ⟨0, rfl, Nat.zero_le _, by simp [go_sem, hlen], rfl, rfl⟩ ?_
    rintro j e K ⟨i, rfl, hi, rfl, rfl, hpre⟩
    by_cases hlt : i < L.length
    · have hltM : i < M.length := by omega
      have w1 := IntWalk.i64_in ((i : Int) + 1) (by omega)
      by_cases he : L[i] = M[i]
      · skip
        have Kp : Kept [[0,1,12,13,14],[],[0,1,12,13],[0,1,5,12,13]] := ⟨⟩
        iterate 4 (refine Kp.s ?_; clear Kp; intro Kp; simp [go_sem, -getElem?_pos, -List.map_take, -List.map_drop, IntWalk.iteOmega, IntWalk.toNatUp, hlt, hltM, List.getElem?_eq_getElem hlt, List.getElem?_eq_getElem hltM, he, w1, show ¬ ((i : Int) < 0) by omega, show (i : Int) < M.length by omega, show (i : Int) < L.length by omega])
        refine IWp.seq ?_
        refine IWp.read [0, 1, 12, 13, 24] follows (by kernel_rfl) ?_
        simp [go_sem, -getElem?_pos, -List.map_take, -List.map_drop, IntWalk.iteOmega, IntWalk.toNatUp, hlt, hltM, List.getElem?_eq_getElem hlt, List.getElem?_eq_getElem hltM, he, w1, show ¬ ((i : Int) < 0) by omega, show (i : Int) < M.length by omega, show (i : Int) < L.length by omega]
        have Kp : Kept [[],[0,1,12,13],[0,1,12,13]] := ⟨⟩
        iterate 3 (refine Kp.s ?_; clear Kp; intro Kp; simp [go_sem, -getElem?_pos, -List.map_take, -List.map_drop, IntWalk.iteOmega, IntWalk.toNatUp, hlt, hltM, List.getElem?_eq_getElem hlt, List.getElem?_eq_getElem hltM, he, w1, show ¬ ((i : Int) < 0) by omega, show (i : Int) < M.length by omega, show (i : Int) < L.length by omega])
        exact ⟨L.length - (i + 1), by omega, i + 1, rfl, by omega, rfl, by rw [List.take_succ_eq_append_getElem hlt, List.take_succ_eq_append_getElem hltM, hpre, he]⟩
      · skip
        have Kp : Kept [[0,1,12,13,14],[],[0,1,12,13],[0,1,5,12,13]] := ⟨⟩
        iterate 4 (refine Kp.s ?_; clear Kp; intro Kp; simp [go_sem, -getElem?_pos, -List.map_take, -List.map_drop, IntWalk.iteOmega, IntWalk.toNatUp, hlt, hltM, List.getElem?_eq_getElem hlt, List.getElem?_eq_getElem hltM, he, w1, show ¬ ((i : Int) < 0) by omega, show (i : Int) < M.length by omega, show (i : Int) < L.length by omega])
        refine IWp.seq ?_
        refine IWp.read [0, 1, 12, 13, 24] follows (by kernel_rfl) ?_
        simp [go_sem, -getElem?_pos, -List.map_take, -List.map_drop, IntWalk.iteOmega, IntWalk.toNatUp, hlt, hltM, List.getElem?_eq_getElem hlt, List.getElem?_eq_getElem hltM, he, w1, show ¬ ((i : Int) < 0) by omega, show (i : Int) < M.length by omega, show (i : Int) < L.length by omega]
        have Kp : Kept [[],[4],[]] := ⟨⟩
        iterate 3 (refine Kp.s ?_; clear Kp; intro Kp; simp [go_sem, -getElem?_pos, -List.map_take, -List.map_drop, IntWalk.iteOmega, IntWalk.toNatUp, hlt, hltM, List.getElem?_eq_getElem hlt, List.getElem?_eq_getElem hltM, he, w1, show ¬ ((i : Int) < 0) by omega, show (i : Int) < M.length by omega, show (i : Int) < L.length by omega])
        exact fun e => he (by subst e; rfl)
    · skip
      have Kp : Kept [[0,1,12,13,14],[],[],[4],[]] := ⟨⟩
      iterate 5 (refine Kp.s ?_; clear Kp; intro Kp; simp [go_sem, -getElem?_pos, -List.map_take, -List.map_drop, IntWalk.iteOmega, IntWalk.toNatUp, show ¬ ((i : Int) < M.length) by omega, show ¬ ((i : Int) < L.length) by omega])
      rw [← List.take_of_length_le (show L.length ≤ i by omega), hpre, List.take_of_length_le (by omega)]
  · skip
    refine IBody.of Tryd.func50 rfl (by rw [Tryd.ntmps50]; simp) ?_
    rw [Tryd.ntmps50]
    have Kp : Kept [[0,1],[0,1,10],[],[4],[]] := ⟨⟩
    iterate 5 (refine Kp.s ?_; clear Kp; intro Kp; simp [go_sem, -getElem?_pos, -List.map_take, -List.map_drop, IntWalk.iteOmega, IntWalk.toNatUp, hlen, show ¬ ((L.length : Int) = M.length) by omega])
    exact fun e => hlen (by rw [e])
def cfgZ : Config := ⟨[], [], [], 0, 0, 0, 0, 0, 0, false, 0⟩
def decP (L : List Int) : Config × Int × Int :=
  if ¬ (opened L).2 = 0 then (cfgZ, 0, (opened L).2)
  else if ¬ (opened L).1.take 3 = [72, 66, 49] then (cfgZ, 0, 2)
  else
    let r := cfgP ⟨(opened L).1.drop 3, 0, 0⟩
    if ¬ r.2.ending.2 = 0 then (cfgZ, 3 + r.2.ending.1, r.2.ending.2) else (r.1, 0, 0)
def WholeR (L : List Int) (v : Value) (K : Heap) : Prop :=
  (∃ e, v = .tuple #[cfgZ.val, errV e] ∧ decP L = (cfgZ, 0, e)) ∨
  (∃ p at_ e, v = .tuple #[cfgZ.val, placedV p] ∧ K.get p = some ⟨[.int .i64 at_, errV e], true⟩ ∧ decP L = (cfgZ, at_, e) ∧ ¬ e = 3) ∨
  (∃ c : Config, v = .tuple #[c.val, .nilIface] ∧ decP L = (c, 0, 0))
theorem opened_len (L : List Int) : (opened L).1.length ≤ L.length := by
  unfold opened
  split
  · simp
  · split
    · simp
    · simp
theorem opened_bs {L : List Int} (h : Bs L) : Bs (opened L).1 := by
  unfold opened
  split
  · intro x hx; cases hx
  · split
    · exact h.take _
    · intro x hx; cases hx
theorem only_none (H : Heap) : (H.only fun _ => !false) = H := Heap.ext' (fun j => by simp [Heap.only]) rfl rfl
theorem frzZ (H : Heap) (S : Nat → Bool) : Frz H S (.agg #[.slice none 0 0, .slice none 0 0, .slice none 0 0, .int .i64 0, .int .i64 0, .int .i64 0, .int .i64 0, .int .i64 0, .int .i64 0, .bool false, .int .i64 0]) cfgZ.val :=
  .agg (.cons (.nil 2) (.cons (.nil 9) (.cons (.nil 1) (FrzL.same _))))
def Err (s : Rd) : Prop := s.e = 0 ∨ s.e = 2 ∨ s.e = 4
theorem Err.ready {s : Rd} (h : Err s) (n : Nat) : Err (s.ready n) := by
  unfold Rd.ready; split
  · exact .inr (.inr rfl)
  · exact h
theorem Err.byte {s : Rd} (h : Err s) : Err s.byte.2 := by
  unfold Rd.byte; split
  · exact h
  · exact h.ready 1
theorem Err.int {s : Rd} (h : Err s) : Err s.int.2 := by
  unfold Rd.int; split
  · exact h
  · exact h.ready 4
theorem Err.flag {s : Rd} (h : Err s) : Err s.flag.2 := by
  unfold Rd.flag; split
  · split
    · exact .inr (.inl rfl)
    · exact h
  · exact h.ready 1
theorem Err.list {α : Type} (one : Rd → α × Rd) (h1 : ∀ s, Err s → Err (one s).2) : ∀ (n : Nat) (s : Rd), Err s → Err (listP one n s).2
  | 0, s, h => h
  | n + 1, s, h => by
    by_cases he : s.e = 0
    · rw [listP_step one n s he]; exact Err.list one h1 n _ (h1 s h)
    · rw [listP_stop one _ s he]; exact h
theorem Err.many {α : Type} (one : Rd → α × Rd) (h1 : ∀ s, Err s → Err (one s).2) (s : Rd) (h : Err s) : Err (manyP one s).2 := Err.list one h1 _ _ h.byte
theorem Err.slot (s : Rd) (h : Err s) : Err (slotP s).2 := Err.many _ (fun _ h => Err.byte h) s h
theorem Err.sig (s : Rd) (h : Err s) : Err (sigP s).2 := h.int.int
theorem Err.stage (s : Rd) (h : Err s) : Err (stageP s).2 := h.int.byte
theorem Err.rule (s : Rd) (h : Err s) : Err (ruleP s).2 := Err.many _ Err.stage _ (show Err (headP s).2 from h.byte.byte.int.int.int.int.byte.flag)
theorem Err.cfg (s : Rd) (h : Err s) : Err (cfgP s).2 := (Err.many _ Err.slot _ (Err.many _ Err.rule _ (Err.many _ Err.sig s h))).byte.byte.byte.byte.int.int.flag.int
theorem ending_in {s : Rd} (h : s.ok) : 0 ≤ s.ending.1 ∧ s.ending.1 ≤ 1000000 := by
  have h1 := h.1
  have h2 := h.2.1
  unfold Rd.ending Rd.fault
  split
  · simp only; omega
  · split
    · simp
    · simp only; omega
theorem ending_err {s : Rd} (h : Err s) : ¬ s.ending.2 = 3 := by
  unfold Rd.ending Rd.fault
  split
  · simp
  · split
    · simp
    · rcases h with h | h | h <;> simp only [h] <;> decide
set_option maxRecDepth 8000 in
set_option maxHeartbeats 4000000 in
theorem wholeC (H : Heap) (m : Int) (L : List Int) (hL : L.length ≤ 800000) (hB : Bs L) :
    ICalls Tryd.prog 36 [frow 1 m (L.map (Value.int .u8))] H fun v K => WholeR L v K ∧ Old H K := by
  have ol := opened_len L
  have ob := opened_bs hB
  refine ICalls.frozen (IBody.calls (by kernel_rfl) ?_)
  by_cases h1 : (opened L).2 = 0
  · obtain ⟨Q, hQ⟩ : ∃ Q, Q = (opened L).1 := ⟨_, rfl⟩
    rw [← hQ] at ol ob
    obtain ⟨K0, hK0⟩ : ∃ K0, K0 = H.alloc [.slice none 0 0, .slice none 0 0, .slice none 0 0, .int .i64 0, .int .i64 0, .int .i64 0, .int .i64 0, .int .i64 0, .int .i64 0, .bool false, .int .i64 0] := ⟨_, rfl⟩
    have g0 : K0.get H.next = some ⟨[.slice none 0 0, .slice none 0 0, .slice none 0 0, .int .i64 0, .int .i64 0, .int .i64 0, .int .i64 0, .int .i64 0, .int .i64 0, .bool false, .int .i64 0], true⟩ := by rw [hK0]; exact Heap.get_alloc_new _ _
    have n0 : K0.next = H.next + 1 := by rw [hK0]; rfl
    have o0 : Old H K0 := by rw [hK0]; exact (Old.refl H).alloc _
    have c1 := openSum K0 m L hL hB
    rw [← hQ] at c1
    have hT : Q.take (if (3:Int) < Q.length then 3 else (Q.length : Int)).toNat = Q.take 3 := by
      split
      · rfl
      · rw [List.take_of_length_le (by omega), List.take_of_length_le (by omega)]
    have lit : (K0.alloc [.int .u8 72, .int .u8 66, .int .u8 49]).get K0.next = some ⟨[(72 : Int), 66, 49].map (Value.int .u8), true⟩ := Heap.get_alloc_new _ _
    obtain ⟨K1, hK1⟩ : ∃ K1, K1 = (K0.alloc [.int .u8 72, .int .u8 66, .int .u8 49]).kill K0.next := ⟨_, rfl⟩
    have o1 : Old K0 K1 := by rw [hK1]; exact ((Old.refl _).alloc _).kill (Nat.le_refl _)
    have g1 := o1.some _ _ g0
    have n1 : K1.next = K0.next + 1 := by rw [hK1]; rfl
    have oH := o0.trans o1
    refine IBody.of Tryd.func36 rfl (by rw [Tryd.ntmps36]; simp) ?_
    rw [Tryd.ntmps36]
    refine IWp.one [0, 2] ?_
    simp [go_sem, -getElem?_pos, -List.map_take, -List.map_drop, IntWalk.iteOmega, IntWalk.toNatUp]
    refine IWp.seq ?_
    rw [← hK0]
    refine IWp.one [2, 4, 5] ?_
    simp [go_sem, -getElem?_pos, -List.map_take, -List.map_drop, IntWalk.iteOmega, IntWalk.toNatUp, h1, hT]
    refine ICalls.then (c1) ?_
    try simp [go_sem, -getElem?_pos, -List.map_take, -List.map_drop, IntWalk.iteOmega, IntWalk.toNatUp, h1, hT]
    have Kp : Kept [[2,4,5,16],[],[2,4],[2,4,28]] := ⟨⟩
    iterate 4 (refine Kp.s ?_; clear Kp; intro Kp; simp [go_sem, -getElem?_pos, -List.map_take, -List.map_drop, IntWalk.iteOmega, IntWalk.toNatUp, h1, hT])
    refine ICalls.freeze1 K0.next (.cons (.same _) (.cons (frz_lit ([(72 : Int), 66, 49].map (Value.int .u8)) lit rfl (fun u hu => by obtain ⟨x, _, rfl⟩ := List.mem_map.1 hu; rfl) rfl (by simp)) .nil)) (ICalls.mono (slEqual _ 0 0 (Q.take 3) [72, 66, 49] (by simp; omega)) ?_)
    rintro v _ ⟨rfl, rfl⟩
    rw [← hK1]
    clear lit hK1 g0 o1 c1 hT
    by_cases h2 : Q.take 3 = [72, 66, 49]
    · have hq3 : 3 ≤ Q.length := by
        have := congrArg List.length h2
        simp at this; omega
      obtain ⟨s0, hs0⟩ : ∃ x : Rd, x = ⟨Q.drop 3, 0, 0⟩ := ⟨_, rfl⟩
      have ks0 : s0.ok := by rw [hs0]; exact ⟨Nat.zero_le _, by simp; omega, fun x hx => ob x (List.mem_of_mem_drop hx)⟩
      have er := Err.cfg s0 (by rw [hs0]; exact .inl rfl)
      obtain ⟨C, hC⟩ : ∃ x, x = (cfgP s0).1 := ⟨_, rfl⟩
      obtain ⟨s9, hs9⟩ : ∃ x, x = (cfgP s0).2 := ⟨_, rfl⟩
      have ks9 : s9.ok := by rw [hs9]; exact cfgP_ok _ ks0
      have e1 := ending_in ks9
      rw [← hs9] at er
      have e3 := ending_err er
      have hd : decP L = if ¬ s9.ending.2 = 0 then (cfgZ, 3 + s9.ending.1, s9.ending.2) else (C, 0, 0) := by
        unfold decP
        rw [if_neg (by simpa using h1), ← hQ, if_neg (by simpa using h2), ← hs0]
        show (if ¬ (cfgP s0).2.ending.2 = 0 then _ else _) = _
        rw [← hs9, ← hC]
      have c2 := newReader K1 0 (Q.drop 3) (by simp; omega)
      obtain ⟨K2, hK2⟩ : ∃ K2, K2 = K1.alloc s0.cells := ⟨_, rfl⟩
      rw [← hs0, ← hK2] at c2
      have n2 : K2.next = K1.next + 1 := by rw [hK2]; rfl
      have b2 : K2.get K1.next = some ⟨s0.cells, true⟩ := by rw [hK2]; exact Heap.get_alloc_new _ _
      have o2 : Old K1 K2 := by rw [hK2]; exact (Old.refl _).alloc _
      have c3 := readC K2 K1.next s0 ks0 b2
      rw [← hC, ← hs9] at c3
      have g2 := o2.some _ _ g1
      simp [go_sem, h2]
      have Kp : Kept [[],[2,4]] := ⟨⟩
      iterate 2 (refine Kp.s ?_; clear Kp; intro Kp; simp [go_sem, -getElem?_pos, -List.map_take, -List.map_drop, IntWalk.iteOmega, IntWalk.toNatUp])
      refine IWp.seq ?_
      refine IWp.one [2, 6] ?_
      simp [go_sem, -getElem?_pos, -List.map_take, -List.map_drop, IntWalk.iteOmega, IntWalk.toNatUp, show (3 : Int) ≤ Q.length by omega, List.take_of_length_le (show (Q.drop 3).length ≤ Q.length - 3 by simp)]
      refine ICalls.mono (c2) ?_
      rintro v _ ⟨rfl, rfl⟩
      try simp [go_sem, -getElem?_pos, -List.map_take, -List.map_drop, IntWalk.iteOmega, IntWalk.toNatUp, show (3 : Int) ≤ Q.length by omega, List.take_of_length_le (show (Q.drop 3).length ≤ Q.length - 3 by simp)]
      refine IWp.seq ?_
      clear c2
      refine IWp.one [2, 6, 7] ?_
      simp [go_sem, -getElem?_pos, -List.map_take, -List.map_drop, IntWalk.iteOmega, IntWalk.toNatUp]
      refine ICalls.mono (c3) ?_
      rintro v K3 ⟨rfl, f3, b3⟩
      try simp [go_sem, -getElem?_pos, -List.map_take, -List.map_drop, IntWalk.iteOmega, IntWalk.toNatUp, Config.val, Config.cells]
      refine IWp.seq ?_
      refine IWp.seq ?_
      have g3 := (f3.same H.next (by have := Heap.lt_of_get g2; omega) (by omega)).trans g2
      have o3 : Old H K3 := ⟨fun j hj => (f3.same j (by omega) (by omega)).trans ((o2.1 j (by omega)).trans (oH.1 j hj)), by have := f3.next; have := oH.2; omega⟩
      have hC2 : C.val = .agg #[frow 2 0 (C.sigs.map Sig.val), frow 9 0 (C.rules.map Rule.val), frow 1 0 (C.table.map (ints .i64)), .int .i64 C.b0, .int .i64 C.b1, .int .i64 C.b2, .int .i64 C.drain, .int .i64 C.pause, .int .i64 C.off, .bool C.brk, .int .i64 C.log] := rfl
      have c4 := rEnd (K3.alloc [frow 2 0 (C.sigs.map Sig.val), frow 9 0 (C.rules.map Rule.val), frow 1 0 (C.table.map (ints .i64)), .int .i64 C.b0, .int .i64 C.b1, .int .i64 C.b2, .int .i64 C.drain, .int .i64 C.pause, .int .i64 C.off, .bool C.brk, .int .i64 C.log]) K1.next s9 ks9 (by rw [Heap.get_alloc_lt _ _ _ (Heap.lt_of_get b3)]; exact b3)
      have w1 := IntWalk.i64_in (3 + s9.ending.1) (by omega)
      have lg3 := Heap.lt_of_get g3
      by_cases h9 : s9.ending.2 = 0
      · rw [if_neg (by simpa using h9)] at hd
        refine IWp.one [2, 7, 8, 9] ?_
        simp [go_sem, -getElem?_pos, -List.map_take, -List.map_drop, IntWalk.iteOmega, IntWalk.toNatUp, h9, g3, get_alloc, show ¬ H.next = K3.next by omega]
        refine ICalls.then (c4) ?_
        try simp [go_sem, -getElem?_pos, -List.map_take, -List.map_drop, IntWalk.iteOmega, IntWalk.toNatUp, h9, g3, get_alloc, show ¬ H.next = K3.next by omega]
        have Kp : Kept [[2,7,8,9,42],[],[2,7],[2,3],[]] := ⟨⟩
        iterate 5 (refine Kp.s ?_; clear Kp; intro Kp; simp [go_sem, -getElem?_pos, -List.map_take, -List.map_drop, IntWalk.iteOmega, IntWalk.toNatUp, h9, g3, get_alloc, show ¬ H.next = K3.next by omega])
        refine ⟨fun _ => false, _, .same _, ?_, ?_⟩
        · exact .inr (.inr ⟨C, rfl, hd⟩)
        · rw [only_none]
          exact (o3.alloc _).set (Nat.le_refl _) _
      · rw [if_pos h9] at hd
        refine IWp.one [2, 7, 8, 9] ?_
        simp [go_sem, -getElem?_pos, -List.map_take, -List.map_drop, IntWalk.iteOmega, IntWalk.toNatUp, h9, g3, w1, get_alloc, next_alloc, show ¬ H.next = K3.next by omega, show ¬ H.next = K3.next + 1 by omega]
        refine ICalls.then (c4) ?_
        try simp [go_sem, -getElem?_pos, -List.map_take, -List.map_drop, IntWalk.iteOmega, IntWalk.toNatUp, h9, g3, w1, get_alloc, next_alloc, show ¬ H.next = K3.next by omega, show ¬ H.next = K3.next + 1 by omega]
        have Kp : Kept [[2,7,8,9,42],[],[2,3],[]] := ⟨⟩
        iterate 4 (refine Kp.s ?_; clear Kp; intro Kp; simp [go_sem, -getElem?_pos, -List.map_take, -List.map_drop, IntWalk.iteOmega, IntWalk.toNatUp, h9, g3, w1, get_alloc, next_alloc, show ¬ H.next = K3.next by omega, show ¬ H.next = K3.next + 1 by omega])
        refine ⟨fun _ => false, _, .tuple (.cons (frzZ _ _) (.cons (.same _) .nil)), .inr (.inl ⟨K3.next + 1, 3 + s9.ending.1, s9.ending.2, rfl, ?_, hd, e3⟩), ?_⟩
        · rw [only_none, get_set, if_neg (by omega), get_alloc, next_alloc, if_pos rfl]; rfl
        · rw [only_none]
          exact ((o3.alloc _).alloc _).set (Nat.le_refl _) _
    · have hd : decP L = (cfgZ, 0, 2) := by unfold decP; rw [if_neg (by simpa using h1), ← hQ, if_pos h2]
      rw [show decide (Q.take 3 = [72, 66, 49]) = false from decide_eq_false h2]
      simp [go_sem, -List.map_take, -List.map_drop]
      have Kp : Kept [[],[2,3],[]] := ⟨⟩
      iterate 3 (refine Kp.s ?_; clear Kp; intro Kp; simp [go_sem, -getElem?_pos, -List.map_take, -List.map_drop, IntWalk.iteOmega, IntWalk.toNatUp, g1])
      refine ⟨fun _ => false, _, .tuple (.cons (frzZ _ _) (.cons (.same _) .nil)), ?_, ?_⟩
      · exact .inl ⟨2, rfl, hd⟩
      · rw [only_none]
        exact oH.set (Nat.le_refl _) _
  · have hd : decP L = (cfgZ, 0, (opened L).2) := by unfold decP; rw [if_pos h1]
    have c1 := openSum (H.alloc [.slice none 0 0, .slice none 0 0, .slice none 0 0, .int .i64 0, .int .i64 0, .int .i64 0, .int .i64 0, .int .i64 0, .int .i64 0, .bool false, .int .i64 0]) m L hL hB
    refine IBody.of Tryd.func36 rfl (by rw [Tryd.ntmps36]; simp) ?_
    rw [Tryd.ntmps36]
    have Kp : Kept [[0,2],[2,4,5]] := ⟨⟩
    iterate 2 (refine Kp.s ?_; clear Kp; intro Kp; simp [go_sem, -getElem?_pos, -List.map_take, -List.map_drop, IntWalk.iteOmega, IntWalk.toNatUp, h1])
    refine ICalls.then (c1) ?_
    try simp [go_sem, -getElem?_pos, -List.map_take, -List.map_drop, IntWalk.iteOmega, IntWalk.toNatUp, h1]
    have Kp : Kept [[2,4,5,16],[],[2,3],[]] := ⟨⟩
    iterate 4 (refine Kp.s ?_; clear Kp; intro Kp; simp [go_sem, -getElem?_pos, -List.map_take, -List.map_drop, IntWalk.iteOmega, IntWalk.toNatUp, h1])
    refine ⟨fun _ => false, _, .tuple (.cons (frzZ _ _) (.cons (.same _) .nil)), ?_, ?_⟩
    · exact .inl ⟨_, rfl, hd⟩
    · rw [only_none]
      exact (Old.refl H).alloc _
end Go.Proofs.YtoecebibhcadoaaDoor.I
