/- An image read, as the document reads it: r06.Decode. No condition. -/
import Derived.Test.YtoecebibhcadoaaDoorGImgE
import Derived.Test.YtoecebibhcadoaaDoorGImgF
import Derived.Test.YtoecebibhcadoaaDoorGReadI
import Derived.Test.YtoecebibhcadoaaDoorGReadM
namespace Go.Proofs.YtoecebibhcadoaaDoor.I
open Go Go.RowKit
set_option linter.unusedVariables false
set_option linter.unusedSimpArgs false
structure Dx (n b rb xb : Nat) (K : Heap) (st : Rd) (cs : List Value) : Prop where
  gb : K.get b = some ⟨st.cells, true⟩
  gr : K.get rb = some ⟨[.slice none 0 0, .slice none 0 0, .slice none 0 0, .int .i64 0, .int .i64 0, .int .i64 0, .int .i64 0, .int .i64 0, .int .i64 0, .bool false, .int .i64 0], true⟩
  gx : K.get xb = some ⟨cs, true⟩
  ne : ¬ b = rb ∧ ¬ b = xb ∧ ¬ rb = xb ∧ b < n ∧ rb < n ∧ xb < n
  nx : n ≤ K.next
theorem Dx.set {n b rb xb : Nat} {K : Heap} {st : Rd} {cs : List Value} (h : Dx n b rb xb K st cs) (t : Rd) : Dx n b rb xb (K.set b t.cells) t cs :=
  ⟨by rw [get_set, if_pos rfl, h.gb]; rfl, by rw [get_set, if_neg (Ne.symm h.ne.1)]; exact h.gr, by rw [get_set, if_neg (Ne.symm h.ne.2.1)]; exact h.gx, h.ne, h.nx⟩
theorem Dx.put {n b rb xb : Nat} {K : Heap} {st : Rd} {cs : List Value} (h : Dx n b rb xb K st cs) (cs' : List Value) : Dx n b rb xb (K.set xb cs') st cs' :=
  ⟨by rw [get_set, if_neg h.ne.2.1]; exact h.gb, by rw [get_set, if_neg h.ne.2.2.1]; exact h.gr, by rw [get_set, if_pos rfl, h.gx]; rfl, h.ne, h.nx⟩
theorem Dx.same {n b rb xb : Nat} {K M : Heap} {st : Rd} {cs : List Value} (h : Dx n b rb xb K st cs) (hs : ∀ j, j < n → M.get j = K.get j) (hn : n ≤ M.next) : Dx n b rb xb M st cs :=
  ⟨by rw [hs b h.ne.2.2.2.1]; exact h.gb, by rw [hs rb h.ne.2.2.2.2.1]; exact h.gr, by rw [hs xb h.ne.2.2.2.2.2]; exact h.gx, h.ne, hn⟩
theorem Dx.alloc {n b rb xb : Nat} {K : Heap} {st : Rd} {cs : List Value} (h : Dx n b rb xb K st cs) (ds : List Value) : Dx n b rb xb (K.alloc ds) st cs :=
  h.same (fun j hj => Heap.get_alloc_lt _ _ _ (by have := h.nx; omega)) (by rw [next_alloc]; have := h.nx; omega)
theorem Dx.setN {n b rb xb : Nat} {K : Heap} {st : Rd} {cs : List Value} (h : Dx n b rb xb K st cs) {q : Nat} (hq : n ≤ q) (ds : List Value) : Dx n b rb xb (K.set q ds) st cs :=
  h.same (fun j hj => by rw [get_set, if_neg (by omega)]) h.nx
theorem Dx.step {n b rb xb : Nat} {K : Heap} {st : Rd} {cs : List Value} (h : Dx n b rb xb K st cs) (t : Rd) (cs' : List Value) : Dx n b rb xb ((K.set b t.cells).set xb cs') t cs' := (h.set t).put cs'
theorem Bld.blk {sz n : Nat} {K : Heap} {v : Value} {us : List Value} (h : Bld sz K n v us) : ∀ j, blkOf v j = true → j < K.next := fun j hj => by
  rcases h.2 with ⟨e1, e2⟩ | ⟨q, hq, e1, e2⟩
  · rw [e1] at hj; cases hj
  · rw [e1] at hj; simp [blkOf] at hj; rw [hj]; exact Heap.lt_of_get e2
theorem Bld.low {sz n : Nat} {K : Heap} {v : Value} {us : List Value} (h : Bld sz K n v us) : ∀ j, j < n → blkOf v j = false := fun j hj => by
  rcases h.2 with ⟨e1, _⟩ | ⟨q, hq, e1, _⟩
  · rw [e1]; rfl
  · rw [e1]; simp [blkOf]; omega
theorem Bld.to {sz n m : Nat} {K M : Heap} {v : Value} {us : List Value} (h : Bld sz K n v us) (hv : ∀ j, blkOf v j = true → j < m) (hs : ∀ j, n ≤ j → j < m → M.get j = K.get j) : Bld sz M n v us := by
  refine ⟨h.1, ?_⟩
  rcases h.2 with ⟨e1, e2⟩ | ⟨q, hq, e1, e2⟩
  · exact .inl ⟨e1, e2⟩
  · exact .inr ⟨q, hq, e1, (hs q hq (hv q (by rw [e1]; simp [blkOf]))).trans e2⟩
structure Rx (n b rb xb yb : Nat) (v : Value) (us : List Value) (K : Heap) (st : Rd) (cs rs : List Value) : Prop where
  d : Dx n b rb xb K st cs
  y : K.get yb = some ⟨rs, true⟩
  hy : n ≤ yb
  bl : Bld 9 K n v us
  bn : blkOf v yb = false
theorem Rx.step {n b rb xb yb : Nat} {v : Value} {us : List Value} {K : Heap} {st : Rd} {cs rs : List Value} (h : Rx n b rb xb yb v us K st cs rs) (t : Rd) (rs' : List Value) : Rx n b rb xb yb v us ((K.set b t.cells).set yb rs') t cs rs' := by
  have hb := h.d.ne.2.2.2.1
  have hy := h.hy
  refine ⟨(h.d.set t).setN h.hy _, by rw [get_set, if_pos rfl, get_set, if_neg (by omega), h.y]; rfl, h.hy, ⟨h.bl.1, ?_⟩, h.bn⟩
  rcases h.bl.2 with ⟨e1, e2⟩ | ⟨q, hq, e1, e2⟩
  · exact .inl ⟨e1, e2⟩
  · have hn := h.bn
    rw [e1] at hn
    have hqy : ¬ q = yb := by simp [blkOf] at hn; omega
    exact .inr ⟨q, hq, e1, by rw [get_set, if_neg hqy, get_set, if_neg (by omega)]; exact e2⟩
theorem Rx.to {n b rb xb yb : Nat} {v : Value} {us : List Value} {K : Heap} {st : Rd} {cs rs : List Value} (h : Rx n b rb xb yb v us K st cs rs) {M : Heap} {t : Rd} {m : Nat} (hm : yb < m) (hv : ∀ j, blkOf v j = true → j < m) (hb : M.get b = some ⟨t.cells, true⟩) (hs : ∀ j, j < m → j ≠ b → M.get j = K.get j) (hn : n ≤ M.next) : Rx n b rb xb yb v us M t cs rs := by
  have ne := h.d.ne
  have hy := h.hy
  refine ⟨⟨hb, (hs rb (by omega) (by omega)).trans h.d.gr, (hs xb (by omega) (by omega)).trans h.d.gx, ne, hn⟩, (hs yb hm (by omega)).trans h.y, hy, ⟨h.bl.1, ?_⟩, h.bn⟩
  rcases h.bl.2 with ⟨e1, e2⟩ | ⟨q, hq, e1, e2⟩
  · exact .inl ⟨e1, e2⟩
  · exact .inr ⟨q, hq, e1, (hs q (hv q (by rw [e1]; simp [blkOf])) (by omega)).trans e2⟩
theorem Rx.put {n b rb xb yb : Nat} {v : Value} {us : List Value} {K : Heap} {st : Rd} {cs rs : List Value} (h : Rx n b rb xb yb v us K st cs rs) (rs' : List Value) : Rx n b rb xb yb v us (K.set yb rs') st cs rs' := by
  refine ⟨h.d.setN h.hy _, by rw [get_set, if_pos rfl, h.y]; rfl, h.hy, ⟨h.bl.1, ?_⟩, h.bn⟩
  rcases h.bl.2 with ⟨e1, e2⟩ | ⟨q, hq, e1, e2⟩
  · exact .inl ⟨e1, e2⟩
  · have hn := h.bn
    rw [e1] at hn
    exact .inr ⟨q, hq, e1, by rw [get_set, if_neg (by simp [blkOf] at hn; omega)]; exact e2⟩
theorem Bld.keepD {sz n : Nat} {K M : Heap} {v : Value} {us : List Value} (h : Bld sz K n v us) (hs : ∀ j, n ≤ j → j < K.next → M.get j = K.get j) : Bld sz M n v us :=
  h.same fun j k hj hk => by rw [hs j hj (Heap.lt_of_get hk)]; exact hk
theorem decP_alt (L : List Int) (h1 : (opened L).2 = 0) (h2 : (opened L).1.take 3 = [72, 66, 49]) (s : Rd) (hs : s = ⟨(opened L).1, 3, 0⟩) (hok : s.ok) :
    decP L = if ¬ (cfgP s).2.ending.2 = 0 then (cfgZ, (cfgP s).2.ending.1, (cfgP s).2.ending.2) else ((cfgP s).1, 0, 0) := by
  have hq : 3 ≤ (opened L).1.length := by have := congrArg List.length h2; simp at this; omega
  have ok0 : (Rd.mk ((opened L).1.drop 3) 0 0).ok := ⟨Nat.zero_le _, by have := hok.2.1; rw [hs] at this; simp only [List.length_drop] at *; omega, fun x hx => hok.2.2 x (by rw [hs]; exact List.mem_of_mem_drop hx)⟩
  obtain ⟨e1, e2⟩ := cfgP_shift 3 ⟨(opened L).1.drop 3, 0, 0⟩ s ⟨by rw [hs], by rw [hs], by rw [hs], by rw [hs]; exact hq⟩
  obtain ⟨e3, e4⟩ := e2.ending (cfgP_ok _ ok0)
  unfold decP
  rw [if_neg (by simpa using h1), if_neg (by simpa using h2), e1, e3]
  simp only
  split
  · rename_i hne
    rw [e4 hne]; rw [Int.add_comm]; rfl
  · rfl
set_option maxRecDepth 8000 in
set_option maxHeartbeats 4000000 in
theorem refDecode (H : Heap) (m : Int) (L : List Int) (hL : L.length ≤ 800000) (hB : Bs L) :
    ICalls Tryd.prog 42 [frow 1 m (L.map (Value.int .u8))] H fun v H' => v = .tuple #[(decP L).1.val, .int .i64 (decP L).2.1, .int .i64 (decP L).2.2] ∧ H' = H := by
  refine ICalls.ans (by simp only [Cl_tuple, ClL_cons, Config.cl_val, Cl_int, ClL_nil]; exact ⟨trivial, trivial, trivial, trivial⟩) fun H => IBody.calls (by kernel_rfl) ?_
  have ol := opened_len L
  have ob := opened_bs hB
  have c1 := refOpen (H.alloc [.slice none 0 0, .slice none 0 0, .slice none 0 0, .int .i64 0, .int .i64 0, .int .i64 0, .int .i64 0, .int .i64 0, .int .i64 0, .bool false, .int .i64 0]) m L hL hB
  have fin : ∀ (a e : Int), decP L = (cfgZ, a, e) → ∀ K : Heap, Frz K (fun _ => true) (.tuple #[.agg #[.slice none 0 0, .slice none 0 0, .slice none 0 0, .int .i64 0, .int .i64 0, .int .i64 0, .int .i64 0, .int .i64 0, .int .i64 0, .bool false, .int .i64 0], .int .i64 a, .int .i64 e]) (.tuple #[(decP L).1.val, .int .i64 (decP L).2.1, .int .i64 (decP L).2.2]) := fun a e h K => by
    rw [h]; exact .tuple (.cons (frzZ _ _) (.cons (.same _) (.cons (.same _) .nil)))
  obtain ⟨U, hU⟩ : ∃ U : Value, U = .tuple #[(decP L).1.val, .int .i64 (decP L).2.1, .int .i64 (decP L).2.2] := ⟨_, rfl⟩
  rw [← hU] at fin ⊢
  by_cases h1 : (opened L).2 = 0
  · obtain ⟨Q, hQ⟩ : ∃ Q, Q = (opened L).1 := ⟨_, rfl⟩
    rw [← hQ] at ol ob c1
    by_cases hs : Q.length < 3
    · have hd : decP L = (cfgZ, 0, 2) := by
        unfold decP; rw [if_neg (by simpa using h1), ← hQ, if_pos]
        intro e; have := congrArg List.length e; simp at this; omega
      refine IBody.of Tryd.func42 rfl (by rw [Tryd.ntmps42]; simp) ?_
      rw [Tryd.ntmps42]
      have Kp : Kept [[0,2],[2,5,6]] := ⟨⟩
      iterate 2 (refine Kp.s ?_; clear Kp; intro Kp; simp [go_sem, -getElem?_pos, -List.map_take, -List.map_drop, IntWalk.iteOmega, IntWalk.toNatUp, h1, hs, show (Q.length : Int) < 3 by omega])
      refine ICalls.then (c1) ?_
      try simp [go_sem, -getElem?_pos, -List.map_take, -List.map_drop, IntWalk.iteOmega, IntWalk.toNatUp, h1, hs, show (Q.length : Int) < 3 by omega]
      have Kp : Kept [[2,5,6,26],[],[2,5],[2,5,39],[],[2,3,4],[]] := ⟨⟩
      iterate 7 (refine Kp.s ?_; clear Kp; intro Kp; simp [go_sem, -getElem?_pos, -List.map_take, -List.map_drop, IntWalk.iteOmega, IntWalk.toNatUp, h1, hs, show (Q.length : Int) < 3 by omega])
      exact fin 0 2 hd _
    · have lit : ((H.alloc [.slice none 0 0, .slice none 0 0, .slice none 0 0, .int .i64 0, .int .i64 0, .int .i64 0, .int .i64 0, .int .i64 0, .int .i64 0, .bool false, .int .i64 0]).alloc [.int .u8 72, .int .u8 66, .int .u8 49]).get (H.next + 1) = some ⟨[(72 : Int), 66, 49].map (Value.int .u8), true⟩ := by simp [get_alloc, next_alloc]
      have g0 : (((H.alloc [.slice none 0 0, .slice none 0 0, .slice none 0 0, .int .i64 0, .int .i64 0, .int .i64 0, .int .i64 0, .int .i64 0, .int .i64 0, .bool false, .int .i64 0]).alloc [.int .u8 72, .int .u8 66, .int .u8 49]).kill (H.next + 1)).get H.next = some ⟨[.slice none 0 0, .slice none 0 0, .slice none 0 0, .int .i64 0, .int .i64 0, .int .i64 0, .int .i64 0, .int .i64 0, .int .i64 0, .bool false, .int .i64 0], true⟩ := by
        rw [get_kill, if_neg (by omega), get_alloc, next_alloc, if_neg (by omega)]; exact Heap.get_alloc_new _ _
      have n0 : (((H.alloc [.slice none 0 0, .slice none 0 0, .slice none 0 0, .int .i64 0, .int .i64 0, .int .i64 0, .int .i64 0, .int .i64 0, .int .i64 0, .bool false, .int .i64 0]).alloc [.int .u8 72, .int .u8 66, .int .u8 49]).kill (H.next + 1)).next = H.next + 1 + 1 := by simp only [next_kill, next_alloc]
      refine IBody.of Tryd.func42 rfl (by rw [Tryd.ntmps42]; simp) ?_
      rw [Tryd.ntmps42]
      have Kp : Kept [[0,2],[2,5,6]] := ⟨⟩
      iterate 2 (refine Kp.s ?_; clear Kp; intro Kp; simp [go_sem, -getElem?_pos, -List.map_take, -List.map_drop, IntWalk.iteOmega, IntWalk.toNatUp, h1, hs, show ¬ (Q.length : Int) < 3 by omega, show (3 : Int) ≤ Q.length by omega])
      refine ICalls.then (c1) ?_
      try simp [go_sem, -getElem?_pos, -List.map_take, -List.map_drop, IntWalk.iteOmega, IntWalk.toNatUp, h1, hs, show ¬ (Q.length : Int) < 3 by omega, show (3 : Int) ≤ Q.length by omega]
      have Kp : Kept [[2,5,6,26],[],[2,5],[2,5,39]] := ⟨⟩
      iterate 4 (refine Kp.s ?_; clear Kp; intro Kp; simp [go_sem, -getElem?_pos, -List.map_take, -List.map_drop, IntWalk.iteOmega, IntWalk.toNatUp, h1, hs, show ¬ (Q.length : Int) < 3 by omega, show (3 : Int) ≤ Q.length by omega])
      refine ICalls.freeze1 (H.next + 1) (.cons (.same _) (.cons (frz_lit ([(72 : Int), 66, 49].map (Value.int .u8)) lit rfl (fun u hu => by obtain ⟨x, _, rfl⟩ := List.mem_map.1 hu; rfl) rfl (by simp)) .nil)) (ICalls.then (refBytes _ 0 0 (Q.take 3) [72, 66, 49] (by simp; omega)) ?_)
      clear lit c1
      generalize ((H.alloc _).alloc _).kill _ = K0 at g0 n0 ⊢
      by_cases h2 : Q.take 3 = [72, 66, 49]
      · rw [show decide (Q.take 3 = [72, 66, 49]) = true from decide_eq_true h2]
        simp [go_sem, -List.map_take, -List.map_drop]
        have Kp : Kept [[],[2,5],[2,7],[2,7,8]] := ⟨⟩
        iterate 4 (refine Kp.s ?_; clear Kp; intro Kp; simp [go_sem, -getElem?_pos, -List.map_take, -List.map_drop, IntWalk.iteOmega, IntWalk.toNatUp, h2])
        have hq3 : 3 ≤ Q.length := by have := congrArg List.length h2; simp at this; omega
        obtain ⟨s0, hs0⟩ : ∃ x : Rd, x = ⟨Q, 3, 0⟩ := ⟨_, rfl⟩
        have ks0 : s0.ok := by rw [hs0]; exact ⟨hq3, by simp only; omega, ob⟩
        have hd := decP_alt L h1 (by rw [← hQ]; exact h2) s0 (by rw [hs0, hQ]) ks0
        obtain ⟨ZC, hZC⟩ : ∃ ZC, ZC = confB (.slice none 0 0) (.slice none 0 0) (.slice none 0 0) 0 0 0 0 0 0 false 0 := ⟨_, rfl⟩
        have D0 : Dx (K0.next + 1 + 1) K0.next H.next (K0.next + 1) ((K0.alloc s0.cells).alloc ZC) s0 ZC := by
          refine ⟨by simp only [get_alloc, next_alloc]; rw [if_neg (by omega)]; simp, ?_, by simp [get_alloc, next_alloc], by omega, by simp [next_alloc]⟩
          simp only [get_alloc, next_alloc]; rw [if_neg (by omega), if_neg (by omega)]; exact g0
        rw [hs0, hZC] at D0
        simp only [confB, Rd.cells] at D0
        generalize K0.next + 1 = xb at D0 ⊢
        generalize (K0.alloc _).alloc _ = K1 at D0 ⊢
        generalize K0.next = b at D0 ⊢
        generalize H.next = rb at D0 ⊢
        generalize xb + 1 = n at D0 ⊢
        have hZ := D0.gr
        have nb := D0.ne
        obtain ⟨SV, hSV⟩ : ∃ y, y = (manyP sigP s0).1 := ⟨_, rfl⟩
        obtain ⟨s1, hs1⟩ : ∃ y, y = (manyP sigP s0).2 := ⟨_, rfl⟩
        have k1 : s1.ok := by rw [hs1]; exact manyP_ok _ sigP_ok _ ks0
        obtain ⟨RV, hRV⟩ : ∃ y, y = (manyP ruleP s1).1 := ⟨_, rfl⟩
        obtain ⟨s2, hs2⟩ : ∃ y, y = (manyP ruleP s1).2 := ⟨_, rfl⟩
        have k2 : s2.ok := by rw [hs2]; exact manyP_ok _ ruleP_ok _ k1
        obtain ⟨TV, hTV⟩ : ∃ y, y = (manyP slotP s2).1 := ⟨_, rfl⟩
        obtain ⟨s3, hs3⟩ : ∃ y, y = (manyP slotP s2).2 := ⟨_, rfl⟩
        have k3 : s3.ok := by rw [hs3]; exact manyP_ok _ slotP_ok _ k2
        have D0 : Dx n b rb xb K1 s0 (confB (.slice none 0 0) (.slice none 0 0) (.slice none 0 0) 0 0 0 0 0 0 false 0) := by rw [hs0]; exact D0
        refine IWp.cut (fun e K => ∃ v, Dx n b rb xb K s1 (confB v (.slice none 0 0) (.slice none 0 0) 0 0 0 0 0 0 false 0) ∧ Bld 2 K n v (SV.map Sig.val) ∧ e = [(2, ptrTo rb 0), (7, ptrTo b 0), (8, ptrTo xb 0)]) ?_ ?_
        · skip
          refine IWp.one [2, 7, 8, 9] ?_
          simp [go_sem, -getElem?_pos, -List.map_take, -List.map_drop, IntWalk.iteOmega, IntWalk.toNatUp]
          refine ICalls.mono (mByte K1 b s0 ks0 D0.gb) ?_
          rintro v _ ⟨rfl, rfl⟩
          try simp [go_sem, -getElem?_pos, -List.map_take, -List.map_drop, IntWalk.iteOmega, IntWalk.toNatUp]
          refine IWp.block ?_
          have D1 := D0.set s0.byte.2
          have i1 := Inv.start sigP s0 ks0
          have hN := Rd.byte_u8 s0 ks0
          generalize K1.set b _ = K at D1 ⊢
          obtain ⟨N, hNe⟩ : ∃ N, N = s0.byte.1 := ⟨_, rfl⟩
          rw [← hNe] at hN i1 ⊢
          clear D0
          refine IWp.loop (fun j e K => ∃ (i : Nat) (v : Value) (acc : List Sig) (st : Rd), j = N.toNat - i ∧ Inv sigP s0 N.toNat i acc st ∧ Dx n b rb xb K st (confB v (.slice none 0 0) (.slice none 0 0) 0 0 0 0 0 0 false 0) ∧ Bld 2 K n v (acc.map Sig.val) ∧ e = [(2, ptrTo rb 0), (7, ptrTo b 0), (8, ptrTo xb 0), (9, .int .u8 (N - i))]) N.toNat ⟨0, _, [], _, rfl, i1, D1, Bld.nil _ _ _, by simp [go_sem]⟩ ?_
          clear i1 D1 hZ
          rintro j e K ⟨i, v, acc, st, rfl, hi, D, hv, rfl⟩
          obtain ⟨hi1, hso, hil, hin⟩ := hi.parts
          have dn := D.nx
          have db := D.gb
          have dx := D.gx
          simp only [Rd.cells] at db
          simp only [confB] at dx
          by_cases hlt : i < N.toNat
          · by_cases he : st.e = 0
            · have hstep := hi.step sigP_ok hlt he
              have DA := D.alloc [.int .i64 0, .int .i64 0]
              have D2 := (DA.set st.int.2).setN dn [.int .i64 st.int.1, .int .i64 0]
              have hvA : ∀ {M : Heap}, M = (((((K.alloc [.int .i64 0, .int .i64 0]).set b st.int.2.cells).set K.next [.int .i64 st.int.1, .int .i64 0]).set b st.int.2.int.2.cells).set K.next [.int .i64 st.int.1, .int .i64 st.int.2.int.1]) → Bld 2 M n v (acc.map Sig.val) := fun {M} hM => hv.keepD fun j hj hl => by
                rw [hM]; simp only [get_set, get_alloc]; rw [if_neg (by omega), if_neg (by omega), if_neg (by omega), if_neg (by omega), if_neg (by omega)]
              have w1 : IntKind.u8.wrap (N - i - 1) = N - ((i + 1 : Nat) : Int) := by rw [show N - ((i + 1 : Nat) : Int) = N - i - 1 by omega]; exact IntWalk.u8_in _ (by omega)
              have Kp : Kept [[2,7,8,9,54],[],[2,7,8,9],[2,7,8,9,10],[2,7,8,9,10]] := ⟨⟩
              iterate 5 (refine Kp.s ?_; clear Kp; intro Kp; simp [go_sem, -getElem?_pos, -List.map_take, -List.map_drop, IntWalk.iteOmega, IntWalk.toNatUp, db, he, show (0 : Int) < N - i by omega, show ¬ b = K.next by omega, show ¬ K.next = b by omega])
              refine ICalls.mono (mInt _ b st hso DA.gb) ?_
              rintro v1 _ ⟨rfl, rfl⟩
              try simp [go_sem, -getElem?_pos, -List.map_take, -List.map_drop, IntWalk.iteOmega, IntWalk.toNatUp, db, he, show (0 : Int) < N - i by omega, show ¬ b = K.next by omega, show ¬ K.next = b by omega]
              refine IWp.one [2, 7, 8, 9, 10] ?_
              simp [go_sem, -getElem?_pos, -List.map_take, -List.map_drop, IntWalk.iteOmega, IntWalk.toNatUp, db, he, show (0 : Int) < N - i by omega, show ¬ b = K.next by omega, show ¬ K.next = b by omega]
              refine ICalls.mono (mInt _ b st.int.2 (Rd.int_ok hso) D2.gb) ?_
              rintro v2 _ ⟨rfl, rfl⟩
              try simp [go_sem, -getElem?_pos, -List.map_take, -List.map_drop, IntWalk.iteOmega, IntWalk.toNatUp, db, he, show (0 : Int) < N - i by omega, show ¬ b = K.next by omega, show ¬ K.next = b by omega]
              have hvM := hvA (M := (((((K.alloc [.int .i64 0, .int .i64 0]).set b st.int.2.cells).set K.next [.int .i64 st.int.1, .int .i64 0]).set b st.int.2.int.2.cells).set K.next [.int .i64 st.int.1, .int .i64 st.int.2.int.1])) rfl
              have DM := (D2.set st.int.2.int.2).setN dn [.int .i64 st.int.1, .int .i64 st.int.2.int.1]
              have gs : (((((K.alloc [.int .i64 0, .int .i64 0]).set b st.int.2.cells).set K.next [.int .i64 st.int.1, .int .i64 0]).set b st.int.2.int.2.cells).set K.next [.int .i64 st.int.1, .int .i64 st.int.2.int.1]).get K.next = some ⟨[.int .i64 st.int.1, .int .i64 st.int.2.int.1], true⟩ := by
                simp only [get_set, get_alloc, if_true, if_neg (show ¬ K.next = b by omega), Option.map_some]
              rw [show (st.int.2.int.2) = (sigP st).2 from rfl] at DM hvM gs ⊢
              clear D2 DA
              have hnM : K.next < (((((K.alloc [.int .i64 0, .int .i64 0]).set b st.int.2.cells).set K.next [.int .i64 st.int.1, .int .i64 0]).set b (sigP st).2.cells).set K.next [.int .i64 st.int.1, .int .i64 st.int.2.int.1]).next := by simp only [next_set, next_alloc]; omega
              generalize ((((K.alloc _).set b _).set K.next _).set b _).set K.next _ = M at DM hvM gs hnM ⊢
              have dmx := DM.gx
              simp only [confB] at dmx
              obtain ⟨v', K3, e3, b3, s3, n3, f3, t3⟩ := app_one (P := Tryd.prog) (t := 28) (e := 51) (sz := 2) (by_ := 16) (z := .agg ⟨[.int .i64 0, .int .i64 0]⟩) (by kernel_rfl) (by kernel_rfl) (by kernel_rfl) (by kernel_rfl) rfl (Sig.val (sigP st).1) [.int .i64 st.int.1, .int .i64 st.int.2.int.1] hvM rfl rfl (by simp [one0]) DM.nx (by simp; omega) (by simp; omega)
              rw [List.length_map] at t3
              subst t3
              have D3 := (DM.same s3 (Nat.le_trans DM.nx n3)).put (confB (.slice (some ⟨M.next + 1, 0, some 2⟩) (acc.length + 1) 1) (.slice none 0 0) (.slice none 0 0) 0 0 0 0 0 0 false 0)
              have d3x := (DM.same s3 (Nat.le_trans DM.nx n3)).gx
              simp only [confB] at d3x
              have Kp : Kept [[2,7,8,9],[2,7,8,9]] := ⟨⟩
              iterate 2 (refine Kp.s ?_; clear Kp; intro Kp; simp [go_sem, -getElem?_pos, -List.map_take, -List.map_drop, IntWalk.iteOmega, IntWalk.toNatUp, dmx, gs, e3, d3x, w1])
              exact ⟨N.toNat - (i + 1), by omega, i + 1, rfl, _, acc ++ [(sigP st).1], (sigP st).2, hstep, D3, by rw [List.map_append]; exact b3.keepD fun j hj _ => by rw [get_set, if_neg (by omega)], by simp⟩
            · skip
              have Kp : Kept [[2,7,8,9,54],[],[2,7,8]] := ⟨⟩
              iterate 3 (refine Kp.s ?_; clear Kp; intro Kp; simp [go_sem, -getElem?_pos, -List.map_take, -List.map_drop, IntWalk.iteOmega, IntWalk.toNatUp, db, he, show (0 : Int) < N - i by omega])
              obtain ⟨q1, q2⟩ := hi.stop (.inl he)
              exact ⟨v, by rw [hs1, q2]; exact D, by rw [hSV, q1]; exact hv⟩
          · skip
            have Kp : Kept [[2,7,8,9,54],[],[2,7,8]] := ⟨⟩
            iterate 3 (refine Kp.s ?_; clear Kp; intro Kp; simp [go_sem, -getElem?_pos, -List.map_take, -List.map_drop, IntWalk.iteOmega, IntWalk.toNatUp, show ¬ (i : Int) < N by omega])
            obtain ⟨q1, q2⟩ := hi.stop (.inr hlt)
            exact ⟨v, by rw [hs1, q2]; exact D, by rw [hSV, q1]; exact hv⟩
        clear D0
        rintro e K ⟨v, D, hv, rfl⟩
        have hS : ∀ j, j < n → blkOf v j = false := fun j hj => by
          rcases hv.2 with ⟨e1, _⟩ | ⟨q, hq, e1, _⟩
          · rw [e1]; rfl
          · rw [e1]; simp [blkOf]; omega
        obtain ⟨K0', hf, f1, f2, f3⟩ := FrzH.one (S := blkOf v) (b := xb) (cs' := confB (frow 2 0 (SV.map Sig.val)) (.slice none 0 0) (.slice none 0 0) 0 0 0 0 0 0 false 0) (hS xb nb.2.2.2.2.2) D.gx (.cons hv.frzV (FrzL.same _))
        refine IWp.freezeH K0' _ (.cons (.same _) (.cons (.same _) (.cons (.same _) .nil))) hf ?_
        have D2 : Dx n b rb xb K0' s1 (confB (frow 2 0 (SV.map Sig.val)) (.slice none 0 0) (.slice none 0 0) 0 0 0 0 0 0 false 0) := ⟨(f2 b nb.2.1 (hS b nb.2.2.2.1)).trans D.gb, (f2 rb nb.2.2.1 (hS rb nb.2.2.2.2.1)).trans D.gr, f1, D.ne, by rw [f3]; exact D.nx⟩
        clear hf f1 f2 f3 hS hv D
        generalize K0' = K2 at D2 ⊢
        refine IWp.cut (fun e K => ∃ v, Dx n b rb xb K s2 (confB (frow 2 0 (SV.map Sig.val)) v (.slice none 0 0) 0 0 0 0 0 0 false 0) ∧ Bld 9 K n v (RV.map Rule.val) ∧ e = [(2, ptrTo rb 0), (7, ptrTo b 0), (8, ptrTo xb 0)]) ?_ ?_
        · skip
          refine IWp.one [2, 7, 8, 11] ?_
          simp [go_sem, -getElem?_pos, -List.map_take, -List.map_drop, IntWalk.iteOmega, IntWalk.toNatUp]
          refine ICalls.mono (mByte K2 b s1 k1 D2.gb) ?_
          rintro v _ ⟨rfl, rfl⟩
          try simp [go_sem, -getElem?_pos, -List.map_take, -List.map_drop, IntWalk.iteOmega, IntWalk.toNatUp]
          refine IWp.block ?_
          have D1 := D2.set s1.byte.2
          have i1 := Inv.start ruleP s1 k1
          have hN := Rd.byte_u8 s1 k1
          generalize K2.set b _ = K at D1 ⊢
          obtain ⟨N, hNe⟩ : ∃ N, N = s1.byte.1 := ⟨_, rfl⟩
          rw [← hNe] at hN i1 ⊢
          clear D2
          refine IWp.loop (fun j e K => ∃ (i : Nat) (v : Value) (acc : List Rule) (st : Rd), j = N.toNat - i ∧ Inv ruleP s1 N.toNat i acc st ∧ Dx n b rb xb K st (confB (frow 2 0 (SV.map Sig.val)) v (.slice none 0 0) 0 0 0 0 0 0 false 0) ∧ Bld 9 K n v (acc.map Rule.val) ∧ e = [(2, ptrTo rb 0), (7, ptrTo b 0), (8, ptrTo xb 0), (11, .int .u8 (N - i))]) N.toNat ⟨0, _, [], _, rfl, i1, D1, Bld.nil _ _ _, by simp [go_sem]⟩ ?_
          clear i1 D1
          rintro j e K ⟨i, v, acc, st, rfl, hi, D, hv, rfl⟩
          obtain ⟨hi1, hso, hil, hin⟩ := hi.parts
          have dn := D.nx
          have db := D.gb
          simp only [Rd.cells] at db
          by_cases hlt : i < N.toNat
          · by_cases he : st.e = 0
            · have hstep := hi.step (fun s h => ruleP_ok s h) hlt he
              have w1 : IntKind.u8.wrap (N - i - 1) = N - ((i + 1 : Nat) : Int) := by rw [show N - ((i + 1 : Nat) : Int) = N - i - 1 by omega]; exact IntWalk.u8_in _ (by omega)
              have R0 : Rx n b rb xb K.next v (acc.map Rule.val) (K.alloc ruleZ) st (confB (frow 2 0 (SV.map Sig.val)) v (.slice none 0 0) 0 0 0 0 0 0 false 0) ruleZ := ⟨D.alloc _, Heap.get_alloc_new _ _, dn, hv.alloc _, by
                rcases hv.2 with ⟨e1, _⟩ | ⟨q, hq, e1, e2⟩
                · rw [e1]; rfl
                · rw [e1]; have := Heap.lt_of_get e2; simp [blkOf]; omega⟩
              simp only [ruleZ] at R0
              have Kp : Kept [[2,7,8,11,79],[],[2,7,8,11],[2,7,8,11,12]] := ⟨⟩
              iterate 4 (refine Kp.s ?_; clear Kp; intro Kp; simp [go_sem, -getElem?_pos, -List.map_take, -List.map_drop, IntWalk.iteOmega, IntWalk.toNatUp, db, he, show (0 : Int) < N - i by omega])
              refine IWp.seq ?_
              generalize K.alloc _ = M0 at R0 ⊢
              generalize K.next = yb at R0 dn ⊢
              obtain ⟨t0, ht0⟩ : ∃ t : Rd, t = st := ⟨_, rfl⟩
              have kt0 : t0.ok := by rw [ht0]; exact hso
              rw [← ht0] at R0
              obtain ⟨x0, hx0⟩ : ∃ y, y = t0.byte.1 := ⟨_, rfl⟩
              obtain ⟨t1, ht1⟩ : ∃ y, y = t0.byte.2 := ⟨_, rfl⟩
              have kt1 : t1.ok := by rw [ht1]; exact Rd.byte_ok kt0
              have c1 := mByte M0 b t0 kt0 R0.d.gb
              rw [← hx0, ← ht1] at c1
              have R1 := R0.step t1 [.int .u8 x0, .int .i64 0, .int .i64 0, .int .i64 0, .int .i64 0, .int .i64 0, .int .u8 0, .bool false, .slice none 0 0]
              have gy : (M0.set b t1.cells).get yb = some ⟨[.int .u8 0, .int .i64 0, .int .i64 0, .int .i64 0, .int .i64 0, .int .i64 0, .int .u8 0, .bool false, .slice none 0 0], true⟩ := by rw [get_set, if_neg (by omega)]; exact R0.y
              have wx : True := trivial
              refine IWp.one [2, 7, 8, 11, 12] ?_
              simp [go_sem, -getElem?_pos, -List.map_take, -List.map_drop, IntWalk.iteOmega, IntWalk.toNatUp, gy, wx]
              refine ICalls.mono (c1) ?_
              rintro v _ ⟨rfl, rfl⟩
              try simp [go_sem, -getElem?_pos, -List.map_take, -List.map_drop, IntWalk.iteOmega, IntWalk.toNatUp, gy, wx]
              refine IWp.seq ?_
              generalize (M0.set b _).set yb _ = M1 at R1 ⊢
              clear gy c1 wx R0
              obtain ⟨x1, hx1⟩ : ∃ y, y = t1.byte.1 := ⟨_, rfl⟩
              obtain ⟨t2, ht2⟩ : ∃ y, y = t1.byte.2 := ⟨_, rfl⟩
              have kt2 : t2.ok := by rw [ht2]; exact Rd.byte_ok kt1
              have c1 := mByte M1 b t1 kt1 R1.d.gb
              rw [← hx1, ← ht2] at c1
              have R2 := R1.step t2 [.int .u8 x0, .int .i64 x1, .int .i64 0, .int .i64 0, .int .i64 0, .int .i64 0, .int .u8 0, .bool false, .slice none 0 0]
              have gy : (M1.set b t2.cells).get yb = some ⟨[.int .u8 x0, .int .i64 0, .int .i64 0, .int .i64 0, .int .i64 0, .int .i64 0, .int .u8 0, .bool false, .slice none 0 0], true⟩ := by rw [get_set, if_neg (by omega)]; exact R1.y
              have wx : IntKind.i64.wrap x1 = x1 := by rw [hx1]; have := Rd.byte_u8 t1 kt1; exact IntWalk.i64_in _ (by omega)
              refine IWp.one [2, 7, 8, 11, 12] ?_
              simp [go_sem, -getElem?_pos, -List.map_take, -List.map_drop, IntWalk.iteOmega, IntWalk.toNatUp, gy, wx]
              refine ICalls.mono (c1) ?_
              rintro v _ ⟨rfl, rfl⟩
              try simp [go_sem, -getElem?_pos, -List.map_take, -List.map_drop, IntWalk.iteOmega, IntWalk.toNatUp, gy, wx]
              refine IWp.seq ?_
              generalize (M1.set b _).set yb _ = M2 at R2 ⊢
              clear gy c1 wx R1
              obtain ⟨x2, hx2⟩ : ∃ y, y = t2.int.1 := ⟨_, rfl⟩
              obtain ⟨t3, ht3⟩ : ∃ y, y = t2.int.2 := ⟨_, rfl⟩
              have kt3 : t3.ok := by rw [ht3]; exact Rd.int_ok kt2
              have c1 := mInt M2 b t2 kt2 R2.d.gb
              rw [← hx2, ← ht3] at c1
              have R3 := R2.step t3 [.int .u8 x0, .int .i64 x1, .int .i64 x2, .int .i64 0, .int .i64 0, .int .i64 0, .int .u8 0, .bool false, .slice none 0 0]
              have gy : (M2.set b t3.cells).get yb = some ⟨[.int .u8 x0, .int .i64 x1, .int .i64 0, .int .i64 0, .int .i64 0, .int .i64 0, .int .u8 0, .bool false, .slice none 0 0], true⟩ := by rw [get_set, if_neg (by omega)]; exact R2.y
              have wx : True := trivial
              refine IWp.one [2, 7, 8, 11, 12] ?_
              simp [go_sem, -getElem?_pos, -List.map_take, -List.map_drop, IntWalk.iteOmega, IntWalk.toNatUp, gy, wx]
              refine ICalls.mono (c1) ?_
              rintro v _ ⟨rfl, rfl⟩
              try simp [go_sem, -getElem?_pos, -List.map_take, -List.map_drop, IntWalk.iteOmega, IntWalk.toNatUp, gy, wx]
              refine IWp.seq ?_
              generalize (M2.set b _).set yb _ = M3 at R3 ⊢
              clear gy c1 wx R2
              obtain ⟨x3, hx3⟩ : ∃ y, y = t3.int.1 := ⟨_, rfl⟩
              obtain ⟨t4, ht4⟩ : ∃ y, y = t3.int.2 := ⟨_, rfl⟩
              have kt4 : t4.ok := by rw [ht4]; exact Rd.int_ok kt3
              have c1 := mInt M3 b t3 kt3 R3.d.gb
              rw [← hx3, ← ht4] at c1
              have R4 := R3.step t4 [.int .u8 x0, .int .i64 x1, .int .i64 x2, .int .i64 x3, .int .i64 0, .int .i64 0, .int .u8 0, .bool false, .slice none 0 0]
              have gy : (M3.set b t4.cells).get yb = some ⟨[.int .u8 x0, .int .i64 x1, .int .i64 x2, .int .i64 0, .int .i64 0, .int .i64 0, .int .u8 0, .bool false, .slice none 0 0], true⟩ := by rw [get_set, if_neg (by omega)]; exact R3.y
              have wx : True := trivial
              refine IWp.one [2, 7, 8, 11, 12] ?_
              simp [go_sem, -getElem?_pos, -List.map_take, -List.map_drop, IntWalk.iteOmega, IntWalk.toNatUp, gy, wx]
              refine ICalls.mono (c1) ?_
              rintro v _ ⟨rfl, rfl⟩
              try simp [go_sem, -getElem?_pos, -List.map_take, -List.map_drop, IntWalk.iteOmega, IntWalk.toNatUp, gy, wx]
              refine IWp.seq ?_
              generalize (M3.set b _).set yb _ = M4 at R4 ⊢
              clear gy c1 wx R3
              obtain ⟨x4, hx4⟩ : ∃ y, y = t4.int.1 := ⟨_, rfl⟩
              obtain ⟨t5, ht5⟩ : ∃ y, y = t4.int.2 := ⟨_, rfl⟩
              have kt5 : t5.ok := by rw [ht5]; exact Rd.int_ok kt4
              have c1 := mInt M4 b t4 kt4 R4.d.gb
              rw [← hx4, ← ht5] at c1
              have R5 := R4.step t5 [.int .u8 x0, .int .i64 x1, .int .i64 x2, .int .i64 x3, .int .i64 x4, .int .i64 0, .int .u8 0, .bool false, .slice none 0 0]
              have gy : (M4.set b t5.cells).get yb = some ⟨[.int .u8 x0, .int .i64 x1, .int .i64 x2, .int .i64 x3, .int .i64 0, .int .i64 0, .int .u8 0, .bool false, .slice none 0 0], true⟩ := by rw [get_set, if_neg (by omega)]; exact R4.y
              have wx : True := trivial
              refine IWp.one [2, 7, 8, 11, 12] ?_
              simp [go_sem, -getElem?_pos, -List.map_take, -List.map_drop, IntWalk.iteOmega, IntWalk.toNatUp, gy, wx]
              refine ICalls.mono (c1) ?_
              rintro v _ ⟨rfl, rfl⟩
              try simp [go_sem, -getElem?_pos, -List.map_take, -List.map_drop, IntWalk.iteOmega, IntWalk.toNatUp, gy, wx]
              refine IWp.seq ?_
              generalize (M4.set b _).set yb _ = M5 at R5 ⊢
              clear gy c1 wx R4
              obtain ⟨x5, hx5⟩ : ∃ y, y = t5.int.1 := ⟨_, rfl⟩
              obtain ⟨t6, ht6⟩ : ∃ y, y = t5.int.2 := ⟨_, rfl⟩
              have kt6 : t6.ok := by rw [ht6]; exact Rd.int_ok kt5
              have c1 := mInt M5 b t5 kt5 R5.d.gb
              rw [← hx5, ← ht6] at c1
              have R6 := R5.step t6 [.int .u8 x0, .int .i64 x1, .int .i64 x2, .int .i64 x3, .int .i64 x4, .int .i64 x5, .int .u8 0, .bool false, .slice none 0 0]
              have gy : (M5.set b t6.cells).get yb = some ⟨[.int .u8 x0, .int .i64 x1, .int .i64 x2, .int .i64 x3, .int .i64 x4, .int .i64 0, .int .u8 0, .bool false, .slice none 0 0], true⟩ := by rw [get_set, if_neg (by omega)]; exact R5.y
              have wx : True := trivial
              refine IWp.one [2, 7, 8, 11, 12] ?_
              simp [go_sem, -getElem?_pos, -List.map_take, -List.map_drop, IntWalk.iteOmega, IntWalk.toNatUp, gy, wx]
              refine ICalls.mono (c1) ?_
              rintro v _ ⟨rfl, rfl⟩
              try simp [go_sem, -getElem?_pos, -List.map_take, -List.map_drop, IntWalk.iteOmega, IntWalk.toNatUp, gy, wx]
              refine IWp.seq ?_
              generalize (M5.set b _).set yb _ = M6 at R6 ⊢
              clear gy c1 wx R5
              obtain ⟨x6, hx6⟩ : ∃ y, y = t6.byte.1 := ⟨_, rfl⟩
              obtain ⟨t7, ht7⟩ : ∃ y, y = t6.byte.2 := ⟨_, rfl⟩
              have kt7 : t7.ok := by rw [ht7]; exact Rd.byte_ok kt6
              have c1 := mByte M6 b t6 kt6 R6.d.gb
              rw [← hx6, ← ht7] at c1
              have R7 := R6.step t7 [.int .u8 x0, .int .i64 x1, .int .i64 x2, .int .i64 x3, .int .i64 x4, .int .i64 x5, .int .u8 x6, .bool false, .slice none 0 0]
              have gy : (M6.set b t7.cells).get yb = some ⟨[.int .u8 x0, .int .i64 x1, .int .i64 x2, .int .i64 x3, .int .i64 x4, .int .i64 x5, .int .u8 0, .bool false, .slice none 0 0], true⟩ := by rw [get_set, if_neg (by omega)]; exact R6.y
              have wx : True := trivial
              refine IWp.one [2, 7, 8, 11, 12] ?_
              simp [go_sem, -getElem?_pos, -List.map_take, -List.map_drop, IntWalk.iteOmega, IntWalk.toNatUp, gy, wx]
              refine ICalls.mono (c1) ?_
              rintro v _ ⟨rfl, rfl⟩
              try simp [go_sem, -getElem?_pos, -List.map_take, -List.map_drop, IntWalk.iteOmega, IntWalk.toNatUp, gy, wx]
              refine IWp.seq ?_
              generalize (M6.set b _).set yb _ = M7 at R7 ⊢
              clear gy c1 wx R6
              obtain ⟨x7, hx7⟩ : ∃ y, y = t7.flag.1 := ⟨_, rfl⟩
              obtain ⟨t8, ht8⟩ : ∃ y, y = t7.flag.2 := ⟨_, rfl⟩
              have kt8 : t8.ok := by rw [ht8]; exact Rd.flag_ok kt7
              have c1 := mFlag M7 b t7 kt7 R7.d.gb
              rw [← hx7, ← ht8] at c1
              have R8 := R7.step t8 [.int .u8 x0, .int .i64 x1, .int .i64 x2, .int .i64 x3, .int .i64 x4, .int .i64 x5, .int .u8 x6, .bool x7, .slice none 0 0]
              have gy : (M7.set b t8.cells).get yb = some ⟨[.int .u8 x0, .int .i64 x1, .int .i64 x2, .int .i64 x3, .int .i64 x4, .int .i64 x5, .int .u8 x6, .bool false, .slice none 0 0], true⟩ := by rw [get_set, if_neg (by omega)]; exact R7.y
              have wx : True := trivial
              refine IWp.one [2, 7, 8, 11, 12] ?_
              simp [go_sem, -getElem?_pos, -List.map_take, -List.map_drop, IntWalk.iteOmega, IntWalk.toNatUp, gy, wx]
              refine ICalls.mono (c1) ?_
              rintro v _ ⟨rfl, rfl⟩
              try simp [go_sem, -getElem?_pos, -List.map_take, -List.map_drop, IntWalk.iteOmega, IntWalk.toNatUp, gy, wx]
              generalize (M7.set b _).set yb _ = M8 at R8 ⊢
              clear gy c1 wx R7
              obtain ⟨GV, hGV⟩ : ∃ y, y = (manyP stageP t8).1 := ⟨_, rfl⟩
              obtain ⟨t9, ht9⟩ : ∃ y, y = (manyP stageP t8).2 := ⟨_, rfl⟩
              have hym : yb < M8.next := Heap.lt_of_get R8.y
              have hvm : ∀ j, blkOf v j = true → j < M8.next := fun j hj => by
                rcases R8.bl.2 with ⟨e1, e2⟩ | ⟨q, hq, e1, e2⟩
                · rw [e1] at hj; cases hj
                · rw [e1] at hj; simp [blkOf] at hj; rw [hj]; exact Heap.lt_of_get e2
              have hnm : n ≤ M8.next := R8.d.nx
              refine IWp.cut (fun e K => ∃ w, Rx n b rb xb yb v (acc.map Rule.val) K t9 (confB (frow 2 0 (SV.map Sig.val)) v (.slice none 0 0) 0 0 0 0 0 0 false 0) [.int .u8 x0, .int .i64 x1, .int .i64 x2, .int .i64 x3, .int .i64 x4, .int .i64 x5, .int .u8 x6, .bool x7, w] ∧ Bld 2 K M8.next w (GV.map Stage.val) ∧ M8.next ≤ K.next ∧ e = [(2, ptrTo rb 0), (7, ptrTo b 0), (8, ptrTo xb 0), (11, .int .u8 (N - i)), (12, ptrTo yb 0)]) ?_ ?_
              · skip
                refine IWp.one [2, 7, 8, 11, 12, 13] ?_
                simp [go_sem, -getElem?_pos, -List.map_take, -List.map_drop, IntWalk.iteOmega, IntWalk.toNatUp]
                refine ICalls.mono (mByte M8 b t8 kt8 R8.d.gb) ?_
                rintro v _ ⟨rfl, rfl⟩
                try simp [go_sem, -getElem?_pos, -List.map_take, -List.map_drop, IntWalk.iteOmega, IntWalk.toNatUp]
                refine IWp.block ?_
                have Q1 := R8.to (M := M8.set b t8.byte.2.cells) (t := t8.byte.2) hym hvm (by rw [get_set, if_pos rfl, R8.d.gb]; rfl) (fun j _ hj => by rw [get_set, if_neg hj]) hnm
                have i1 := Inv.start stageP t8 kt8
                have hN2 := Rd.byte_u8 t8 kt8
                have hm1 : M8.next ≤ (M8.set b t8.byte.2.cells).next := Nat.le_refl _
                generalize hmm : M8.next = m at *
                generalize M8.set b _ = M at Q1 hm1 ⊢
                obtain ⟨N2, hN2e⟩ : ∃ N, N = t8.byte.1 := ⟨_, rfl⟩
                rw [← hN2e] at hN2 i1 ⊢
                clear R8
                refine IWp.loop (fun j e K => ∃ (i2 : Nat) (w : Value) (acc2 : List Stage) (st : Rd), j = N2.toNat - i2 ∧ Inv stageP t8 N2.toNat i2 acc2 st ∧ Rx n b rb xb yb v (acc.map Rule.val) K st (confB (frow 2 0 (SV.map Sig.val)) v (.slice none 0 0) 0 0 0 0 0 0 false 0) [.int .u8 x0, .int .i64 x1, .int .i64 x2, .int .i64 x3, .int .i64 x4, .int .i64 x5, .int .u8 x6, .bool x7, w] ∧ Bld 2 K m w (acc2.map Stage.val) ∧ m ≤ K.next ∧ e = [(2, ptrTo rb 0), (7, ptrTo b 0), (8, ptrTo xb 0), (11, .int .u8 (N - i)), (12, ptrTo yb 0), (13, .int .u8 (N2 - i2))]) N2.toNat ⟨0, _, [], _, rfl, i1, Q1, Bld.nil _ _ _, hm1, by simp [go_sem]⟩ ?_
                clear i1 Q1 hm1
                rintro j e K ⟨i2, w, acc2, st2, rfl, hi2, R, hw2, hm1, rfl⟩
                obtain ⟨hi3, hso2, hil2, hin2⟩ := hi2.parts
                have db2 := R.d.gb
                simp only [Rd.cells] at db2
                have ry := R.y
                by_cases hlt2 : i2 < N2.toNat
                · by_cases he2 : st2.e = 0
                  · have hstep2 := hi2.step stageP_ok hlt2 he2
                    have w2 : IntKind.u8.wrap (N2 - i2 - 1) = N2 - ((i2 + 1 : Nat) : Int) := by rw [show N2 - ((i2 + 1 : Nat) : Int) = N2 - i2 - 1 by omega]; exact IntWalk.u8_in _ (by omega)
                    have nb2 := R.d.ne
                    have g1 : (K.alloc [.int .i64 0, .int .u8 0]).get b = some ⟨st2.cells, true⟩ := by rw [Heap.get_alloc_lt _ _ _ (by omega)]; exact R.d.gb
                    have g2 : (((K.alloc [.int .i64 0, .int .u8 0]).set b st2.int.2.cells).set K.next [.int .i64 st2.int.1, .int .u8 0]).get b = some ⟨st2.int.2.cells, true⟩ := by rw [get_set, if_neg (by omega), get_set, if_pos rfl, g1]; rfl
                    obtain ⟨M, hM⟩ : ∃ M, M = (((((K.alloc [.int .i64 0, .int .u8 0]).set b st2.int.2.cells).set K.next [.int .i64 st2.int.1, .int .u8 0]).set b st2.int.2.byte.2.cells).set K.next [.int .i64 st2.int.1, .int .u8 st2.int.2.byte.1]) := ⟨_, rfl⟩
                    have gM : ∀ j, j < K.next → j ≠ b → M.get j = K.get j := fun j hj hjb => by
                      rw [hM]; simp only [get_set, get_alloc]; rw [if_neg (by omega), if_neg hjb, if_neg (by omega), if_neg hjb, if_neg (by omega)]
                    have nM : M.next = K.next + 1 := by rw [hM]; simp only [next_set, next_alloc]
                    have gs : M.get K.next = some ⟨[.int .i64 st2.int.1, .int .u8 st2.int.2.byte.1], true⟩ := by
                      rw [hM]; simp only [get_set, get_alloc, if_true, if_neg (show ¬ K.next = b by omega), Option.map_some]
                    have gb : M.get b = some ⟨(stageP st2).2.cells, true⟩ := by
                      rw [hM, get_set, if_neg (by omega), get_set, if_pos rfl, g2]; rfl
                    have RM : Rx n b rb xb yb v (acc.map Rule.val) M (stageP st2).2 (confB (frow 2 0 (SV.map Sig.val)) v (.slice none 0 0) 0 0 0 0 0 0 false 0) [.int .u8 x0, .int .i64 x1, .int .i64 x2, .int .i64 x3, .int .i64 x4, .int .i64 x5, .int .u8 x6, .bool x7, w] := R.to hym hvm gb (fun j hj hjb => gM j (by omega) hjb) (by omega)
                    have wM : Bld 2 M m w (acc2.map Stage.val) := hw2.keepD fun j hj hl => gM j hl (by omega)
                    have Kp : Kept [[2,7,8,11,12,13,117],[],[2,7,8,11,12,13],[2,7,8,11,12,13,14],[2,7,8,11,12,13,14]] := ⟨⟩
                    iterate 5 (refine Kp.s ?_; clear Kp; intro Kp; simp [go_sem, -getElem?_pos, -List.map_take, -List.map_drop, IntWalk.iteOmega, IntWalk.toNatUp, db2, he2, show (0 : Int) < N2 - i2 by omega, show ¬ b = K.next by omega, show ¬ K.next = b by omega])
                    refine ICalls.mono (mInt _ b st2 hso2 g1) ?_
                    rintro v1 _ ⟨rfl, rfl⟩
                    try simp [go_sem, -getElem?_pos, -List.map_take, -List.map_drop, IntWalk.iteOmega, IntWalk.toNatUp, db2, he2, show (0 : Int) < N2 - i2 by omega, show ¬ b = K.next by omega, show ¬ K.next = b by omega]
                    refine IWp.one [2, 7, 8, 11, 12, 13, 14] ?_
                    simp [go_sem, -getElem?_pos, -List.map_take, -List.map_drop, IntWalk.iteOmega, IntWalk.toNatUp, db2, he2, show (0 : Int) < N2 - i2 by omega, show ¬ b = K.next by omega, show ¬ K.next = b by omega]
                    refine ICalls.mono (mByte _ b st2.int.2 (Rd.int_ok hso2) g2) ?_
                    rintro v2 _ ⟨rfl, rfl⟩
                    try simp [go_sem, -getElem?_pos, -List.map_take, -List.map_drop, IntWalk.iteOmega, IntWalk.toNatUp, db2, he2, show (0 : Int) < N2 - i2 by omega, show ¬ b = K.next by omega, show ¬ K.next = b by omega]
                    rw [← hM]
                    have rym := RM.y
                    obtain ⟨w', K3, e3, b3, s3, n3, f3, t3⟩ := app_one (P := Tryd.prog) (t := 47) (e := 57) (sz := 2) (by_ := 16) (z := .agg ⟨[.int .i64 0, .int .u8 0]⟩) (by kernel_rfl) (by kernel_rfl) (by kernel_rfl) (by kernel_rfl) rfl (Stage.val (stageP st2).1) [.int .i64 st2.int.1, .int .u8 st2.int.2.byte.1] wM rfl rfl (by simp [one0]) (by omega) (by simp; omega) (by simp; omega)
                    rw [List.length_map] at t3
                    subst t3
                    have R3 := (RM.to (M := K3) (t := (stageP st2).2) hym hvm ((s3 b (by omega)).trans RM.d.gb) (fun j hj _ => s3 j hj) (by omega)).put [.int .u8 x0, .int .i64 x1, .int .i64 x2, .int .i64 x3, .int .i64 x4, .int .i64 x5, .int .u8 x6, .bool x7, .slice (some ⟨M.next + 1, 0, some 2⟩) (acc2.length + 1) 1]
                    have ry3 := (s3 yb hym).trans RM.y
                    have Kp : Kept [[2,7,8,11,12,13],[2,7,8,11,12,13]] := ⟨⟩
                    iterate 2 (refine Kp.s ?_; clear Kp; intro Kp; simp [go_sem, -getElem?_pos, -List.map_take, -List.map_drop, IntWalk.iteOmega, IntWalk.toNatUp, rym, gs, e3, ry3, w2])
                    exact ⟨N2.toNat - (i2 + 1), by omega, i2 + 1, rfl, _, acc2 ++ [(stageP st2).1], (stageP st2).2, hstep2, R3, by rw [List.map_append]; exact b3.keepD fun j hj _ => by rw [get_set, if_neg (by omega)], by omega, by simp⟩
                  · skip
                    have Kp : Kept [[2,7,8,11,12,13,117],[],[2,7,8,11,12]] := ⟨⟩
                    iterate 3 (refine Kp.s ?_; clear Kp; intro Kp; simp [go_sem, -getElem?_pos, -List.map_take, -List.map_drop, IntWalk.iteOmega, IntWalk.toNatUp, db2, he2, show (0 : Int) < N2 - i2 by omega])
                    obtain ⟨q1, q2⟩ := hi2.stop (.inl he2)
                    exact ⟨w, by rw [ht9, q2]; exact R, by rw [hGV, q1]; exact hw2, hm1⟩
                · skip
                  have Kp : Kept [[2,7,8,11,12,13,117],[],[2,7,8,11,12]] := ⟨⟩
                  iterate 3 (refine Kp.s ?_; clear Kp; intro Kp; simp [go_sem, -getElem?_pos, -List.map_take, -List.map_drop, IntWalk.iteOmega, IntWalk.toNatUp, show ¬ (i2 : Int) < N2 by omega])
                  obtain ⟨q1, q2⟩ := hi2.stop (.inr hlt2)
                  exact ⟨w, by rw [ht9, q2]; exact R, by rw [hGV, q1]; exact hw2, hm1⟩
              clear R8
              rintro e K9 ⟨w, R9, hw9, hm9, rfl⟩
              have hSw : ∀ j, j < M8.next → blkOf w j = false := fun j hj => by
                rcases hw9.2 with ⟨e1, _⟩ | ⟨q, hq, e1, _⟩
                · rw [e1]; rfl
                · rw [e1]; simp [blkOf]; omega
              obtain ⟨K0', hf, f1, f2, f3⟩ := FrzH.one (S := blkOf w) (b := yb) (cs' := [.int .u8 x0, .int .i64 x1, .int .i64 x2, .int .i64 x3, .int .i64 x4, .int .i64 x5, .int .u8 x6, .bool x7, frow 2 0 (GV.map Stage.val)]) (hSw yb hym) R9.y (.cons (.same _) (.cons (.same _) (.cons (.same _) (.cons (.same _) (.cons (.same _) (.cons (.same _) (.cons (.same _) (.cons (.same _) (.cons hw9.frzV .nil)))))))))
              refine IWp.freezeH K0' _ (.cons (.same _) (.cons (.same _) (.cons (.same _) (.cons (.same _) (.cons (.same _) .nil))))) hf ?_
              have hyn := R9.hy
              have nb9 := R9.d.ne
              have D9 : Dx n b rb xb K0' t9 (confB (frow 2 0 (SV.map Sig.val)) v (.slice none 0 0) 0 0 0 0 0 0 false 0) := ⟨(f2 b (by omega) (hSw b (by omega))).trans R9.d.gb, (f2 rb (by omega) (hSw rb (by omega))).trans R9.d.gr, (f2 xb (by omega) (hSw xb (by omega))).trans R9.d.gx, nb9, by omega⟩
              have B9 : Bld 9 K0' n v (acc.map Rule.val) := ⟨R9.bl.1, by
                rcases R9.bl.2 with ⟨e1, e2⟩ | ⟨q, hq, e1, e2⟩
                · exact .inl ⟨e1, e2⟩
                · have hn := R9.bn
                  have hqv := hvm q (by rw [e1]; simp [blkOf])
                  rw [e1] at hn
                  exact .inr ⟨q, hq, e1, (f2 q (by simp [blkOf] at hn; omega) (hSw q hqv)).trans e2⟩⟩
              have hR : (ruleP st).1 = ⟨x0, x1, x2, x3, x4, x5, x6, x7, GV⟩ := by rw [hGV, hx0, hx1, hx2, hx3, hx4, hx5, hx6, hx7, ht8, ht7, ht6, ht5, ht4, ht3, ht2, ht1, ht0]; rfl
              have hR2 : (ruleP st).2 = t9 := by rw [ht9, ht8, ht7, ht6, ht5, ht4, ht3, ht2, ht1, ht0]; rfl
              have nx9 := D9.nx
              clear hf R9 hSw hw9 f2
              generalize K0' = M at f1 D9 B9 nx9 ⊢
              have dmx := D9.gx
              simp only [confB] at dmx
              obtain ⟨v', K3, e3, b3, s3, n3, f3', t3'⟩ := app_one (P := Tryd.prog) (t := 29) (e := 49) (sz := 9) (by_ := 80) (z := .agg ⟨[.int .u8 0, .int .i64 0, .int .i64 0, .int .i64 0, .int .i64 0, .int .i64 0, .int .u8 0, .bool false, .slice none 0 0]⟩) (by kernel_rfl) (by kernel_rfl) (by kernel_rfl) (by kernel_rfl) rfl (Rule.val ⟨x0, x1, x2, x3, x4, x5, x6, x7, GV⟩) [.int .u8 x0, .int .i64 x1, .int .i64 x2, .int .i64 x3, .int .i64 x4, .int .i64 x5, .int .u8 x6, .bool x7, frow 2 0 (GV.map Stage.val)] B9 rfl rfl (by simp [one0, frow]) nx9 (by simp; omega) (by simp; omega)
              rw [List.length_map] at t3'
              subst t3'
              have D3 := (D9.same s3 (Nat.le_trans nx9 n3)).put (confB (frow 2 0 (SV.map Sig.val)) (.slice (some ⟨M.next + 1, 0, some 9⟩) (acc.length + 1) 1) (.slice none 0 0) 0 0 0 0 0 0 false 0)
              have d3x := (D9.same s3 (Nat.le_trans nx9 n3)).gx
              simp only [confB] at d3x
              have Kp : Kept [[2,7,8,11],[2,7,8,11]] := ⟨⟩
              iterate 2 (refine Kp.s ?_; clear Kp; intro Kp; simp [go_sem, -getElem?_pos, -List.map_take, -List.map_drop, IntWalk.iteOmega, IntWalk.toNatUp, dmx, f1, e3, d3x, w1])
              rw [hR, hR2] at hstep
              exact ⟨N.toNat - (i + 1), by omega, i + 1, rfl, _, _, _, hstep, D3, by rw [List.map_append]; exact b3.keepD fun j hj _ => by rw [get_set, if_neg (by omega)], by simp⟩
            · skip
              have Kp : Kept [[2,7,8,11,79],[],[2,7,8]] := ⟨⟩
              iterate 3 (refine Kp.s ?_; clear Kp; intro Kp; simp [go_sem, -getElem?_pos, -List.map_take, -List.map_drop, IntWalk.iteOmega, IntWalk.toNatUp, db, he, show (0 : Int) < N - i by omega])
              obtain ⟨q1, q2⟩ := hi.stop (.inl he)
              exact ⟨v, by rw [hs2, q2]; exact D, by rw [hRV, q1]; exact hv⟩
          · skip
            have Kp : Kept [[2,7,8,11,79],[],[2,7,8]] := ⟨⟩
            iterate 3 (refine Kp.s ?_; clear Kp; intro Kp; simp [go_sem, -getElem?_pos, -List.map_take, -List.map_drop, IntWalk.iteOmega, IntWalk.toNatUp, show ¬ (i : Int) < N by omega])
            obtain ⟨q1, q2⟩ := hi.stop (.inr hlt)
            exact ⟨v, by rw [hs2, q2]; exact D, by rw [hRV, q1]; exact hv⟩
        rintro e K ⟨v, D, hv, rfl⟩
        have hS := hv.low
        obtain ⟨K0', hf, f1, f2, f3⟩ := FrzH.one (S := blkOf v) (b := xb) (cs' := (confB (frow 2 0 (SV.map Sig.val)) (frow 9 0 (RV.map Rule.val)) (.slice none 0 0) 0 0 0 0 0 0 false 0)) (hS xb nb.2.2.2.2.2) D.gx (.cons (.same _) (.cons hv.frzV (FrzL.same _)))
        refine IWp.freezeH K0' _ (.cons (.same _) (.cons (.same _) (.cons (.same _) .nil))) hf ?_
        have D3 : Dx n b rb xb K0' s2 (confB (frow 2 0 (SV.map Sig.val)) (frow 9 0 (RV.map Rule.val)) (.slice none 0 0) 0 0 0 0 0 0 false 0) := ⟨(f2 b nb.2.1 (hS b nb.2.2.2.1)).trans D.gb, (f2 rb nb.2.2.1 (hS rb nb.2.2.2.2.1)).trans D.gr, f1, D.ne, by rw [f3]; exact D.nx⟩
        clear hf f1 f2 f3 hS hv D
        generalize K0' = K3 at D3 ⊢
        refine IWp.cut (fun e K => ∃ v, Dx n b rb xb K s3 (confB (frow 2 0 (SV.map Sig.val)) (frow 9 0 (RV.map Rule.val)) v 0 0 0 0 0 0 false 0) ∧ Bld 1 K n v (TV.map (ints .i64)) ∧ e = [(2, ptrTo rb 0), (7, ptrTo b 0), (8, ptrTo xb 0)]) ?_ ?_
        · skip
          refine IWp.one [2, 7, 8, 15] ?_
          simp [go_sem, -getElem?_pos, -List.map_take, -List.map_drop, IntWalk.iteOmega, IntWalk.toNatUp]
          refine ICalls.mono (mByte K3 b s2 k2 D3.gb) ?_
          rintro v _ ⟨rfl, rfl⟩
          try simp [go_sem, -getElem?_pos, -List.map_take, -List.map_drop, IntWalk.iteOmega, IntWalk.toNatUp]
          refine IWp.block ?_
          have D1 := D3.set s2.byte.2
          have i1 := Inv.start slotP s2 k2
          have hN := Rd.byte_u8 s2 k2
          generalize K3.set b _ = K at D1 ⊢
          obtain ⟨N, hNe⟩ : ∃ N, N = s2.byte.1 := ⟨_, rfl⟩
          rw [← hNe] at hN i1 ⊢
          clear D3
          refine IWp.loop (fun j e K => ∃ (i : Nat) (v : Value) (acc : List (List Int)) (st : Rd), j = N.toNat - i ∧ Inv slotP s2 N.toNat i acc st ∧ Dx n b rb xb K st (confB (frow 2 0 (SV.map Sig.val)) (frow 9 0 (RV.map Rule.val)) v 0 0 0 0 0 0 false 0) ∧ Bld 1 K n v (acc.map (ints .i64)) ∧ e = [(2, ptrTo rb 0), (7, ptrTo b 0), (8, ptrTo xb 0), (15, .int .u8 (N - i))]) N.toNat ⟨0, _, [], _, rfl, i1, D1, Bld.nil _ _ _, by simp [go_sem]⟩ ?_
          clear i1 D1
          rintro j e K ⟨i, v, acc, st, rfl, hi, D, hv, rfl⟩
          obtain ⟨hi1, hso, hil, hin⟩ := hi.parts
          have dn := D.nx
          have db := D.gb
          simp only [Rd.cells] at db
          by_cases hlt : i < N.toNat
          · by_cases he : st.e = 0
            · have hstep := hi.step (fun s h => slotP_ok s h) hlt he
              have w1 : IntKind.u8.wrap (N - i - 1) = N - ((i + 1 : Nat) : Int) := by rw [show N - ((i + 1 : Nat) : Int) = N - i - 1 by omega]; exact IntWalk.u8_in _ (by omega)
              have Kp : Kept [[2,7,8,15,148],[],[2,7,8,15],[2,7,8,15,16]] := ⟨⟩
              iterate 4 (refine Kp.s ?_; clear Kp; intro Kp; simp [go_sem, -getElem?_pos, -List.map_take, -List.map_drop, IntWalk.iteOmega, IntWalk.toNatUp, db, he, show (0 : Int) < N - i by omega])
              refine IWp.cut (fun e K => ∃ w, Dx n b rb xb K (slotP st).2 (confB (frow 2 0 (SV.map Sig.val)) (frow 9 0 (RV.map Rule.val)) v 0 0 0 0 0 0 false 0) ∧ Bld 1 K n v (acc.map (ints .i64)) ∧ (∀ j, blkOf v j = true → blkOf w j = false) ∧ Bld 1 K n w ((slotP st).1.map (Value.int .i64)) ∧ e = [(2, ptrTo rb 0), (7, ptrTo b 0), (8, ptrTo xb 0), (15, .int .u8 (N - i)), (16, w)]) ?_ ?_
              · skip
                refine IWp.one [2, 7, 8, 15, 16, 17] ?_
                simp [go_sem, -getElem?_pos, -List.map_take, -List.map_drop, IntWalk.iteOmega, IntWalk.toNatUp]
                refine ICalls.mono (mByte K b st hso D.gb) ?_
                rintro v _ ⟨rfl, rfl⟩
                try simp [go_sem, -getElem?_pos, -List.map_take, -List.map_drop, IntWalk.iteOmega, IntWalk.toNatUp]
                refine IWp.block ?_
                have D1 := D.set st.byte.2
                have i1 := Inv.start Rd.byte st hso
                have hN2 := Rd.byte_u8 st hso
                have hvm := hv.blk
                have hv1 : Bld 1 (K.set b st.byte.2.cells) n v (acc.map (ints .i64)) := hv.to hvm fun j hj _ => by rw [get_set, if_neg (by omega)]
                have hm1 : K.next ≤ (K.set b st.byte.2.cells).next := Nat.le_refl _
                generalize hmm : K.next = m at *
                generalize K.set b _ = M at D1 hv1 hm1 ⊢
                obtain ⟨N2, hN2e⟩ : ∃ N, N = st.byte.1 := ⟨_, rfl⟩
                rw [← hN2e] at hN2 i1 ⊢
                clear hv D db
                refine IWp.loop (fun j e K => ∃ (i2 : Nat) (w : Value) (acc2 : List Int) (t : Rd), j = N2.toNat - i2 ∧ Inv Rd.byte st N2.toNat i2 acc2 t ∧ Dx n b rb xb K t (confB (frow 2 0 (SV.map Sig.val)) (frow 9 0 (RV.map Rule.val)) v 0 0 0 0 0 0 false 0) ∧ Bld 1 K n v (acc.map (ints .i64)) ∧ Bld 1 K m w (acc2.map (Value.int .i64)) ∧ m ≤ K.next ∧ e = [(2, ptrTo rb 0), (7, ptrTo b 0), (8, ptrTo xb 0), (15, .int .u8 (N - i)), (16, w), (17, .int .u8 (N2 - i2))]) N2.toNat ⟨0, _, [], _, rfl, i1, D1, hv1, Bld.nil _ _ _, hm1, by simp [go_sem]⟩ ?_
                clear i1 D1 hv1 hm1
                rintro j e K ⟨i2, w, acc2, t, rfl, hi2, D, hv, hw2, hm1, rfl⟩
                obtain ⟨hi3, hso2, hil2, hin2⟩ := hi2.parts
                have db := D.gb
                simp only [Rd.cells] at db
                have fin2 : (manyP Rd.byte st).1 = acc2 → (manyP Rd.byte st).2 = t → Dx n b rb xb K (slotP st).2 (confB (frow 2 0 (SV.map Sig.val)) (frow 9 0 (RV.map Rule.val)) v 0 0 0 0 0 0 false 0) ∧ Bld 1 K n v (acc.map (ints .i64)) ∧ (∀ j, blkOf v j = true → blkOf w j = false) ∧ Bld 1 K n w ((slotP st).1.map (Value.int .i64)) := fun q1 q2 => by
                  rw [show (slotP st).2 = t from q2, show (slotP st).1 = acc2 from q1]
                  exact ⟨D, hv, fun j hj => hw2.low j (hvm j hj), hw2.le dn⟩
                by_cases hlt2 : i2 < N2.toNat
                · by_cases he2 : t.e = 0
                  · have hstep2 := hi2.step (fun s h => Rd.byte_ok h) hlt2 he2
                    have w2 : IntKind.u8.wrap (N2 - i2 - 1) = N2 - ((i2 + 1 : Nat) : Int) := by rw [show N2 - ((i2 + 1 : Nat) : Int) = N2 - i2 - 1 by omega]; exact IntWalk.u8_in _ (by omega)
                    have hu := Rd.byte_u8 t hso2
                    have w3 := IntWalk.i64_in t.byte.1 (by omega)
                    have wM : Bld 1 (K.set b t.byte.2.cells) m w (acc2.map (Value.int .i64)) := hw2.keepD fun j hj _ => by rw [get_set, if_neg (by omega)]
                    obtain ⟨w', K3, e3, b3, s3, n3, f3, t3⟩ := app_one (P := Tryd.prog) (t := 58) (e := 3) (sz := 1) (by_ := 8) (z := .int .i64 0) (by kernel_rfl) (by kernel_rfl) (by kernel_rfl) (by kernel_rfl) rfl (Value.int .i64 t.byte.1) [.int .i64 t.byte.1] wM rfl rfl (by simp [one0]) hm1 (by simp; omega) (by simp; omega)
                    simp only [next_set] at e3
                    have D4 := (D.set t.byte.2).same (fun j hj => s3 j (by omega)) (Nat.le_trans (D.set t.byte.2).nx n3)
                    have hv4 : Bld 1 K3 n v (acc.map (ints .i64)) := hv.to hvm fun j hj hl => (s3 j hl).trans (by rw [get_set, if_neg (by omega)])
                    have Kp : Kept [[2,7,8,15,16,17,161],[],[2,7,8,15,16,17],[2,7,8,15,16,17]] := ⟨⟩
                    iterate 4 (refine Kp.s ?_; clear Kp; intro Kp; simp [go_sem, -getElem?_pos, -List.map_take, -List.map_drop, IntWalk.iteOmega, IntWalk.toNatUp, db, he2, show (0 : Int) < N2 - i2 by omega, w3, e3, w2])
                    refine ICalls.mono (mByte K b t hso2 D.gb) ?_
                    rintro v _ ⟨rfl, rfl⟩
                    try simp [go_sem, -getElem?_pos, -List.map_take, -List.map_drop, IntWalk.iteOmega, IntWalk.toNatUp, db, he2, show (0 : Int) < N2 - i2 by omega, w3, e3, w2]
                    refine IWp.one [2, 7, 8, 15, 16, 17] ?_
                    simp [go_sem, -getElem?_pos, -List.map_take, -List.map_drop, IntWalk.iteOmega, IntWalk.toNatUp, db, he2, show (0 : Int) < N2 - i2 by omega, w3, e3, w2]
                    exact ⟨N2.toNat - (i2 + 1), by omega, i2 + 1, rfl, w', _, _, hstep2, D4, hv4, by rw [List.map_append]; exact b3, Nat.le_trans hm1 n3, by simp⟩
                  · skip
                    have Kp : Kept [[2,7,8,15,16,17,161],[],[2,7,8,15,16]] := ⟨⟩
                    iterate 3 (refine Kp.s ?_; clear Kp; intro Kp; simp [go_sem, -getElem?_pos, -List.map_take, -List.map_drop, IntWalk.iteOmega, IntWalk.toNatUp, db, he2, show (0 : Int) < N2 - i2 by omega])
                    obtain ⟨q1, q2⟩ := hi2.stop (.inl he2)
                    obtain ⟨a1, a2, a3, a4⟩ := fin2 q1 q2
                    exact ⟨a1, a2, a3, a4⟩
                · skip
                  have Kp : Kept [[2,7,8,15,16,17,161],[],[2,7,8,15,16]] := ⟨⟩
                  iterate 3 (refine Kp.s ?_; clear Kp; intro Kp; simp [go_sem, -getElem?_pos, -List.map_take, -List.map_drop, IntWalk.iteOmega, IntWalk.toNatUp, show ¬ (i2 : Int) < N2 by omega])
                  obtain ⟨q1, q2⟩ := hi2.stop (.inr hlt2)
                  obtain ⟨a1, a2, a3, a4⟩ := fin2 q1 q2
                  exact ⟨a1, a2, a3, a4⟩
              clear D hv db
              rintro e K9 ⟨w, D, hv, hvw, hw, rfl⟩
              have hSn := hw.low
              refine IWp.freezeE (blkOf w) (.cons (.same _) (.cons (.same _) (.cons (.same _) (.cons (.same _) (.cons hw.frzV .nil))))) ?_
              have go : ∀ j, blkOf w j = false → (K9.only fun j => !blkOf w j).get j = K9.get j := fun j hj => by
                show (if (!blkOf w j) = true then K9.get j else none) = _
                rw [hj]; rfl
              have D9 : Dx n b rb xb (K9.only fun j => !blkOf w j) (slotP st).2 (confB (frow 2 0 (SV.map Sig.val)) (frow 9 0 (RV.map Rule.val)) v 0 0 0 0 0 0 false 0) := D.same (fun j hj => go j (hSn j hj)) D.nx
              have B9 : Bld 1 (K9.only fun j => !blkOf w j) n v (acc.map (ints .i64)) := ⟨hv.1, by
                rcases hv.2 with ⟨e1, e2⟩ | ⟨q, hq, e1, e2⟩
                · exact .inl ⟨e1, e2⟩
                · exact .inr ⟨q, hq, e1, (go q (hvw q (by rw [e1]; simp [blkOf]))).trans e2⟩⟩
              clear hvw hv D hw hSn go
              generalize (K9.only fun j => !blkOf w j) = M at D9 B9 ⊢
              have nx9 := D9.nx
              have dmx := D9.gx
              simp only [confB] at dmx
              generalize hgl : (slotP st).1 = l at *
              obtain ⟨v', K3, e3, b3, s3, n3, f3', t3'⟩ := app_one (P := Tryd.prog) (t := 30) (e := 58) (sz := 1) (by_ := 24) (z := .slice none 0 0) (by kernel_rfl) (by kernel_rfl) (by kernel_rfl) (by kernel_rfl) rfl (ints .i64 l) [ints .i64 l] B9 rfl rfl (by simp [one0, ints, frow]) nx9 (by simp; omega) (by simp; omega)
              rw [List.length_map] at t3'
              subst t3'
              have D3 := (D9.same s3 (Nat.le_trans nx9 n3)).put (confB (frow 2 0 (SV.map Sig.val)) (frow 9 0 (RV.map Rule.val)) (.slice (some ⟨M.next + 1, 0, some 1⟩) (acc.length + 1) 1) 0 0 0 0 0 0 false 0)
              have d3x := (D9.same s3 (Nat.le_trans nx9 n3)).gx
              simp only [confB] at d3x
              have Kp : Kept [[2,7,8,15],[2,7,8,15]] := ⟨⟩
              iterate 2 (refine Kp.s ?_; clear Kp; intro Kp; simp [go_sem, -getElem?_pos, -List.map_take, -List.map_drop, IntWalk.iteOmega, IntWalk.toNatUp, dmx, e3, d3x, w1])
              exact ⟨N.toNat - (i + 1), by omega, i + 1, rfl, _, _, _, hstep, D3, by rw [List.map_append]; exact b3.keepD fun j hj _ => by rw [get_set, if_neg (by omega)], by simp⟩
            · skip
              have Kp : Kept [[2,7,8,15,148],[],[2,7,8]] := ⟨⟩
              iterate 3 (refine Kp.s ?_; clear Kp; intro Kp; simp [go_sem, -getElem?_pos, -List.map_take, -List.map_drop, IntWalk.iteOmega, IntWalk.toNatUp, db, he, show (0 : Int) < N - i by omega])
              obtain ⟨q1, q2⟩ := hi.stop (.inl he)
              exact ⟨v, by rw [hs3, q2]; exact D, by rw [hTV, q1]; exact hv⟩
          · skip
            have Kp : Kept [[2,7,8,15,148],[],[2,7,8]] := ⟨⟩
            iterate 3 (refine Kp.s ?_; clear Kp; intro Kp; simp [go_sem, -getElem?_pos, -List.map_take, -List.map_drop, IntWalk.iteOmega, IntWalk.toNatUp, show ¬ (i : Int) < N by omega])
            obtain ⟨q1, q2⟩ := hi.stop (.inr hlt)
            exact ⟨v, by rw [hs3, q2]; exact D, by rw [hTV, q1]; exact hv⟩
        rintro e K ⟨v, D, hv, rfl⟩
        have hS := hv.low
        obtain ⟨K0', hf, f1, f2, f3⟩ := FrzH.one (S := blkOf v) (b := xb) (cs' := (confB (frow 2 0 (SV.map Sig.val)) (frow 9 0 (RV.map Rule.val)) (frow 1 0 (TV.map (ints .i64))) 0 0 0 0 0 0 false 0)) (hS xb nb.2.2.2.2.2) D.gx (.cons (.same _) (.cons (.same _) (.cons hv.frzV (FrzL.same _))))
        refine IWp.freezeH K0' _ (.cons (.same _) (.cons (.same _) (.cons (.same _) .nil))) hf ?_
        have R0 : Dx n b rb xb K0' s3 (confB (frow 2 0 (SV.map Sig.val)) (frow 9 0 (RV.map Rule.val)) (frow 1 0 (TV.map (ints .i64))) 0 0 0 0 0 0 false 0) := ⟨(f2 b nb.2.1 (hS b nb.2.2.2.1)).trans D.gb, (f2 rb nb.2.2.1 (hS rb nb.2.2.2.2.1)).trans D.gr, f1, D.ne, by rw [f3]; exact D.nx⟩
        clear hf f1 f2 f3 hS hv D
        generalize K0' = M0 at R0 ⊢
        obtain ⟨t0, ht0⟩ : ∃ t : Rd, t = s3 := ⟨_, rfl⟩
        have kt0 : t0.ok := by rw [ht0]; exact k3
        rw [← ht0] at R0
        obtain ⟨x0, hx0⟩ : ∃ y, y = t0.byte.1 := ⟨_, rfl⟩
        obtain ⟨t1, ht1⟩ : ∃ y, y = t0.byte.2 := ⟨_, rfl⟩
        have kt1 : t1.ok := by rw [ht1]; exact Rd.byte_ok kt0
        have c1 := mByte M0 b t0 kt0 R0.gb
        rw [← hx0, ← ht1] at c1
        have R1 := R0.step t1 (confB (frow 2 0 (SV.map Sig.val)) (frow 9 0 (RV.map Rule.val)) (frow 1 0 (TV.map (ints .i64))) x0 0 0 0 0 0 false 0)
        have gy := (R0.set t1).gx
        simp only [confB] at gy R1
        have wx : IntKind.i64.wrap x0 = x0 := by rw [hx0]; have := Rd.byte_u8 t0 kt0; exact IntWalk.i64_in _ (by omega)
        refine IWp.one [2, 7, 8] ?_
        simp [go_sem, -getElem?_pos, -List.map_take, -List.map_drop, IntWalk.iteOmega, IntWalk.toNatUp, gy, wx]
        refine ICalls.mono (c1) ?_
        rintro v _ ⟨rfl, rfl⟩
        try simp [go_sem, -getElem?_pos, -List.map_take, -List.map_drop, IntWalk.iteOmega, IntWalk.toNatUp, gy, wx]
        refine IWp.seq ?_
        generalize (M0.set b _).set xb _ = M1 at R1 ⊢
        clear gy c1 wx R0
        obtain ⟨x1, hx1⟩ : ∃ y, y = t1.byte.1 := ⟨_, rfl⟩
        obtain ⟨t2, ht2⟩ : ∃ y, y = t1.byte.2 := ⟨_, rfl⟩
        have kt2 : t2.ok := by rw [ht2]; exact Rd.byte_ok kt1
        have c1 := mByte M1 b t1 kt1 R1.gb
        rw [← hx1, ← ht2] at c1
        have R2 := R1.step t2 (confB (frow 2 0 (SV.map Sig.val)) (frow 9 0 (RV.map Rule.val)) (frow 1 0 (TV.map (ints .i64))) x0 x1 0 0 0 0 false 0)
        have gy := (R1.set t2).gx
        simp only [confB] at gy R2
        have wx : IntKind.i64.wrap x1 = x1 := by rw [hx1]; have := Rd.byte_u8 t1 kt1; exact IntWalk.i64_in _ (by omega)
        refine IWp.one [2, 7, 8] ?_
        simp [go_sem, -getElem?_pos, -List.map_take, -List.map_drop, IntWalk.iteOmega, IntWalk.toNatUp, gy, wx]
        refine ICalls.mono (c1) ?_
        rintro v _ ⟨rfl, rfl⟩
        try simp [go_sem, -getElem?_pos, -List.map_take, -List.map_drop, IntWalk.iteOmega, IntWalk.toNatUp, gy, wx]
        refine IWp.seq ?_
        generalize (M1.set b _).set xb _ = M2 at R2 ⊢
        clear gy c1 wx R1
        obtain ⟨x2, hx2⟩ : ∃ y, y = t2.byte.1 := ⟨_, rfl⟩
        obtain ⟨t3, ht3⟩ : ∃ y, y = t2.byte.2 := ⟨_, rfl⟩
        have kt3 : t3.ok := by rw [ht3]; exact Rd.byte_ok kt2
        have c1 := mByte M2 b t2 kt2 R2.gb
        rw [← hx2, ← ht3] at c1
        have R3 := R2.step t3 (confB (frow 2 0 (SV.map Sig.val)) (frow 9 0 (RV.map Rule.val)) (frow 1 0 (TV.map (ints .i64))) x0 x1 x2 0 0 0 false 0)
        have gy := (R2.set t3).gx
        simp only [confB] at gy R3
        have wx : IntKind.i64.wrap x2 = x2 := by rw [hx2]; have := Rd.byte_u8 t2 kt2; exact IntWalk.i64_in _ (by omega)
        refine IWp.one [2, 7, 8] ?_
        simp [go_sem, -getElem?_pos, -List.map_take, -List.map_drop, IntWalk.iteOmega, IntWalk.toNatUp, gy, wx]
        refine ICalls.mono (c1) ?_
        rintro v _ ⟨rfl, rfl⟩
        try simp [go_sem, -getElem?_pos, -List.map_take, -List.map_drop, IntWalk.iteOmega, IntWalk.toNatUp, gy, wx]
        refine IWp.seq ?_
        generalize (M2.set b _).set xb _ = M3 at R3 ⊢
        clear gy c1 wx R2
        obtain ⟨x3, hx3⟩ : ∃ y, y = t3.byte.1 := ⟨_, rfl⟩
        obtain ⟨t4, ht4⟩ : ∃ y, y = t3.byte.2 := ⟨_, rfl⟩
        have kt4 : t4.ok := by rw [ht4]; exact Rd.byte_ok kt3
        have c1 := mByte M3 b t3 kt3 R3.gb
        rw [← hx3, ← ht4] at c1
        have R4 := R3.step t4 (confB (frow 2 0 (SV.map Sig.val)) (frow 9 0 (RV.map Rule.val)) (frow 1 0 (TV.map (ints .i64))) x0 x1 x2 x3 0 0 false 0)
        have gy := (R3.set t4).gx
        simp only [confB] at gy R4
        have wx : IntKind.i64.wrap x3 = x3 := by rw [hx3]; have := Rd.byte_u8 t3 kt3; exact IntWalk.i64_in _ (by omega)
        refine IWp.one [2, 7, 8] ?_
        simp [go_sem, -getElem?_pos, -List.map_take, -List.map_drop, IntWalk.iteOmega, IntWalk.toNatUp, gy, wx]
        refine ICalls.mono (c1) ?_
        rintro v _ ⟨rfl, rfl⟩
        try simp [go_sem, -getElem?_pos, -List.map_take, -List.map_drop, IntWalk.iteOmega, IntWalk.toNatUp, gy, wx]
        refine IWp.seq ?_
        generalize (M3.set b _).set xb _ = M4 at R4 ⊢
        clear gy c1 wx R3
        obtain ⟨x4, hx4⟩ : ∃ y, y = t4.int.1 := ⟨_, rfl⟩
        obtain ⟨t5, ht5⟩ : ∃ y, y = t4.int.2 := ⟨_, rfl⟩
        have kt5 : t5.ok := by rw [ht5]; exact Rd.int_ok kt4
        have c1 := mInt M4 b t4 kt4 R4.gb
        rw [← hx4, ← ht5] at c1
        have R5 := R4.step t5 (confB (frow 2 0 (SV.map Sig.val)) (frow 9 0 (RV.map Rule.val)) (frow 1 0 (TV.map (ints .i64))) x0 x1 x2 x3 x4 0 false 0)
        have gy := (R4.set t5).gx
        simp only [confB] at gy R5
        have wx : True := trivial
        refine IWp.one [2, 7, 8] ?_
        simp [go_sem, -getElem?_pos, -List.map_take, -List.map_drop, IntWalk.iteOmega, IntWalk.toNatUp, gy, wx]
        refine ICalls.mono (c1) ?_
        rintro v _ ⟨rfl, rfl⟩
        try simp [go_sem, -getElem?_pos, -List.map_take, -List.map_drop, IntWalk.iteOmega, IntWalk.toNatUp, gy, wx]
        refine IWp.seq ?_
        generalize (M4.set b _).set xb _ = M5 at R5 ⊢
        clear gy c1 wx R4
        obtain ⟨x5, hx5⟩ : ∃ y, y = t5.int.1 := ⟨_, rfl⟩
        obtain ⟨t6, ht6⟩ : ∃ y, y = t5.int.2 := ⟨_, rfl⟩
        have kt6 : t6.ok := by rw [ht6]; exact Rd.int_ok kt5
        have c1 := mInt M5 b t5 kt5 R5.gb
        rw [← hx5, ← ht6] at c1
        have R6 := R5.step t6 (confB (frow 2 0 (SV.map Sig.val)) (frow 9 0 (RV.map Rule.val)) (frow 1 0 (TV.map (ints .i64))) x0 x1 x2 x3 x4 x5 false 0)
        have gy := (R5.set t6).gx
        simp only [confB] at gy R6
        have wx : True := trivial
        refine IWp.one [2, 7, 8] ?_
        simp [go_sem, -getElem?_pos, -List.map_take, -List.map_drop, IntWalk.iteOmega, IntWalk.toNatUp, gy, wx]
        refine ICalls.mono (c1) ?_
        rintro v _ ⟨rfl, rfl⟩
        try simp [go_sem, -getElem?_pos, -List.map_take, -List.map_drop, IntWalk.iteOmega, IntWalk.toNatUp, gy, wx]
        refine IWp.seq ?_
        generalize (M5.set b _).set xb _ = M6 at R6 ⊢
        clear gy c1 wx R5
        obtain ⟨x6, hx6⟩ : ∃ y, y = t6.flag.1 := ⟨_, rfl⟩
        obtain ⟨t7, ht7⟩ : ∃ y, y = t6.flag.2 := ⟨_, rfl⟩
        have kt7 : t7.ok := by rw [ht7]; exact Rd.flag_ok kt6
        have c1 := mFlag M6 b t6 kt6 R6.gb
        rw [← hx6, ← ht7] at c1
        have R7 := R6.step t7 (confB (frow 2 0 (SV.map Sig.val)) (frow 9 0 (RV.map Rule.val)) (frow 1 0 (TV.map (ints .i64))) x0 x1 x2 x3 x4 x5 x6 0)
        have gy := (R6.set t7).gx
        simp only [confB] at gy R7
        have wx : True := trivial
        refine IWp.one [2, 7, 8] ?_
        simp [go_sem, -getElem?_pos, -List.map_take, -List.map_drop, IntWalk.iteOmega, IntWalk.toNatUp, gy, wx]
        refine ICalls.mono (c1) ?_
        rintro v _ ⟨rfl, rfl⟩
        try simp [go_sem, -getElem?_pos, -List.map_take, -List.map_drop, IntWalk.iteOmega, IntWalk.toNatUp, gy, wx]
        refine IWp.seq ?_
        generalize (M6.set b _).set xb _ = M7 at R7 ⊢
        clear gy c1 wx R6
        obtain ⟨x7, hx7⟩ : ∃ y, y = t7.int.1 := ⟨_, rfl⟩
        obtain ⟨t8, ht8⟩ : ∃ y, y = t7.int.2 := ⟨_, rfl⟩
        have kt8 : t8.ok := by rw [ht8]; exact Rd.int_ok kt7
        have c1 := mInt M7 b t7 kt7 R7.gb
        rw [← hx7, ← ht8] at c1
        have R8 := R7.step t8 (confB (frow 2 0 (SV.map Sig.val)) (frow 9 0 (RV.map Rule.val)) (frow 1 0 (TV.map (ints .i64))) x0 x1 x2 x3 x4 x5 x6 x7)
        have gy := (R7.set t8).gx
        simp only [confB] at gy R8
        have wx : True := trivial
        refine IWp.one [2, 7, 8] ?_
        simp [go_sem, -getElem?_pos, -List.map_take, -List.map_drop, IntWalk.iteOmega, IntWalk.toNatUp, gy, wx]
        refine ICalls.mono (c1) ?_
        rintro v _ ⟨rfl, rfl⟩
        try simp [go_sem, -getElem?_pos, -List.map_take, -List.map_drop, IntWalk.iteOmega, IntWalk.toNatUp, gy, wx]
        refine IWp.seq ?_
        generalize (M7.set b _).set xb _ = M8 at R8 ⊢
        clear gy c1 wx R7
        have hcf : cfgP s0 = (⟨SV, RV, TV, x0, x1, x2, x3, x4, x5, x6, x7⟩, t8) := by
          rw [ht8, hx7, ht7, hx6, ht6, hx5, ht5, hx4, ht4, hx3, ht3, hx2, ht2, hx1, ht1, hx0, ht0, hs3, hTV, hs2, hRV, hs1, hSV]; rfl
        rw [hcf] at hd
        simp only at hd
        have g8 := R8.gx
        have r8 := R8.gr
        have c1 := mEnd M8 b t8 kt8 R8.gb
        by_cases h9 : t8.ending.2 = 0
        · rw [if_neg (by simpa using h9)] at hd
          refine IWp.one [2, 8, 18, 19] ?_
          simp [go_sem, -getElem?_pos, -List.map_take, -List.map_drop, IntWalk.iteOmega, IntWalk.toNatUp, h9, g8, r8, show ¬ rb = xb from nb.2.2.1]
          refine ICalls.then (c1) ?_
          try simp [go_sem, -getElem?_pos, -List.map_take, -List.map_drop, IntWalk.iteOmega, IntWalk.toNatUp, h9, g8, r8, show ¬ rb = xb from nb.2.2.1]
          have Kp : Kept [[2,8,18,19,213],[],[2,8],[2,3,4],[]] := ⟨⟩
          iterate 5 (refine Kp.s ?_; clear Kp; intro Kp; simp [go_sem, -getElem?_pos, -List.map_take, -List.map_drop, IntWalk.iteOmega, IntWalk.toNatUp, h9, g8, r8, show ¬ rb = xb from nb.2.2.1])
          rw [hU, hd]
          exact .same _
        · rw [if_pos h9] at hd
          refine IWp.one [2, 8, 18, 19] ?_
          simp [go_sem, -getElem?_pos, -List.map_take, -List.map_drop, IntWalk.iteOmega, IntWalk.toNatUp, h9, r8]
          refine ICalls.then (c1) ?_
          try simp [go_sem, -getElem?_pos, -List.map_take, -List.map_drop, IntWalk.iteOmega, IntWalk.toNatUp, h9, r8]
          have Kp : Kept [[2,8,18,19,213],[],[2,3,4],[]] := ⟨⟩
          iterate 4 (refine Kp.s ?_; clear Kp; intro Kp; simp [go_sem, -getElem?_pos, -List.map_take, -List.map_drop, IntWalk.iteOmega, IntWalk.toNatUp, h9, r8])
          exact fin _ _ hd _
      · have hd : decP L = (cfgZ, 0, 2) := by unfold decP; rw [if_neg (by simpa using h1), ← hQ, if_pos h2]
        rw [show decide (Q.take 3 = [72, 66, 49]) = false from decide_eq_false h2]
        simp [go_sem, -List.map_take, -List.map_drop]
        have Kp : Kept [[],[2,3,4],[]] := ⟨⟩
        iterate 3 (refine Kp.s ?_; clear Kp; intro Kp; simp [go_sem, -getElem?_pos, -List.map_take, -List.map_drop, IntWalk.iteOmega, IntWalk.toNatUp, g0])
        exact fin _ _ hd _
  · have hd : decP L = (cfgZ, 0, (opened L).2) := by unfold decP; rw [if_pos h1]
    refine IBody.of Tryd.func42 rfl (by rw [Tryd.ntmps42]; simp) ?_
    rw [Tryd.ntmps42]
    have Kp : Kept [[0,2],[2,5,6]] := ⟨⟩
    iterate 2 (refine Kp.s ?_; clear Kp; intro Kp; simp [go_sem, -getElem?_pos, -List.map_take, -List.map_drop, IntWalk.iteOmega, IntWalk.toNatUp, h1])
    refine ICalls.then (c1) ?_
    try simp [go_sem, -getElem?_pos, -List.map_take, -List.map_drop, IntWalk.iteOmega, IntWalk.toNatUp, h1]
    have Kp : Kept [[2,5,6,26],[],[2,3,4],[]] := ⟨⟩
    iterate 4 (refine Kp.s ?_; clear Kp; intro Kp; simp [go_sem, -getElem?_pos, -List.map_take, -List.map_drop, IntWalk.iteOmega, IntWalk.toNatUp, h1])
    exact fin _ _ hd _
end Go.Proofs.YtoecebibhcadoaaDoor.I
