/- Configurations: how a draft's one is made. No condition. -/
import Derived.Test.YtoecebibhcadoaaDoorGMake
namespace Go.Proofs.YtoecebibhcadoaaDoor.I
open Go Go.RowKit
set_option linter.unusedVariables false
set_option linter.unusedSimpArgs false
def blkOf : Value → Nat → Bool
  | .slice (some a) _ _ => fun j => j == a.block
  | _ => fun _ => false
theorem Bld.frzV {sz : Nat} {H : Heap} {n : Nat} {v : Value} {us : List Value} (h : Bld sz H n v us) : Frz H (blkOf v) v (frow sz 0 us) := by
  rcases h with ⟨h0, ⟨rfl, rfl⟩ | ⟨b, _, rfl, h3⟩⟩
  · exact .nil sz
  · exact frz_lit us h3 rfl h0 rfl (by simp [blkOf])
theorem FrzH.one {H : Heap} {S : Nat → Bool} {b : Nat} {cs cs' : List Value} (hS : S b = false) (hg : H.get b = some ⟨cs, true⟩) (hf : FrzL H S cs cs') :
    ∃ K, FrzH H S K ∧ K.get b = some ⟨cs', true⟩ ∧ (∀ j, j ≠ b → S j = false → K.get j = H.get j) ∧ K.next = H.next := by
  have ho : (H.only fun j => !S j).get b = some ⟨cs, true⟩ := by
    show (if (!S b) = true then H.get b else none) = _
    rw [hS]; exact hg
  refine ⟨(H.only fun j => !S j).set b cs', ⟨rfl, fun j k hk => ?_, .inl rfl⟩, by rw [get_set, if_pos rfl, ho]; rfl, fun j hj hSj => ?_, rfl⟩
  · rw [get_set] at hk
    by_cases hj : j = b
    · subst hj
      rw [if_pos rfl, ho] at hk
      cases hk
      exact ⟨hS, _, hg, rfl, hf⟩
    · rw [if_neg hj] at hk
      change (if (!S j) = true then H.get j else none) = some k at hk
      split at hk
      · rename_i h
        exact ⟨by simpa using h, k, hk, rfl, FrzL.same _⟩
      · cases hk
  · rw [get_set, if_neg hj]
    show (if (!S j) = true then H.get j else none) = _
    rw [hSj]; rfl
def confZ : List Value := [.slice none 0 0, .slice none 0 0, .slice none 0 0, .int .i64 0, .int .i64 0, .int .i64 0, .int .i64 0, .int .i64 0, .int .i64 0, .bool false, .int .i64 0]
def confR (rv : Value) : List Value := [frow 2 0 (sigsS.map Sig.val), rv, .slice none 0 0, .int .i64 0, .int .i64 0, .int .i64 0, .int .i64 0, .int .i64 0, .int .i64 0, .bool false, .int .i64 0]
def confT (RS : List Rule) (tv : Value) : List Value := [frow 2 0 (sigsS.map Sig.val), frow 9 0 (RS.map Rule.val), tv, .int .i64 0, .int .i64 0, .int .i64 0, .int .i64 0, .int .i64 0, .int .i64 0, .bool false, .int .i64 0]
def TabAt (K : Heap) (n : Nat) (tv lv : Value) (T : List (List Int)) (l : List Int) : Prop :=
  ∃ tb, n ≤ tb ∧ tv = .slice (some ⟨tb, 0, some 1⟩) (T.length + 1) 1 ∧ K.get tb = some ⟨T.map (ints .i64) ++ [lv], true⟩ ∧ Bld 1 K n lv (l.map (Value.int .i64)) ∧ blkOf lv tb = false
theorem rows_flatI (T : List (List Int)) : ((T.map (ints .i64)).flatMap fun u => u.cells.toList) = T.map (ints .i64) := by
  induction T with
  | nil => rfl
  | cons a T ih => rw [List.map_cons, List.flatMap_cons, ih]; rfl
theorem frzE_tab {K : Heap} {S : Nat → Bool} {lv : Value} {l : List Int} (h : Frz K S lv (ints .i64 l)) : ∀ T : List (List Int), FrzE K S 1 (T.map (ints .i64) ++ [lv]) ((T ++ [l]).map (ints .i64))
  | [] => FrzE.cons (l := [lv]) (cs := []) rfl (.cons h .nil) .nil
  | t :: T => FrzE.cons (l := [ints .i64 t]) rfl (.cons (.same _) .nil) (frzE_tab h T)
theorem TabAt.frz {K : Heap} {n : Nat} {tv lv : Value} {T : List (List Int)} {l : List Int} (h : TabAt K n tv lv T l) : Frz K (fun _ => true) tv (frow 1 0 ((T ++ [l]).map (ints .i64))) := by
  obtain ⟨tb, _, rfl, h3, h4, _⟩ := h
  have := Frz.row (H := K) (S := fun _ => true) (b := tb) (o := 0) (sz := 1) (c := 1) (us := (T ++ [l]).map (ints .i64)) h3 rfl (by rw [List.drop_zero]; exact frzE_tab h4.frz T)
  rw [List.length_map, List.length_append] at this; exact this
theorem lastAdd_app (A : List (List Int)) (l : List Int) (i : Int) : lastAdd (A ++ [l]) i = A ++ [if standsS (A ++ [l]) i = true then l else l ++ [i]] := by
  unfold lastAdd
  split
  · rfl
  · have e1 : (A ++ [l]).length - 1 = A.length := by simp
    rw [e1]
    have e2 : (A ++ [l]).getD A.length [] = l := by simp [List.getD_eq_getElem?_getD]
    rw [e2, List.set_append_right _ _ (Nat.le_refl _)]
    simp
theorem slotF_len (slots : List Int) (R n : Nat) : ∀ (f k : Nat) (l : List Int), (slotF slots R n f k l).length ≤ l.length + f
  | 0, _, l => Nat.le_refl _
  | f + 1, k, l => by
    rw [slotF]
    split
    · have := slotF_len slots R n f (k + n) (fallS R l (slots.getD k 0))
      have h2 : (fallS R l (slots.getD k 0)).length ≤ l.length + 1 := by unfold fallS; split <;> simp
      omega
    · omega
theorem splice_one' (cs : List Value) (a : Nat) (v : Value) (h : a < cs.length) : splice cs a [v] = cs.set a v := by
  unfold splice
  rw [List.set_eq_take_append_cons_drop, if_pos h]; simp
theorem Bld.frzW {sz : Nat} {H : Heap} {n : Nat} {v : Value} {us : List Value} (h : Bld sz H n v us) {S : Nat → Bool} (hS : ∀ b, n ≤ b → S b = true) : Frz H S v (frow sz 0 us) := by
  rcases h.2 with ⟨rfl, rfl⟩ | ⟨b, h1, rfl, h3⟩
  · exact .nil sz
  · exact frz_lit us h3 rfl h.1 rfl (hS b h1)
theorem entriesS_le (k : Nat) : ∀ T : List (List Int), (∀ x ∈ T, x.length ≤ k) → entriesS T ≤ k * T.length
  | [], _ => by simp [entriesS]
  | t :: T, h => by
    have h1 := entriesS_le k T fun x hx => h x (by simp [hx])
    have h2 := h t (by simp)
    unfold entriesS at *
    rw [List.map_cons, List.sum_cons, List.length_cons, Nat.mul_succ]; omega
def lineAt (d : Draft) (i : Nat) : Line := d.rules.getD i lineZ
theorem rulesS_len (d : Draft) : (rulesS d).length = if d.rules = [] then 1 else min 8 d.rules.length := by
  unfold rulesS
  split
  · rfl
  · simp
theorem rulesS_at (d : Draft) (i : Nat) (h : i < (rulesS d).length) : (rulesS d)[i]? = some (ruleS (lineAt d i)) := by
  rw [rulesS_len] at h
  unfold rulesS lineAt
  split
  · rename_i e
    rw [if_pos e] at h
    have : i = 0 := by omega
    subst this
    simp [e]
  · rename_i e
    rw [if_neg e] at h
    have hi : i < d.rules.length := by omega
    have h8 : i < 8 := by omega
    simp [List.getElem?_take, h8, hi]
def prioA (p : Int) (l : List Int) : Int := l.foldl (fun p x => min (p + x % 2) 3) p
theorem stagesS_snoc (p : Int) (l : List Int) (x : Int) : stagesS p (l ++ [x]) = stagesS p l ++ [⟨1 + x / 2 % 12, min (prioA p l + x % 2) 3⟩] := by
  induction l generalizing p with
  | nil => rfl
  | cons y l ih => rw [List.cons_append]; simp only [stagesS, ih, prioA, List.foldl_cons, List.cons_append]
theorem prioA_snoc (p : Int) (l : List Int) (x : Int) : prioA p (l ++ [x]) = min (prioA p l + x % 2) 3 := by simp [prioA, List.foldl_append]
theorem stagesS_len (p : Int) (l : List Int) : (stagesS p l).length = l.length := by
  induction l generalizing p with
  | nil => rfl
  | cons y l ih => simp [stagesS, ih]
theorem prioA_in (p : Int) (h : 1 ≤ p ∧ p ≤ 3) (l : List Int) : 1 ≤ prioA p l ∧ prioA p l ≤ 3 := by
  induction l generalizing p with
  | nil => exact h
  | cons y l ih => exact ih (min (p + y % 2) 3) (by omega)
theorem ruleS_0 (x : Line) (h : x.kind % 6 = 0) : (ruleS x).lim = x.lim ∧ (ruleS x).back = x.lim - x.back % 20 ∧ (ruleS x).span = 0 := by simp [ruleS, h]
theorem ruleS_1 (x : Line) (h : x.kind % 6 = 1) : (ruleS x).lim = x.lim ∧ (ruleS x).back = x.lim + x.back % 20 ∧ (ruleS x).span = 0 := by simp [ruleS, h]
theorem ruleS_2 (x : Line) (h : x.kind % 6 = 2) : (ruleS x).lim = 1 + x.lim % 60 ∧ (ruleS x).back = x.back % (1 + x.lim % 60 + 1) ∧ (ruleS x).span = 1 + x.span % 12 := by simp [ruleS, h]
theorem ruleS_3 (x : Line) (h : x.kind % 6 = 3) : (ruleS x).lim = 1 + x.lim % 60 ∧ (ruleS x).back = x.back % (1 + x.lim % 60 + 1) ∧ (ruleS x).span = 1 + x.span % 12 := by simp [ruleS, h]
theorem ruleS_4 (x : Line) (h : x.kind % 6 = 4) : (ruleS x).lim = 0 ∧ (ruleS x).back = 0 ∧ (ruleS x).span = 1 + x.span % 12 := by simp [ruleS, h]
theorem ruleS_5 (x : Line) (h : x.kind % 6 = 5) : (ruleS x).lim = 0 ∧ (ruleS x).back = 0 ∧ (ruleS x).span = 0 := by simp [ruleS, h]
set_option maxRecDepth 8000 in
set_option maxHeartbeats 4000000 in
theorem make (H : Heap) (d : Draft) (hw : d.wf) :
    ICalls Tryd.prog 11 [d.val] H fun v H' => v = (makeS d).val ∧ H' = H := by
  refine ICalls.ans (by rw [Config.cl_val]; trivial) fun H => IBody.calls (by kernel_rfl) ?_
  have w1 := IntWalk.i64_in (-100) (by omega)
  have hRl := rulesS_len d
  refine IBody.of Tryd.func11 rfl (by rw [Tryd.ntmps11]; simp) ?_
  rw [Tryd.ntmps11]
  have Kp : Kept [[1,2],[1,2,3]] := ⟨⟩
  iterate 2 (refine Kp.s ?_; clear Kp; intro Kp; simp [go_sem, -getElem?_pos, -List.map_take, -List.map_drop, IntWalk.iteOmega, IntWalk.toNatUp, Draft.val, Draft.cells])
  obtain ⟨H4, hH4⟩ : ∃ H4, H4 = (((H.alloc d.cells).alloc confZ).alloc (sigsS.flatMap Sig.cells)).alloc (.slice (some ⟨H.next + 1 + 1, 0, some 2⟩) 3 1 :: (confR (.slice none 0 0)).tail) := ⟨_, rfl⟩
  have hn4 : H4.next = H.next + 4 := by rw [hH4]; rfl
  have g1 : H4.get H.next = some ⟨d.cells, true⟩ := by rw [hH4]; simp [get_alloc, next_alloc, show ∀ n : Nat, ¬ n = n + 1 + 1 + 1 by omega, show ∀ n : Nat, ¬ n = n + 1 + 1 by omega]
  have g2 : H4.get (H.next + 1) = some ⟨confZ, true⟩ := by rw [hH4]; simp [get_alloc, next_alloc]
  have gs : H4.get (H.next + 1 + 1) = some ⟨sigsS.flatMap Sig.cells, true⟩ := by rw [hH4]; simp [get_alloc, next_alloc]
  have g3 : H4.get (H.next + 1 + 1 + 1) = some ⟨.slice (some ⟨H.next + 1 + 1, 0, some 2⟩) 3 1 :: (confR (.slice none 0 0)).tail, true⟩ := by rw [hH4]; simp [get_alloc, next_alloc]
  simp only [sigsS, Sig.cells, List.flatMap_cons, List.flatMap_nil, List.cons_append, List.nil_append, confZ, confR, List.tail_cons, Draft.cells] at hH4
  rw [← hH4]
  clear hH4
  generalize hb1 : H.next = b1 at *
  generalize hb2 : b1 + 1 = b2 at *
  generalize hbs : b2 + 1 = bs at *
  generalize hb3 : bs + 1 = b3 at *
  obtain ⟨K0, hf0, k3, ko, kn⟩ := FrzH.one (S := fun j => j == bs) (b := b3) (cs' := confR (.slice none 0 0)) (by simp; omega) g3 (by
    refine .cons ?_ (FrzL.same _)
    exact frz_lit (sigsS.map Sig.val) gs rfl (by simp [sigsS, Sig.val, Sig.cells, Value.cells]) (by simp [sigsS]) (by simp))
  refine IWp.freezeH K0 _ (.cons (.same _) (.cons (.same _) (.cons (.same _) .nil))) hf0 ?_
  have k1 : K0.get b1 = some ⟨d.cells, true⟩ := by rw [ko b1 (by omega) (by simp; omega)]; exact g1
  have k2 : K0.get b2 = some ⟨confZ, true⟩ := by rw [ko b2 (by omega) (by simp; omega)]; exact g2
  have hb3n : b3 < K0.next := Heap.lt_of_get k3
  clear hf0 ko g1 g2 g3 gs hn4 kn
  obtain ⟨M, hM⟩ : ∃ M, M = (rulesS d).length := ⟨_, rfl⟩
  rw [← hM] at hRl
  have hM8 : M ≤ 8 := by split at hRl <;> omega
  refine IWp.cut (fun e K => ∃ rv, K.get b1 = some ⟨d.cells, true⟩ ∧ K.get b2 = some ⟨confZ, true⟩ ∧ K.get b3 = some ⟨confR rv, true⟩ ∧ Bld 9 K K0.next rv ((rulesS d).map Rule.val) ∧ K0.next ≤ K.next ∧ e = [(1, ptrTo b1 0), (2, ptrTo b2 0), (3, ptrTo b3 0)]) ?_ ?_
  · skip
    refine IWp.one [1, 2, 3, 4] ?_
    simp [go_sem, -getElem?_pos, -List.map_take, -List.map_drop, IntWalk.iteOmega, IntWalk.toNatUp]
    refine IWp.block ?_
    refine IWp.loop (fun j e K => ∃ (i : Nat) (rv : Value), j = M - i ∧ i ≤ M ∧ K.get b1 = some ⟨d.cells, true⟩ ∧ K.get b2 = some ⟨confZ, true⟩ ∧ K.get b3 = some ⟨confR rv, true⟩ ∧ Bld 9 K K0.next rv (((rulesS d).take i).map Rule.val) ∧ K0.next ≤ K.next ∧ e = [(1, ptrTo b1 0), (2, ptrTo b2 0), (3, ptrTo b3 0), (4, .int .i64 (i : Int))]) M ⟨0, .slice none 0 0, rfl, Nat.zero_le _, k1, k2, k3, Bld.nil _ _ _, Nat.le_refl _, by simp [go_sem]⟩ ?_
    clear k1 k2 k3
    rintro j e K ⟨i, rv, rfl, hi, k1, k2, k3, hv, hn, rfl⟩
    have k1' := k1
    simp only [Draft.cells] at k1'
    have w4 := IntWalk.i64_in ((i : Int) + 1) (by split at hRl <;> omega)
    refine IWp.cut (fun e' H' => i < M ∧ H' = K ∧ e' = [(1, ptrTo b1 0), (2, ptrTo b2 0), (3, ptrTo b3 0), (4, .int .i64 (i : Int))]) ?_ ?_
    · skip
      by_cases hA : i < d.rules.length
      · have hne : ¬ d.rules = [] := fun e => by rw [e] at hA; simp at hA
        rw [if_neg hne] at hRl
        by_cases h8 : i < 8
        · skip
          have Kp : Kept [[1,2,3,4,35],[],[1,2,3,4]] := ⟨⟩
          iterate 3 (refine Kp.s ?_; clear Kp; intro Kp; simp [go_sem, -getElem?_pos, -List.map_take, -List.map_drop, IntWalk.iteOmega, IntWalk.toNatUp, k1', hA, h8, show (i : Int) < 8 by omega])
          omega
        · skip
          have Kp : Kept [[1,2,3,4,35],[],[1,2,3]] := ⟨⟩
          iterate 3 (refine Kp.s ?_; clear Kp; intro Kp; simp [go_sem, -getElem?_pos, -List.map_take, -List.map_drop, IntWalk.iteOmega, IntWalk.toNatUp, k1', hA, h8, show ¬ (i : Int) < 8 by omega, show ¬ (i : Int) = 0 by omega, show ¬ i = 0 by omega])
          have hMi : M ≤ i := by first | omega | (split at hRl <;> omega)
          have ht : (rulesS d).take i = rulesS d := List.take_of_length_le (by omega)
          rw [ht] at hv
          exact ⟨rfl, k2, rv, k3, hv, hn⟩
      · by_cases h0 : i = 0
        · subst h0
          have hne : d.rules = [] := List.length_eq_zero_iff.1 (by omega)
          rw [if_pos hne] at hRl
          have Kp : Kept [[1,2,3,4,35],[],[1,2,3,4]] := ⟨⟩
          iterate 3 (refine Kp.s ?_; clear Kp; intro Kp; simp [go_sem, -getElem?_pos, -List.map_take, -List.map_drop, IntWalk.iteOmega, IntWalk.toNatUp, k1', hA, hne])
          omega
        · skip
          have Kp : Kept [[1,2,3,4,35],[],[1,2,3]] := ⟨⟩
          iterate 3 (refine Kp.s ?_; clear Kp; intro Kp; simp [go_sem, -getElem?_pos, -List.map_take, -List.map_drop, IntWalk.iteOmega, IntWalk.toNatUp, k1', hA, h0])
          have hMi : M ≤ i := by first | omega | (split at hRl <;> omega)
          have ht : (rulesS d).take i = rulesS d := List.take_of_length_le (by omega)
          rw [ht] at hv
          exact ⟨rfl, k2, rv, k3, hv, hn⟩
    rintro e' H' ⟨hlt, rfl, rfl⟩
    have hx : ∃ x : Line, lineAt d i = x ∧ x.wf := ⟨_, rfl, by
      unfold lineAt
      rw [List.getD_eq_getElem?_getD]
      by_cases h : i < d.rules.length
      · rw [List.getElem?_eq_getElem h]; exact hw.1.1 _ (List.getElem_mem h)
      · rw [List.getElem?_eq_none (by omega)]; simp [lineZ, Line.wf]⟩
    obtain ⟨x, hxe, hxw⟩ := hx
    have hxs := rulesS_at d i (by omega)
    rw [hxe] at hxs
    refine IWp.one [1, 2, 3, 4, 5] ?_
    simp [go_sem, -getElem?_pos, -List.map_take, -List.map_drop, IntWalk.iteOmega, IntWalk.toNatUp]
    generalize hb5 : H'.next = b5 at *
    refine IWp.cut (fun e' H2 => ∃ st, Frz H2 (fun _ => false) st (byts x.stages) ∧ H2 = H'.alloc [.int .u8 x.kind, .int .u8 x.sg, .int .u8 x.lim, .int .u8 x.back, .int .u8 x.delay, .int .u8 x.span, .int .u8 x.prio, .bool x.latch, st] ∧ e' = [(1, ptrTo b1 0), (2, ptrTo b2 0), (3, ptrTo b3 0), (4, .int .i64 (i : Int)), (5, ptrTo b5 0)]) ?_ ?_
    · skip
      have hb1n := Heap.lt_of_get k1
      have hb15 : b1 ≠ b5 := by omega
      by_cases hA : i < d.rules.length
      · have g : (d.rules.map Line.val)[i]? = some x.val := by
          rw [List.getElem?_map, List.getElem?_eq_getElem hA]
          have : d.rules[i] = x := by rw [← hxe]; unfold lineAt; simp [List.getD_eq_getElem?_getD, hA]
          rw [this]; rfl
        have Kp : Kept [[1,2,3,4,5,42],[],[1,2,3,4,5]] := ⟨⟩
        iterate 3 (refine Kp.s ?_; clear Kp; intro Kp; simp [go_sem, -getElem?_pos, -List.map_take, -List.map_drop, IntWalk.iteOmega, IntWalk.toNatUp, k1', hA, g, Line.val, Line.cells, get_alloc, hb15, hb5])
        exact ⟨_, .same _, rfl⟩
      · have hxz : x = lineZ := by rw [← hxe]; unfold lineAt; rw [List.getD_eq_getElem?_getD, List.getElem?_eq_none (by omega)]; rfl
        subst hxz
        have Kp : Kept [[1,2,3,4,5,42],[],[1,2,3,4,5]] := ⟨⟩
        iterate 3 (refine Kp.s ?_; clear Kp; intro Kp; simp [go_sem, -getElem?_pos, -List.map_take, -List.map_drop, IntWalk.iteOmega, IntWalk.toNatUp, k1', hA, get_alloc, hb15, hb5])
        exact ⟨_, .nil 1, rfl⟩
    rintro e' H2 ⟨st, hst, hH2, rfl⟩
    have g5 : H2.get b5 = some ⟨[.int .u8 x.kind, .int .u8 x.sg, .int .u8 x.lim, .int .u8 x.back, .int .u8 x.delay, .int .u8 x.span, .int .u8 x.prio, .bool x.latch, st], true⟩ := by rw [hH2, ← hb5]; exact Heap.get_alloc_new _ _
    have go : ∀ j, j < b5 → H2.get j = H'.get j := fun j hj => by rw [hH2]; exact Heap.get_alloc_lt _ _ _ (by omega)
    have hn2 : H2.next = b5 + 1 := by rw [hH2, next_alloc, hb5]
    clear hH2
    obtain ⟨K5, hf5, h5, ho5, hn5⟩ := FrzH.one (S := fun _ => false) (b := b5) (cs' := x.cells) rfl g5 (by
      unfold Line.cells
      exact .cons (.same _) (.cons (.same _) (.cons (.same _) (.cons (.same _) (.cons (.same _) (.cons (.same _) (.cons (.same _) (.cons (.same _) (.cons hst .nil)))))))))
    have hb3K := Heap.lt_of_get k3
    have q1 : K5.get b1 = some ⟨d.cells, true⟩ := by rw [ho5 b1 (by omega) rfl, go b1 (by omega)]; exact k1
    have q2 : K5.get b2 = some ⟨confZ, true⟩ := by rw [ho5 b2 (by omega) rfl, go b2 (by omega)]; exact k2
    have q3 : K5.get b3 = some ⟨confR rv, true⟩ := by rw [ho5 b3 (by omega) rfl, go b3 (by omega)]; exact k3
    have qv : Bld 9 K5 K0.next rv (((rulesS d).take i).map Rule.val) := hv.same fun j k hj hk => by rw [ho5 j (by have := Heap.lt_of_get hk; omega) rfl, go j (by have := Heap.lt_of_get hk; omega)]; exact hk
    refine IWp.freezeH K5 _ (.cons (.same _) (.cons (.same _) (.cons (.same _) (.cons (.same _) (.cons (.same _) .nil))))) hf5 ?_
    clear hf5 ho5 go g5 hst hv k1 k2 k3 k1' hxe
    rw [hn2] at hn5
    have hnK : K0.next ≤ b5 := by omega
    clear hn hn2 hb5 hb3K H2 st
    obtain ⟨kind, sg, lim, back, delay, span, prio, latch, stages⟩ := x
    obtain ⟨x1, x2, x3, x4, x5, x6, x7, x8, x9⟩ := hxw
    simp only at x1 x2 x3 x4 x5 x6 x7 x8 x9
    simp only [Line.cells] at h5
    refine IWp.one [1, 2, 3, 4, 5, 6] ?_
    simp (disch := omega) [go_sem, -getElem?_pos, -List.map_take, -List.map_drop, IntWalk.iteOmega, IntWalk.toNatUp, IntWalk.i64_in, IntWalk.u8_in, IntWalk.i64_quo, IntWalk.u8_quo, IntWalk.rem_in, h5]
    obtain ⟨R, hR0⟩ : ∃ R, R = ruleS ⟨kind, sg, lim, back, delay, span, prio, latch, stages⟩ := ⟨_, rfl⟩
    refine IWp.cut (fun e' H2 => H2 = K5.alloc [.int .u8 (kind % 6 + 1), .int .i64 (sg % 3), .int .i64 R.lim, .int .i64 R.back, .int .i64 (delay % 8), .int .i64 R.span, .int .u8 (prio % 3 + 1), .bool latch, .slice none 0 0] ∧ e' = [(1, ptrTo b1 0), (2, ptrTo b2 0), (3, ptrTo b3 0), (4, .int .i64 (i : Int)), (5, ptrTo b5 0), (6, ptrTo K5.next 0)]) ?_ ?_
    · skip
      have hk6 : kind % 6 = 0 ∨ kind % 6 = 1 ∨ kind % 6 = 2 ∨ kind % 6 = 3 ∨ kind % 6 = 4 ∨ kind % 6 = 5 := by omega
      subst hR0
      rcases hk6 with hk | hk | hk | hk | hk | hk
      · have hR := ruleS_0 ⟨kind, sg, lim, back, delay, span, prio, latch, stages⟩ hk
        obtain ⟨r1, r2, r3⟩ := hR
        try simp only at r1 r2 r3
        rw [r1, r2, r3]
        clear r1 r2 r3
        have Kp : Kept [[1,2,3,4,5,6,68],[1,2,3,4,5,6,68,69],[],[1,2,3,4,5,6],[1,2,3,4,5,6]] := ⟨⟩
        iterate 5 (refine Kp.s ?_; clear Kp; intro Kp; simp (disch := omega) [go_sem, -getElem?_pos, -List.map_take, -List.map_drop, IntWalk.iteOmega, IntWalk.toNatUp, IntWalk.i64_in, IntWalk.u8_in, IntWalk.i64_quo, IntWalk.u8_quo, IntWalk.rem_in, hk, h5])
      · have hR := ruleS_1 ⟨kind, sg, lim, back, delay, span, prio, latch, stages⟩ hk
        obtain ⟨r1, r2, r3⟩ := hR
        try simp only at r1 r2 r3
        rw [r1, r2, r3]
        clear r1 r2 r3
        have Kp : Kept [[1,2,3,4,5,6,68],[1,2,3,4,5,6,68,69],[],[1,2,3,4,5,6,68,83],[],[1,2,3,4,5,6],[1,2,3,4,5,6]] := ⟨⟩
        iterate 7 (refine Kp.s ?_; clear Kp; intro Kp; simp (disch := omega) [go_sem, -getElem?_pos, -List.map_take, -List.map_drop, IntWalk.iteOmega, IntWalk.toNatUp, IntWalk.i64_in, IntWalk.u8_in, IntWalk.i64_quo, IntWalk.u8_quo, IntWalk.rem_in, hk, h5])
      · have hR := ruleS_2 ⟨kind, sg, lim, back, delay, span, prio, latch, stages⟩ hk
        obtain ⟨r1, r2, r3⟩ := hR
        try simp only at r1 r2 r3
        rw [r1, r2, r3]
        clear r1 r2 r3
        have Kp : Kept [[1,2,3,4,5,6,68],[1,2,3,4,5,6,68,69],[],[1,2,3,4,5,6,68,83],[],[1,2,3,4,5,6,68,97],[],[1,2,3,4,5,6,68,97],[],[1,2,3,4,5,6],[1,2,3,4,5,6],[1,2,3,4,5,6]] := ⟨⟩
        iterate 12 (refine Kp.s ?_; clear Kp; intro Kp; simp (disch := omega) [go_sem, -getElem?_pos, -List.map_take, -List.map_drop, IntWalk.iteOmega, IntWalk.toNatUp, IntWalk.i64_in, IntWalk.u8_in, IntWalk.i64_quo, IntWalk.u8_quo, IntWalk.rem_in, hk, h5])
      · have hR := ruleS_3 ⟨kind, sg, lim, back, delay, span, prio, latch, stages⟩ hk
        obtain ⟨r1, r2, r3⟩ := hR
        try simp only at r1 r2 r3
        rw [r1, r2, r3]
        clear r1 r2 r3
        have Kp : Kept [[1,2,3,4,5,6,68],[1,2,3,4,5,6,68,69],[],[1,2,3,4,5,6,68,83],[],[1,2,3,4,5,6,68,97],[],[1,2,3,4,5,6,68,97],[],[1,2,3,4,5,6],[1,2,3,4,5,6],[1,2,3,4,5,6]] := ⟨⟩
        iterate 12 (refine Kp.s ?_; clear Kp; intro Kp; simp (disch := omega) [go_sem, -getElem?_pos, -List.map_take, -List.map_drop, IntWalk.iteOmega, IntWalk.toNatUp, IntWalk.i64_in, IntWalk.u8_in, IntWalk.i64_quo, IntWalk.u8_quo, IntWalk.rem_in, hk, h5])
      · have hR := ruleS_4 ⟨kind, sg, lim, back, delay, span, prio, latch, stages⟩ hk
        obtain ⟨r1, r2, r3⟩ := hR
        try simp only at r1 r2 r3
        rw [r1, r2, r3]
        clear r1 r2 r3
        have Kp : Kept [[1,2,3,4,5,6,68],[1,2,3,4,5,6,68,69],[],[1,2,3,4,5,6,68,83],[],[1,2,3,4,5,6,68,97],[],[1,2,3,4,5,6,68,97],[],[1,2,3,4,5,6,120],[],[1,2,3,4,5,6]] := ⟨⟩
        iterate 12 (refine Kp.s ?_; clear Kp; intro Kp; simp (disch := omega) [go_sem, -getElem?_pos, -List.map_take, -List.map_drop, IntWalk.iteOmega, IntWalk.toNatUp, IntWalk.i64_in, IntWalk.u8_in, IntWalk.i64_quo, IntWalk.u8_quo, IntWalk.rem_in, hk, h5])
      · have hR := ruleS_5 ⟨kind, sg, lim, back, delay, span, prio, latch, stages⟩ hk
        obtain ⟨r1, r2, r3⟩ := hR
        try simp only at r1 r2 r3
        rw [r1, r2, r3]
        clear r1 r2 r3
        have Kp : Kept [[1,2,3,4,5,6,68],[1,2,3,4,5,6,68,69],[],[1,2,3,4,5,6,68,83],[],[1,2,3,4,5,6,68,97],[],[1,2,3,4,5,6,68,97],[],[1,2,3,4,5,6,120],[],[1,2,3,4,5,6]] := ⟨⟩
        iterate 12 (refine Kp.s ?_; clear Kp; intro Kp; simp (disch := omega) [go_sem, -getElem?_pos, -List.map_take, -List.map_drop, IntWalk.iteOmega, IntWalk.toNatUp, IntWalk.i64_in, IntWalk.u8_in, IntWalk.i64_quo, IntWalk.u8_quo, IntWalk.rem_in, hk, h5])
    rintro e' H2 ⟨hH2, rfl⟩
    generalize hb6 : K5.next = b6 at *
    have h6 : H2.get b6 = some ⟨[.int .u8 (kind % 6 + 1), .int .i64 (sg % 3), .int .i64 R.lim, .int .i64 R.back, .int .i64 (delay % 8), .int .i64 R.span, .int .u8 (prio % 3 + 1), .bool latch, .slice none 0 0], true⟩ := by rw [hH2, ← hb6]; exact Heap.get_alloc_new _ _
    have go2 : ∀ j, j < b6 → H2.get j = K5.get j := fun j hj => by rw [hH2]; exact Heap.get_alloc_lt _ _ _ (by omega)
    have hn6 : H2.next = b6 + 1 := by rw [hH2, next_alloc, hb6]
    have p1 : H2.get b1 = some ⟨d.cells, true⟩ := by rw [go2 b1 (by omega)]; exact q1
    have p2 : H2.get b2 = some ⟨confZ, true⟩ := by rw [go2 b2 (by omega)]; exact q2
    have p3 : H2.get b3 = some ⟨confR rv, true⟩ := by rw [go2 b3 (by omega)]; exact q3
    have p5 := (go2 b5 (by omega)).trans h5
    have pv : Bld 9 H2 K0.next rv (((rulesS d).take i).map Rule.val) := qv.same fun j k hj hk => by rw [go2 j (by have := Heap.lt_of_get hk; omega)]; exact hk
    have hrv : ∀ c o s l k, rv = .slice (some ⟨c, o, s⟩) l k → c < b6 := fun c o s l k e => by
      rcases qv.2 with ⟨e2, _⟩ | ⟨c', _, e2, h⟩
      · rw [e2] at e; cases e
      · rw [e2] at e; cases e
        have := Heap.lt_of_get h; omega
    clear hH2 go2 q1 q2 q3 h5 qv
    refine IWp.one [1, 2, 3, 4, 5, 6, 7] ?_
    simp (disch := omega) [go_sem, -getElem?_pos, -List.map_take, -List.map_drop, IntWalk.iteOmega, IntWalk.toNatUp, IntWalk.i64_in, IntWalk.u8_in, IntWalk.i64_quo, IntWalk.u8_quo, IntWalk.rem_in, h6]
    refine IWp.cut (fun e' K => ∃ sv, (∀ j, j < b6 → K.get j = H2.get j) ∧ K.get b6 = some ⟨[.int .u8 (kind % 6 + 1), .int .i64 (sg % 3), .int .i64 R.lim, .int .i64 R.back, .int .i64 (delay % 8), .int .i64 R.span, .int .u8 (prio % 3 + 1), .bool latch, sv], true⟩ ∧ Bld 2 K (b6 + 1) sv ((stagesS (prio % 3 + 1) (stages.take 4)).map Stage.val) ∧ b6 + 1 ≤ K.next ∧ e' = [(1, ptrTo b1 0), (2, ptrTo b2 0), (3, ptrTo b3 0), (4, .int .i64 (i : Int)), (6, ptrTo b6 0)]) ?_ ?_
    · skip
      refine IWp.one [1, 2, 3, 4, 5, 6, 7, 8] ?_
      simp [go_sem, -getElem?_pos, -List.map_take, -List.map_drop, IntWalk.iteOmega, IntWalk.toNatUp]
      refine IWp.block ?_
      refine IWp.loop (fun j e K => ∃ (k : Nat) (sv : Value), j = 4 - k ∧ k ≤ 4 ∧ k ≤ stages.length ∧ (∀ j, j < b6 → K.get j = H2.get j) ∧ K.get b6 = some ⟨[.int .u8 (kind % 6 + 1), .int .i64 (sg % 3), .int .i64 R.lim, .int .i64 R.back, .int .i64 (delay % 8), .int .i64 R.span, .int .u8 (prio % 3 + 1), .bool latch, sv], true⟩ ∧ Bld 2 K (b6 + 1) sv ((stagesS (prio % 3 + 1) (stages.take k)).map Stage.val) ∧ b6 + 1 ≤ K.next ∧ e = [(1, ptrTo b1 0), (2, ptrTo b2 0), (3, ptrTo b3 0), (4, .int .i64 (i : Int)), (5, ptrTo b5 0), (6, ptrTo b6 0), (7, .int .u8 (prioA (prio % 3 + 1) (stages.take k))), (8, .int .i64 (k : Int))]) 4 ⟨0, .slice none 0 0, rfl, Nat.zero_le _, Nat.zero_le _, fun _ _ => rfl, h6, Bld.nil _ _ _, by omega, by simp [go_sem, prioA]⟩ ?_
      rintro j e K ⟨k, sv, rfl, hk4, hkl, ho, h6', hsv, hnK6, rfl⟩
      have h5' := (ho b5 (by omega)).trans p5
      have hpa := prioA_in (prio % 3 + 1) (by omega) (stages.take k)
      by_cases hlt : k < stages.length ∧ k < 4
      · obtain ⟨hl1, hl2⟩ := hlt
        have gk : stages[k]? = some stages[k] := List.getElem?_eq_getElem hl1
        have hsb := x8 _ (List.getElem_mem hl1)
        have hst := stagesS_snoc (prio % 3 + 1) (stages.take k) stages[k]
        have hsp := prioA_snoc (prio % 3 + 1) (stages.take k) stages[k]
        rw [← List.take_succ_eq_append_getElem hl1] at hst hsp
        generalize stages[k] = y at *
        generalize hpA : prioA (prio % 3 + 1) (stages.take k) = pa at *
        obtain ⟨sv', K3, e3, b3', s3, n3, f3, t3⟩ := app_one (P := Tryd.prog) (t := 47) (e := 57) (sz := 2) (by_ := 16) (z := .agg ⟨[.int .i64 0, .int .u8 0]⟩) (by kernel_rfl) (by kernel_rfl) (by kernel_rfl) (by kernel_rfl) rfl (Stage.val ⟨1 + y / 2 % 12, min (pa + y % 2) 3⟩) [.int .i64 (1 + y / 2 % 12), .int .u8 (min (pa + y % 2) 3)] hsv rfl rfl (by simp [one0]) hnK6 (by simp [stagesS_len]; omega) (by simp [stagesS_len]; omega)
        have hb6' : K3.get b6 = K.get b6 := s3 b6 (by omega)
        have hend : ∀ H', H' = K3.set b6 [.int .u8 (kind % 6 + 1), .int .i64 (sg % 3), .int .i64 R.lim, .int .i64 R.back, .int .i64 (delay % 8), .int .i64 R.span, .int .u8 (prio % 3 + 1), .bool latch, sv'] → (∀ j, j < b6 → H'.get j = H2.get j) ∧ H'.get b6 = some ⟨[.int .u8 (kind % 6 + 1), .int .i64 (sg % 3), .int .i64 R.lim, .int .i64 R.back, .int .i64 (delay % 8), .int .i64 R.span, .int .u8 (prio % 3 + 1), .bool latch, sv'], true⟩ ∧ Bld 2 H' (b6 + 1) sv' ((stagesS (prio % 3 + 1) (stages.take (k + 1))).map Stage.val) ∧ b6 + 1 ≤ H'.next := by
          rintro H' rfl
          refine ⟨fun j hj => by rw [get_set, if_neg (by omega), s3 j (by omega), ho j hj], by rw [get_set, if_pos rfl, hb6', h6']; rfl, ?_, by rw [next_set]; omega⟩
          rw [hst, List.map_append]
          exact b3'.same fun j k hj hk => by rw [get_set, if_neg (by omega)]; exact hk
        subst t3
        have h53 := s3 b5 (by omega)
        rw [h5'] at h53
        rw [h6'] at hb6'
        by_cases hgt : 3 < pa + y % 2
        · rw [show min (pa + y % 2) 3 = 3 by omega] at e3 hsp
          have Kp : Kept [[1,2,3,4,5,6,7,8,138],[],[1,2,3,4,5,6,7,8],[1,2,3,4,5,6,7,8],[1,2,3,4,5,6,7,8,150],[],[1,2,3,4,5,6,7,8]] := ⟨⟩
          iterate 7 (refine Kp.s ?_; clear Kp; intro Kp; simp (disch := omega) [go_sem, -getElem?_pos, -List.map_take, -List.map_drop, IntWalk.iteOmega, IntWalk.toNatUp, IntWalk.i64_in, IntWalk.u8_in, IntWalk.i64_quo, IntWalk.u8_quo, IntWalk.rem_in, h5', h6', hb6', gk, hl1, hl2, e3, h53, get_alloc, show ¬ b5 = b6 by omega, show ¬ b6 = K.next by omega, show ¬ b5 = K.next by omega])
          refine IWp.draw [1, 2, 3, 4, 5, 6, 7, 8] [b5] (.val 0 (.val 2 (.ld 3 [5, 6, 7, 8, 9, 10, 12, 13, 14, 15, 16] (.val 4 (.val 5 (.ld 6 [7, 8, 9, 10, 12, 13, 14, 15, 16] (.val 7 (.val 8 (.val 9 (.val 10 (.val 11 (.val 12 (.eff 1 (.eff 13 (.eff 14 (.val 15 (.eff 16 .done .done)) .done) .done) (.eff 13 (.ld 1 [14, 15, 16] (.eff 14 (.val 15 (.eff 16 .done .done)) .done)) .done)))))))))))))) follows (by kernel_rfl) ?_
          simp (disch := omega) [go_sem, -getElem?_pos, -List.map_take, -List.map_drop, IntWalk.iteOmega, IntWalk.toNatUp, IntWalk.i64_in, IntWalk.u8_in, IntWalk.i64_quo, IntWalk.u8_quo, IntWalk.rem_in, h5', h6', hb6', gk, hl1, hl2, e3, h53, get_alloc, show ¬ b5 = b6 by omega, show ¬ b6 = K.next by omega, show ¬ b5 = K.next by omega]
          refine IWp.one [1, 2, 3, 4, 5, 6, 7, 8] ?_
          simp (disch := omega) [go_sem, -getElem?_pos, -List.map_take, -List.map_drop, IntWalk.iteOmega, IntWalk.toNatUp, IntWalk.i64_in, IntWalk.u8_in, IntWalk.i64_quo, IntWalk.u8_quo, IntWalk.rem_in, h5', h6', hb6', gk, hl1, hl2, e3, h53, get_alloc, show ¬ b5 = b6 by omega, show ¬ b6 = K.next by omega, show ¬ b5 = K.next by omega]
          obtain ⟨_, _, q3, q4⟩ := hend _ rfl
          simp only [List.length_map] at q3
          exact ⟨4 - (k + 1), by omega, k + 1, rfl, by omega, by omega, fun j hj => by rw [if_neg (by omega), s3 j (by omega), ho j hj], q3, by omega, by rw [hsp], by omega⟩
        · rw [show min (pa + y % 2) 3 = pa + y % 2 by omega] at e3 hsp
          have Kp : Kept [[1,2,3,4,5,6,7,8,138],[],[1,2,3,4,5,6,7,8],[1,2,3,4,5,6,7,8],[1,2,3,4,5,6,7,8,150],[],[1,2,3,4,5,6,7,8]] := ⟨⟩
          iterate 7 (refine Kp.s ?_; clear Kp; intro Kp; simp (disch := omega) [go_sem, -getElem?_pos, -List.map_take, -List.map_drop, IntWalk.iteOmega, IntWalk.toNatUp, IntWalk.i64_in, IntWalk.u8_in, IntWalk.i64_quo, IntWalk.u8_quo, IntWalk.rem_in, h5', h6', hb6', gk, hl1, hl2, e3, h53, get_alloc, show ¬ b5 = b6 by omega, show ¬ b6 = K.next by omega, show ¬ b5 = K.next by omega])
          refine IWp.draw [1, 2, 3, 4, 5, 6, 7, 8] [b5] (.val 0 (.val 2 (.ld 3 [5, 6, 7, 8, 9, 10, 12, 13, 14, 15, 16] (.val 4 (.val 5 (.ld 6 [7, 8, 9, 10, 12, 13, 14, 15, 16] (.val 7 (.val 8 (.val 9 (.val 10 (.val 11 (.val 12 (.eff 1 (.eff 13 (.eff 14 (.val 15 (.eff 16 .done .done)) .done) .done) (.eff 13 (.ld 1 [14, 15, 16] (.eff 14 (.val 15 (.eff 16 .done .done)) .done)) .done)))))))))))))) follows (by kernel_rfl) ?_
          simp (disch := omega) [go_sem, -getElem?_pos, -List.map_take, -List.map_drop, IntWalk.iteOmega, IntWalk.toNatUp, IntWalk.i64_in, IntWalk.u8_in, IntWalk.i64_quo, IntWalk.u8_quo, IntWalk.rem_in, h5', h6', hb6', gk, hl1, hl2, e3, h53, get_alloc, show ¬ b5 = b6 by omega, show ¬ b6 = K.next by omega, show ¬ b5 = K.next by omega]
          refine IWp.one [1, 2, 3, 4, 5, 6, 7, 8] ?_
          simp (disch := omega) [go_sem, -getElem?_pos, -List.map_take, -List.map_drop, IntWalk.iteOmega, IntWalk.toNatUp, IntWalk.i64_in, IntWalk.u8_in, IntWalk.i64_quo, IntWalk.u8_quo, IntWalk.rem_in, h5', h6', hb6', gk, hl1, hl2, e3, h53, get_alloc, show ¬ b5 = b6 by omega, show ¬ b6 = K.next by omega, show ¬ b5 = K.next by omega]
          obtain ⟨_, _, q3, q4⟩ := hend _ rfl
          simp only [List.length_map] at q3
          exact ⟨4 - (k + 1), by omega, k + 1, rfl, by omega, by omega, fun j hj => by rw [if_neg (by omega), s3 j (by omega), ho j hj], q3, by omega, by rw [hsp], by omega⟩
      · have htk : stages.take k = stages.take 4 := by
          by_cases h4 : k < 4
          · rw [List.take_of_length_le (by omega), List.take_of_length_le (by omega)]
          · rw [show k = 4 by omega]
        rw [htk] at hsv
        by_cases hl1 : k < stages.length
        · have hl2 : ¬ k < 4 := fun h => hlt ⟨hl1, h⟩
          have Kp : Kept [[1,2,3,4,5,6,7,8,138],[],[1,2,3,4,6]] := ⟨⟩
          iterate 3 (refine Kp.s ?_; clear Kp; intro Kp; simp (disch := omega) [go_sem, -getElem?_pos, -List.map_take, -List.map_drop, IntWalk.iteOmega, IntWalk.toNatUp, IntWalk.i64_in, IntWalk.u8_in, IntWalk.i64_quo, IntWalk.u8_quo, IntWalk.rem_in, h5', hl1, hl2])
          exact ⟨ho, sv, h6', hsv, hnK6⟩
        · skip
          have Kp : Kept [[1,2,3,4,5,6,7,8,138],[],[1,2,3,4,6]] := ⟨⟩
          iterate 3 (refine Kp.s ?_; clear Kp; intro Kp; simp (disch := omega) [go_sem, -getElem?_pos, -List.map_take, -List.map_drop, IntWalk.iteOmega, IntWalk.toNatUp, IntWalk.i64_in, IntWalk.u8_in, IntWalk.i64_quo, IntWalk.u8_quo, IntWalk.rem_in, h5', hl1])
          exact ⟨ho, sv, h6', hsv, hnK6⟩
    rintro e' K ⟨sv, ho, h6', hsv, hnK6, rfl⟩
    have r1 := (ho b1 (by omega)).trans p1
    have r2 := (ho b2 (by omega)).trans p2
    have r3 := (ho b3 (by omega)).trans p3
    have rv9 : Bld 9 K K0.next rv (((rulesS d).take i).map Rule.val) := ⟨pv.1, by
      rcases pv.2 with ⟨e1, e2⟩ | ⟨c, c1, e1, c3⟩
      · exact .inl ⟨e1, e2⟩
      · exact .inr ⟨c, c1, e1, by rw [ho c (hrv c _ _ _ _ e1)]; exact c3⟩⟩
    have hvsv : ∀ j, j < b6 + 1 → blkOf sv j = false := fun j hj => by
      rcases hsv.2 with ⟨e1, _⟩ | ⟨c, c1, e1, _⟩
      · rw [e1]; rfl
      · rw [e1]; simp [blkOf]; omega
    obtain ⟨K7, hf7, h7, ho7, hn7⟩ := FrzH.one (S := blkOf sv) (b := b6) (cs' := [.int .u8 (kind % 6 + 1), .int .i64 (sg % 3), .int .i64 R.lim, .int .i64 R.back, .int .i64 (delay % 8), .int .i64 R.span, .int .u8 (prio % 3 + 1), .bool latch, frow 2 0 ((stagesS (prio % 3 + 1) (stages.take 4)).map Stage.val)]) (hvsv b6 (by omega)) h6' (.cons (.same _) (.cons (.same _) (.cons (.same _) (.cons (.same _) (.cons (.same _) (.cons (.same _) (.cons (.same _) (.cons (.same _) (.cons hsv.frzV .nil)))))))))
    refine IWp.freezeH K7 _ (.cons (.same _) (.cons (.same _) (.cons (.same _) (.cons (.same _) (.cons (.same _) .nil))))) hf7 ?_
    have s1 := (ho7 b1 (by omega) (hvsv b1 (by omega))).trans r1
    have s2 := (ho7 b2 (by omega) (hvsv b2 (by omega))).trans r2
    have s3 := (ho7 b3 (by omega) (hvsv b3 (by omega))).trans r3
    have sv9 : Bld 9 K7 K0.next rv (((rulesS d).take i).map Rule.val) := ⟨rv9.1, by
      rcases rv9.2 with ⟨e1, e2⟩ | ⟨c, c1, e1, c3⟩
      · exact .inl ⟨e1, e2⟩
      · have := hrv c _ _ _ _ e1
        exact .inr ⟨c, c1, e1, by rw [ho7 c (by omega) (hvsv c (by omega))]; exact c3⟩⟩
    have hval : Rule.val R = .agg ⟨[.int .u8 (kind % 6 + 1), .int .i64 (sg % 3), .int .i64 R.lim, .int .i64 R.back, .int .i64 (delay % 8), .int .i64 R.span, .int .u8 (prio % 3 + 1), .bool latch, frow 2 0 ((stagesS (prio % 3 + 1) (stages.take 4)).map Stage.val)]⟩ := by rw [hR0]; rfl
    have hnK7 : b6 + 1 ≤ K7.next := by omega
    clear hf7 ho7 hvsv rv9 r1 r2 r3 pv p1 p2 p3 p5 h6 h6' hsv ho hn7 hnK6
    obtain ⟨rv', K8, e8, b8, o8, n8, f8, t8⟩ := app_one (P := Tryd.prog) (t := 29) (e := 49) (sz := 9) (by_ := 80) (z := .agg ⟨[.int .u8 0, .int .i64 0, .int .i64 0, .int .i64 0, .int .i64 0, .int .i64 0, .int .u8 0, .bool false, .slice none 0 0]⟩) (by kernel_rfl) (by kernel_rfl) (by kernel_rfl) (by kernel_rfl) rfl (Rule.val R) [.int .u8 (kind % 6 + 1), .int .i64 (sg % 3), .int .i64 R.lim, .int .i64 R.back, .int .i64 (delay % 8), .int .i64 R.span, .int .u8 (prio % 3 + 1), .bool latch, frow 2 0 ((stagesS (prio % 3 + 1) (stages.take 4)).map Stage.val)] sv9 (by rw [hval]; rfl) rfl (by simp [one0_frow]; simp [one0]) (by omega) (by simp; omega) (by simp; omega)
    have o1 := (o8 b1 (by omega)).trans s1
    have o2 := (o8 b2 (by omega)).trans s2
    have o3 := (o8 b3 (by omega)).trans s3
    subst t8
    have Kp : Kept [[1,2,3,4],[1,2,3,4]] := ⟨⟩
    iterate 2 (refine Kp.s ?_; clear Kp; intro Kp; simp (disch := omega) [go_sem, -getElem?_pos, -List.map_take, -List.map_drop, IntWalk.iteOmega, IntWalk.toNatUp, IntWalk.i64_in, IntWalk.u8_in, IntWalk.i64_quo, IntWalk.u8_quo, IntWalk.rem_in, h7, s3, e8, o3, confR])
    have hnext : ((rulesS d).take (i + 1)).map Rule.val = ((rulesS d).take i).map Rule.val ++ [Rule.val R] := by
      have hlt2 : i < (rulesS d).length := by omega
      rw [List.take_succ_eq_append_getElem hlt2, List.map_append]
      rw [List.getElem?_eq_getElem hlt2] at hxs
      rw [Option.some.injEq] at hxs
      rw [hxs, ← hR0]; rfl
    have hlen : (((rulesS d).take i).map Rule.val).length = i := by simp; omega
    rw [hlen] at b8
    exact ⟨M - (i + 1), by omega, i + 1, rfl, by omega, o1, o2, by rw [hnext]; exact b8.same fun j k hj hk => by rw [get_set, if_neg (by omega)]; exact hk, by omega, by omega⟩
  clear k1 k2 k3
  rintro e K ⟨rv, k1, k2, k3, hv, hnK, rfl⟩
  obtain ⟨K9, hf9, g3, ho9, hn9⟩ := FrzH.one (S := blkOf rv) (b := b3) (cs' := confR (frow 9 0 ((rulesS d).map Rule.val))) (by
    rcases hv.2 with ⟨e1, _⟩ | ⟨c, c1, e1, _⟩
    · rw [e1]; rfl
    · rw [e1]; simp [blkOf]; omega) k3 (.cons (.same _) (.cons hv.frzV (FrzL.same _)))
  have hS : ∀ j, j < K0.next → blkOf rv j = false := fun j hj => by
    rcases hv.2 with ⟨e1, _⟩ | ⟨c, c1, e1, _⟩
    · rw [e1]; rfl
    · rw [e1]; simp [blkOf]; omega
  refine IWp.freezeH K9 _ (.cons (.same _) (.cons (.same _) (.cons (.same _) .nil))) hf9 ?_
  have g1 : K9.get b1 = some ⟨d.cells, true⟩ := (ho9 b1 (by omega) (hS _ (by omega))).trans k1
  have g2 : K9.get b2 = some ⟨confZ, true⟩ := (ho9 b2 (by omega) (hS _ (by omega))).trans k2
  have hnK9 : K0.next ≤ K9.next := by omega
  clear hf9 ho9 hS hv k1 k2 k3 hnK hn9
  have g1' := g1
  simp only [Draft.cells] at g1'
  obtain ⟨d1, ⟨d2, d2l⟩, d3, d4, d5, d6, d7⟩ := hw
  obtain ⟨n, hn⟩ : ∃ n, n = slotsN d := ⟨_, rfl⟩
  have hn16 : 1 + d.bands / 16 % 6 = (n : Int) := by rw [hn]; unfold slotsN; omega
  have hnr : 1 ≤ n ∧ n ≤ 6 := by omega
  refine IWp.one [1, 2, 3, 9] ?_
  simp (disch := omega) [go_sem, -getElem?_pos, -List.map_take, -List.map_drop, IntWalk.iteOmega, IntWalk.toNatUp, IntWalk.i64_in, IntWalk.u8_in, IntWalk.i64_quo, IntWalk.u8_quo, IntWalk.rem_in, g1', hn16]
  have hR8 : (rulesS d).length ≤ 8 := by omega
  have hRl2 : (((rulesS d).length : Nat) : Int) + 2 ≤ 10 := by omega
  have hfr : ∀ (l : List Int) (s : Int), fallS (rulesS d).length l s = if s % ((rulesS d).length + 2) < (rulesS d).length ∧ ¬ (s % ((rulesS d).length + 2)) ∈ l then l ++ [s % ((rulesS d).length + 2)] else l := fun _ _ => rfl
  generalize hRv : rulesS d = RS at *
  generalize hRn : RS.length = R at *
  obtain ⟨Z, hZ⟩ : ∃ Z : Nat → List Int, Z = fun i => slotS d.slots R n i := ⟨_, rfl⟩
  obtain ⟨W, hW⟩ : ∃ W : Nat → List (List Int), W = fun i => (List.range i).map Z := ⟨_, rfl⟩
  have hW0 : W 0 = [] := by rw [hW]; rfl
  have hW1 : ∀ i, W (i + 1) = W i ++ [Z i] := fun i => by rw [hW]; simp [List.range_succ]
  have hWl : ∀ i, (W i).length = i := fun i => by rw [hW]; simp
  refine IWp.cut (fun e K => ∃ tv lv, K.get b1 = some ⟨d.cells, true⟩ ∧ K.get b2 = some ⟨confZ, true⟩ ∧ K.get b3 = some ⟨confT RS tv, true⟩ ∧ TabAt K K9.next tv lv (W (n - 1)) (Z (n - 1)) ∧ K9.next ≤ K.next ∧ e = [(1, ptrTo b1 0), (2, ptrTo b2 0), (3, ptrTo b3 0), (9, .int .i64 (n : Int))]) ?_ ?_
  · skip
    refine IWp.one [1, 2, 3, 9, 10] ?_
    simp [go_sem, -getElem?_pos, -List.map_take, -List.map_drop, IntWalk.iteOmega, IntWalk.toNatUp]
    refine IWp.block ?_
    refine IWp.loop (fun j e K => ∃ (i : Nat) (tv : Value), j = n - i ∧ i ≤ n ∧ K.get b1 = some ⟨d.cells, true⟩ ∧ K.get b2 = some ⟨confZ, true⟩ ∧ K.get b3 = some ⟨confT RS tv, true⟩ ∧ K9.next ≤ K.next ∧ ((i < n ∧ Bld 1 K K9.next tv ((W i).map (ints .i64))) ∨ (i = n ∧ ∃ lv, TabAt K K9.next tv lv (W (n - 1)) (Z (n - 1)))) ∧ e = [(1, ptrTo b1 0), (2, ptrTo b2 0), (3, ptrTo b3 0), (9, .int .i64 (n : Int)), (10, .int .i64 (i : Int))]) n ⟨0, .slice none 0 0, rfl, Nat.zero_le _, g1, g2, g3, Nat.le_refl _, .inl ⟨by omega, by rw [hW0]; exact Bld.nil _ _ _⟩, by simp [go_sem]⟩ ?_
    clear g1 g2 g3 g1'
    rintro j e K ⟨i, tv, rfl, hi, g1, g2, g3, hnK, htab, rfl⟩
    have w4 := IntWalk.i64_in ((i : Int) + 1) (by omega)
    by_cases hlt : i < n
    case neg =>
      obtain ⟨hin, lv, ht⟩ : i = n ∧ ∃ lv, TabAt K K9.next tv lv (W (n - 1)) (Z (n - 1)) := htab.elim (fun h => absurd h.1 hlt) id
      subst hin
      have Kp : Kept [[1,2,3,9,10,181],[],[1,2,3,9]] := ⟨⟩
      iterate 3 (refine Kp.s ?_; clear Kp; intro Kp; simp (disch := omega) [go_sem, -getElem?_pos, -List.map_take, -List.map_drop, IntWalk.iteOmega, IntWalk.toNatUp, IntWalk.i64_in, IntWalk.u8_in, IntWalk.i64_quo, IntWalk.u8_quo, IntWalk.rem_in])
      exact ⟨g1, g2, tv, g3, ⟨lv, ht⟩, hnK⟩
    have ht : Bld 1 K K9.next tv ((W i).map (ints .i64)) := htab.elim (fun h => h.2) (fun h => absurd h.1 (by omega))
    clear htab
    have Kp : Kept [[1,2,3,9,10,181],[],[1,2,3,9,10]] := ⟨⟩
    iterate 3 (refine Kp.s ?_; clear Kp; intro Kp; simp (disch := omega) [go_sem, -getElem?_pos, -List.map_take, -List.map_drop, IntWalk.iteOmega, IntWalk.toNatUp, IntWalk.i64_in, IntWalk.u8_in, IntWalk.i64_quo, IntWalk.u8_quo, IntWalk.rem_in, hlt])
    refine IWp.cut (fun e' K => ∃ tv, K.get b1 = some ⟨d.cells, true⟩ ∧ K.get b2 = some ⟨confZ, true⟩ ∧ K.get b3 = some ⟨confT RS tv, true⟩ ∧ K9.next ≤ K.next ∧ ((i + 1 < n ∧ Bld 1 K K9.next tv ((W (i + 1)).map (ints .i64))) ∨ (i + 1 = n ∧ ∃ lv, TabAt K K9.next tv lv (W (n - 1)) (Z (n - 1)))) ∧ e' = [(1, ptrTo b1 0), (2, ptrTo b2 0), (3, ptrTo b3 0), (9, .int .i64 (n : Int)), (10, .int .i64 (i : Int))]) ?_ ?_
    case refine_2 =>
      rintro e' K' ⟨tv', g1', g2', g3', hnK', ht', rfl⟩
      refine IWp.one [1, 2, 3, 9, 10] ?_
      simp [go_sem, -getElem?_pos, -List.map_take, -List.map_drop, IntWalk.iteOmega, IntWalk.toNatUp, w4]
      exact ⟨n - (i + 1), by omega, i + 1, rfl, by omega, g1', g2', tv', g3', hnK', ht', by omega⟩
    refine IWp.one [1, 2, 3, 9, 10, 11] ?_
    simp [go_sem, -getElem?_pos, -List.map_take, -List.map_drop, IntWalk.iteOmega, IntWalk.toNatUp]
    refine IWp.cut (fun e' K' => ∃ lv, (∀ j, j < K.next → K'.get j = K.get j) ∧ Bld 1 K' K.next lv ((Z i).map (Value.int .i64)) ∧ K.next ≤ K'.next ∧ e' = [(1, ptrTo b1 0), (2, ptrTo b2 0), (3, ptrTo b3 0), (9, .int .i64 (n : Int)), (10, .int .i64 (i : Int)), (11, lv)]) ?_ ?_
    case refine_2 =>
      rintro e' K' ⟨lv, ho, hlv, hnK', rfl⟩
      have hb3K := Heap.lt_of_get g3
      have q1 := (ho b1 (by omega)).trans g1
      have q2 := (ho b2 (by omega)).trans g2
      have q3 := (ho b3 (by omega)).trans g3
      have ht2 : Bld 1 K' K9.next tv ((W i).map (ints .i64)) := ht.same fun j k hj hk => by rw [ho j (Heap.lt_of_get hk)]; exact hk
      by_cases hin : i + 1 < n
      · have hS : ∀ j, j < K.next → blkOf lv j = false := fun j hj => by
          rcases hlv.2 with ⟨e1, _⟩ | ⟨c, c1, e1, _⟩
          · rw [e1]; rfl
          · rw [e1]; simp [blkOf]; omega
        refine IWp.freezeE (blkOf lv) (.cons (.same _) (.cons (.same _) (.cons (.same _) (.cons (.same _) (.cons (.same _) (.cons hlv.frzV .nil)))))) ?_
        obtain ⟨K4, hK4⟩ : ∃ K4, K4 = K'.only fun j => !blkOf lv j := ⟨_, rfl⟩
        have ho4 : ∀ j, j < K.next → K4.get j = K'.get j := fun j hj => by
          rw [hK4]; show (if (!blkOf lv j) = true then K'.get j else none) = _
          rw [hS j hj]; rfl
        have hn4 : K4.next = K'.next := by rw [hK4]; rfl
        rw [← hK4]
        have ht4 : Bld 1 K4 K9.next tv ((W i).map (ints .i64)) := ht.same fun j k hj hk => by rw [ho4 j (Heap.lt_of_get hk), ho j (Heap.lt_of_get hk)]; exact hk
        have s1 := (ho4 b1 (by omega)).trans q1
        have s2 := (ho4 b2 (by omega)).trans q2
        have s3 := (ho4 b3 (by omega)).trans q3
        clear hK4 ho4
        obtain ⟨tv', K3, e3, b3', o3, n3, f3, t3⟩ := app_one (P := Tryd.prog) (t := 30) (e := 58) (sz := 1) (by_ := 24) (z := .slice none 0 0) (by kernel_rfl) (by kernel_rfl) (by kernel_rfl) (by kernel_rfl) rfl (ints .i64 (Z i)) [ints .i64 (Z i)] ht4 rfl rfl (by simp [one0, ints, frow]) (by omega) (by rw [List.length_map, hWl]; omega) (by rw [List.length_map, hWl]; omega)
        have u1 := (o3 b1 (by omega)).trans s1
        have u2 := (o3 b2 (by omega)).trans s2
        have u3 := (o3 b3 (by omega)).trans s3
        rw [List.length_map, hWl] at t3
        subst t3
        simp only [confT] at s3 u3
        refine IWp.one [1, 2, 3, 9, 10] ?_
        simp (disch := omega) [go_sem, -getElem?_pos, -List.map_take, -List.map_drop, IntWalk.iteOmega, IntWalk.toNatUp, IntWalk.i64_in, IntWalk.u8_in, IntWalk.i64_quo, IntWalk.u8_quo, IntWalk.rem_in, s3, u3, e3, get_alloc, show ¬ b3 = K4.next by omega]
        exact ⟨u1, u2, _, rfl, by omega, .inl ⟨hin, by rw [hW1, List.map_append]; exact b3'.same fun j k hj hk => by rw [get_set, if_neg (by omega)]; exact hk⟩⟩
      · have hie : i + 1 = n := by omega
        have hlc : lv.cells.toList = [lv] ∧ one0 lv = true := by
          rcases hlv.2 with ⟨e1, _⟩ | ⟨c, c1, e1, _⟩
          · rw [e1]; exact ⟨rfl, rfl⟩
          · rw [e1]; exact ⟨rfl, rfl⟩
        obtain ⟨tv', K3, e3, b3', o3, n3, f3, t3⟩ := app_one (P := Tryd.prog) (t := 30) (e := 58) (sz := 1) (by_ := 24) (z := .slice none 0 0) (by kernel_rfl) (by kernel_rfl) (by kernel_rfl) (by kernel_rfl) rfl lv [lv] ht2 hlc.1 rfl (by simp [hlc.2]) (by omega) (by rw [List.length_map, hWl]; omega) (by rw [List.length_map, hWl]; omega)
        have u1 := (o3 b1 (by omega)).trans q1
        have u2 := (o3 b2 (by omega)).trans q2
        have u3 := (o3 b3 (by omega)).trans q3
        rw [List.length_map, hWl] at t3
        subst t3
        have hlv3 : ∀ (H' : Heap), (∀ j, j ≠ b3 → H'.get j = K3.get j) → TabAt H' K9.next (.slice (some ⟨K'.next + 1, 0, some 1⟩) (i + 1) 1) lv (W (n - 1)) (Z (n - 1)) := fun H' hH' => by
          have hi1 : n - 1 = i := by omega
          rw [hi1]
          rcases b3'.2 with ⟨e1, _⟩ | ⟨c, c1, e1, c3⟩
          · cases e1
          · simp only [Value.slice.injEq, Option.some.injEq, Addr.mk.injEq, true_and, and_true] at e1
            obtain ⟨rfl, _⟩ := e1
            refine ⟨K'.next + 1, by omega, by rw [hWl], by rw [hH' _ (by omega), c3]; congr 2; rw [List.flatMap_append, List.flatMap_cons, List.flatMap_nil, hlc.1, List.append_nil]; congr 1; exact rows_flatI (W i), ⟨hlv.1, ?_⟩, ?_⟩
            · rcases hlv.2 with ⟨e1, e2⟩ | ⟨c, c1, e1, c3⟩
              · exact .inl ⟨e1, e2⟩
              · refine .inr ⟨c, by omega, e1, ?_⟩
                have hc := Heap.lt_of_get c3
                rw [hH' c (by omega), f3 c hc (fun o s l k e => ?_)]
                · exact c3
                · rcases ht.2 with ⟨e2, _⟩ | ⟨c2, _, e2, c4⟩
                  · rw [e2] at e; cases e
                  · rw [e2] at e; cases e
                    have := Heap.lt_of_get c4; omega
            · rcases hlv.2 with ⟨e1, e2⟩ | ⟨c, c1, e1, c3⟩
              · rw [e1]; rfl
              · have hc := Heap.lt_of_get c3
                rw [e1]; simp [blkOf]; omega
        simp only [confT] at q3 u3
        have hlvc : lv = .slice none 0 0 ∨ ∃ c m, lv = .slice (some ⟨c, 0, some 1⟩) m 1 := hlv.2.elim (fun h => .inl h.1) fun ⟨c, _, h, _⟩ => .inr ⟨c, _, h⟩
        rcases hlvc with rfl | ⟨c, m, rfl⟩
        · skip
          refine IWp.one [1, 2, 3, 9, 10] ?_
          simp (disch := omega) [go_sem, -getElem?_pos, -List.map_take, -List.map_drop, IntWalk.iteOmega, IntWalk.toNatUp, IntWalk.i64_in, IntWalk.u8_in, IntWalk.i64_quo, IntWalk.u8_quo, IntWalk.rem_in, q3, u3, e3, get_alloc, show ¬ b3 = K'.next by omega]
          exact ⟨u1, u2, _, rfl, by omega, .inr ⟨hie, _, hlv3 _ fun j hj => by rw [get_set, if_neg hj]⟩⟩
        · skip
          refine IWp.one [1, 2, 3, 9, 10] ?_
          simp (disch := omega) [go_sem, -getElem?_pos, -List.map_take, -List.map_drop, IntWalk.iteOmega, IntWalk.toNatUp, IntWalk.i64_in, IntWalk.u8_in, IntWalk.i64_quo, IntWalk.u8_quo, IntWalk.rem_in, q3, u3, e3, get_alloc, show ¬ b3 = K'.next by omega]
          exact ⟨u1, u2, _, rfl, by omega, .inr ⟨hie, _, hlv3 _ fun j hj => by rw [get_set, if_neg hj]⟩⟩
    refine IWp.one [1, 2, 3, 9, 10, 11, 12] ?_
    simp [go_sem, -getElem?_pos, -List.map_take, -List.map_drop, IntWalk.iteOmega, IntWalk.toNatUp]
    refine IWp.block ?_
    refine IWp.loop (fun j e K' => ∃ (f k : Nat) (lv : Value) (l : List Int), j = f ∧ 24 ≤ f + k ∧ l.length + f ≤ 24 ∧ f ≤ 24 ∧ k ≤ 30 ∧ (∀ x ∈ l, 0 ≤ x ∧ x < R) ∧ slotF d.slots R n f k l = Z i ∧ (∀ j, j < K.next → K'.get j = K.get j) ∧ Bld 1 K' K.next lv (l.map (Value.int .i64)) ∧ K.next ≤ K'.next ∧ e = [(1, ptrTo b1 0), (2, ptrTo b2 0), (3, ptrTo b3 0), (9, .int .i64 (n : Int)), (10, .int .i64 (i : Int)), (11, lv), (12, .int .i64 (k : Int))]) 24 ⟨24, i, .slice none 0 0, [], rfl, by omega, by simp, by omega, by omega, fun x h => (by cases h), by rw [hZ]; rfl, fun _ _ => rfl, Bld.nil _ _ _, Nat.le_refl _, by simp [go_sem]⟩ ?_
    rintro j e K' ⟨f, k, lv, l, rfl, hfk, hlf, hf24, hk30, hlR, hsl, ho, hlv, hnK', rfl⟩
    have hb3K := Heap.lt_of_get g3
    have q1 := (ho b1 (by omega)).trans g1
    have q3 := (ho b3 (by omega)).trans g3
    simp only [Draft.cells] at q1
    simp only [confT] at q3
    have hw12 := IntWalk.i64_in ((k : Int) + n) (by omega)
    by_cases hlt2 : k < d.slots.length ∧ k < 24
    case neg =>
      have hZe : l = Z i := by
        rw [← hsl]
        cases j with
        | zero => rfl
        | succ f => rw [slotF, if_neg hlt2]
      subst hZe
      by_cases h1 : k < d.slots.length
      · have h2 : ¬ k < 24 := fun h => hlt2 ⟨h1, h⟩
        have Kp : Kept [[1,2,3,9,10,11,12,193],[],[1,2,3,9,10,11]] := ⟨⟩
        iterate 3 (refine Kp.s ?_; clear Kp; intro Kp; simp (disch := omega) [go_sem, -getElem?_pos, -List.map_take, -List.map_drop, IntWalk.iteOmega, IntWalk.toNatUp, IntWalk.i64_in, IntWalk.u8_in, IntWalk.i64_quo, IntWalk.u8_quo, IntWalk.rem_in, q1, h1, h2])
        exact ⟨ho, hlv, hnK'⟩
      · skip
        have Kp : Kept [[1,2,3,9,10,11,12,193],[],[1,2,3,9,10,11]] := ⟨⟩
        iterate 3 (refine Kp.s ?_; clear Kp; intro Kp; simp (disch := omega) [go_sem, -getElem?_pos, -List.map_take, -List.map_drop, IntWalk.iteOmega, IntWalk.toNatUp, IntWalk.i64_in, IntWalk.u8_in, IntWalk.i64_quo, IntWalk.u8_quo, IntWalk.rem_in, q1, h1])
        exact ⟨ho, hlv, hnK'⟩
    obtain ⟨h1, h2⟩ := hlt2
    obtain ⟨f, rfl⟩ : ∃ f, j = f + 1 := ⟨j - 1, by omega⟩
    rw [slotF, if_pos ⟨h1, h2⟩] at hsl
    have gk : d.slots[k]? = some (d.slots.getD k 0) := by rw [List.getElem?_eq_getElem h1, List.getD_eq_getElem?_getD, List.getElem?_eq_getElem h1]; rfl
    have hsb : 0 ≤ d.slots.getD k 0 ∧ d.slots.getD k 0 < 256 := by
      rw [List.getD_eq_getElem?_getD, List.getElem?_eq_getElem h1]; exact d2 _ (List.getElem_mem h1)
    have hfl := hfr l (d.slots.getD k 0)
    generalize d.slots.getD k 0 = s0 at *
    have hm1 := Int.emod_nonneg s0 (show (R : Int) + 2 ≠ 0 by omega)
    have hm2 := Int.emod_lt_of_pos s0 (show 0 < (R : Int) + 2 by omega)
    have ht0 : s0.tmod ((R : Int) + 2) = s0 % ((R : Int) + 2) := Int.tmod_eq_emod_of_nonneg (by omega)
    generalize s0 % ((R : Int) + 2) = x at *
    have wx := IntWalk.i64_in x (by omega)
    have wR := IntWalk.i64_in ((R : Int) + 2) (by omega)
    have ws := IntWalk.i64_in s0 (by omega)
    have Kp : Kept [[1,2,3,9,10,11,12,193],[],[1,2,3,9,10,11,12]] := ⟨⟩
    iterate 3 (refine Kp.s ?_; clear Kp; intro Kp; simp [go_sem, -getElem?_pos, -List.map_take, -List.map_drop, IntWalk.iteOmega, IntWalk.toNatUp, q1, q3, h1, h2, gk, ht0, wx, wR, ws, hRn, show ¬ (R : Int) + 2 = 0 by omega, show (k : Int) < 24 by omega])
    refine IWp.cut (fun e' K2 => ∃ lv', (∀ j, j < K.next → K2.get j = K.get j) ∧ Bld 1 K2 K.next lv' ((fallS R l s0).map (Value.int .i64)) ∧ K.next ≤ K2.next ∧ e' = [(1, ptrTo b1 0), (2, ptrTo b2 0), (3, ptrTo b3 0), (9, .int .i64 (n : Int)), (10, .int .i64 (i : Int)), (11, lv'), (12, .int .i64 (k : Int))]) ?_ ?_
    case refine_2 =>
      rintro e' K2 ⟨lv', ho2, hlv2, hn2, rfl⟩
      refine IWp.one [1, 2, 3, 9, 10, 11, 12] ?_
      simp [go_sem, -getElem?_pos, -List.map_take, -List.map_drop, IntWalk.iteOmega, IntWalk.toNatUp, hw12]
      have hfin : ∀ x ∈ fallS R l s0, 0 ≤ x ∧ x < R := fun y hy => by
        rw [hfl] at hy
        split at hy
        · rename_i hc
          rcases List.mem_append.1 hy with hy | hy
          · exact hlR y hy
          · simp at hy; subst hy; exact ⟨hm1, hc.1⟩
        · exact hlR y hy
      have hfln : (fallS R l s0).length ≤ l.length + 1 := by rw [hfl]; split <;> simp
      exact ⟨f, by omega, k + n, by omega, lv', fallS R l s0, by omega, by omega, by omega, hfin, hsl, ho2, hlv2, hn2, rfl, by omega⟩
    refine IWp.block ?_
    refine IWp.seq ?_
    refine IWp.read [1, 2, 3, 9, 10, 11, 12, 13] follows (by kernel_rfl) ?_
    simp [go_sem, -getElem?_pos, -List.map_take, -List.map_drop, IntWalk.iteOmega, IntWalk.toNatUp, q1, q3, h1, h2, gk, ht0, wx, wR, ws, hRn, show ¬ (R : Int) + 2 = 0 by omega, show (k : Int) < 24 by omega]
    refine IWp.one [1, 2, 3, 9, 10, 11, 12, 13, 14] ?_
    simp [go_sem, -getElem?_pos, -List.map_take, -List.map_drop, IntWalk.iteOmega, IntWalk.toNatUp, q1, q3, h1, h2, gk, ht0, wx, wR, ws, hRn, show ¬ (R : Int) + 2 = 0 by omega, show (k : Int) < 24 by omega]
    refine IWp.cut (fun e' K2 => K2 = K' ∧ e' = [(1, ptrTo b1 0), (2, ptrTo b2 0), (3, ptrTo b3 0), (9, .int .i64 (n : Int)), (10, .int .i64 (i : Int)), (11, lv), (12, .int .i64 (k : Int)), (13, .int .i64 x), (14, .bool (decide ((R : Int) ≤ x) || decide (x ∈ l)))]) ?_ ?_
    case refine_2 =>
      rintro e' K2 ⟨rfl, rfl⟩
      by_cases hc : x < R ∧ ¬ x ∈ l
      · rw [if_pos hc] at hfl
        have hd1 : decide ((R : Int) ≤ x) = false := by simp; omega
        have hd2 : decide (x ∈ l) = false := by simp [hc.2]
        obtain ⟨lv', K3, e3, b3', s3, n3, f3, t3⟩ := app_one (P := Tryd.prog) (t := 58) (e := 3) (sz := 1) (by_ := 8) (z := .int .i64 0) (by kernel_rfl) (by kernel_rfl) (by kernel_rfl) (by kernel_rfl) rfl (.int .i64 x) [.int .i64 x] hlv rfl rfl (by simp [one0]) hnK' (by rw [List.length_map]; omega) (by rw [List.length_map]; omega)
        have Kp : Kept [[1,2,3,9,10,11,12,13,229],[],[1,2,3,9,10,11,12]] := ⟨⟩
        iterate 3 (refine Kp.s ?_; clear Kp; intro Kp; simp [go_sem, -getElem?_pos, -List.map_take, -List.map_drop, IntWalk.iteOmega, IntWalk.toNatUp, hd1, hd2, e3])
        exact ⟨fun j hj => (s3 j hj).trans (ho j hj), by rw [hfl, List.map_append]; exact b3', by omega⟩
      · rw [if_neg hc] at hfl
        have hd : (decide ((R : Int) ≤ x) || decide (x ∈ l)) = true := by
          by_cases h : (R : Int) ≤ x
          · simp [h]
          · have : x ∈ l := Classical.byContradiction fun h2 => hc ⟨by omega, h2⟩
            simp [this]
        rw [hd]
        have Kp : Kept [[1,2,3,9,10,11,12,13,229],[],[1,2,3,9,10,11,12]] := ⟨⟩
        iterate 3 (refine Kp.s ?_; clear Kp; intro Kp; simp [go_sem, -getElem?_pos, -List.map_take, -List.map_drop, IntWalk.iteOmega, IntWalk.toNatUp])
        exact ⟨ho, by rw [hfl]; exact hlv, hnK'⟩
    refine IWp.one [1, 2, 3, 9, 10, 11, 12, 13, 14, 15] ?_
    simp [go_sem, -getElem?_pos, -List.map_take, -List.map_drop, IntWalk.iteOmega, IntWalk.toNatUp]
    refine IWp.block ?_
    have hlv0 := hlv
    refine IWp.loop (fun q e K2 => ∃ (y : Nat), q = l.length - y ∧ y ≤ l.length ∧ K2 = K' ∧ e = [(1, ptrTo b1 0), (2, ptrTo b2 0), (3, ptrTo b3 0), (9, .int .i64 (n : Int)), (10, .int .i64 (i : Int)), (11, lv), (12, .int .i64 (k : Int)), (13, .int .i64 x), (14, .bool (decide ((R : Int) ≤ x) || decide (x ∈ l.take y))), (15, .int .i64 (y : Int))]) l.length ⟨0, rfl, Nat.zero_le _, rfl, by simp [go_sem]⟩ ?_
    rintro q e K2 ⟨y, rfl, hy, rfl, rfl⟩
    have wy := IntWalk.i64_in ((y : Int) + 1) (by omega)
    by_cases hyl : y < l.length
    · rcases hlv0.2 with ⟨_, e2⟩ | ⟨c, c1, rfl, c3⟩
      · have := congrArg List.length e2
        simp at this; subst this; simp at hyl
      rw [map_flat] at c3
      rw [List.length_map]
      have gy : l[y]? = some l[y] := List.getElem?_eq_getElem hyl
      have hst : decide (x ∈ l.take (y + 1)) = (decide (x ∈ l.take y) || decide (l[y] = x)) := by
        rw [List.take_succ_eq_append_getElem hyl]
        simp only [List.mem_append, List.mem_singleton, Bool.decide_or]
        congr 1
        exact decide_eq_decide.2 eq_comm
      generalize l[y] = z at *
      by_cases hz : (decide ((R : Int) ≤ x) || decide (x ∈ l.take y)) = true
      · have hz2 : (decide ((R : Int) ≤ x) || decide (x ∈ l.take (y + 1))) = true := by rw [hst, ← Bool.or_assoc, hz]; rfl
        rw [hz]
        have Kp : Kept [[1,2,3,9,10,11,12,13,14,15,216],[],[1,2,3,9,10,11,12,13,14,15],[1,2,3,9,10,11,12,13,14,15],[1,2,3,9,10,11,12,13,14,15]] := ⟨⟩
        iterate 5 (refine Kp.s ?_; clear Kp; intro Kp; simp [go_sem, -getElem?_pos, -List.map_take, -List.map_drop, IntWalk.iteOmega, IntWalk.toNatUp, c3, gy, hyl, wy])
        exact ⟨l.length - (y + 1), by omega, y + 1, rfl, by omega, by simpa using hz2, by omega⟩
      · have hz0 : (decide ((R : Int) ≤ x) || decide (x ∈ l.take y)) = false := by simpa using hz
        have hz2 : (decide ((R : Int) ≤ x) || decide (x ∈ l.take (y + 1))) = decide (z = x) := by rw [hst, ← Bool.or_assoc, hz0]; rfl
        rw [hz0]
        have Kp : Kept [[1,2,3,9,10,11,12,13,14,15,216],[],[1,2,3,9,10,11,12,13,14,15],[1,2,3,9,10,11,12,13,14,15],[1,2,3,9,10,11,12,13,14,15]] := ⟨⟩
        iterate 5 (refine Kp.s ?_; clear Kp; intro Kp; simp [go_sem, -getElem?_pos, -List.map_take, -List.map_drop, IntWalk.iteOmega, IntWalk.toNatUp, c3, gy, hyl, wy])
        exact ⟨l.length - (y + 1), by omega, y + 1, rfl, by omega, hz2.symm, by omega⟩
    · have hty : l.take y = l := List.take_of_length_le (by omega)
      rw [hty]
      rcases hlv0.2 with ⟨rfl, e2⟩ | ⟨c, c1, rfl, c3⟩
      · have hl0 : l = [] := by simpa using e2
        subst hl0
        have Kp : Kept [[1,2,3,9,10,11,12,13,14,15,216],[],[1,2,3,9,10,11,12,13,14]] := ⟨⟩
        iterate 3 (refine Kp.s ?_; clear Kp; intro Kp; simp [go_sem, -getElem?_pos, -List.map_take, -List.map_drop, IntWalk.iteOmega, IntWalk.toNatUp, hyl])
      · rw [List.length_map]
        have Kp : Kept [[1,2,3,9,10,11,12,13,14,15,216],[],[1,2,3,9,10,11,12,13,14]] := ⟨⟩
        iterate 3 (refine Kp.s ?_; clear Kp; intro Kp; simp [go_sem, -getElem?_pos, -List.map_take, -List.map_drop, IntWalk.iteOmega, IntWalk.toNatUp, hyl])
  clear g1 g2 g3 g1'
  rintro e K ⟨tv, lv, k1, k2, k3, ht, hnK, rfl⟩
  have hZl : ∀ i, (Z i).length ≤ 24 := fun i => by rw [hZ]; have := slotF_len d.slots R n 24 i []; simpa [slotS] using this
  have hWm : ∀ i, ∀ x ∈ W i, x.length ≤ 24 := fun i x hx => by
    rw [hW] at hx
    obtain ⟨j, _, rfl⟩ := List.mem_map.1 hx
    exact hZl j
  have hWn : W n = W (n - 1) ++ [Z (n - 1)] := by have := hW1 (n - 1); rwa [show n - 1 + 1 = n by omega] at this
  obtain ⟨F, hF⟩ : ∃ F : Nat → List (List Int), F = fun i => (List.range i).foldl (fun T (i : Nat) => lastAdd T i) (W n) := ⟨_, rfl⟩
  have hF0 : F 0 = W (n - 1) ++ [Z (n - 1)] := by rw [hF, ← hWn]; rfl
  have hF1 : ∀ i, F (i + 1) = lastAdd (F i) i := fun i => by rw [hF]; simp [List.range_succ, List.foldl_append]
  have hTS : F R = tableS d := by rw [hF]; unfold tableS; rw [hRv, hRn, ← hn, hW, hZ]
  refine IWp.cut (fun e K => ∃ lv l, K.get b1 = some ⟨d.cells, true⟩ ∧ K.get b2 = some ⟨confZ, true⟩ ∧ K.get b3 = some ⟨confT RS tv, true⟩ ∧ TabAt K K9.next tv lv (W (n - 1)) l ∧ tableS d = W (n - 1) ++ [l] ∧ l.length ≤ 40 ∧ K9.next ≤ K.next ∧ e = [(1, ptrTo b1 0), (2, ptrTo b2 0), (3, ptrTo b3 0), (9, .int .i64 (n : Int))]) ?_ ?_
  · skip
    refine IWp.one [1, 2, 3, 9, 16] ?_
    simp [go_sem, -getElem?_pos, -List.map_take, -List.map_drop, IntWalk.iteOmega, IntWalk.toNatUp]
    refine IWp.block ?_
    refine IWp.loop (fun j e K => ∃ (i : Nat) (lv : Value) (l : List Int), j = R - i ∧ i ≤ R ∧ K.get b1 = some ⟨d.cells, true⟩ ∧ K.get b2 = some ⟨confZ, true⟩ ∧ K.get b3 = some ⟨confT RS tv, true⟩ ∧ TabAt K K9.next tv lv (W (n - 1)) l ∧ F i = W (n - 1) ++ [l] ∧ l.length ≤ 24 + i ∧ K9.next ≤ K.next ∧ e = [(1, ptrTo b1 0), (2, ptrTo b2 0), (3, ptrTo b3 0), (9, .int .i64 (n : Int)), (16, .int .i64 (i : Int))]) R ⟨0, lv, Z (n - 1), rfl, Nat.zero_le _, k1, k2, k3, ht, hF0, by have := hZl (n - 1); omega, hnK, by simp [go_sem]⟩ ?_
    clear k1 k2 k3 ht hnK
    rintro j e K ⟨i, lv, l, rfl, hi, k1, k2, k3, ht, hFi, hl, hnK, rfl⟩
    have k3' := k3
    simp only [confT] at k3'
    have w4 := IntWalk.i64_in ((i : Int) + 1) (by omega)
    by_cases hlt : i < R
    · have hst := hF1 i
      rw [hFi, lastAdd_app] at hst
      have hstd : ICalls Tryd.prog 21 [.agg ⟨confT RS tv⟩, .int .i64 (i : Int)] K fun v H' => v = .bool (standsS (W (n - 1) ++ [l]) i) ∧ H' = K := by
        refine ICalls.view (us := [Config.val ⟨sigsS, RS, W (n - 1) ++ [l], 0, 0, 0, 0, 0, 0, false, 0⟩, .int .i64 (i : Int)]) (.cons (.agg (.cons (.same _) (.cons (.same _) (.cons ht.frz (FrzL.same _))))) (.cons (.same _) .nil)) (by rw [ClL_cons, Config.cl_val, ClL_cons, Cl_int, ClL_nil]; exact ⟨trivial, trivial, trivial⟩) ((refStands Heap.empty ⟨sigsS, RS, W (n - 1) ++ [l], 0, 0, 0, 0, 0, 0, false, 0⟩ i (by simp [hWl]; omega) (fun x hx => ?_)).mono ?_)
        · rcases List.mem_append.1 hx with hx | hx
          · have := hWm _ x hx; omega
          · simp at hx; subst hx; omega
        · rintro v _ ⟨rfl, rfl⟩
          exact ⟨rfl, rfl⟩
      simp only [confT] at hstd
      by_cases hs : standsS (W (n - 1) ++ [l]) i = true
      · rw [if_pos hs] at hst
        rw [hs] at hstd
        have Kp : Kept [[1,2,3,9,16,244],[],[1,2,3,9,16],[1,2,3,9,16,250]] := ⟨⟩
        iterate 4 (refine Kp.s ?_; clear Kp; intro Kp; simp (disch := omega) [go_sem, -getElem?_pos, -List.map_take, -List.map_drop, IntWalk.iteOmega, IntWalk.toNatUp, IntWalk.i64_in, IntWalk.u8_in, IntWalk.i64_quo, IntWalk.u8_quo, IntWalk.rem_in, k3', hlt, w4, hRn])
        refine ICalls.then (hstd) ?_
        try simp (disch := omega) [go_sem, -getElem?_pos, -List.map_take, -List.map_drop, IntWalk.iteOmega, IntWalk.toNatUp, IntWalk.i64_in, IntWalk.u8_in, IntWalk.i64_quo, IntWalk.u8_quo, IntWalk.rem_in, k3', hlt, w4, hRn]
        have Kp : Kept [[],[1,2,3,9,16],[1,2,3,9,16]] := ⟨⟩
        iterate 3 (refine Kp.s ?_; clear Kp; intro Kp; simp (disch := omega) [go_sem, -getElem?_pos, -List.map_take, -List.map_drop, IntWalk.iteOmega, IntWalk.toNatUp, IntWalk.i64_in, IntWalk.u8_in, IntWalk.i64_quo, IntWalk.u8_quo, IntWalk.rem_in, k3', hlt, w4, hRn])
        exact ⟨R - (i + 1), by omega, i + 1, rfl, by omega, k1, k2, rfl, lv, l, ht, hst, by omega, hnK, by omega⟩
      · rw [if_neg hs] at hst
        have hs2 : standsS (W (n - 1) ++ [l]) i = false := by simpa using hs
        rw [hs2] at hstd
        obtain ⟨tb, t1, htv, t3, t4, t5⟩ := ht
        rw [hWl, show n - 1 + 1 = n by omega] at htv
        rw [htv] at k3' hstd
        have hb3K := Heap.lt_of_get k3
        have htbK := Heap.lt_of_get t3
        obtain ⟨lv', K3, e3, b3', o3, n3, f3, t3'⟩ := app_one (P := Tryd.prog) (t := 58) (e := 3) (sz := 1) (by_ := 8) (z := .int .i64 0) (by kernel_rfl) (by kernel_rfl) (by kernel_rfl) (by kernel_rfl) rfl (.int .i64 (i : Int)) [.int .i64 (i : Int)] t4 rfl rfl (by simp [one0]) hnK (by rw [List.length_map]; omega) (by rw [List.length_map]; omega)
        have u1 := (o3 b1 (by omega)).trans k1
        have u2 := (o3 b2 (by omega)).trans k2
        have u3 := (o3 b3 (by omega)).trans k3'
        have ub : K3.get tb = some ⟨(W (n - 1)).map (ints .i64) ++ [lv], true⟩ := by
          rw [f3 tb htbK fun o s l c e => by rw [e] at t5; simp [blkOf] at t5]; exact t3
        have gl : ((W (n - 1)).map (ints .i64) ++ [lv])[n - 1]? = some lv := by rw [List.getElem?_append_right (by simp [hWl]), List.length_map, hWl]; simp
        have hcl : ((W (n - 1)).map (ints .i64) ++ [lv]).length = n := by simp [hWl]; omega
        have hspl : splice ((W (n - 1)).map (ints .i64) ++ [lv]) (n - 1) [lv'] = (W (n - 1)).map (ints .i64) ++ [lv'] := by
          rw [splice_one' _ _ _ (by omega), List.set_append_right _ _ (by simp [hWl])]
          simp [hWl]
        rw [List.length_map] at t3'
        subst t3'
        have hlv' : ∀ H', H'.get tb = some ⟨(W (n - 1)).map (ints .i64) ++ [Value.slice (some ⟨K.next + 1, 0, some 1⟩) (l.length + 1) 1], true⟩ → (∀ j, j ≠ tb → H'.get j = K3.get j) → TabAt H' K9.next tv (Value.slice (some ⟨K.next + 1, 0, some 1⟩) (l.length + 1) 1) (W (n - 1)) (l ++ [(i : Int)]) := fun H' hg1 hg2 => by
          rcases b3'.2 with ⟨e1, _⟩ | ⟨c, c1, e1, c3⟩
          · cases e1
          · have e2 := e1
            simp only [Value.slice.injEq, Option.some.injEq, Addr.mk.injEq, true_and, and_true] at e2
            obtain ⟨e2, _⟩ := e2
            refine ⟨tb, t1, by rw [htv, hWl, show n - 1 + 1 = n by omega], hg1, ?_, by simp [blkOf]; omega⟩
            rw [List.map_append]
            exact ⟨b3'.1, .inr ⟨c, c1, e1, by rw [hg2 c (by omega)]; exact c3⟩⟩
        have wn := IntWalk.i64_in ((n : Int) - 1) (by omega)
        have wn2 : ((n : Int) - 1).toNat = n - 1 := by omega
        have hbne : ¬ b3 = tb := by omega
        have hlvc : lv = .slice none 0 0 ∨ ∃ c m, lv = .slice (some ⟨c, 0, some 1⟩) m 1 := t4.2.elim (fun h => .inl h.1) fun ⟨c, _, h, _⟩ => .inr ⟨c, _, h⟩
        generalize hCS : (W (n - 1)).map (ints .i64) ++ [lv] = CS at *
        generalize hCS2 : (W (n - 1)).map (ints .i64) ++ [Value.slice (some ⟨K.next + 1, 0, some 1⟩) (l.length + 1) 1] = CS2 at *
        have Kp : Kept [[1,2,3,9,16,244],[],[1,2,3,9,16],[1,2,3,9,16,250]] := ⟨⟩
        iterate 4 (refine Kp.s ?_; clear Kp; intro Kp; simp [go_sem, -getElem?_pos, -List.map_take, -List.map_drop, IntWalk.iteOmega, IntWalk.toNatUp, k3', hlt, w4, hRn, wn, wn2, t3, ub, gl, hcl, hspl, e3, u3, get_alloc, hbne, show ¬ b3 = K.next by omega, show ¬ tb = K.next by omega, show n - 1 < n by omega])
        refine ICalls.then (hstd) ?_
        try simp [go_sem, -getElem?_pos, -List.map_take, -List.map_drop, IntWalk.iteOmega, IntWalk.toNatUp, k3', hlt, w4, hRn, wn, wn2, t3, ub, gl, hcl, hspl, e3, u3, get_alloc, hbne, show ¬ b3 = K.next by omega, show ¬ tb = K.next by omega, show n - 1 < n by omega]
        refine IWp.one [] ?_
        simp [go_sem, -getElem?_pos, -List.map_take, -List.map_drop, IntWalk.iteOmega, IntWalk.toNatUp, k3', hlt, w4, hRn, wn, wn2, t3, ub, gl, hcl, hspl, e3, u3, get_alloc, hbne, show ¬ b3 = K.next by omega, show ¬ tb = K.next by omega, show n - 1 < n by omega]
        refine IWp.draw [1, 2, 3, 9, 16] [b3] (.val 0 (.val 2 (.val 3 (.val 4 (.val 6 (.val 7 (.val 10 (.val 1 (.val 5 (.val 8 (.eff 9 (.eff 11 (.eff 12 (.val 13 (.eff 14 .done .done)) .done) .done) (.eff 11 (.ld 9 [12, 13, 14] (.eff 12 (.val 13 (.eff 14 .done .done)) .done)) .done)))))))))))) follows (by kernel_rfl) ?_
        simp [go_sem, -getElem?_pos, -List.map_take, -List.map_drop, IntWalk.iteOmega, IntWalk.toNatUp, k3', hlt, w4, hRn, wn, wn2, t3, ub, gl, hcl, hspl, e3, u3, get_alloc, hbne, show ¬ b3 = K.next by omega, show ¬ tb = K.next by omega, show n - 1 < n by omega]
        refine IWp.one [1, 2, 3, 9, 16] ?_
        simp [go_sem, -getElem?_pos, -List.map_take, -List.map_drop, IntWalk.iteOmega, IntWalk.toNatUp, k3', hlt, w4, hRn, wn, wn2, t3, ub, gl, hcl, hspl, e3, u3, get_alloc, hbne, show ¬ b3 = K.next by omega, show ¬ tb = K.next by omega, show n - 1 < n by omega]
        exact ⟨R - (i + 1), by omega, i + 1, rfl, by omega, u1, u2, by rw [htv]; rfl, _, l ++ [(i : Int)], hlv' _ (by rw [get_set, if_pos rfl, ub]; rfl) (fun j hj => by rw [get_set, if_neg hj]), hst, by simp; omega, by omega, by omega⟩
    · have hiR : i = R := by omega
      subst hiR
      have Kp : Kept [[1,2,3,9,16,244],[],[1,2,3,9]] := ⟨⟩
      iterate 3 (refine Kp.s ?_; clear Kp; intro Kp; simp (disch := omega) [go_sem, -getElem?_pos, -List.map_take, -List.map_drop, IntWalk.iteOmega, IntWalk.toNatUp, IntWalk.i64_in, IntWalk.u8_in, IntWalk.i64_quo, IntWalk.u8_quo, IntWalk.rem_in, k3', hRn])
      exact ⟨k1, k2, rfl, lv, l, ht, by rw [← hTS, hFi], by omega, hnK⟩
  clear k1 k2 k3 ht hnK hF0 hF1 hTS hF F
  rintro e K ⟨lv, l, k1, k2, k3, ht, hTd, hl, hnK, rfl⟩
  obtain ⟨K5, hf5, h5, ho5, hn5⟩ := FrzH.one (S := fun j => decide (K9.next ≤ j)) (b := b3) (cs' := confT RS (frow 1 0 ((tableS d).map (ints .i64)))) (by simp; omega) k3 (.cons (.same _) (.cons (.same _) (.cons (by
    rw [hTd]
    obtain ⟨tb, t1, htv, t3, t4, t5⟩ := ht
    have := Frz.row (H := K) (S := fun j => decide (K9.next ≤ j)) (b := tb) (o := 0) (sz := 1) (c := 1) (us := (W (n - 1) ++ [l]).map (ints .i64)) t3 (by simpa using t1) (by rw [List.drop_zero]; exact frzE_tab (Bld.frzW t4 fun b hb => by simpa using hb) _)
    rw [List.length_map, List.length_append] at this
    rw [htv]; exact this) (FrzL.same _))))
  refine IWp.freezeH K5 _ (.cons (.same _) (.cons (.same _) (.cons (.same _) (.cons (.same _) .nil)))) hf5 ?_
  have s1 := (ho5 b1 (by omega) (by simp; omega)).trans k1
  have s2 := (ho5 b2 (by omega) (by simp; omega)).trans k2
  clear hf5 ho5 ht k1 k2 k3
  have hTl : (tableS d).length = n := by rw [hTd]; simp [hWl]; omega
  have hTm : ∀ x ∈ tableS d, x.length ≤ 40 := fun x hx => by
    rw [hTd] at hx
    rcases List.mem_append.1 hx with hx | hx
    · have := hWm _ x hx; omega
    · simp at hx; subst hx; exact hl
  have hEn : ∀ m ≤ (tableS d).length, (entriesS ((tableS d).take m) : Int) < 9223372036854775808 := fun m hm => by
    have := entriesS_le 40 ((tableS d).take m) fun x hx => hTm x (List.mem_of_mem_take hx)
    rw [List.length_take] at this
    omega
  have hEb := entriesS_le 40 (tableS d) hTm
  rw [hTl] at hEb
  have hmk : makeS d = ⟨sigsS, RS, tableS d, 1 + d.bands % 16 % 3, 1 + d.bands % 16 / 2 % 3, 1 + d.bands % 16 / 4 % 4, (entriesS (tableS d) : Int) / n + 1 + d.drain % 4 / 3 * 2, 1 + d.pause % 30, 1 + d.off % 30, d.brk, 1 + d.log % 40⟩ := by
    unfold makeS; rw [hRv, ← hn]
  have hent := fun K => refEntries K ⟨sigsS, RS, tableS d, 1 + d.bands % 16 % 3, 1 + d.bands % 16 / 2 % 3, 1 + d.bands % 16 / 4 % 4, 0, 0, 0, false, 0⟩ (show (tableS d).length ≤ 1000000 by omega) hEn
  clear hEn hTm hTd
  generalize hTT : tableS d = T at *
  simp only [Draft.cells] at s1
  simp only [confT] at h5
  rw [hmk]
  have hqn : (entriesS T : Int) / n ≤ entriesS T := Int.ediv_le_self _ (by omega)
  have hqp : 0 ≤ (entriesS T : Int) / n := Int.ediv_nonneg (by omega) (by omega)
  have Kp : Kept [[1,2,3,9,17],[1,2,3,9]] := ⟨⟩
  iterate 2 (refine Kp.s ?_; clear Kp; intro Kp; simp (disch := omega) [go_sem, -getElem?_pos, -List.map_take, -List.map_drop, IntWalk.iteOmega, IntWalk.toNatUp, IntWalk.i64_in, IntWalk.u8_in, IntWalk.i64_quo, IntWalk.u8_quo, IntWalk.rem_in, s1, s2, h5, confZ, Config.val, Config.cells, show ¬ b1 = b3 by omega, show ¬ b2 = b3 by omega, show ¬ (n : Int) = 0 by omega, show ¬ n = 0 by omega])
  refine IWp.seq ?_
  refine IWp.draw [1, 2, 3] [b1] (.ld 0 [1, 3, 4, 11, 12, 13] (.val 2 (.val 5 (.val 6 (.val 7 (.val 8 (.val 9 (.val 10 (.eff 1 (.val 3 (.val 4 (.val 11 (.val 12 (.eff 13 .done .done))))) .done))))))))) follows (by kernel_rfl) ?_
  simp (disch := omega) [go_sem, -getElem?_pos, -List.map_take, -List.map_drop, IntWalk.iteOmega, IntWalk.toNatUp, IntWalk.i64_in, IntWalk.u8_in, IntWalk.i64_quo, IntWalk.u8_quo, IntWalk.rem_in, s1, s2, h5, confZ, Config.val, Config.cells, show ¬ b1 = b3 by omega, show ¬ b2 = b3 by omega, show ¬ (n : Int) = 0 by omega, show ¬ n = 0 by omega]
  refine ICalls.then (hent _) ?_
  try simp (disch := omega) [go_sem, -getElem?_pos, -List.map_take, -List.map_drop, IntWalk.iteOmega, IntWalk.toNatUp, IntWalk.i64_in, IntWalk.u8_in, IntWalk.i64_quo, IntWalk.u8_quo, IntWalk.rem_in, s1, s2, h5, confZ, Config.val, Config.cells, show ¬ b1 = b3 by omega, show ¬ b2 = b3 by omega, show ¬ (n : Int) = 0 by omega, show ¬ n = 0 by omega]
  refine IWp.seq ?_
  refine IWp.draw [2, 3] [b1] (.val 0 (.ld 1 [2, 3, 4, 17, 18, 19, 20, 21, 22, 23, 24] (.val 2 (.val 3 (.val 4 (.val 5 (.val 10 (.val 12 (.val 17 (.val 6 (.val 7 (.val 8 (.val 9 (.val 11 (.val 13 (.val 14 (.val 15 (.val 16 (.eff 18 (.val 19 (.eff 20 (.val 21 (.eff 22 (.val 23 (.eff 24 .done .done)) .done)) .done)) .done))))))))))))))))))) follows (by kernel_rfl) ?_
  simp (disch := omega) [go_sem, -getElem?_pos, -List.map_take, -List.map_drop, IntWalk.iteOmega, IntWalk.toNatUp, IntWalk.i64_in, IntWalk.u8_in, IntWalk.i64_quo, IntWalk.u8_quo, IntWalk.rem_in, s1, s2, h5, confZ, Config.val, Config.cells, show ¬ b1 = b3 by omega, show ¬ b2 = b3 by omega, show ¬ (n : Int) = 0 by omega, show ¬ n = 0 by omega]
  have Kp : Kept [[2],[]] := ⟨⟩
  iterate 2 (refine Kp.s ?_; clear Kp; intro Kp; simp (disch := omega) [go_sem, -getElem?_pos, -List.map_take, -List.map_drop, IntWalk.iteOmega, IntWalk.toNatUp, IntWalk.i64_in, IntWalk.u8_in, IntWalk.i64_quo, IntWalk.u8_quo, IntWalk.rem_in, s1, s2, h5, confZ, Config.val, Config.cells, show ¬ b1 = b3 by omega, show ¬ b2 = b3 by omega, show ¬ (n : Int) = 0 by omega, show ¬ n = 0 by omega])
end Go.Proofs.YtoecebibhcadoaaDoor.I
