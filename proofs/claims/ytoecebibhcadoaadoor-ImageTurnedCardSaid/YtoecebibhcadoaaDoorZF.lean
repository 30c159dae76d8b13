/- What is turned in closed bytes is shown. Of images: one with something turned. No condition. -/
import Derived.Test.YtoecebibhcadoaaDoorZC
import Derived.Test.YtoecebibhcadoaaDoorZD
namespace Go.Proofs.YtoecebibhcadoaaDoor.I
open Go Go.RowKit
set_option linter.unusedVariables false
set_option linter.unusedSimpArgs false
theorem turn1_eq (x : BitVec 16) : turn1 x = (x <<< 1) ^^^ (if x.getLsbD 15 = true then 4129#16 else 0#16) := by
  unfold turn1
  by_cases h : x.getLsbD 15 = true
  · rw [if_neg (fun e => by rw [(top_bit x).1 e] at h; cases h), if_pos h]
  · have h2 : x.getLsbD 15 = false := by simpa using h
    rw [if_pos ((top_bit x).2 h2), if_neg h, BitVec.xor_zero]
theorem turn1_xor (x y : BitVec 16) : turn1 (x ^^^ y) = turn1 x ^^^ turn1 y := by
  rw [turn1_eq, turn1_eq, turn1_eq, BitVec.shiftLeft_xor_distrib, BitVec.getLsbD_xor]
  have e : (if (x.getLsbD 15 ^^ y.getLsbD 15) = true then 4129#16 else 0#16) = (if x.getLsbD 15 = true then 4129#16 else 0#16) ^^^ (if y.getLsbD 15 = true then 4129#16 else 0#16) := by
    cases x.getLsbD 15 <;> cases y.getLsbD 15 <;> rfl
  rw [e]
  ac_rfl
theorem turn1_zero {x : BitVec 16} (h : turn1 x = 0#16) : x = 0#16 := by
  rw [turn1_eq] at h
  have h15 : x.getLsbD 15 = false := by
    cases hb : x.getLsbD 15 with
    | false => rfl
    | true =>
      rw [hb] at h
      have h0 := congrArg (fun z : BitVec 16 => z.getLsbD 0) h
      simp [BitVec.getLsbD_xor] at h0
  rw [h15] at h
  simp only [Bool.false_eq_true, if_false, BitVec.xor_zero] at h
  apply BitVec.eq_of_getLsbD_eq
  intro i hi
  by_cases h1 : i = 15
  · subst h1; rw [h15]; simp
  · have h2 := congrArg (fun z : BitVec 16 => z.getLsbD (i + 1)) h
    simp only [BitVec.getLsbD_shiftLeft] at h2
    simpa [show i + 1 < 16 by omega] using h2
theorem turns_xor (k : Nat) (x y : BitVec 16) : turns k (x ^^^ y) = turns k x ^^^ turns k y := by
  induction k with
  | zero => rfl
  | succ k ih => simp only [turns]; rw [ih, turn1_xor]
theorem turns_zero {k : Nat} {x : BitVec 16} (h : turns k x = 0#16) : x = 0#16 := by
  induction k with
  | zero => exact h
  | succ k ih => exact ih (turn1_zero h)
theorem turns_nil (k : Nat) : turns k 0#16 = 0#16 := by
  induction k with
  | zero => rfl
  | succ k ih => simp only [turns]; rw [ih]; decide
theorem run_xor (L : List Int) : ∀ x y : BitVec 16, L.foldl crcByte (x ^^^ y) = L.foldl crcByte x ^^^ L.foldl (fun z _ => turns 8 z) y := by
  induction L with
  | nil => intro x y; rfl
  | cons b L ih =>
    intro x y
    simp only [List.foldl_cons]
    rw [← ih]
    congr 1
    unfold crcByte
    rw [show x ^^^ y ^^^ BitVec.ofInt 16 b <<< 8 = (x ^^^ BitVec.ofInt 16 b <<< 8) ^^^ y by ac_rfl, turns_xor]
theorem run_zero (L : List Int) : ∀ y : BitVec 16, L.foldl (fun z _ => turns 8 z) y = 0#16 → y = 0#16 := by
  induction L with
  | nil => intro y h; exact h
  | cons b L ih => intro y h; exact turns_zero (ih _ h)
theorem byte_xor (c a : Int) (hc : 0 ≤ c ∧ c < 256) (ha : 0 ≤ a ∧ a < 256) :
    0 ≤ ((BitVec.ofInt 8 c ^^^ BitVec.ofInt 8 a : BitVec 8).toNat : Int) ∧ ((BitVec.ofInt 8 c ^^^ BitVec.ofInt 8 a : BitVec 8).toNat : Int) < 256 ∧
    BitVec.ofInt 16 ((BitVec.ofInt 8 c ^^^ BitVec.ofInt 8 a : BitVec 8).toNat : Int) = BitVec.ofInt 16 c ^^^ BitVec.ofInt 16 a := by
  have hlt := (BitVec.ofInt 8 c ^^^ BitVec.ofInt 8 a : BitVec 8).isLt
  refine ⟨by omega, by omega, ?_⟩
  obtain ⟨n, rfl⟩ : ∃ n : Nat, c = n := ⟨c.toNat, by omega⟩
  obtain ⟨m, rfl⟩ : ∃ n : Nat, a = n := ⟨a.toNat, by omega⟩
  have e1 : (BitVec.ofInt 8 (n : Int) ^^^ BitVec.ofInt 8 (m : Int) : BitVec 8).toNat = n ^^^ m := by
    rw [BitVec.toNat_xor, BitVec.toNat_ofInt, BitVec.toNat_ofInt]
    congr 1 <;> omega
  rw [e1]
  apply BitVec.eq_of_toNat_eq
  have hx : n ^^^ m < 2 ^ 16 := Nat.xor_lt_two_pow (by omega) (by omega)
  rw [BitVec.toNat_xor, BitVec.toNat_ofInt, BitVec.toNat_ofInt, BitVec.toNat_ofInt]
  have e2 : ((n : Int) % (2 ^ 16 : Nat)).toNat = n := by omega
  have e3 : ((m : Int) % (2 ^ 16 : Nat)).toNat = m := by omega
  rw [e2, e3]
  omega
theorem turns_low : ∀ (k : Nat) (y : BitVec 16), k ≤ 8 → y.toNat < 256 → turns k y = y <<< k ∧ (turns k y).toNat = y.toNat * 2 ^ k
  | 0, y, _, _ => by simp [turns]
  | k + 1, y, hk, h => by
    obtain ⟨h1, h2⟩ := turns_low k y (by omega) h
    have hp : 2 ^ k ≤ 128 := by
      have := Nat.pow_le_pow_right (show 0 < 2 by decide) (show k ≤ 7 by omega)
      simpa using this
    have hlt : (turns k y).toNat < 32768 := by
      rw [h2]
      calc y.toNat * 2 ^ k ≤ 255 * 128 := Nat.mul_le_mul (by omega) hp
        _ < 32768 := by decide
    have e : turns (k + 1) y = (turns k y) <<< 1 := by
      have ht : (turns k y).getLsbD 15 = false := by rw [BitVec.getLsbD]; exact Nat.testBit_lt_two_pow hlt
      simp only [turns, turn1_eq, ht]; simp
    rw [e]
    refine ⟨by rw [h1, BitVec.shiftLeft_add], ?_⟩
    rw [BitVec.toNat_shiftLeft, Nat.shiftLeft_eq, Nat.mod_eq_of_lt (by omega), h2, Nat.pow_one, Nat.mul_assoc, ← Nat.pow_succ]
theorem low8 (b : Int) (hb : 0 ≤ b ∧ b < 256) : turns 8 (BitVec.ofInt 16 b) = BitVec.ofInt 16 b <<< 8 :=
  (turns_low 8 _ (Nat.le_refl _) (by rw [BitVec.toNat_ofInt]; omega)).1
theorem turned_shown (A B : List Int) (c d a b : Int) (ha : 0 ≤ a ∧ a < 256) (hb : 0 ≤ b ∧ b < 256) (hne : ¬ (a = 0 ∧ b = 0)) (c' d' : Int) (hc : BitVec.ofInt 16 c' = BitVec.ofInt 16 c ^^^ BitVec.ofInt 16 a) (hd : BitVec.ofInt 16 d' = BitVec.ofInt 16 d ^^^ BitVec.ofInt 16 b)
    (h0 : crc (A ++ c :: d :: B) = 0#16) : crc (A ++ c' :: d' :: B) ≠ 0#16 := by
  intro h
  simp only [crc, List.foldl_append, List.foldl_cons] at h h0
  generalize List.foldl crcByte 65535#16 A = x at h h0
  have e : crcByte (crcByte x c') d' = crcByte (crcByte x c) d ^^^ turns 16 ((BitVec.ofInt 16 a <<< 8) ^^^ BitVec.ofInt 16 b) := by
    have t16 : ∀ z : BitVec 16, turns 16 z = turns 8 (turns 8 z) := fun z => rfl
    rw [t16, turns_xor 8 (BitVec.ofInt 16 a <<< 8), low8 b hb]
    unfold crcByte
    rw [hc, hd, BitVec.shiftLeft_xor_distrib, BitVec.shiftLeft_xor_distrib, ← BitVec.xor_assoc x, turns_xor 8 (x ^^^ BitVec.ofInt 16 c <<< 8)]
    have four : ∀ T A D E : BitVec 16, (T ^^^ A) ^^^ (D ^^^ E) = (T ^^^ D) ^^^ (A ^^^ E) := fun T A D E => by ac_rfl
    rw [four, turns_xor 8 (turns 8 (x ^^^ BitVec.ofInt 16 c <<< 8) ^^^ BitVec.ofInt 16 d <<< 8)]
  rw [e, run_xor, h0, BitVec.zero_xor] at h
  have h1 := turns_zero (run_zero B _ h)
  have h2 := congrArg BitVec.toNat h1
  apply hne
  have ea : BitVec.ofInt 16 a <<< 8 = BitVec.ofNat 16 (a.toNat * 256) := by
    apply BitVec.eq_of_toNat_eq
    rw [BitVec.toNat_shiftLeft, Nat.shiftLeft_eq, BitVec.toNat_ofInt, BitVec.toNat_ofNat]
    omega
  have hxor : (BitVec.ofInt 16 a <<< 8) = BitVec.ofInt 16 b := by
    have h3 : (BitVec.ofInt 16 a <<< 8 ^^^ BitVec.ofInt 16 b) ^^^ BitVec.ofInt 16 b = 0#16 ^^^ BitVec.ofInt 16 b := by rw [h1]
    rw [BitVec.xor_assoc, BitVec.xor_self, BitVec.xor_zero, BitVec.zero_xor] at h3
    exact h3
  have h4 := congrArg BitVec.toNat hxor
  rw [ea, BitVec.toNat_ofNat, BitVec.toNat_ofInt] at h4
  omega
theorem crc_closed (L : List Int) : crc (closed L) = 0#16 := by
  have hx := (crc L).isLt
  have e0 : crc (closed L) = crcByte (crcByte (crc L) (((crc L).toNat : Int) / 256)) (((crc L).toNat : Int) % 256) := by simp only [crc, closed, List.foldl_append, List.foldl_cons, List.foldl_nil]
  rw [e0]
  generalize crc L = x at hx
  have e1 : BitVec.ofInt 16 ((x.toNat : Int) / 256) = x >>> 8 := by
    apply BitVec.eq_of_toNat_eq; rw [BitVec.toNat_ofInt, BitVec.toNat_ushiftRight, Nat.shiftRight_eq_div_pow]; omega
  have e2 : BitVec.ofInt 16 ((x.toNat : Int) % 256) = BitVec.ofNat 16 (x.toNat % 256) := by
    apply BitVec.eq_of_toNat_eq; rw [BitVec.toNat_ofInt, BitVec.toNat_ofNat]; omega
  have e3 : x ^^^ ((x >>> 8) <<< 8) = BitVec.ofNat 16 (x.toNat % 256) := by
    apply BitVec.eq_of_getLsbD_eq
    intro i hi
    rw [BitVec.getLsbD_xor, BitVec.getLsbD_shiftLeft, BitVec.getLsbD_ushiftRight, BitVec.getLsbD_ofNat, show (256 : Nat) = 2 ^ 8 from rfl, Nat.testBit_mod_two_pow]
    by_cases h8 : i < 8
    · simp [h8, hi, BitVec.getLsbD]
    · simp [h8, hi, show 8 + (i - 8) = i by omega]
  have hy : (BitVec.ofNat 16 (x.toNat % 256)).toNat < 256 := by rw [BitVec.toNat_ofNat]; omega
  unfold crcByte
  rw [e1, e2, e3, (turns_low 8 _ (Nat.le_refl _) hy).1, BitVec.xor_self]
  decide
theorem opened_bad {L : List Int} (h2 : ¬ L.length < 2) (h : crc L ≠ 0#16) : opened L = ([], 3) := by
  unfold opened
  rw [if_neg h2, if_neg]
  intro e
  exact h (by rw [← e]; exact crc_closed _)
theorem splice_one (cs : List Value) (k : Nat) (v : Value) (h : k < cs.length) : splice cs k [v] = cs.set k v := by
  unfold splice
  rw [List.set_eq_take_append_cons_drop, if_pos h]
  simp
theorem set_two (L : List Int) (k : Nat) (h : k + 1 < L.length) (c' d' : Int) : ((L.set k c').set (k + 1) d') = L.take k ++ c' :: d' :: L.drop (k + 2) := by
  apply List.ext_getElem?
  intro i
  rw [List.getElem?_set, List.getElem?_set, List.getElem?_append]
  simp only [List.length_set, List.length_take, show min k L.length = k by omega]
  by_cases h1 : i < k
  · simp [h1, show ¬ k + 1 = i by omega, show ¬ k = i by omega]
  · rw [if_neg h1]
    by_cases h2 : i = k
    · subst h2; simp [show i < L.length by omega]
    · by_cases h3 : i = k + 1
      · subst h3; simp [h]
      · obtain ⟨j, rfl⟩ : ∃ j, i = k + 2 + j := ⟨i - (k + 2), by omega⟩
        simp [show ¬ k + 1 = k + 2 + j by omega, show ¬ k = k + 2 + j by omega, show k + 2 + j - k = j + 1 + 1 by omega]
theorem cut_two (L : List Int) (k : Nat) (h : k + 1 < L.length) : L = L.take k ++ L[k] :: L[k + 1] :: L.drop (k + 2) := by
  have e : L.drop k = L[k] :: L[k + 1] :: L.drop (k + 2) := by rw [List.drop_eq_getElem_cons (by omega), List.drop_eq_getElem_cons (by omega)]
  exact (List.take_append_drop k L).symm.trans (by rw [e])
end Go.Proofs.YtoecebibhcadoaaDoor.I
namespace Go.Proofs.YtoecebibhcadoaaDoor.I
open Go Go.RowKit
set_option linter.unusedVariables false
set_option linter.unusedSimpArgs false
theorem turned_sum (X : List Int) (hB : Bs X) (k : Nat) (hk : k < (closed X).length) (t : Int) (ht : 0 ≤ t ∧ t < 256) (h0 : ¬ t = 0) (c' : Int) (hc : BitVec.ofInt 16 c' = BitVec.ofInt 16 (closed X)[k] ^^^ BitVec.ofInt 16 t) : opened ((closed X).set k c') = ([], 3) := by
  have hl := closed_len' X
  have hz : ∀ x : Int, BitVec.ofInt 16 x = BitVec.ofInt 16 x ^^^ BitVec.ofInt 16 0 := fun x => by simp
  have self : ∀ (L : List Int) (j : Nat) (h : j < L.length), L.set j L[j] = L := fun L j h => by
    apply List.ext_getElem?; intro i; rw [List.getElem?_set]; split
    · rename_i e; subst e; simp [h]
    · rfl
  refine opened_bad (by rw [List.length_set]; omega) ?_
  by_cases hk2 : k + 1 < (closed X).length
  · have hbad := turned_shown ((closed X).take k) ((closed X).drop (k + 2)) (closed X)[k] (closed X)[k + 1] t 0 ht (by omega) (by omega) c' (closed X)[k + 1] hc (hz _) (by rw [← cut_two (closed X) k hk2]; exact crc_closed X)
    rw [← set_two (closed X) k hk2] at hbad
    have e : ((closed X).set k c').set (k + 1) (closed X)[k + 1] = (closed X).set k c' := by
      have := self ((closed X).set k c') (k + 1) (by rw [List.length_set]; exact hk2)
      rwa [List.getElem_set_ne (by omega)] at this
    rwa [e] at hbad
  · obtain ⟨j, rfl⟩ : ∃ j, k = j + 1 := ⟨k - 1, by omega⟩
    have hbad := turned_shown ((closed X).take j) ((closed X).drop (j + 2)) (closed X)[j] (closed X)[j + 1] 0 t (by omega) ht (by omega) (closed X)[j] c' (hz _) hc (by rw [← cut_two (closed X) j hk]; exact crc_closed X)
    rw [← set_two (closed X) j hk, self] at hbad
    exact hbad
theorem Bld.blkB {H : Heap} {n : Nat} {v : Value} {L : List Int} (h : Bld 1 H n v (L.map (Value.int .u8))) (hL : 0 < L.length) : ∃ q, n ≤ q ∧ v = .slice (some ⟨q, 0, some 1⟩) L.length 1 ∧ H.get q = some ⟨L.map (Value.int .u8), true⟩ := by
  rcases h.2 with ⟨_, h⟩ | ⟨q, h1, h2, h3⟩
  · have := congrArg List.length h; simp at this; subst this; simp at hL
  · rw [map_flat] at h3
    exact ⟨q, h1, by simpa using h2, h3⟩
theorem joinNil (H : Heap) (L : List Int) (hL : L.length ≤ 1000000) (h0 : 0 < L.length) : ICalls Tryd.prog 19 [byts L, .slice none 0 0] H fun v K => ∃ q, H.next ≤ q ∧ v = .slice (some ⟨q, 0, some 1⟩) L.length 1 ∧ K.get q = some ⟨L.map (Value.int .u8), true⟩ ∧ Old H K :=
  ICalls.as (.cons (.same _) (.cons (.nil 1) .nil)) ((join_own H 0 0 L [] hL (by simp)).mono fun v K ⟨h1, h2⟩ => by
    rw [List.append_nil] at h1
    obtain ⟨q, a, b, c⟩ := h1.blkB h0
    exact ⟨q, a, b, c, h2⟩)
set_option maxHeartbeats 4000000 in
theorem imageTurned_law (H : Heap) (d : Draft) (at_ t cut : Int) (M : List Int) (hd : d.wf) (ha : 0 ≤ at_ ∧ at_ < 65536) (ht : 0 ≤ t ∧ t < 256) (hc0 : 0 ≤ cut ∧ cut < 65536) (hM : Bs M) :
    IBody Tryd.prog 5 [d.val, .int .u16 at_, .int .u8 t, .int .u16 cut, byts M] H fun v _ => v = .bool true := by
  by_cases hs : shortD d
  · have dcs := decide_eq_true hs
    by_cases hm : 40 < M.length
    · skip
      refine IBody.of Tryd.func5 rfl (by rw [Tryd.ntmps5]; simp) ?_
      rw [Tryd.ntmps5]
      have Kp : Kept [[1,2,3,4,5],[1,2,3,4,5,28]] := ⟨⟩
      iterate 2 (refine Kp.s ?_; clear Kp; intro Kp; simp [go_sem, -getElem?_pos, -List.map_take, -List.map_drop, IntWalk.iteOmega, IntWalk.toNatUp, Draft.val, Draft.cells, dcs, byts, hm, show (40 : Int) < M.length by omega])
      refine ICalls.then (noneC _) ?_
      try simp [go_sem, -getElem?_pos, -List.map_take, -List.map_drop, IntWalk.iteOmega, IntWalk.toNatUp, Draft.val, Draft.cells, dcs, byts, hm, show (40 : Int) < M.length by omega]
      refine ICalls.then (shortD' _ d) ?_
      try simp [go_sem, -getElem?_pos, -List.map_take, -List.map_drop, IntWalk.iteOmega, IntWalk.toNatUp, Draft.val, Draft.cells, dcs, byts, hm, show (40 : Int) < M.length by omega]
      have Kp : Kept [[],[10]] := ⟨⟩
      iterate 2 (refine Kp.s ?_; clear Kp; intro Kp; simp [go_sem, -getElem?_pos, -List.map_take, -List.map_drop, IntWalk.iteOmega, IntWalk.toNatUp, Draft.val, Draft.cells, dcs, byts, hm, show (40 : Int) < M.length by omega])
      refine ICalls.then (noneC _) ?_
      try simp [go_sem, -getElem?_pos, -List.map_take, -List.map_drop, IntWalk.iteOmega, IntWalk.toNatUp, Draft.val, Draft.cells, dcs, byts, hm, show (40 : Int) < M.length by omega]
      refine IWp.one [] ?_
      simp [go_sem, -getElem?_pos, -List.map_take, -List.map_drop, IntWalk.iteOmega, IntWalk.toNatUp, Draft.val, Draft.cells, dcs, byts, hm, show (40 : Int) < M.length by omega]
    · obtain ⟨c, hc⟩ : ∃ c, c = makeS d := ⟨_, rfl⟩
      have hw : c.wf := by rw [hc]; exact make_wf hd
      have hf : Fit c := by rw [hc]; exact make_fit hd
      have mk := fun K => make K d hd
      rw [← hc] at mk
      have hB := cfgB_bs hw
      have sm := cfgB_small hf
      have ln := cfgB_len c
      have ce := fun K => refEncode K c hw sm
      obtain ⟨B, hBe⟩ : ∃ B, B = cfgB c := ⟨_, rfl⟩
      rw [← hBe] at hB sm ln ce
      have cB := closed_bs hB
      have shown := turned_sum B hB
      have e1 : (closed B).take B.length = B := by unfold closed; rw [List.take_left]
      have cl := closed_len' B
      obtain ⟨P, hP⟩ : ∃ P, P = closed B := ⟨_, rfl⟩
      rw [← hP] at cB shown ce cl e1
      have idx : ∀ L : List Int, 0 < L.length → ∃ k : Nat, at_.tmod (L.length : Int) = (k : Int) ∧ k < L.length := fun L h => by
        rw [Int.tmod_eq_emod_of_nonneg (by omega)]
        have h1 := Int.emod_nonneg at_ (show (L.length : Int) ≠ 0 by omega)
        have h2 := Int.emod_lt_of_pos at_ (show 0 < (L.length : Int) by omega)
        exact ⟨(at_ % (L.length : Int)).toNat, by omega, by omega⟩
      obtain ⟨k, hk, hkl⟩ := idx P (by omega)
      obtain ⟨j, hj, hjl⟩ := idx B (by omega)
      have w0 := IntWalk.i64_in at_ (by omega)
      obtain ⟨c', hc', x1, x2, x3⟩ : ∃ c' : Int, ((BitVec.ofInt 8 P[k] ^^^ BitVec.ofInt 8 t : BitVec 8).toNat : Int) = c' ∧ 0 ≤ c' ∧ c' < 256 ∧ BitVec.ofInt 16 c' = BitVec.ofInt 16 P[k] ^^^ BitVec.ofInt 16 t := ⟨_, rfl, byte_xor P[k] t (cB _ (List.getElem_mem hkl)) ht⟩
      obtain ⟨d', hd', y1, y2, y3⟩ : ∃ d' : Int, ((BitVec.ofInt 8 B[j] ^^^ BitVec.ofInt 8 t : BitVec 8).toNat : Int) = d' ∧ 0 ≤ d' ∧ d' < 256 ∧ BitVec.ofInt 16 d' = BitVec.ofInt 16 B[j] ^^^ BitVec.ofInt 16 t := ⟨_, rfl, byte_xor B[j] t (hB _ (List.getElem_mem hjl)) ht⟩
      have w1 := IntWalk.u8_in c' (by omega)
      have w2 := IntWalk.u8_in d' (by omega)
      have w3 := IntWalk.i64_in (k : Int) (by omega)
      have w4 := IntWalk.i64_in (j : Int) (by omega)
      obtain ⟨Q, hQ⟩ : ∃ Q, Q = P.set k c' := ⟨_, rfl⟩
      obtain ⟨R, hR⟩ : ∃ R, R = B.set j d' := ⟨_, rfl⟩
      have bQ : Bs Q := fun x hx => by
        rw [hQ] at hx
        rcases List.mem_or_eq_of_mem_set hx with hx | rfl
        · exact cB x hx
        · exact ⟨x1, x2⟩
      have bR : Bs R := fun x hx => by
        rw [hR] at hx
        rcases List.mem_or_eq_of_mem_set hx with hx | rfl
        · exact hB x hx
        · exact ⟨y1, y2⟩
      have lQ : Q.length = B.length + 2 := by rw [hQ, List.length_set]; exact cl
      have lR : R.length = B.length := by rw [hR, List.length_set]
      have sh : ¬ t = 0 → (decP Q).2.2 = 3 := fun h => by
        have := shown k hkl t ht h c' x3
        rw [← hQ] at this
        unfold decP
        rw [this]; simp
      have w5 := IntWalk.i64_in (B.length : Int) (by omega)
      have w6 := IntWalk.i64_in cut (by omega)
      obtain ⟨z, hz, hzl⟩ : ∃ z : Nat, cut.tmod (R.length : Int) = (z : Int) ∧ z < R.length := by
        rw [Int.tmod_eq_emod_of_nonneg (by omega)]
        have h1 := Int.emod_nonneg cut (show (R.length : Int) ≠ 0 by omega)
        have h2 := Int.emod_lt_of_pos cut (show 0 < (R.length : Int) by omega)
        exact ⟨(cut % (R.length : Int)).toNat, by omega, by omega⟩
      have w7 := IntWalk.i64_in (z : Int) (by omega)
      have w8 := IntWalk.i64_in ((R.length : Int) - z) (by omega)
      have pne : ¬ P = [] := fun h => by rw [h] at hkl; simp at hkl
      have bne : ¬ B = [] := fun h => by rw [h] at hjl; simp at hjl
      refine IBody.of Tryd.func5 rfl (by rw [Tryd.ntmps5]; simp) ?_
      rw [Tryd.ntmps5]
      have Kp : Kept [[1,2,3,4,5],[1,2,3,4,5,28]] := ⟨⟩
      iterate 2 (refine Kp.s ?_; clear Kp; intro Kp; simp [go_sem, -getElem?_pos, -List.map_take, -List.map_drop, IntWalk.iteOmega, IntWalk.toNatUp, Draft.val, Draft.cells, dcs, byts, hm, Config.val, Config.cells, show ¬ (40 : Int) < M.length by omega])
      refine ICalls.then (noneC _) ?_
      try simp [go_sem, -getElem?_pos, -List.map_take, -List.map_drop, IntWalk.iteOmega, IntWalk.toNatUp, Draft.val, Draft.cells, dcs, byts, hm, Config.val, Config.cells, show ¬ (40 : Int) < M.length by omega]
      refine ICalls.then (shortD' _ d) ?_
      try simp [go_sem, -getElem?_pos, -List.map_take, -List.map_drop, IntWalk.iteOmega, IntWalk.toNatUp, Draft.val, Draft.cells, dcs, byts, hm, Config.val, Config.cells, show ¬ (40 : Int) < M.length by omega]
      have Kp : Kept [[],[1,2,3,4,5],[1,2,3,4,11]] := ⟨⟩
      iterate 3 (refine Kp.s ?_; clear Kp; intro Kp; simp [go_sem, -getElem?_pos, -List.map_take, -List.map_drop, IntWalk.iteOmega, IntWalk.toNatUp, Draft.val, Draft.cells, dcs, byts, hm, Config.val, Config.cells, show ¬ (40 : Int) < M.length by omega])
      refine ICalls.then (mk _) ?_
      try simp [go_sem, -getElem?_pos, -List.map_take, -List.map_drop, IntWalk.iteOmega, IntWalk.toNatUp, Draft.val, Draft.cells, dcs, byts, hm, Config.val, Config.cells, show ¬ (40 : Int) < M.length by omega]
      refine ICalls.then (ce _) ?_
      try simp [go_sem, -getElem?_pos, -List.map_take, -List.map_drop, IntWalk.iteOmega, IntWalk.toNatUp, Draft.val, Draft.cells, dcs, byts, hm, Config.val, Config.cells, show ¬ (40 : Int) < M.length by omega]
      refine IWp.one [1, 2, 3, 4, 11, 12] ?_
      simp [go_sem, -getElem?_pos, -List.map_take, -List.map_drop, IntWalk.iteOmega, IntWalk.toNatUp, Draft.val, Draft.cells, dcs, byts, hm, Config.val, Config.cells, show ¬ (40 : Int) < M.length by omega]
      refine ICalls.mono (joinNil _ P (by omega) (by omega)) ?_
      rintro v K ⟨q, nq, rfl, gq, oq⟩
      try simp [go_sem, -getElem?_pos, -List.map_take, -List.map_drop, IntWalk.iteOmega, IntWalk.toNatUp, Draft.val, Draft.cells, dcs, byts, hm, Config.val, Config.cells, show ¬ (40 : Int) < M.length by omega]
      refine IWp.seq ?_
      refine IWp.one [1, 2, 3, 4, 11, 12] ?_
      simp [go_sem, -getElem?_pos, -List.map_take, -List.map_drop, IntWalk.iteOmega, IntWalk.toNatUp, w0, hk, pne, gq, hkl, List.getElem?_eq_getElem hkl, hc', w1, w3, splice_one, -BitVec.toNat_xor, show ¬ (k : Int) < 0 by omega, show (k : Int) < P.length by omega]
      refine IWp.seq ?_
      rw [show (P.map (Value.int .u8)).set k (.int .u8 c') = Q.map (Value.int .u8) by rw [hQ, List.map_set]]
      have gQ : (K.set q (Q.map (Value.int .u8))).get q = some ⟨Q.map (Value.int .u8), true⟩ := by rw [get_set, if_pos rfl, gq]; rfl
      refine IWp.freezeE (fun x => x == q) (.cons (.same _) (.cons (.same _) (.cons (.same _) (.cons (.same _) (.cons (.same _) (.cons (frz_lit (Q.map (Value.int .u8)) gQ (map_flat _ _) (map_sz .u8 _) (by simp [lQ, cl]) (by simp)) .nil)))))) ?_
      clear gQ gq oq nq
      generalize (Heap.only _ _) = K1
      have c5 := fun K => decodeC K 0 Q (by omega) bQ
      have c6 := fun K => decodesC K 0 Q (by omega) bQ
      have hd3 := sh
      obtain ⟨cw, hcs⟩ := decP_in (L := Q) (by omega) bQ
      generalize (decP Q).1 = cc at *
      generalize (decP Q).2.1 = aa at *
      generalize (decP Q).2.2 = ee at *
      have dt : (if t = 0 then false else decide (¬ ee = 3)) = false := by
        split
        · rfl
        · rename_i h; simp [hd3 h]
      have wP : IntKind.i64.wrap ((P.length : Int) - 2) = (B.length : Int) := by rw [show (P.length : Int) - 2 = B.length by omega]; exact w5
      have rne : ¬ R = [] := fun h => by rw [h] at hzl; simp at hzl
      obtain ⟨J, hJ⟩ : ∃ J, J = R.take (R.length - z) ++ M := ⟨_, rfl⟩
      have lJ : J.length ≤ 800000 - 2 := by rw [hJ, List.length_append, List.length_take]; omega
      have bJ : Bs J := by rw [hJ]; exact bs_app (fun x hx => bR x (List.mem_of_mem_take hx)) hM
      have cj := fun K => join K 0 0 (R.take (R.length - z)) M (by rw [List.length_take]; omega) (by omega)
      rw [← hJ] at cj
      have c8 := fun K => refClose K 0 J (by omega) bJ
      have c9 := fun K => decodesC K 0 (closed J) (by rw [closed_len']; omega) (closed_bs bJ)
      by_cases h0 : t = 0
      · have hdt : (t != 0) = false := by simp [h0]
        refine IWp.one [1, 2, 3, 4, 11, 12, 15] ?_
        simp [go_sem, -getElem?_pos, -List.map_take, -List.map_drop, IntWalk.iteOmega, IntWalk.toNatUp, hdt, Config.val, Config.cells]
        refine ICalls.then (c5 _) ?_
        try simp [go_sem, -getElem?_pos, -List.map_take, -List.map_drop, IntWalk.iteOmega, IntWalk.toNatUp, hdt, Config.val, Config.cells]
        refine IWp.one [1, 2, 3, 4, 11, 62] ?_
        simp [go_sem, -getElem?_pos, -List.map_take, -List.map_drop, IntWalk.iteOmega, IntWalk.toNatUp, hdt, Config.val, Config.cells]
        refine ICalls.then (c6 _) ?_
        try simp [go_sem, -getElem?_pos, -List.map_take, -List.map_drop, IntWalk.iteOmega, IntWalk.toNatUp, hdt, Config.val, Config.cells]
        have Kp : Kept [[],[1,2,3,4,11]] := ⟨⟩
        iterate 2 (refine Kp.s ?_; clear Kp; intro Kp; simp [go_sem, -getElem?_pos, -List.map_take, -List.map_drop, IntWalk.iteOmega, IntWalk.toNatUp, hdt, Config.val, Config.cells])
        refine IWp.seq ?_
        refine IWp.one [1, 2, 3, 4, 16] ?_
        simp [go_sem, -getElem?_pos, -List.map_take, -List.map_drop, IntWalk.iteOmega, IntWalk.toNatUp, wP, e1, show (B.length : Int) ≤ P.length by omega, show B.length ≤ P.length by omega]
        refine ICalls.mono (joinNil _ B (by omega) (by omega)) ?_
        rintro v K ⟨q, nq, rfl, gq, oq⟩
        try simp [go_sem, -getElem?_pos, -List.map_take, -List.map_drop, IntWalk.iteOmega, IntWalk.toNatUp, wP, e1, show (B.length : Int) ≤ P.length by omega, show B.length ≤ P.length by omega]
        refine IWp.seq ?_
        refine IWp.one [3, 4, 16] ?_
        simp [go_sem, -getElem?_pos, -List.map_take, -List.map_drop, IntWalk.iteOmega, IntWalk.toNatUp, w0, hj, bne, gq, hjl, List.getElem?_eq_getElem hjl, hd', w2, w4, splice_one, -BitVec.toNat_xor, show ¬ (j : Int) < 0 by omega, show (j : Int) < B.length by omega]
        refine IWp.seq ?_
        rw [show (B.map (Value.int .u8)).set j (.int .u8 d') = R.map (Value.int .u8) by rw [hR, List.map_set]]
        have gR : (K.set q (R.map (Value.int .u8))).get q = some ⟨R.map (Value.int .u8), true⟩ := by rw [get_set, if_pos rfl, gq]; rfl
        refine IWp.freezeE (fun x => x == q) (.cons (.same _) (.cons (.same _) (.cons (frz_lit (R.map (Value.int .u8)) gR (map_flat _ _) (map_sz .u8 _) (by simp [lR]) (by simp)) .nil))) ?_
        clear gR gq oq nq
        generalize (Heap.only _ _) = K2
        refine IWp.one [10] ?_
        simp [go_sem, -getElem?_pos, -List.map_take, -List.map_drop, IntWalk.iteOmega, IntWalk.toNatUp, w6, hz, w7, w8, rne, show ((R.length : Int) - z).toNat = R.length - z by omega, show (0 : Int) ≤ (R.length : Int) - z by omega, show (R.length : Int) - z ≤ R.length by omega]
        refine ICalls.then (cj _) ?_
        try simp [go_sem, -getElem?_pos, -List.map_take, -List.map_drop, IntWalk.iteOmega, IntWalk.toNatUp, w6, hz, w7, w8, rne, show ((R.length : Int) - z).toNat = R.length - z by omega, show (0 : Int) ≤ (R.length : Int) - z by omega, show (R.length : Int) - z ≤ R.length by omega]
        refine ICalls.then (c8 _) ?_
        try simp [go_sem, -getElem?_pos, -List.map_take, -List.map_drop, IntWalk.iteOmega, IntWalk.toNatUp, w6, hz, w7, w8, rne, show ((R.length : Int) - z).toNat = R.length - z by omega, show (0 : Int) ≤ (R.length : Int) - z by omega, show (R.length : Int) - z ≤ R.length by omega]
        refine ICalls.then (c9 _) ?_
        try simp [go_sem, -getElem?_pos, -List.map_take, -List.map_drop, IntWalk.iteOmega, IntWalk.toNatUp, w6, hz, w7, w8, rne, show ((R.length : Int) - z).toNat = R.length - z by omega, show (0 : Int) ≤ (R.length : Int) - z by omega, show (R.length : Int) - z ≤ R.length by omega]
        refine IWp.one [] ?_
        simp [go_sem, -getElem?_pos, -List.map_take, -List.map_drop, IntWalk.iteOmega, IntWalk.toNatUp, w6, hz, w7, w8, rne, show ((R.length : Int) - z).toNat = R.length - z by omega, show (0 : Int) ≤ (R.length : Int) - z by omega, show (R.length : Int) - z ≤ R.length by omega]
      · have e3 := hd3 h0
        have hdt := decide_eq_false h0
        refine IWp.one [1, 2, 3, 4, 11, 12, 15] ?_
        simp [go_sem, -getElem?_pos, -List.map_take, -List.map_drop, IntWalk.iteOmega, IntWalk.toNatUp, hdt, e3, Config.val, Config.cells]
        refine ICalls.then (c5 _) ?_
        try simp [go_sem, -getElem?_pos, -List.map_take, -List.map_drop, IntWalk.iteOmega, IntWalk.toNatUp, hdt, e3, Config.val, Config.cells]
        refine IWp.one [1, 2, 3, 4, 11, 62] ?_
        simp [go_sem, -getElem?_pos, -List.map_take, -List.map_drop, IntWalk.iteOmega, IntWalk.toNatUp, hdt, e3, Config.val, Config.cells]
        refine ICalls.then (c6 _) ?_
        try simp [go_sem, -getElem?_pos, -List.map_take, -List.map_drop, IntWalk.iteOmega, IntWalk.toNatUp, hdt, e3, Config.val, Config.cells]
        have Kp : Kept [[],[1,2,3,4,11]] := ⟨⟩
        iterate 2 (refine Kp.s ?_; clear Kp; intro Kp; simp [go_sem, -getElem?_pos, -List.map_take, -List.map_drop, IntWalk.iteOmega, IntWalk.toNatUp, hdt, e3, Config.val, Config.cells])
        refine IWp.seq ?_
        refine IWp.one [1, 2, 3, 4, 16] ?_
        simp [go_sem, -getElem?_pos, -List.map_take, -List.map_drop, IntWalk.iteOmega, IntWalk.toNatUp, wP, e1, show (B.length : Int) ≤ P.length by omega, show B.length ≤ P.length by omega]
        refine ICalls.mono (joinNil _ B (by omega) (by omega)) ?_
        rintro v K ⟨q, nq, rfl, gq, oq⟩
        try simp [go_sem, -getElem?_pos, -List.map_take, -List.map_drop, IntWalk.iteOmega, IntWalk.toNatUp, wP, e1, show (B.length : Int) ≤ P.length by omega, show B.length ≤ P.length by omega]
        refine IWp.seq ?_
        refine IWp.one [3, 4, 16] ?_
        simp [go_sem, -getElem?_pos, -List.map_take, -List.map_drop, IntWalk.iteOmega, IntWalk.toNatUp, w0, hj, bne, gq, hjl, List.getElem?_eq_getElem hjl, hd', w2, w4, splice_one, -BitVec.toNat_xor, show ¬ (j : Int) < 0 by omega, show (j : Int) < B.length by omega]
        refine IWp.seq ?_
        rw [show (B.map (Value.int .u8)).set j (.int .u8 d') = R.map (Value.int .u8) by rw [hR, List.map_set]]
        have gR : (K.set q (R.map (Value.int .u8))).get q = some ⟨R.map (Value.int .u8), true⟩ := by rw [get_set, if_pos rfl, gq]; rfl
        refine IWp.freezeE (fun x => x == q) (.cons (.same _) (.cons (.same _) (.cons (frz_lit (R.map (Value.int .u8)) gR (map_flat _ _) (map_sz .u8 _) (by simp [lR]) (by simp)) .nil))) ?_
        clear gR gq oq nq
        generalize (Heap.only _ _) = K2
        refine IWp.one [10] ?_
        simp [go_sem, -getElem?_pos, -List.map_take, -List.map_drop, IntWalk.iteOmega, IntWalk.toNatUp, w6, hz, w7, w8, rne, show ((R.length : Int) - z).toNat = R.length - z by omega, show (0 : Int) ≤ (R.length : Int) - z by omega, show (R.length : Int) - z ≤ R.length by omega]
        refine ICalls.then (cj _) ?_
        try simp [go_sem, -getElem?_pos, -List.map_take, -List.map_drop, IntWalk.iteOmega, IntWalk.toNatUp, w6, hz, w7, w8, rne, show ((R.length : Int) - z).toNat = R.length - z by omega, show (0 : Int) ≤ (R.length : Int) - z by omega, show (R.length : Int) - z ≤ R.length by omega]
        refine ICalls.then (c8 _) ?_
        try simp [go_sem, -getElem?_pos, -List.map_take, -List.map_drop, IntWalk.iteOmega, IntWalk.toNatUp, w6, hz, w7, w8, rne, show ((R.length : Int) - z).toNat = R.length - z by omega, show (0 : Int) ≤ (R.length : Int) - z by omega, show (R.length : Int) - z ≤ R.length by omega]
        refine ICalls.then (c9 _) ?_
        try simp [go_sem, -getElem?_pos, -List.map_take, -List.map_drop, IntWalk.iteOmega, IntWalk.toNatUp, w6, hz, w7, w8, rne, show ((R.length : Int) - z).toNat = R.length - z by omega, show (0 : Int) ≤ (R.length : Int) - z by omega, show (R.length : Int) - z ≤ R.length by omega]
        refine IWp.one [] ?_
        simp [go_sem, -getElem?_pos, -List.map_take, -List.map_drop, IntWalk.iteOmega, IntWalk.toNatUp, w6, hz, w7, w8, rne, show ((R.length : Int) - z).toNat = R.length - z by omega, show (0 : Int) ≤ (R.length : Int) - z by omega, show (R.length : Int) - z ≤ R.length by omega]
  · have dcs := decide_eq_false hs
    refine IBody.of Tryd.func5 rfl (by rw [Tryd.ntmps5]; simp) ?_
    rw [Tryd.ntmps5]
    have Kp : Kept [[1,2,3,4,5],[1,2,3,4,5,28]] := ⟨⟩
    iterate 2 (refine Kp.s ?_; clear Kp; intro Kp; simp [go_sem, -getElem?_pos, -List.map_take, -List.map_drop, IntWalk.iteOmega, IntWalk.toNatUp, Draft.val, Draft.cells, dcs])
    refine ICalls.then (noneC _) ?_
    try simp [go_sem, -getElem?_pos, -List.map_take, -List.map_drop, IntWalk.iteOmega, IntWalk.toNatUp, Draft.val, Draft.cells, dcs]
    refine ICalls.then (shortD' _ d) ?_
    try simp [go_sem, -getElem?_pos, -List.map_take, -List.map_drop, IntWalk.iteOmega, IntWalk.toNatUp, Draft.val, Draft.cells, dcs]
    have Kp : Kept [[],[10]] := ⟨⟩
    iterate 2 (refine Kp.s ?_; clear Kp; intro Kp; simp [go_sem, -getElem?_pos, -List.map_take, -List.map_drop, IntWalk.iteOmega, IntWalk.toNatUp, Draft.val, Draft.cells, dcs])
    refine ICalls.then (noneC _) ?_
    try simp [go_sem, -getElem?_pos, -List.map_take, -List.map_drop, IntWalk.iteOmega, IntWalk.toNatUp, Draft.val, Draft.cells, dcs]
    refine IWp.one [] ?_
    simp [go_sem, -getElem?_pos, -List.map_take, -List.map_drop, IntWalk.iteOmega, IntWalk.toNatUp, Draft.val, Draft.cells, dcs]
end Go.Proofs.YtoecebibhcadoaaDoor.I
