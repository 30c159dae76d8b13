/- The sum of bytes as the document says it: bit by bit, in an array of truths. No condition. -/
import Derived.Test.YtoecebibhcadoaaDoorGSum
namespace Go.Proofs.YtoecebibhcadoaaDoor.I
open Go Go.RowKit
set_option linter.unusedVariables false
set_option linter.unusedSimpArgs false
def boolCells (f : Nat → Bool) : List Value := (List.range 16).map fun j => .bool (f j)
theorem boolCells_length (f : Nat → Bool) : (boolCells f).length = 16 := by simp [boolCells]
theorem boolCells_get (f : Nat → Bool) (i : Nat) (h : i < 16) : (boolCells f)[i]? = some (.bool (f i)) := by simp [boolCells, h]
theorem boolCells_put (f : Nat → Bool) (i : Nat) (h : i < 16) (v : Bool) : splice (boolCells f) i [.bool v] = boolCells fun j => if j = i then v else f j := by
  apply List.ext_getElem?
  intro j
  rw [splice_get (by rw [boolCells_length]; simp; omega)]
  by_cases hj : j < 16
  · rw [boolCells_get _ j hj]
    by_cases h1 : j < i
    · rw [if_pos h1, boolCells_get _ j hj, if_neg (by omega)]
    · rw [if_neg h1]
      by_cases h2 : j = i
      · subst h2; rw [boolCells_get _ j hj]; simp
      · rw [if_neg (by simp; omega), boolCells_get _ j hj, if_neg h2]
  · rw [if_neg (by omega), if_neg (by simp; omega)]
    rw [List.getElem?_eq_none (by rw [boolCells_length]; omega), List.getElem?_eq_none (by rw [boolCells_length]; omega)]
theorem boolCells_congr {f g : Nat → Bool} (h : ∀ j, j < 16 → f j = g j) : boolCells f = boolCells g := by
  unfold boolCells
  apply List.map_congr_left
  intro j hj
  rw [h j (List.mem_range.1 hj)]
def bitStep (x : BitVec 16) (t : Bool) : BitVec 16 := if x.getLsbD 15 = t then x <<< 1 else (x <<< 1) ^^^ 4129#16
def bitSteps (x : BitVec 16) (b : Nat) : Nat → BitVec 16
  | 0 => x
  | k + 1 => bitStep (bitSteps x b k) (b.testBit (7 - k))
theorem top_bit (z : BitVec 16) : (z &&& 32768#16 = 0#16) ↔ z.getLsbD 15 = false := by
  constructor
  · intro h
    have h2 := congrArg (fun y : BitVec 16 => y.getLsbD 15) h
    simpa [BitVec.getLsbD_and] using h2
  · intro h
    apply BitVec.eq_of_getLsbD_eq
    intro i hi
    rw [BitVec.getLsbD_and]
    by_cases h1 : i = 15
    · subst h1; rw [h]; rfl
    · have : ∀ j : Fin 16, (j : Nat) ≠ 15 → (32768#16).getLsbD j = false := by decide
      rw [this ⟨i, hi⟩ h1]; simp
theorem turns_bits (x : BitVec 16) (b : Nat) (hb : b < 256) : ∀ k, k ≤ 8 → turns k (x ^^^ (BitVec.ofNat 16 b <<< 8)) = bitSteps x b k ^^^ (BitVec.ofNat 16 b <<< (8 + k))
  | 0, _ => rfl
  | k + 1, hk => by
    have ih := turns_bits x b hb k (by omega)
    simp only [turns, bitSteps]
    rw [ih]
    have hbit : (BitVec.ofNat 16 b <<< (8 + k)).getLsbD 15 = b.testBit (7 - k) := by
      rw [BitVec.getLsbD_shiftLeft, BitVec.getLsbD_ofNat]
      simp [show ¬ 15 < 8 + k by omega, show 15 - (8 + k) = 7 - k by omega, show 7 - k < 16 by omega]
    have hsh : BitVec.ofNat 16 b <<< (8 + (k + 1)) = (BitVec.ofNat 16 b <<< (8 + k)) <<< 1 := by rw [← BitVec.shiftLeft_add]; rfl
    unfold turn1 bitStep
    rw [hsh]
    generalize BitVec.ofNat 16 b <<< (8 + k) = w at hbit
    generalize bitSteps x b k = y
    have htop : ((y ^^^ w) &&& 32768#16 = 0#16) ↔ y.getLsbD 15 = b.testBit (7 - k) := by
      rw [top_bit, BitVec.getLsbD_xor, hbit]
      cases y.getLsbD 15 <;> cases b.testBit (7 - k) <;> simp
    by_cases h : y.getLsbD 15 = b.testBit (7 - k)
    · rw [if_pos (htop.2 h), if_pos h, BitVec.shiftLeft_xor_distrib]
    · rw [if_neg (fun e => h (htop.1 e)), if_neg h, BitVec.shiftLeft_xor_distrib, BitVec.xor_assoc, BitVec.xor_comm (w <<< 1), BitVec.xor_assoc]
theorem crcByte_bits (x : BitVec 16) (b : Nat) (hb : b < 256) : crcByte x (b : Int) = bitSteps x b 8 := by
  have e : BitVec.ofInt 16 (b : Int) = BitVec.ofNat 16 b := by apply BitVec.eq_of_toNat_eq; rw [BitVec.toNat_ofInt, BitVec.toNat_ofNat]; omega
  have h := turns_bits x b hb 8 (Nat.le_refl _)
  have hz : BitVec.ofNat 16 b <<< (8 + 8) = 0#16 := by
    apply BitVec.eq_of_toNat_eq; rw [BitVec.toNat_shiftLeft, Nat.shiftLeft_eq, BitVec.toNat_ofNat]
    show b % 65536 * 65536 % 65536 = 0
    exact Nat.mul_mod_left _ _
  rw [hz, BitVec.xor_zero] at h
  unfold crcByte
  rw [e, h]
def bitsOf (x : BitVec 16) : List Value := boolCells fun j => x.getLsbD j
theorem bit_of (bn m : Nat) (hm : m < 8) : (decide (((bn : Int).fdiv (2 ^ min (7 - m) 8)).tmod 2 = 1)) = bn.testBit (7 - m) := by
  have e : ((bn : Int).fdiv (2 ^ min (7 - m) 8)) = ((bn / 2 ^ (7 - m) : Nat) : Int) := by
    rw [Nat.min_eq_left (by omega), Int.fdiv_eq_ediv_of_nonneg _ (by exact Int.pow_nonneg (by decide))]
    simp
  rw [e, Nat.testBit_eq_decide_div_mod_eq]
  generalize bn / 2 ^ (7 - m) = d
  rw [Int.tmod_eq_emod_of_nonneg (by omega)]
  congr 1
  apply propext
  omega
theorem shifted (y : BitVec 16) : (boolCells fun j => if j = 0 then false else if 15 - 15 < j then y.getLsbD (j - 1) else y.getLsbD j) = bitsOf (y <<< 1) := boolCells_congr fun j hj => by
  rw [BitVec.getLsbD_shiftLeft]
  by_cases h0 : j = 0
  · subst h0; simp
  · simp [h0, show ¬ j < 1 by omega, show 0 < j by omega, hj]
theorem turned (z : BitVec 16) : (boolCells fun j => if j = 0 then !z.getLsbD 0 else if j = 5 then !z.getLsbD 5 else if j = 12 then !z.getLsbD 12 else z.getLsbD j) = bitsOf (z ^^^ 4129#16) := boolCells_congr fun j hj => by
  rw [BitVec.getLsbD_xor]
  have h : ∀ j : Fin 16, (4129#16).getLsbD j = decide ((j : Nat) = 0 ∨ (j : Nat) = 5 ∨ (j : Nat) = 12) := by decide
  rw [h ⟨j, hj⟩]
  by_cases h0 : j = 0
  · subst h0; simp
  · by_cases h5 : j = 5
    · subst h5; simp
    · by_cases h12 : j = 12
      · subst h12; simp
      · simp [h0, h5, h12]
theorem ones_bits : (boolCells fun j => decide (j < 16)) = bitsOf 65535#16 := boolCells_congr fun j hj => by
  have : ∀ j : Fin 16, decide ((j : Nat) < 16) = (65535#16).getLsbD j := by decide
  exact this ⟨j, hj⟩
def numTop (x : BitVec 16) (k : Nat) : Nat := x.toNat / 2 ^ (16 - k)
theorem numTop_succ (x : BitVec 16) (k : Nat) (hk : k < 16) : numTop x (k + 1) = 2 * numTop x k + (x.getLsbD (15 - k)).toNat := by
  unfold numTop
  have e : x.getLsbD (15 - k) = decide (x.toNat / 2 ^ (15 - k) % 2 = 1) := by
    rw [BitVec.getLsbD, Nat.testBit_eq_decide_div_mod_eq]
  rw [e, show 16 - (k + 1) = 15 - k by omega, show 16 - k = (15 - k) + 1 by omega, Nat.pow_succ, ← Nat.div_div_eq_div_mul]
  generalize x.toNat / 2 ^ (15 - k) = d
  by_cases h : d % 2 = 1
  · simp [h]; omega
  · simp [h]; omega
theorem numTop_le (x : BitVec 16) (k : Nat) : numTop x k ≤ x.toNat := Nat.div_le_self _ _
theorem refOf (H : Heap) (m : Int) (L : List Int) (hL : L.length ≤ 1000000) (hB : Bs L) :
    ICalls Tryd.prog 43 [frow 1 m (L.map (Value.int .u8))] H fun v H' => v = .int .u16 ((crc L).toNat : Int) ∧ H' = H := by
  refine ICalls.ans (by simp [go_sem]) fun H => IBody.calls (by kernel_rfl) ?_
  refine IBody.of Tryd.func43 rfl (by rw [Tryd.ntmps43]; simp) ?_
  rw [Tryd.ntmps43]
  have Kp : Kept [[0],[0,3],[0,3,4]] := ⟨⟩
  iterate 3 (refine Kp.s ?_; clear Kp; intro Kp; simp [go_sem, -getElem?_pos, -List.map_take, -List.map_drop, IntWalk.iteOmega, IntWalk.toNatUp])
  refine IWp.block ?_
  have hz : [Value.bool false, .bool false, .bool false, .bool false, .bool false, .bool false, .bool false, .bool false, .bool false, .bool false, .bool false, .bool false, .bool false, .bool false, .bool false, .bool false] = boolCells fun j => decide (j < 0) := by simp [boolCells, List.range, List.range.loop]
  rw [hz]
  refine IWp.loop (fun j e K => ∃ i : Nat, j = 16 - i ∧ i ≤ 16 ∧ e = [(0, frow 1 m (L.map (Value.int .u8))), (3, .pointer (some ⟨H.next, 0, none⟩)), (4, .int .i64 (i : Int))] ∧ K = H.alloc (boolCells fun j => decide (j < i))) 16 ⟨0, rfl, by omega, rfl, rfl⟩ ?_
  rintro j e K ⟨i, rfl, hi, rfl, rfl⟩
  by_cases hlt : i < 16
  · have w1 := IntWalk.i64_in ((i : Int) + 1) (by omega)
    have hcg : (boolCells fun j => decide (j = i) || decide (j < i)) = boolCells fun j => decide (j < i + 1) := boolCells_congr fun j _ => by
      by_cases h1 : j < i
      · simp [h1, show j < i + 1 by omega]
      · by_cases h2 : j = i
        · simp [h2]
        · simp [h1, h2, show ¬ j < i + 1 by omega]
    have Kp : Kept [[0,3,4,12],[],[0,3,4],[0,3,4],[0,3,4]] := ⟨⟩
    iterate 5 (refine Kp.s ?_; clear Kp; intro Kp; simp [go_sem, -getElem?_pos, -List.map_take, -List.map_drop, IntWalk.iteOmega, IntWalk.toNatUp, hlt, w1, boolCells_put, boolCells_length, hcg, show (i : Int) < 16 by omega, show ¬ ((i : Int) < 0) by omega, show i + 1 ≤ 16 by omega])
    exact ⟨16 - (i + 1), by omega, i + 1, rfl, by omega, rfl, rfl⟩
  · have hi16 : i = 16 := by omega
    subst hi16
    have Kp : Kept [[0,3,4,12],[],[0,3],[0,3,5]] := ⟨⟩
    iterate 4 (refine Kp.s ?_; clear Kp; intro Kp; simp [go_sem, -getElem?_pos, -List.map_take, -List.map_drop, IntWalk.iteOmega, IntWalk.toNatUp, ones_bits])
    refine IWp.block ?_
    clear hz hlt hi
    refine IWp.loop (fun j e K2 => ∃ i : Nat, j = L.length - i ∧ i ≤ L.length ∧ e = [(0, frow 1 m (L.map (Value.int .u8))), (3, .pointer (some ⟨H.next, 0, none⟩)), (5, .int .i64 (i : Int))] ∧ K2 = H.alloc (bitsOf (crc (L.take i)))) L.length ⟨0, rfl, Nat.zero_le _, rfl, rfl⟩ ?_
    rintro j e K2 ⟨i, rfl, hi, rfl, rfl⟩
    by_cases hlt : i < L.length
    · have w1 := IntWalk.i64_in ((i : Int) + 1) (by omega)
      have Kp : Kept [[0,3,5,20],[],[0,3,5],[0,3,5,6]] := ⟨⟩
      iterate 4 (refine Kp.s ?_; clear Kp; intro Kp; simp [go_sem, -getElem?_pos, -List.map_take, -List.map_drop, IntWalk.iteOmega, IntWalk.toNatUp, show (i : Int) < L.length by omega])
      refine IWp.block ?_
      have hb := hB _ (List.getElem_mem hlt)
      obtain ⟨bn, hbn⟩ : ∃ bn : Nat, L[i] = (bn : Int) := ⟨L[i].toNat, by omega⟩
      have a1 : L[i]? = some (bn : Int) := by rw [List.getElem?_eq_getElem hlt, hbn]
      refine IWp.loop (fun j e K3 => ∃ k : Nat, j = 8 - k ∧ k ≤ 8 ∧ e = [(0, frow 1 m (L.map (Value.int .u8))), (3, .pointer (some ⟨H.next, 0, none⟩)), (5, .int .i64 (i : Int)), (6, .int .i64 (7 - (k : Int)))] ∧ K3 = H.alloc (bitsOf (bitSteps (crc (L.take i)) bn k))) 8 ⟨0, rfl, by omega, rfl, rfl⟩ ?_
      rintro j e K3 ⟨k, rfl, hm, rfl, rfl⟩
      by_cases hm8 : k < 8
      · have w2 := IntWalk.i64_in (7 - (k : Int)) (by omega)
        have Kp : Kept [[0,3,5,6,24],[],[0,3,5,6]] := ⟨⟩
        iterate 3 (refine Kp.s ?_; clear Kp; intro Kp; simp [go_sem, -getElem?_pos, -List.map_take, -List.map_drop, IntWalk.iteOmega, IntWalk.toNatUp, hlt, a1, w2, show ¬ (7 < (k : Int)) by omega, show (k : Int) ≤ 7 by omega, boolCells_get, bitsOf, show ¬ ((i : Int) < 0) by omega])
        refine IWp.seq ?_
        refine IWp.block ?_
        refine IWp.seq ?_
        refine IWp.read [0, 3, 5, 6, 7] follows (by kernel_rfl) ?_
        simp [go_sem, -getElem?_pos, -List.map_take, -List.map_drop, IntWalk.iteOmega, IntWalk.toNatUp, hlt, a1, w2, show ¬ (7 < (k : Int)) by omega, show (k : Int) ≤ 7 by omega, boolCells_get, bitsOf, show ¬ ((i : Int) < 0) by omega]
        refine IWp.one [0, 3, 5, 6, 7, 8] ?_
        simp [go_sem, -getElem?_pos, -List.map_take, -List.map_drop, IntWalk.iteOmega, IntWalk.toNatUp, hlt, a1, w2, show ¬ (7 < (k : Int)) by omega, show (k : Int) ≤ 7 by omega, boolCells_get, bitsOf, show ¬ ((i : Int) < 0) by omega]
        refine IWp.block ?_
        rw [bit_of bn k hm8]
        have hnext : bitSteps (crc (L.take i)) bn (k + 1) = bitStep (bitSteps (crc (L.take i)) bn k) (bn.testBit (7 - k)) := rfl
        generalize hy : bitSteps (crc (L.take i)) bn k = y at hnext
        generalize ht : bn.testBit (7 - k) = tb at hnext
        refine IWp.loop (fun j e K4 => ∃ q : Nat, j = 15 - q ∧ q ≤ 15 ∧ e = [(0, frow 1 m (L.map (Value.int .u8))), (3, .pointer (some ⟨H.next, 0, none⟩)), (5, .int .i64 (i : Int)), (6, .int .i64 (7 - (k : Int))), (7, .bool (!(y.getLsbD 15 == tb))), (8, .int .i64 (15 - (q : Int)))] ∧
          K4 = H.alloc (boolCells fun j => if 15 - q < j then y.getLsbD (j - 1) else y.getLsbD j)) 15 ⟨0, rfl, by omega, by simp [BitVec.getLsbD_eq_getElem], ?_⟩ ?_
        · rw [boolCells_congr (f := fun j => if 15 - 0 < j then y.getLsbD (j - 1) else y.getLsbD j) (g := fun j => y.getLsbD j) (fun j hj => by rw [if_neg (by omega)])]
        · rintro j e K4 ⟨q, rfl, hq, rfl, rfl⟩
          by_cases hq15 : q < 15
          · have w3 := IntWalk.i64_in (15 - (q : Int) - 1) (by omega)
            have w4 : (15 - (q : Int)).toNat = 15 - q := by omega
            have w5 : (15 - (q : Int) - 1).toNat = 14 - q := by omega
            have hcg : (boolCells fun j => if j = 15 - q then y.getLsbD (14 - q) else if 15 - q < j then y.getLsbD (j - 1) else y.getLsbD j) = boolCells fun j => if 15 - (q + 1) < j then y.getLsbD (j - 1) else y.getLsbD j := boolCells_congr fun j hj => by
              by_cases h1 : j = 15 - q
              · rw [if_pos h1, if_pos (by omega), show j - 1 = 14 - q by omega]
              · by_cases h2 : 15 - q < j
                · rw [if_neg h1, if_pos h2, if_pos (by omega)]
                · rw [if_neg h1, if_neg h2, if_neg (by omega)]
            have Kp : Kept [[0,3,5,6,7,8,39],[],[0,3,5,6,7,8],[0,3,5,6,7,8],[0,3,5,6,7,8]] := ⟨⟩
            iterate 5 (refine Kp.s ?_; clear Kp; intro Kp; simp [go_sem, -getElem?_pos, -List.map_take, -List.map_drop, IntWalk.iteOmega, IntWalk.toNatUp, w3, w4, w5, show 14 - q < 16 by omega, show 15 - q < 16 by omega, show 15 - q + 1 ≤ 16 by omega, -BitVec.getLsbD_eq_getElem, boolCells_get, boolCells_put, boolCells_length, show 0 < 15 - (q : Int) by omega, show ¬ (15 - (q : Int) < 0) by omega, show ¬ (15 - (q : Int) - 1 < 0) by omega])
            refine ⟨15 - (q + 1), by omega, q + 1, rfl, by omega, by simp; omega, ?_⟩
            rw [hcg]
          · have hq9 : q = 15 := by omega
            subst hq9
            have hcg : (boolCells fun j => !decide (j = 0) && if 0 < j then y.getLsbD (j - 1) else y.getLsbD j) = bitsOf (y <<< 1) := boolCells_congr fun j hj => by
              rw [BitVec.getLsbD_shiftLeft]
              by_cases h0 : j = 0
              · subst h0; simp
              · simp [h0, show ¬ j < 1 by omega, show 0 < j by omega, hj]
            have Kp : Kept [[0,3,5,6,7,8,39],[],[0,3,5,6,7],[0,3,5,6,7],[0,3,5,6,49]] := ⟨⟩
            iterate 5 (refine Kp.s ?_; clear Kp; intro Kp; simp [go_sem, -getElem?_pos, -List.map_take, -List.map_drop, IntWalk.iteOmega, IntWalk.toNatUp, -BitVec.getLsbD_eq_getElem, boolCells_get, boolCells_put, boolCells_length])
            rw [hcg]
            by_cases htb : y.getLsbD 15 = tb
            · have hn2 : bitSteps (crc (L.take i)) bn (k + 1) = y <<< 1 := by rw [hnext]; unfold bitStep; rw [if_pos htb]
              have Kp : Kept [[],[0,3,5,6],[0,3,5,6]] := ⟨⟩
              iterate 3 (refine Kp.s ?_; clear Kp; intro Kp; simp [go_sem, -getElem?_pos, -List.map_take, -List.map_drop, IntWalk.iteOmega, IntWalk.toNatUp, htb, w2, -BitVec.getLsbD_eq_getElem])
              exact ⟨8 - (k + 1), by omega, k + 1, rfl, by omega, by rw [IntWalk.i64_in _ (by omega)]; omega, by rw [hn2]; rfl⟩
            · have hn2 : bitSteps (crc (L.take i)) bn (k + 1) = (y <<< 1) ^^^ 4129#16 := by rw [hnext]; unfold bitStep; rw [if_neg htb]
              generalize y <<< 1 = z at hn2
              have htb2 : (y.getLsbD 15 == tb) = false := by simpa using htb
              have Kp : Kept [[],[0,3,5,6],[0,3,5,6],[0,3,5,6],[0,3,5,6]] := ⟨⟩
              iterate 5 (refine Kp.s ?_; clear Kp; intro Kp; simp [go_sem, -getElem?_pos, -List.map_take, -List.map_drop, IntWalk.iteOmega, IntWalk.toNatUp, htb2, w2, bitsOf, -BitVec.getLsbD_eq_getElem, boolCells_get, boolCells_put, boolCells_length])
              exact ⟨8 - (k + 1), by omega, k + 1, rfl, by omega, by rw [IntWalk.i64_in _ (by omega)]; omega, by rw [hn2, turned]; rfl⟩
      · have hm9 : k = 8 := by omega
        subst hm9
        have Kp : Kept [[0,3,5,6,24],[],[0,3,5],[0,3,5]] := ⟨⟩
        iterate 4 (refine Kp.s ?_; clear Kp; intro Kp; simp [go_sem, -getElem?_pos, -List.map_take, -List.map_drop, IntWalk.iteOmega, IntWalk.toNatUp, w1])
        have hcb : crc (L.take (i + 1)) = bitSteps (crc (L.take i)) bn 8 := by
          rw [List.take_succ_eq_append_getElem hlt, ← crcByte_bits _ bn (by omega), ← hbn]
          simp only [crc, List.foldl_append, List.foldl_cons, List.foldl_nil]
        exact ⟨L.length - (i + 1), by omega, i + 1, rfl, by omega, rfl, by rw [hcb]⟩
    · skip
      have Kp : Kept [[0,3,5,20],[],[3],[3,9],[3,9,10]] := ⟨⟩
      iterate 5 (refine Kp.s ?_; clear Kp; intro Kp; simp [go_sem, -getElem?_pos, -List.map_take, -List.map_drop, IntWalk.iteOmega, IntWalk.toNatUp, show ¬ ((i : Int) < L.length) by omega])
      refine IWp.block ?_
      rw [List.take_of_length_le (by omega)]
      generalize crc L = x
      have hx := x.isLt
      refine IWp.loop (fun j e K => ∃ k : Nat, j = 16 - k ∧ k ≤ 16 ∧ e = [(3, .pointer (some ⟨H.next, 0, none⟩)), (9, .int .u16 (numTop x k : Int)), (10, .int .i64 (15 - (k : Int)))] ∧ K = H.alloc (bitsOf x)) 16 ⟨0, rfl, by omega, by simp [numTop, Nat.div_eq_of_lt hx], rfl⟩ ?_
      rintro j e K ⟨k, rfl, hk, rfl, rfl⟩
      by_cases hk16 : k < 16
      · have hs := numTop_succ x k hk16
        have hle := numTop_le x (k + 1)
        have w1 := IntWalk.i64_in (15 - (k : Int) - 1) (by omega)
        have w2 := IntWalk.u16_in ((numTop x k : Int) * 2) (by omega)
        have w3 : (15 - (k : Int)).toNat = 15 - k := by omega
        by_cases hb : x.getLsbD (15 - k) = true
        · have w4 := IntWalk.u16_in ((numTop x k : Int) * 2 + 1) (by rw [hb] at hs; simp at hs; omega)
          have Kp : Kept [[3,9,10,63],[],[3,9,10],[3,9,10],[3,9,10,70],[],[3,9,10],[3,9,10]] := ⟨⟩
          iterate 8 (refine Kp.s ?_; clear Kp; intro Kp; simp [go_sem, -getElem?_pos, -List.map_take, -List.map_drop, IntWalk.iteOmega, IntWalk.toNatUp, w1, w2, w3, w4, hb, bitsOf, -BitVec.getLsbD_eq_getElem, boolCells_get, show (k : Int) ≤ 15 by omega, show ¬ (15 - (k : Int) < 0) by omega, show 15 - k < 16 by omega])
          exact ⟨16 - (k + 1), by omega, k + 1, rfl, by omega, by rw [hs, hb]; simp; omega, by omega⟩
        · have hb : x.getLsbD (15 - k) = false := by simpa using hb
          have Kp : Kept [[3,9,10,63],[],[3,9,10],[3,9,10],[3,9,10,70],[],[3,9,10],[3,9,10]] := ⟨⟩
          iterate 8 (refine Kp.s ?_; clear Kp; intro Kp; simp [go_sem, -getElem?_pos, -List.map_take, -List.map_drop, IntWalk.iteOmega, IntWalk.toNatUp, w1, w2, w3, hb, bitsOf, -BitVec.getLsbD_eq_getElem, boolCells_get, show (k : Int) ≤ 15 by omega, show ¬ (15 - (k : Int) < 0) by omega, show 15 - k < 16 by omega])
          exact ⟨16 - (k + 1), by omega, k + 1, rfl, by omega, by rw [hs, hb]; simp; omega, by omega⟩
      · have hk2 : k = 16 := by omega
        subst hk2
        have Kp : Kept [[3,9,10,63],[],[9],[2],[]] := ⟨⟩
        iterate 5 (refine Kp.s ?_; clear Kp; intro Kp; simp [go_sem, -getElem?_pos, -List.map_take, -List.map_drop, IntWalk.iteOmega, IntWalk.toNatUp, numTop, Frz_refl])
theorem refClose_own (H : Heap) (m : Int) (L : List Int) (hL : L.length ≤ 900000) (hB : Bs L) :
    ICalls Tryd.prog 18 [frow 1 m (L.map (Value.int .u8))] H fun v H' => Bld 1 H' H.next v ((closed L).map (Value.int .u8)) ∧ Old H H' := by
  refine IBody.calls (by kernel_rfl) ?_
  have hx := (crc L).isLt
  have e1 : IntKind.u8.wrap (IntKind.u16.wrap (((crc L).toNat : Int) / 256)) = ((crc L).toNat : Int) / 256 := by rw [IntWalk.u16_in _ (by omega), IntWalk.u8_in _ (by omega)]
  have e2 : IntKind.u8.wrap (((crc L).toNat : Int).tmod 256) = ((crc L).toNat : Int) % 256 := by rw [Int.tmod_eq_emod_of_nonneg (by omega), IntWalk.u8_in _ (by omega)]
  refine IBody.of Tryd.func18 rfl (by rw [Tryd.ntmps18]; simp) ?_
  rw [Tryd.ntmps18]
  have Kp : Kept [[0],[0,3]] := ⟨⟩
  iterate 2 (refine Kp.s ?_; clear Kp; intro Kp; simp [go_sem, -getElem?_pos, -List.map_take, -List.map_drop, IntWalk.iteOmega, IntWalk.toNatUp, e1, e2])
  refine ICalls.mono (refOf H m L (by omega) hB) ?_
  rintro v _ ⟨rfl, rfl⟩
  try simp [go_sem, -getElem?_pos, -List.map_take, -List.map_drop, IntWalk.iteOmega, IntWalk.toNatUp, e1, e2]
  refine IWp.one [2] ?_
  simp [go_sem, -getElem?_pos, -List.map_take, -List.map_drop, IntWalk.iteOmega, IntWalk.toNatUp, e1, e2]
  rename_i H1
  refine ICalls.freeze1 H1.next (.cons (.same _) (.cons (frz_lit ([((crc L).toNat : Int) / 256, ((crc L).toNat : Int) % 256].map (Value.int .u8)) (Heap.get_alloc_new _ _) rfl (map_sz .u8 _) rfl (by simp)) .nil)) ?_
  refine ICalls.mono (join_own _ m 0 L [((crc L).toNat : Int) / 256, ((crc L).toNat : Int) % 256] (by omega) (by simp)) ?_
  rintro v H2 ⟨b2, s2⟩
  simp [go_sem]
  refine IWp.one [] ?_
  simp [go_sem, -getElem?_pos, -List.map_take, -List.map_drop, IntWalk.iteOmega, IntWalk.toNatUp]
  exact ⟨b2.le (by simp [next_kill, next_alloc]), (((Old.refl _).alloc _).kill (Nat.le_refl _)).trans s2⟩
theorem refClose (H : Heap) (m : Int) (L : List Int) (hL : L.length ≤ 900000) (hB : Bs L) :
    ICalls Tryd.prog 18 [frow 1 m (L.map (Value.int .u8))] H fun v H' => v = byts (closed L) ∧ H' = H :=
  ICalls.ans (by simp [go_sem]) fun H => (refClose_own H m L hL hB).mono fun v H' h => h.1.frz
theorem closed_iff {L : List Int} (hB : Bs L) (h : ¬ L.length < 2) : (closed (L.take (L.length - 2)) = L) = (L[L.length - 2]'(by omega) * 256 + L[L.length - 1]'(by omega) = ((crc (L.take (L.length - 2))).toNat : Int)) := by
  have hx := (crc (L.take (L.length - 2))).isLt
  unfold closed
  generalize (crc (L.take (L.length - 2))).toNat = x at hx
  have b1 := hB _ (List.getElem_mem (show L.length - 2 < L.length by omega))
  have b2 := hB _ (List.getElem_mem (show L.length - 1 < L.length by omega))
  have e : L = L.take (L.length - 2) ++ [L[L.length - 2]'(by omega), L[L.length - 1]'(by omega)] := by
    conv => lhs; rw [← List.take_append_drop (L.length - 2) L]
    congr 1
    rw [List.drop_eq_getElem_cons (by omega), List.drop_eq_getElem_cons (by omega), List.drop_of_length_le (by omega)]
    simp [show L.length - 2 + 1 = L.length - 1 by omega]
  refine propext ⟨fun h => ?_, fun h => ?_⟩
  · have h2 := h.trans e
    simp only [List.append_cancel_left_eq, List.cons.injEq, and_true] at h2
    omega
  · conv => rhs; rw [e]
    simp only [List.append_cancel_left_eq, List.cons.injEq, and_true]
    omega
theorem refOpen (H : Heap) (m : Int) (L : List Int) (hL : L.length ≤ 800000) (hB : Bs L) :
    ICalls Tryd.prog 60 [frow 1 m (L.map (Value.int .u8))] H fun v H' => v = .tuple #[byts (opened L).1, .int .i64 (opened L).2] ∧ H' = H := by
  refine ICalls.ans (by simp [go_sem]) fun H => IBody.calls (by kernel_rfl) ?_
  have w1 := IntWalk.i64_in ((L.length : Int) - 2) (by omega)
  by_cases hs : L.length < 2
  · have ho : opened L = ([], 4) := by unfold opened; rw [if_pos hs]
    rw [ho]
    refine IBody.of Tryd.func60 rfl (by rw [Tryd.ntmps60]; simp) ?_
    rw [Tryd.ntmps60]
    have Kp : Kept [[0],[0,4],[0,4,9],[],[2,3],[]] := ⟨⟩
    iterate 6 (refine Kp.s ?_; clear Kp; intro Kp; simp [go_sem, -getElem?_pos, -List.map_take, -List.map_drop, IntWalk.iteOmega, IntWalk.toNatUp, hs, w1, show (L.length : Int) < 2 by omega, show (L.length : Int) - 2 < 0 by omega])
  · have hto : ((L.length : Int) - 2).toNat = L.length - 2 := by omega
    have hto1 : ((L.length : Int) - 2 + 1).toNat = L.length - 1 := by omega
    have w2 := IntWalk.i64_in ((L.length : Int) - 2 + 1) (by omega)
    have h1 : L.length - 2 < L.length := by omega
    have h2 : L.length - 1 < L.length := by omega
    have b1 := hB _ (List.getElem_mem h1)
    have b2 := hB _ (List.getElem_mem h2)
    have w3 := IntWalk.u16_in L[L.length - 2] (by omega)
    have w4 := IntWalk.u16_in L[L.length - 1] (by omega)
    have w5 := IntWalk.u16_in (L[L.length - 2] * 256) (by omega)
    have w6 := IntWalk.u16_in (L[L.length - 2] * 256 + L[L.length - 1]) (by omega)
    have hl2 : (L.take (L.length - 2)).length ≤ 800000 := by simp; omega
    refine IBody.of Tryd.func60 rfl (by rw [Tryd.ntmps60]; simp) ?_
    rw [Tryd.ntmps60]
    have Kp : Kept [[0],[0,4],[0,4,9],[],[0,4]] := ⟨⟩
    iterate 5 (refine Kp.s ?_; clear Kp; intro Kp; simp [go_sem, -getElem?_pos, -List.map_take, -List.map_drop, IntWalk.iteOmega, IntWalk.toNatUp, w1, w2, w3, w4, w5, w6, hto, hto1, List.getElem?_eq_getElem h1, List.getElem?_eq_getElem h2, show ¬ ((L.length : Int) - 2 < 0) by omega, show ¬ ((L.length : Int) < 2) by omega, show (2 : Int) ≤ L.length by omega, show 0 ≤ (L.length : Int) - 2 + 1 by omega])
    refine IWp.seq ?_
    refine IWp.seq ?_
    refine IWp.draw [0, 4, 27] [] (.val 0 (.val 1 (.val 2 (.val 6 (.val 7 (.val 8 (.val 9 (.val 13 (.val 14 (.val 15 (.val 3 (.val 4 (.val 5 (.val 10 (.val 11 (.val 12 (.eff 16 (.val 17 .done) .done))))))))))))))))) follows (by kernel_rfl) ?_
    simp [go_sem, -getElem?_pos, -List.map_take, -List.map_drop, IntWalk.iteOmega, IntWalk.toNatUp, w1, w2, w3, w4, w5, w6, hto, hto1, List.getElem?_eq_getElem h1, List.getElem?_eq_getElem h2, show ¬ ((L.length : Int) - 2 < 0) by omega, show ¬ ((L.length : Int) < 2) by omega, show (2 : Int) ≤ L.length by omega, show 0 ≤ (L.length : Int) - 2 + 1 by omega]
    refine ICalls.mono (refOf _ _ (L.take (L.length - 2)) (by omega) (hB.take _)) ?_
    rintro v _ ⟨rfl, rfl⟩
    try simp [go_sem, -getElem?_pos, -List.map_take, -List.map_drop, IntWalk.iteOmega, IntWalk.toNatUp, w1, w2, w3, w4, w5, w6, hto, hto1, List.getElem?_eq_getElem h1, List.getElem?_eq_getElem h2, show ¬ ((L.length : Int) - 2 < 0) by omega, show ¬ ((L.length : Int) < 2) by omega, show (2 : Int) ≤ L.length by omega, show 0 ≤ (L.length : Int) - 2 + 1 by omega]
    have hcl := closed_iff hB hs
    by_cases he : closed (L.take (L.length - 2)) = L
    · have ho : opened L = (L.take (L.length - 2), 0) := by unfold opened; rw [if_neg hs, if_pos he]
      rw [ho]
      rw [hcl] at he
      have Kp : Kept [[],[0,4],[2,3],[]] := ⟨⟩
      iterate 4 (refine Kp.s ?_; clear Kp; intro Kp; simp [go_sem, -getElem?_pos, -List.map_take, -List.map_drop, IntWalk.iteOmega, IntWalk.toNatUp, he, hto, show ¬ ((L.length : Int) < 2) by omega, show (2 : Int) ≤ L.length by omega])
    · have ho : opened L = ([], 3) := by unfold opened; rw [if_neg hs, if_neg he]
      rw [ho]
      rw [hcl] at he
      have Kp : Kept [[],[2,3],[]] := ⟨⟩
      iterate 3 (refine Kp.s ?_; clear Kp; intro Kp; simp [go_sem, -getElem?_pos, -List.map_take, -List.map_drop, IntWalk.iteOmega, IntWalk.toNatUp, he])
end Go.Proofs.YtoecebibhcadoaaDoor.I
