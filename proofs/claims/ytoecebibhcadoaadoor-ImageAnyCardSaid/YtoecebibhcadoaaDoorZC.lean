/- The sum of bytes as the document says it: bit by bit, in an array of truths. Rows of one's own at a block, appended to one behind the other. A configuration's image, as the document lays it: r06.Encode. A configuration laid: its lists, its rules. A configuration's image, as the program lays it: image.Encode. Numbers that the document's reader reads. What the document's reader reads. An image read, as the document reads it: r06.Decode. A configuration is like itself. No condition. -/
import Derived.Test.YtoecebibhcadoaaDoorZB
import Derived.Test.YtoecebibhcadoaaDoorIRow
import Derived.Test.YtoecebibhcadoaaDoorZA
import Derived.Test.YtoecebibhcadoaaDoorIDraw
namespace Go.Proofs.YtoecebibhcadoaaDoor.I
open Go Go.RowKit
set_option linter.unusedVariables false
set_option linter.unusedSimpArgs false
def boolCells (f : Nat → Bool) : List Value := (List.range 16).map fun j => .bool (f j)
theorem boolCells_length (f : Nat → Bool) : (boolCells f).length = 16 := by simp [boolCells]
theorem boolCells_get (f : Nat → Bool) (i : Nat) (h : i < 16) : (boolCells f)[i]? = some (.bool (f i)) := by simp [boolCells, h]
theorem boolCells_put (f : Nat → Bool) (i : Nat) (h : i < 16) (v : Bool) : splice (boolCells f) i [.bool v] = boolCells fun j => if j = i then v else f j := by
  apply List.ext_getElem?
  intro j
  rw [splice_get (by rw [boolCells_length]; simp; omega)]
  by_cases hj : j < 16
  · rw [boolCells_get _ j hj]
    by_cases h1 : j < i
    · rw [if_pos h1, boolCells_get _ j hj, if_neg (by omega)]
    · rw [if_neg h1]
      by_cases h2 : j = i
      · subst h2; rw [boolCells_get _ j hj]; simp
      · rw [if_neg (by simp; omega), boolCells_get _ j hj, if_neg h2]
  · rw [if_neg (by omega), if_neg (by simp; omega)]
    rw [List.getElem?_eq_none (by rw [boolCells_length]; omega), List.getElem?_eq_none (by rw [boolCells_length]; omega)]
theorem boolCells_congr {f g : Nat → Bool} (h : ∀ j, j < 16 → f j = g j) : boolCells f = boolCells g := by
  unfold boolCells
  apply List.map_congr_left
  intro j hj
  rw [h j (List.mem_range.1 hj)]
def bitStep (x : BitVec 16) (t : Bool) : BitVec 16 := if x.getLsbD 15 = t then x <<< 1 else (x <<< 1) ^^^ 4129#16
def bitSteps (x : BitVec 16) (b : Nat) : Nat → BitVec 16
  | 0 => x
  | k + 1 => bitStep (bitSteps x b k) (b.testBit (7 - k))
theorem top_bit (z : BitVec 16) : (z &&& 32768#16 = 0#16) ↔ z.getLsbD 15 = false := by
  constructor
  · intro h
    have h2 := congrArg (fun y : BitVec 16 => y.getLsbD 15) h
    simpa [BitVec.getLsbD_and] using h2
  · intro h
    apply BitVec.eq_of_getLsbD_eq
    intro i hi
    rw [BitVec.getLsbD_and]
    by_cases h1 : i = 15
    · subst h1; rw [h]; rfl
    · have : ∀ j : Fin 16, (j : Nat) ≠ 15 → (32768#16).getLsbD j = false := by decide
      rw [this ⟨i, hi⟩ h1]; simp
theorem turns_bits (x : BitVec 16) (b : Nat) (hb : b < 256) : ∀ k, k ≤ 8 → turns k (x ^^^ (BitVec.ofNat 16 b <<< 8)) = bitSteps x b k ^^^ (BitVec.ofNat 16 b <<< (8 + k))
  | 0, _ => rfl
  | k + 1, hk => by
    have ih := turns_bits x b hb k (by omega)
    simp only [turns, bitSteps]
    rw [ih]
    have hbit : (BitVec.ofNat 16 b <<< (8 + k)).getLsbD 15 = b.testBit (7 - k) := by
      rw [BitVec.getLsbD_shiftLeft, BitVec.getLsbD_ofNat]
      simp [show ¬ 15 < 8 + k by omega, show 15 - (8 + k) = 7 - k by omega, show 7 - k < 16 by omega]
    have hsh : BitVec.ofNat 16 b <<< (8 + (k + 1)) = (BitVec.ofNat 16 b <<< (8 + k)) <<< 1 := by rw [← BitVec.shiftLeft_add]; rfl
    unfold turn1 bitStep
    rw [hsh]
    generalize BitVec.ofNat 16 b <<< (8 + k) = w at hbit
    generalize bitSteps x b k = y
    have htop : ((y ^^^ w) &&& 32768#16 = 0#16) ↔ y.getLsbD 15 = b.testBit (7 - k) := by
      rw [top_bit, BitVec.getLsbD_xor, hbit]
      cases y.getLsbD 15 <;> cases b.testBit (7 - k) <;> simp
    by_cases h : y.getLsbD 15 = b.testBit (7 - k)
    · rw [if_pos (htop.2 h), if_pos h, BitVec.shiftLeft_xor_distrib]
    · rw [if_neg (fun e => h (htop.1 e)), if_neg h, BitVec.shiftLeft_xor_distrib, BitVec.xor_assoc, BitVec.xor_comm (w <<< 1), BitVec.xor_assoc]
theorem crcByte_bits (x : BitVec 16) (b : Nat) (hb : b < 256) : crcByte x (b : Int) = bitSteps x b 8 := by
  have e : BitVec.ofInt 16 (b : Int) = BitVec.ofNat 16 b := by apply BitVec.eq_of_toNat_eq; rw [BitVec.toNat_ofInt, BitVec.toNat_ofNat]; omega
  have h := turns_bits x b hb 8 (Nat.le_refl _)
  have hz : BitVec.ofNat 16 b <<< (8 + 8) = 0#16 := by
    apply BitVec.eq_of_toNat_eq; rw [BitVec.toNat_shiftLeft, Nat.shiftLeft_eq, BitVec.toNat_ofNat]
    show b % 65536 * 65536 % 65536 = 0
    exact Nat.mul_mod_left _ _
  rw [hz, BitVec.xor_zero] at h
  unfold crcByte
  rw [e, h]
def bitsOf (x : BitVec 16) : List Value := boolCells fun j => x.getLsbD j
theorem bit_of (bn m : Nat) (hm : m < 8) : (decide (((bn : Int).fdiv (2 ^ min (7 - m) 8)).tmod 2 = 1)) = bn.testBit (7 - m) := by
  have e : ((bn : Int).fdiv (2 ^ min (7 - m) 8)) = ((bn / 2 ^ (7 - m) : Nat) : Int) := by
    rw [Nat.min_eq_left (by omega), Int.fdiv_eq_ediv_of_nonneg _ (by exact Int.pow_nonneg (by decide))]
    simp
  rw [e, Nat.testBit_eq_decide_div_mod_eq]
  generalize bn / 2 ^ (7 - m) = d
  rw [Int.tmod_eq_emod_of_nonneg (by omega)]
  congr 1
  apply propext
  omega
theorem shifted (y : BitVec 16) : (boolCells fun j => if j = 0 then false else if 15 - 15 < j then y.getLsbD (j - 1) else y.getLsbD j) = bitsOf (y <<< 1) := boolCells_congr fun j hj => by
  rw [BitVec.getLsbD_shiftLeft]
  by_cases h0 : j = 0
  · subst h0; simp
  · simp [h0, show ¬ j < 1 by omega, show 0 < j by omega, hj]
theorem turned (z : BitVec 16) : (boolCells fun j => if j = 0 then !z.getLsbD 0 else if j = 5 then !z.getLsbD 5 else if j = 12 then !z.getLsbD 12 else z.getLsbD j) = bitsOf (z ^^^ 4129#16) := boolCells_congr fun j hj => by
  rw [BitVec.getLsbD_xor]
  have h : ∀ j : Fin 16, (4129#16).getLsbD j = decide ((j : Nat) = 0 ∨ (j : Nat) = 5 ∨ (j : Nat) = 12) := by decide
  rw [h ⟨j, hj⟩]
  by_cases h0 : j = 0
  · subst h0; simp
  · by_cases h5 : j = 5
    · subst h5; simp
    · by_cases h12 : j = 12
      · subst h12; simp
      · simp [h0, h5, h12]
theorem ones_bits : (boolCells fun j => decide (j < 16)) = bitsOf 65535#16 := boolCells_congr fun j hj => by
  have : ∀ j : Fin 16, decide ((j : Nat) < 16) = (65535#16).getLsbD j := by decide
  exact this ⟨j, hj⟩
def numTop (x : BitVec 16) (k : Nat) : Nat := x.toNat / 2 ^ (16 - k)
theorem numTop_succ (x : BitVec 16) (k : Nat) (hk : k < 16) : numTop x (k + 1) = 2 * numTop x k + (x.getLsbD (15 - k)).toNat := by
  unfold numTop
  have e : x.getLsbD (15 - k) = decide (x.toNat / 2 ^ (15 - k) % 2 = 1) := by
    rw [BitVec.getLsbD, Nat.testBit_eq_decide_div_mod_eq]
  rw [e, show 16 - (k + 1) = 15 - k by omega, show 16 - k = (15 - k) + 1 by omega, Nat.pow_succ, ← Nat.div_div_eq_div_mul]
  generalize x.toNat / 2 ^ (15 - k) = d
  by_cases h : d % 2 = 1
  · simp [h]; omega
  · simp [h]; omega
theorem numTop_le (x : BitVec 16) (k : Nat) : numTop x k ≤ x.toNat := Nat.div_le_self _ _
theorem refOf (H : Heap) (m : Int) (L : List Int) (hL : L.length ≤ 1000000) (hB : Bs L) :
    ICalls Tryd.prog 43 [frow 1 m (L.map (Value.int .u8))] H fun v H' => v = .int .u16 ((crc L).toNat : Int) ∧ H' = H := by
  refine ICalls.ans (by simp [go_sem]) fun H => IBody.calls (by kernel_rfl) ?_
  refine IBody.of Tryd.func43 rfl (by rw [Tryd.ntmps43]; simp) ?_
  rw [Tryd.ntmps43]
  have Kp : Kept [[0],[0,3],[0,3,4]] := ⟨⟩
  iterate 3 (refine Kp.s ?_; clear Kp; intro Kp; simp [go_sem, -getElem?_pos, -List.map_take, -List.map_drop, IntWalk.iteOmega, IntWalk.toNatUp])
  refine IWp.block ?_
  have hz : [Value.bool false, .bool false, .bool false, .bool false, .bool false, .bool false, .bool false, .bool false, .bool false, .bool false, .bool false, .bool false, .bool false, .bool false, .bool false, .bool false] = boolCells fun j => decide (j < 0) := by simp [boolCells, List.range, List.range.loop]
  rw [hz]
  refine IWp.loop (fun j e K => ∃ i : Nat, j = 16 - i ∧ i ≤ 16 ∧ e = [(0, frow 1 m (L.map (Value.int .u8))), (3, .pointer (some ⟨H.next, 0, none⟩)), (4, .int .i64 (i : Int))] ∧ K = H.alloc (boolCells fun j => decide (j < i))) 16 ⟨0, rfl, by omega, rfl, rfl⟩ ?_
  rintro j e K ⟨i, rfl, hi, rfl, rfl⟩
  by_cases hlt : i < 16
  · have w1 := IntWalk.i64_in ((i : Int) + 1) (by omega)
    have hcg : (boolCells fun j => decide (j = i) || decide (j < i)) = boolCells fun j => decide (j < i + 1) := boolCells_congr fun j _ => by
      by_cases h1 : j < i
      · simp [h1, show j < i + 1 by omega]
      · by_cases h2 : j = i
        · simp [h2]
        · simp [h1, h2, show ¬ j < i + 1 by omega]
    have Kp : Kept [[0,3,4,12],[],[0,3,4],[0,3,4],[0,3,4]] := ⟨⟩
    iterate 5 (refine Kp.s ?_; clear Kp; intro Kp; simp [go_sem, -getElem?_pos, -List.map_take, -List.map_drop, IntWalk.iteOmega, IntWalk.toNatUp, hlt, w1, boolCells_put, boolCells_length, hcg, show (i : Int) < 16 by omega, show ¬ ((i : Int) < 0) by omega, show i + 1 ≤ 16 by omega])
    exact ⟨16 - (i + 1), by omega, i + 1, rfl, by omega, rfl, rfl⟩
  · have hi16 : i = 16 := by omega
    subst hi16
    have Kp : Kept [[0,3,4,12],[],[0,3],[0,3,5]] := ⟨⟩
    iterate 4 (refine Kp.s ?_; clear Kp; intro Kp; simp [go_sem, -getElem?_pos, -List.map_take, -List.map_drop, IntWalk.iteOmega, IntWalk.toNatUp, ones_bits])
    refine IWp.block ?_
    clear hz hlt hi
    refine IWp.loop (fun j e K2 => ∃ i : Nat, j = L.length - i ∧ i ≤ L.length ∧ e = [(0, frow 1 m (L.map (Value.int .u8))), (3, .pointer (some ⟨H.next, 0, none⟩)), (5, .int .i64 (i : Int))] ∧ K2 = H.alloc (bitsOf (crc (L.take i)))) L.length ⟨0, rfl, Nat.zero_le _, rfl, rfl⟩ ?_
    rintro j e K2 ⟨i, rfl, hi, rfl, rfl⟩
    by_cases hlt : i < L.length
    · have w1 := IntWalk.i64_in ((i : Int) + 1) (by omega)
      have Kp : Kept [[0,3,5,20],[],[0,3,5],[0,3,5,6]] := ⟨⟩
      iterate 4 (refine Kp.s ?_; clear Kp; intro Kp; simp [go_sem, -getElem?_pos, -List.map_take, -List.map_drop, IntWalk.iteOmega, IntWalk.toNatUp, show (i : Int) < L.length by omega])
      refine IWp.block ?_
      have hb := hB _ (List.getElem_mem hlt)
      obtain ⟨bn, hbn⟩ : ∃ bn : Nat, L[i] = (bn : Int) := ⟨L[i].toNat, by omega⟩
      have a1 : L[i]? = some (bn : Int) := by rw [List.getElem?_eq_getElem hlt, hbn]
      refine IWp.loop (fun j e K3 => ∃ k : Nat, j = 8 - k ∧ k ≤ 8 ∧ e = [(0, frow 1 m (L.map (Value.int .u8))), (3, .pointer (some ⟨H.next, 0, none⟩)), (5, .int .i64 (i : Int)), (6, .int .i64 (7 - (k : Int)))] ∧ K3 = H.alloc (bitsOf (bitSteps (crc (L.take i)) bn k))) 8 ⟨0, rfl, by omega, rfl, rfl⟩ ?_
      rintro j e K3 ⟨k, rfl, hm, rfl, rfl⟩
      by_cases hm8 : k < 8
      · have w2 := IntWalk.i64_in (7 - (k : Int)) (by omega)
        have Kp : Kept [[0,3,5,6,24],[],[0,3,5,6]] := ⟨⟩
        iterate 3 (refine Kp.s ?_; clear Kp; intro Kp; simp [go_sem, -getElem?_pos, -List.map_take, -List.map_drop, IntWalk.iteOmega, IntWalk.toNatUp, hlt, a1, w2, show ¬ (7 < (k : Int)) by omega, show (k : Int) ≤ 7 by omega, boolCells_get, bitsOf, show ¬ ((i : Int) < 0) by omega])
        refine IWp.seq ?_
        refine IWp.block ?_
        refine IWp.seq ?_
        refine IWp.read [0, 3, 5, 6, 7] follows (by kernel_rfl) ?_
        simp [go_sem, -getElem?_pos, -List.map_take, -List.map_drop, IntWalk.iteOmega, IntWalk.toNatUp, hlt, a1, w2, show ¬ (7 < (k : Int)) by omega, show (k : Int) ≤ 7 by omega, boolCells_get, bitsOf, show ¬ ((i : Int) < 0) by omega]
        refine IWp.one [0, 3, 5, 6, 7, 8] ?_
        simp [go_sem, -getElem?_pos, -List.map_take, -List.map_drop, IntWalk.iteOmega, IntWalk.toNatUp, hlt, a1, w2, show ¬ (7 < (k : Int)) by omega, show (k : Int) ≤ 7 by omega, boolCells_get, bitsOf, show ¬ ((i : Int) < 0) by omega]
        refine IWp.block ?_
        rw [bit_of bn k hm8]
        have hnext : bitSteps (crc (L.take i)) bn (k + 1) = bitStep (bitSteps (crc (L.take i)) bn k) (bn.testBit (7 - k)) := rfl
        generalize hy : bitSteps (crc (L.take i)) bn k = y at hnext
        generalize ht : bn.testBit (7 - k) = tb at hnext
        refine IWp.loop (fun j e K4 => ∃ q : Nat, j = 15 - q ∧ q ≤ 15 ∧ e = [(0, frow 1 m (L.map (Value.int .u8))), (3, .pointer (some ⟨H.next, 0, none⟩)), (5, .int .i64 (i : Int)), (6, .int .i64 (7 - (k : Int))), (7, .bool (!(y.getLsbD 15 == tb))), (8, .int .i64 (15 - (q : Int)))] ∧
          K4 = H.alloc (boolCells fun j => if 15 - q < j then y.getLsbD (j - 1) else y.getLsbD j)) 15 ⟨0, rfl, by omega, by simp [BitVec.getLsbD_eq_getElem], ?_⟩ ?_
        · rw [boolCells_congr (f := fun j => if 15 - 0 < j then y.getLsbD (j - 1) else y.getLsbD j) (g := fun j => y.getLsbD j) (fun j hj => by rw [if_neg (by omega)])]
        · rintro j e K4 ⟨q, rfl, hq, rfl, rfl⟩
          by_cases hq15 : q < 15
          · have w3 := IntWalk.i64_in (15 - (q : Int) - 1) (by omega)
            have w4 : (15 - (q : Int)).toNat = 15 - q := by omega
            have w5 : (15 - (q : Int) - 1).toNat = 14 - q := by omega
            have hcg : (boolCells fun j => if j = 15 - q then y.getLsbD (14 - q) else if 15 - q < j then y.getLsbD (j - 1) else y.getLsbD j) = boolCells fun j => if 15 - (q + 1) < j then y.getLsbD (j - 1) else y.getLsbD j := boolCells_congr fun j hj => by
              by_cases h1 : j = 15 - q
              · rw [if_pos h1, if_pos (by omega), show j - 1 = 14 - q by omega]
              · by_cases h2 : 15 - q < j
                · rw [if_neg h1, if_pos h2, if_pos (by omega)]
                · rw [if_neg h1, if_neg h2, if_neg (by omega)]
            have Kp : Kept [[0,3,5,6,7,8,39],[],[0,3,5,6,7,8],[0,3,5,6,7,8],[0,3,5,6,7,8]] := ⟨⟩
            iterate 5 (refine Kp.s ?_; clear Kp; intro Kp; simp [go_sem, -getElem?_pos, -List.map_take, -List.map_drop, IntWalk.iteOmega, IntWalk.toNatUp, w3, w4, w5, show 14 - q < 16 by omega, show 15 - q < 16 by omega, show 15 - q + 1 ≤ 16 by omega, -BitVec.getLsbD_eq_getElem, boolCells_get, boolCells_put, boolCells_length, show 0 < 15 - (q : Int) by omega, show ¬ (15 - (q : Int) < 0) by omega, show ¬ (15 - (q : Int) - 1 < 0) by omega])
            refine ⟨15 - (q + 1), by omega, q + 1, rfl, by omega, by simp; omega, ?_⟩
            rw [hcg]
          · have hq9 : q = 15 := by omega
            subst hq9
            have hcg : (boolCells fun j => !decide (j = 0) && if 0 < j then y.getLsbD (j - 1) else y.getLsbD j) = bitsOf (y <<< 1) := boolCells_congr fun j hj => by
              rw [BitVec.getLsbD_shiftLeft]
              by_cases h0 : j = 0
              · subst h0; simp
              · simp [h0, show ¬ j < 1 by omega, show 0 < j by omega, hj]
            have Kp : Kept [[0,3,5,6,7,8,39],[],[0,3,5,6,7],[0,3,5,6,7],[0,3,5,6,49]] := ⟨⟩
            iterate 5 (refine Kp.s ?_; clear Kp; intro Kp; simp [go_sem, -getElem?_pos, -List.map_take, -List.map_drop, IntWalk.iteOmega, IntWalk.toNatUp, -BitVec.getLsbD_eq_getElem, boolCells_get, boolCells_put, boolCells_length])
            rw [hcg]
            by_cases htb : y.getLsbD 15 = tb
            · have hn2 : bitSteps (crc (L.take i)) bn (k + 1) = y <<< 1 := by rw [hnext]; unfold bitStep; rw [if_pos htb]
              have Kp : Kept [[],[0,3,5,6],[0,3,5,6]] := ⟨⟩
              iterate 3 (refine Kp.s ?_; clear Kp; intro Kp; simp [go_sem, -getElem?_pos, -List.map_take, -List.map_drop, IntWalk.iteOmega, IntWalk.toNatUp, htb, w2, -BitVec.getLsbD_eq_getElem])
              exact ⟨8 - (k + 1), by omega, k + 1, rfl, by omega, by rw [IntWalk.i64_in _ (by omega)]; omega, by rw [hn2]; rfl⟩
            · have hn2 : bitSteps (crc (L.take i)) bn (k + 1) = (y <<< 1) ^^^ 4129#16 := by rw [hnext]; unfold bitStep; rw [if_neg htb]
              generalize y <<< 1 = z at hn2
              have htb2 : (y.getLsbD 15 == tb) = false := by simpa using htb
              have Kp : Kept [[],[0,3,5,6],[0,3,5,6],[0,3,5,6],[0,3,5,6]] := ⟨⟩
              iterate 5 (refine Kp.s ?_; clear Kp; intro Kp; simp [go_sem, -getElem?_pos, -List.map_take, -List.map_drop, IntWalk.iteOmega, IntWalk.toNatUp, htb2, w2, bitsOf, -BitVec.getLsbD_eq_getElem, boolCells_get, boolCells_put, boolCells_length])
              exact ⟨8 - (k + 1), by omega, k + 1, rfl, by omega, by rw [IntWalk.i64_in _ (by omega)]; omega, by rw [hn2, turned]; rfl⟩
      · have hm9 : k = 8 := by omega
        subst hm9
        have Kp : Kept [[0,3,5,6,24],[],[0,3,5],[0,3,5]] := ⟨⟩
        iterate 4 (refine Kp.s ?_; clear Kp; intro Kp; simp [go_sem, -getElem?_pos, -List.map_take, -List.map_drop, IntWalk.iteOmega, IntWalk.toNatUp, w1])
        have hcb : crc (L.take (i + 1)) = bitSteps (crc (L.take i)) bn 8 := by
          rw [List.take_succ_eq_append_getElem hlt, ← crcByte_bits _ bn (by omega), ← hbn]
          simp only [crc, List.foldl_append, List.foldl_cons, List.foldl_nil]
        exact ⟨L.length - (i + 1), by omega, i + 1, rfl, by omega, rfl, by rw [hcb]⟩
    · skip
      have Kp : Kept [[0,3,5,20],[],[3],[3,9],[3,9,10]] := ⟨⟩
      iterate 5 (refine Kp.s ?_; clear Kp; intro Kp; simp [go_sem, -getElem?_pos, -List.map_take, -List.map_drop, IntWalk.iteOmega, IntWalk.toNatUp, show ¬ ((i : Int) < L.length) by omega])
      refine IWp.block ?_
      rw [List.take_of_length_le (by omega)]
      generalize crc L = x
      have hx := x.isLt
      refine IWp.loop (fun j e K => ∃ k : Nat, j = 16 - k ∧ k ≤ 16 ∧ e = [(3, .pointer (some ⟨H.next, 0, none⟩)), (9, .int .u16 (numTop x k : Int)), (10, .int .i64 (15 - (k : Int)))] ∧ K = H.alloc (bitsOf x)) 16 ⟨0, rfl, by omega, by simp [numTop, Nat.div_eq_of_lt hx], rfl⟩ ?_
      rintro j e K ⟨k, rfl, hk, rfl, rfl⟩
      by_cases hk16 : k < 16
      · have hs := numTop_succ x k hk16
        have hle := numTop_le x (k + 1)
        have w1 := IntWalk.i64_in (15 - (k : Int) - 1) (by omega)
        have w2 := IntWalk.u16_in ((numTop x k : Int) * 2) (by omega)
        have w3 : (15 - (k : Int)).toNat = 15 - k := by omega
        by_cases hb : x.getLsbD (15 - k) = true
        · have w4 := IntWalk.u16_in ((numTop x k : Int) * 2 + 1) (by rw [hb] at hs; simp at hs; omega)
          have Kp : Kept [[3,9,10,63],[],[3,9,10],[3,9,10],[3,9,10,70],[],[3,9,10],[3,9,10]] := ⟨⟩
          iterate 8 (refine Kp.s ?_; clear Kp; intro Kp; simp [go_sem, -getElem?_pos, -List.map_take, -List.map_drop, IntWalk.iteOmega, IntWalk.toNatUp, w1, w2, w3, w4, hb, bitsOf, -BitVec.getLsbD_eq_getElem, boolCells_get, show (k : Int) ≤ 15 by omega, show ¬ (15 - (k : Int) < 0) by omega, show 15 - k < 16 by omega])
          exact ⟨16 - (k + 1), by omega, k + 1, rfl, by omega, by rw [hs, hb]; simp; omega, by omega⟩
        · have hb : x.getLsbD (15 - k) = false := by simpa using hb
          have Kp : Kept [[3,9,10,63],[],[3,9,10],[3,9,10],[3,9,10,70],[],[3,9,10],[3,9,10]] := ⟨⟩
          iterate 8 (refine Kp.s ?_; clear Kp; intro Kp; simp [go_sem, -getElem?_pos, -List.map_take, -List.map_drop, IntWalk.iteOmega, IntWalk.toNatUp, w1, w2, w3, hb, bitsOf, -BitVec.getLsbD_eq_getElem, boolCells_get, show (k : Int) ≤ 15 by omega, show ¬ (15 - (k : Int) < 0) by omega, show 15 - k < 16 by omega])
          exact ⟨16 - (k + 1), by omega, k + 1, rfl, by omega, by rw [hs, hb]; simp; omega, by omega⟩
      · have hk2 : k = 16 := by omega
        subst hk2
        have Kp : Kept [[3,9,10,63],[],[9],[2],[]] := ⟨⟩
        iterate 5 (refine Kp.s ?_; clear Kp; intro Kp; simp [go_sem, -getElem?_pos, -List.map_take, -List.map_drop, IntWalk.iteOmega, IntWalk.toNatUp, numTop, Frz_refl])
theorem refClose_own (H : Heap) (m : Int) (L : List Int) (hL : L.length ≤ 900000) (hB : Bs L) :
    ICalls Tryd.prog 18 [frow 1 m (L.map (Value.int .u8))] H fun v H' => Bld 1 H' H.next v ((closed L).map (Value.int .u8)) ∧ Old H H' := by
  refine IBody.calls (by kernel_rfl) ?_
  have hx := (crc L).isLt
  have e1 : IntKind.u8.wrap (IntKind.u16.wrap (((crc L).toNat : Int) / 256)) = ((crc L).toNat : Int) / 256 := by rw [IntWalk.u16_in _ (by omega), IntWalk.u8_in _ (by omega)]
  have e2 : IntKind.u8.wrap (((crc L).toNat : Int).tmod 256) = ((crc L).toNat : Int) % 256 := by rw [Int.tmod_eq_emod_of_nonneg (by omega), IntWalk.u8_in _ (by omega)]
  refine IBody.of Tryd.func18 rfl (by rw [Tryd.ntmps18]; simp) ?_
  rw [Tryd.ntmps18]
  have Kp : Kept [[0],[0,3]] := ⟨⟩
  iterate 2 (refine Kp.s ?_; clear Kp; intro Kp; simp [go_sem, -getElem?_pos, -List.map_take, -List.map_drop, IntWalk.iteOmega, IntWalk.toNatUp, e1, e2])
  refine ICalls.mono (refOf H m L (by omega) hB) ?_
  rintro v _ ⟨rfl, rfl⟩
  try simp [go_sem, -getElem?_pos, -List.map_take, -List.map_drop, IntWalk.iteOmega, IntWalk.toNatUp, e1, e2]
  refine IWp.one [2] ?_
  simp [go_sem, -getElem?_pos, -List.map_take, -List.map_drop, IntWalk.iteOmega, IntWalk.toNatUp, e1, e2]
  rename_i H1
  refine ICalls.freeze1 H1.next (.cons (.same _) (.cons (frz_lit ([((crc L).toNat : Int) / 256, ((crc L).toNat : Int) % 256].map (Value.int .u8)) (Heap.get_alloc_new _ _) rfl (map_sz .u8 _) rfl (by simp)) .nil)) ?_
  refine ICalls.mono (join_own _ m 0 L [((crc L).toNat : Int) / 256, ((crc L).toNat : Int) % 256] (by omega) (by simp)) ?_
  rintro v H2 ⟨b2, s2⟩
  simp [go_sem]
  refine IWp.one [] ?_
  simp [go_sem, -getElem?_pos, -List.map_take, -List.map_drop, IntWalk.iteOmega, IntWalk.toNatUp]
  exact ⟨b2.le (by simp [next_kill, next_alloc]), (((Old.refl _).alloc _).kill (Nat.le_refl _)).trans s2⟩
theorem refClose (H : Heap) (m : Int) (L : List Int) (hL : L.length ≤ 900000) (hB : Bs L) :
    ICalls Tryd.prog 18 [frow 1 m (L.map (Value.int .u8))] H fun v H' => v = byts (closed L) ∧ H' = H :=
  ICalls.ans (by simp [go_sem]) fun H => (refClose_own H m L hL hB).mono fun v H' h => h.1.frz
theorem closed_iff {L : List Int} (hB : Bs L) (h : ¬ L.length < 2) : (closed (L.take (L.length - 2)) = L) = (L[L.length - 2]'(by omega) * 256 + L[L.length - 1]'(by omega) = ((crc (L.take (L.length - 2))).toNat : Int)) := by
  have hx := (crc (L.take (L.length - 2))).isLt
  unfold closed
  generalize (crc (L.take (L.length - 2))).toNat = x at hx
  have b1 := hB _ (List.getElem_mem (show L.length - 2 < L.length by omega))
  have b2 := hB _ (List.getElem_mem (show L.length - 1 < L.length by omega))
  have e : L = L.take (L.length - 2) ++ [L[L.length - 2]'(by omega), L[L.length - 1]'(by omega)] := by
    conv => lhs; rw [← List.take_append_drop (L.length - 2) L]
    congr 1
    rw [List.drop_eq_getElem_cons (by omega), List.drop_eq_getElem_cons (by omega), List.drop_of_length_le (by omega)]
    simp [show L.length - 2 + 1 = L.length - 1 by omega]
  refine propext ⟨fun h => ?_, fun h => ?_⟩
  · have h2 := h.trans e
    simp only [List.append_cancel_left_eq, List.cons.injEq, and_true] at h2
    omega
  · conv => rhs; rw [e]
    simp only [List.append_cancel_left_eq, List.cons.injEq, and_true]
    omega
theorem refOpen (H : Heap) (m : Int) (L : List Int) (hL : L.length ≤ 800000) (hB : Bs L) :
    ICalls Tryd.prog 60 [frow 1 m (L.map (Value.int .u8))] H fun v H' => v = .tuple #[byts (opened L).1, .int .i64 (opened L).2] ∧ H' = H := by
  refine ICalls.ans (by simp [go_sem]) fun H => IBody.calls (by kernel_rfl) ?_
  have w1 := IntWalk.i64_in ((L.length : Int) - 2) (by omega)
  by_cases hs : L.length < 2
  · have ho : opened L = ([], 4) := by unfold opened; rw [if_pos hs]
    rw [ho]
    refine IBody.of Tryd.func60 rfl (by rw [Tryd.ntmps60]; simp) ?_
    rw [Tryd.ntmps60]
    have Kp : Kept [[0],[0,4],[0,4,9],[],[2,3],[]] := ⟨⟩
    iterate 6 (refine Kp.s ?_; clear Kp; intro Kp; simp [go_sem, -getElem?_pos, -List.map_take, -List.map_drop, IntWalk.iteOmega, IntWalk.toNatUp, hs, w1, show (L.length : Int) < 2 by omega, show (L.length : Int) - 2 < 0 by omega])
  · have hto : ((L.length : Int) - 2).toNat = L.length - 2 := by omega
    have hto1 : ((L.length : Int) - 2 + 1).toNat = L.length - 1 := by omega
    have w2 := IntWalk.i64_in ((L.length : Int) - 2 + 1) (by omega)
    have h1 : L.length - 2 < L.length := by omega
    have h2 : L.length - 1 < L.length := by omega
    have b1 := hB _ (List.getElem_mem h1)
    have b2 := hB _ (List.getElem_mem h2)
    have w3 := IntWalk.u16_in L[L.length - 2] (by omega)
    have w4 := IntWalk.u16_in L[L.length - 1] (by omega)
    have w5 := IntWalk.u16_in (L[L.length - 2] * 256) (by omega)
    have w6 := IntWalk.u16_in (L[L.length - 2] * 256 + L[L.length - 1]) (by omega)
    have hl2 : (L.take (L.length - 2)).length ≤ 800000 := by simp; omega
    refine IBody.of Tryd.func60 rfl (by rw [Tryd.ntmps60]; simp) ?_
    rw [Tryd.ntmps60]
    have Kp : Kept [[0],[0,4],[0,4,9],[],[0,4]] := ⟨⟩
    iterate 5 (refine Kp.s ?_; clear Kp; intro Kp; simp [go_sem, -getElem?_pos, -List.map_take, -List.map_drop, IntWalk.iteOmega, IntWalk.toNatUp, w1, w2, w3, w4, w5, w6, hto, hto1, List.getElem?_eq_getElem h1, List.getElem?_eq_getElem h2, show ¬ ((L.length : Int) - 2 < 0) by omega, show ¬ ((L.length : Int) < 2) by omega, show (2 : Int) ≤ L.length by omega, show 0 ≤ (L.length : Int) - 2 + 1 by omega])
    refine IWp.seq ?_
    refine IWp.seq ?_
    refine IWp.draw [0, 4, 27] [] (.val 0 (.val 1 (.val 2 (.val 6 (.val 7 (.val 8 (.val 9 (.val 13 (.val 14 (.val 15 (.val 3 (.val 4 (.val 5 (.val 10 (.val 11 (.val 12 (.eff 16 (.val 17 .done) .done))))))))))))))))) follows (by kernel_rfl) ?_
    simp [go_sem, -getElem?_pos, -List.map_take, -List.map_drop, IntWalk.iteOmega, IntWalk.toNatUp, w1, w2, w3, w4, w5, w6, hto, hto1, List.getElem?_eq_getElem h1, List.getElem?_eq_getElem h2, show ¬ ((L.length : Int) - 2 < 0) by omega, show ¬ ((L.length : Int) < 2) by omega, show (2 : Int) ≤ L.length by omega, show 0 ≤ (L.length : Int) - 2 + 1 by omega]
    refine ICalls.mono (refOf _ _ (L.take (L.length - 2)) (by omega) (hB.take _)) ?_
    rintro v _ ⟨rfl, rfl⟩
    try simp [go_sem, -getElem?_pos, -List.map_take, -List.map_drop, IntWalk.iteOmega, IntWalk.toNatUp, w1, w2, w3, w4, w5, w6, hto, hto1, List.getElem?_eq_getElem h1, List.getElem?_eq_getElem h2, show ¬ ((L.length : Int) - 2 < 0) by omega, show ¬ ((L.length : Int) < 2) by omega, show (2 : Int) ≤ L.length by omega, show 0 ≤ (L.length : Int) - 2 + 1 by omega]
    have hcl := closed_iff hB hs
    by_cases he : closed (L.take (L.length - 2)) = L
    · have ho : opened L = (L.take (L.length - 2), 0) := by unfold opened; rw [if_neg hs, if_pos he]
      rw [ho]
      rw [hcl] at he
      have Kp : Kept [[],[0,4],[2,3],[]] := ⟨⟩
      iterate 4 (refine Kp.s ?_; clear Kp; intro Kp; simp [go_sem, -getElem?_pos, -List.map_take, -List.map_drop, IntWalk.iteOmega, IntWalk.toNatUp, he, hto, show ¬ ((L.length : Int) < 2) by omega, show (2 : Int) ≤ L.length by omega])
    · have ho : opened L = ([], 3) := by unfold opened; rw [if_neg hs, if_neg he]
      rw [ho]
      rw [hcl] at he
      have Kp : Kept [[],[2,3],[]] := ⟨⟩
      iterate 3 (refine Kp.s ?_; clear Kp; intro Kp; simp [go_sem, -getElem?_pos, -List.map_take, -List.map_drop, IntWalk.iteOmega, IntWalk.toNatUp, he])
end Go.Proofs.YtoecebibhcadoaaDoor.I
namespace Go.Proofs.YtoecebibhcadoaaDoor.I
open Go Go.RowKit
set_option linter.unusedVariables false
set_option linter.unusedSimpArgs false
theorem iapp_own {P : Program} {t e : TypeId} {sz by_ : Nat} {z : Value} (he : tElem P t = some e) (hs : tSize P e = some sz) (hb : tBytes P e = some by_) (hz : tZero P e = some z) (hzl : z.cells.toList.length = sz) {H : Heap} {q n : Nat} {x : Value} {cs ws : List Value}
    (hq : H.get q = some ⟨cs, true⟩) (hn : cs.length = n * sz) (m : Nat) (hm : ¬ m = 0) (hr : irow sz x H = some (m, ws)) (h1 : ws.all one0 = true)
    (hl : n + m ≤ 1099511627776) (hl2 : (n + m + 768) * by_ ≤ 70368744177664) :
    iapp P t (.slice (some ⟨q, 0, some sz⟩) n 1) x H = some (.slice (some ⟨H.next, 0, some sz⟩) (n + m) 1, (H.kill q).alloc (cs ++ ws)) := by
  have hold : (if n = 0 then some [] else H.row q 0 (n * sz)) = some cs := by
    by_cases h0 : n = 0
    · subst h0
      have : cs = [] := List.length_eq_zero_iff.1 (by simpa using hn)
      subst this; rfl
    · rw [if_neg h0, row_eq, hq]
      simp [← hn]
  simp only [iapp_row, he, hs, hb, hz, hr, Option.bind_some, hq, hold, if_pos hzl, if_neg hm, h1]
  simp [hl, hl2]
structure RowAt (K : Heap) (q : Nat) (L : List Int) (F : List (Nat × List Value)) : Prop where
  row : K.get q = some ⟨L.map (Value.int .u8), true⟩
  at_ : ∀ p ∈ F, K.get p.1 = some ⟨p.2, true⟩ ∧ p.1 ≠ q
theorem RowAt.alloc {K : Heap} {q : Nat} {L : List Int} {F : List (Nat × List Value)} (h : RowAt K q L F) (cs : List Value) : RowAt (K.alloc cs) q L F :=
  ⟨by rw [Heap.get_alloc_lt _ _ _ (Heap.lt_of_get h.row)]; exact h.row, fun p hp => ⟨by rw [Heap.get_alloc_lt _ _ _ (Heap.lt_of_get (h.at_ p hp).1)]; exact (h.at_ p hp).1, (h.at_ p hp).2⟩⟩
theorem RowAt.app {K : Heap} {q : Nat} {L : List Int} {F : List (Nat × List Value)} (h : RowAt K q L F) (M : List Int) : RowAt ((K.kill q).alloc ((L ++ M).map (Value.int .u8))) K.next (L ++ M) F :=
  ⟨Heap.get_alloc_new _ _, fun p hp => by
    have := h.at_ p hp
    have lt := Heap.lt_of_get this.1
    refine ⟨?_, by omega⟩
    rw [get_alloc, next_kill, if_neg (by omega), get_kill, if_neg this.2]
    exact this.1⟩
theorem RowAt.more {K : Heap} {q : Nat} {L : List Int} {F : List (Nat × List Value)} (h : RowAt K q L F) (cs : List Value) : RowAt (K.alloc cs) q L ((K.next, cs) :: F) :=
  ⟨(h.alloc cs).row, fun p hp => by
    rcases List.mem_cons.1 hp with rfl | hp
    · exact ⟨Heap.get_alloc_new _ _, by have := Heap.lt_of_get h.row; simp only; omega⟩
    · exact (h.alloc cs).at_ p hp⟩
theorem RowAt.less {K : Heap} {q : Nat} {L : List Int} {F : List (Nat × List Value)} {p : Nat × List Value} (h : RowAt K q L (p :: F)) : RowAt K q L F := ⟨h.row, fun x hx => h.at_ x (List.mem_cons_of_mem _ hx)⟩
def rowV (q : Nat) (L : List Int) : Value := .slice (some ⟨q, 0, some 1⟩) L.length 1
theorem irow_bytV (M : List Int) (H : Heap) : irow 1 (byts M) H = some (M.length, M.map (Value.int .u8)) := by
  unfold byts; rw [irow_frow]; simp [map_flat]
section
variable {P : Program} {t e : TypeId} (he : tElem P t = some e) (hs : tSize P e = some 1) (hb : tBytes P e = some 1) (hz : tZero P e = some (.int .u8 0))
include he hs hb hz
theorem RowAt.iapp {K : Heap} {q : Nat} {L : List Int} {F : List (Nat × List Value)} (h : RowAt K q L F) (x : Value) (M : List Int) (hM : ¬ M.length = 0) (hx : irow 1 x K = some (M.length, M.map (Value.int .u8))) (hl : L.length + M.length ≤ 1000000) :
    Go.Proofs.YtoecebibhcadoaaDoor.I.iapp P t (rowV q L) x K = some (rowV K.next (L ++ M), (K.kill q).alloc ((L ++ M).map (Value.int .u8))) := by
  unfold rowV
  rw [iapp_own he hs hb hz rfl h.row (by simp) M.length hM hx (map_one .u8 _) (by omega) (by omega), List.map_append, List.length_append]
theorem RowAt.iappB {K : Heap} {q : Nat} {L : List Int} {F : List (Nat × List Value)} (h : RowAt K q L F) (M : List Int) (hM : ¬ M.length = 0) (hl : L.length + M.length ≤ 1000000) :
    Go.Proofs.YtoecebibhcadoaaDoor.I.iapp P t (rowV q L) (byts M) K = some (rowV K.next (L ++ M), (K.kill q).alloc ((L ++ M).map (Value.int .u8))) := h.iapp he hs hb hz _ M hM (irow_bytV _ _) hl
theorem RowAt.iappL {K : Heap} {q : Nat} {L : List Int} {F : List (Nat × List Value)} (h : RowAt K q L F) (M : List Int) (cs : List Value) (hc : cs = M.map (Value.int .u8)) (n : Nat) (hn : n = M.length) (hM : ¬ M.length = 0) (hl : L.length + M.length ≤ 1000000) :
    Go.Proofs.YtoecebibhcadoaaDoor.I.iapp P t (rowV q L) (.slice (some ⟨K.next, 0, some 1⟩) n 1) (K.alloc cs) = some (rowV (K.next + 1) (L ++ M), ((K.alloc cs).kill q).alloc ((L ++ M).map (Value.int .u8))) := by
  subst hc hn
  exact (h.alloc _).iapp he hs hb hz _ M hM (by
    have := irow_blk (sz := 1) (c := 1) (own := true) (H := K.alloc (M.map (Value.int .u8))) (b := K.next) (ws := M.map (Value.int .u8)) (by rw [Heap.get_alloc_new, map_flat]) (map_sz .u8 _)
    rw [List.length_map, map_flat] at this
    exact this) hl
end
end Go.Proofs.YtoecebibhcadoaaDoor.I
namespace Go.Proofs.YtoecebibhcadoaaDoor.I
open Go Go.RowKit
set_option linter.unusedVariables false
set_option linter.unusedSimpArgs false
theorem i4_len (x : Int) : (i4 x).length = 4 := rfl
theorem lay_take {α : Type} (f : α → List Int) (l : List α) (i : Nat) : (l.take i).flatMap f <+: l.flatMap f := by
  conv => rhs; rw [← List.take_append_drop i l]
  rw [List.flatMap_append]
  exact List.prefix_append _ _
theorem lay_next {α : Type} (f : α → List Int) {l : List α} {i : Nat} (h : i < l.length) : (l.take (i + 1)).flatMap f = (l.take i).flatMap f ++ f l[i] := by
  rw [List.take_succ_eq_append_getElem h, List.flatMap_append]; simp
theorem flat_one {α : Type} (g : α → Int) : ∀ l : List α, (l.flatMap fun y => [g y]) = l.map g
  | [] => rfl
  | x :: l => by rw [List.flatMap_cons, flat_one g l]; rfl
theorem pre_of {A B C D : List Int} (h : B <+: C) (k : A ++ C <+: D) : A ++ B <+: D := ((List.prefix_append_right_inj A).2 h).trans k
theorem bs_app {A B : List Int} (h : Bs A) (k : Bs B) : Bs (A ++ B) := fun x hx => (List.mem_append.1 hx).elim (h x) (k x)
theorem bs_one {x : Int} (h : 0 ≤ x ∧ x < 256) : Bs [x] := fun y hy => by rw [List.mem_singleton.1 hy]; exact h
theorem bs_mod (x : Int) : Bs [x % 256] := bs_one (by omega)
theorem bs_flag (b : Bool) : Bs [flagB b] := bs_one (by unfold flagB; split <;> omega)
theorem bs_flat {α : Type} {f : α → List Int} {l : List α} (h : ∀ x ∈ l, Bs (f x)) : Bs (l.flatMap f) := fun y hy => by
  obtain ⟨x, hx, hy⟩ := List.mem_flatMap.1 hy
  exact h x hx y hy
theorem ruleY_bs {r : Rule} (h : r.wf) : Bs (ruleY r) :=
  bs_app (bs_app (bs_app (bs_app (bs_app (bs_app (bs_app (bs_app (bs_one h.1) (bs_mod _)) (i4_bs _)) (i4_bs _)) (i4_bs _)) (i4_bs _)) (bs_app (bs_one h.2.2.2.2.2.2.1) (bs_flag _))) (bs_mod _)) (bs_flat fun x hx => bs_app (i4_bs _) (bs_one (h.2.2.2.2.2.2.2.1 x hx).2))
theorem slotB_bs (l : List Int) : Bs (slotB l) := bs_app (bs_mod _) fun y hy => by
  obtain ⟨x, _, rfl⟩ := List.mem_map.1 hy
  omega
theorem cfgB_bs {c : Config} (hw : c.wf) : Bs (cfgB c) := by
  have h0 : Bs [72, 66, 49] := fun x hx => by simp at hx; omega
  have h1 : Bs (c.sigs.flatMap sigB) := bs_flat fun x _ => bs_app (i4_bs _) (i4_bs _)
  have h2 : Bs (c.rules.flatMap ruleY) := bs_flat fun x hx => ruleY_bs (hw.2.1.1 x hx)
  have h3 : Bs (c.table.flatMap slotB) := bs_flat fun x _ => slotB_bs x
  have h4 : Bs [c.b0 % 256, c.b1 % 256, c.b2 % 256] := bs_app (bs_mod _) (bs_app (bs_mod _) (bs_mod _))
  exact bs_app (bs_app (bs_app (bs_app (bs_app (bs_app (bs_app (bs_app (bs_app h0 (bs_app (bs_mod _) h1)) (bs_app (bs_mod _) h2)) (bs_app (bs_mod _) h3)) h4) (bs_mod _)) (i4_bs _)) (i4_bs _)) (bs_flag _)) (i4_bs _)
set_option maxHeartbeats 4000000 in
theorem refEncode (H : Heap) (c : Config) (hw : c.wf) (hl : (cfgB c).length ≤ 700000) :
    ICalls Tryd.prog 15 [c.val] H fun v H' => v = byts (closed (cfgB c)) ∧ H' = H := by
  refine ICalls.ans (by rw [cl_ints]; trivial) fun H => IBody.calls (by kernel_rfl) ?_
  have z1 := hw.1.2
  have z2 := hw.2.1.2
  have z3 := hw.2.2.1.2
  simp only [maxLen] at z1 z2 z3
  have h0 : RowAt ((((H.alloc [frow 2 0 (c.sigs.map Sig.val), frow 9 0 (c.rules.map Rule.val), frow 1 0 (c.table.map (ints .i64)), .int .i64 c.b0, .int .i64 c.b1, .int .i64 c.b2, .int .i64 c.drain, .int .i64 c.pause, .int .i64 c.off, .bool c.brk, .int .i64 c.log]).alloc [.int .u8 72, .int .u8 66, .int .u8 49]).alloc [.int .u8 ((c.sigs.length : Int) % 256)] |>.kill (H.next + 1)).alloc [.int .u8 72, .int .u8 66, .int .u8 49, .int .u8 ((c.sigs.length : Int) % 256)]) (H.next + 1 + 1 + 1) [72, 66, 49, (c.sigs.length : Int) % 256] [(H.next, c.cells)] := by
    refine ⟨by simp [get_alloc, next_alloc, next_kill], fun p hp => ?_⟩
    rw [List.mem_singleton.1 hp]
    exact ⟨by simp only [get_alloc, next_alloc, next_kill, get_kill]; rw [if_neg (by omega), if_neg (by omega), if_neg (by omega), if_neg (by omega)]; simp [Config.cells], by simp only; omega⟩
  refine IBody.of Tryd.func15 rfl (by rw [Tryd.ntmps15]; simp) ?_
  rw [Tryd.ntmps15]
  have Kp : Kept [[1],[1,3],[1,3]] := ⟨⟩
  iterate 3 (refine Kp.s ?_; clear Kp; intro Kp; simp [go_sem, -getElem?_pos, -List.map_take, -List.map_drop, IntWalk.iteOmega, IntWalk.toNatUp, Config.val, Config.cells, u8_mod])
  generalize ((((H.alloc _).alloc _).alloc _).kill _).alloc _ = K0 at h0 ⊢
  generalize H.next + 1 + 1 + 1 = q0 at h0 ⊢
  generalize H.next = cb at h0 ⊢
  obtain ⟨A0, a0⟩ : ∃ A, A = [72, 66, 49, (c.sigs.length : Int) % 256] := ⟨_, rfl⟩
  rw [show Value.slice (some ⟨q0, 0, some 1⟩) 4 1 = rowV q0 [72, 66, 49, (c.sigs.length : Int) % 256] from rfl]
  rw [← a0] at h0 ⊢
  have b0 : A0.length ≤ 4 := by rw [a0]; simp
  have c0 := (h0.at_ (cb, c.cells) (by simp)).1
  simp only [Config.cells] at c0
  have p0 : A0 ++ c.sigs.flatMap sigB <+: cfgB c := by rw [a0]; unfold cfgB; exact ⟨_, by simp only [List.append_assoc, List.cons_append, List.nil_append]; rfl⟩
  refine IWp.cut (fun e K => ∃ q, RowAt K q (A0 ++ c.sigs.flatMap sigB) [(cb, c.cells)] ∧ e = [(1, ptrTo cb 0), (3, rowV q (A0 ++ c.sigs.flatMap sigB))]) ?_ ?_
  · skip
    refine IWp.one [1, 3, 4] ?_
    simp [go_sem, -getElem?_pos, -List.map_take, -List.map_drop, IntWalk.iteOmega, IntWalk.toNatUp, c0]
    refine IWp.block ?_
    refine IWp.loop (fun j e K => ∃ i q, j = c.sigs.length - i ∧ i ≤ c.sigs.length ∧ RowAt K q (A0 ++ (c.sigs.take i).flatMap sigB) [(cb, c.cells)] ∧ e = [(1, ptrTo cb 0), (3, rowV q (A0 ++ (c.sigs.take i).flatMap sigB)), (4, .int .i64 (i : Int))]) c.sigs.length ⟨0, q0, rfl, Nat.zero_le _, by simpa using h0, by simp [go_sem]⟩ ?_
    rintro j e K1 ⟨i, q1, rfl, hi, h1, rfl⟩
    have b1 : (A0 ++ (c.sigs.take i).flatMap sigB).length ≤ 700000 := Nat.le_trans (pre_of (lay_take sigB _ i) p0).length_le hl
    obtain ⟨A1, aa⟩ : ∃ A, A = A0 ++ (c.sigs.take i).flatMap sigB := ⟨_, rfl⟩
    rw [← aa] at h1 b1 ⊢
    clear c0 h0
    have c1 := (h1.at_ (cb, c.cells) (by simp)).1
    simp only [Config.cells] at c1
    by_cases hlt : i < c.sigs.length
    · have g : c.sigs[i]? = some c.sigs[i] := by simp [hlt]
      have hstep : A1 ++ sigB c.sigs[i] = A0 ++ (c.sigs.take (i + 1)).flatMap sigB := by rw [aa, lay_next sigB hlt, List.append_assoc]
      have hx := hw.1.1 c.sigs[i] (List.getElem_mem hlt)
      generalize c.sigs[i] = x at g hx hstep
      have w1 := IntWalk.i64_in ((i : Int) + 1) (by omega)
      obtain ⟨lo, hi_⟩ := x
      have e2 := h1.iappB (P := Tryd.prog) (t := 23) (e := 5) (by kernel_rfl) (by kernel_rfl) (by kernel_rfl) (by kernel_rfl) (i4 lo) (by simp [i4]) (by rw [i4_len]; omega)
      have h2 := h1.app (i4 lo)
      have Kp : Kept [[1,3,4,23],[],[1,3,4],[1,3,4]] := ⟨⟩
      iterate 4 (refine Kp.s ?_; clear Kp; intro Kp; simp [go_sem, -getElem?_pos, -List.map_take, -List.map_drop, IntWalk.iteOmega, IntWalk.toNatUp, c1, e2, hlt, g, w1, Sig.val, Sig.cells])
      refine ICalls.then (refInt _ _ hx.1) ?_
      try simp [go_sem, -getElem?_pos, -List.map_take, -List.map_drop, IntWalk.iteOmega, IntWalk.toNatUp, c1, e2, hlt, g, w1, Sig.val, Sig.cells]
      simp only [List.map_append, List.map_cons, List.map_nil, next_alloc] at h2
      generalize (K1.kill q1).alloc _ = K2 at h2 ⊢
      generalize K1.next = q2 at h2 ⊢
      generalize a2 : A1 ++ i4 lo = A2 at h2 ⊢
      have b2 : A2.length ≤ 700004 := by rw [← a2, List.length_append]; simp only [i4_len, List.length_cons, List.length_nil]; omega
      have c2 := (h2.at_ (cb, c.cells) (by simp)).1
      simp only [Config.cells] at c2
      clear e2 c1 h1
      have e3 := h2.iappB (P := Tryd.prog) (t := 23) (e := 5) (by kernel_rfl) (by kernel_rfl) (by kernel_rfl) (by kernel_rfl) (i4 hi_) (by simp [i4]) (by rw [i4_len]; omega)
      have h3 := h2.app (i4 hi_)
      refine IWp.one [1, 3, 4] ?_
      simp [go_sem, -getElem?_pos, -List.map_take, -List.map_drop, IntWalk.iteOmega, IntWalk.toNatUp, c2, e3, hlt, g, w1, Sig.val, Sig.cells]
      refine ICalls.then (refInt _ _ hx.2) ?_
      try simp [go_sem, -getElem?_pos, -List.map_take, -List.map_drop, IntWalk.iteOmega, IntWalk.toNatUp, c2, e3, hlt, g, w1, Sig.val, Sig.cells]
      simp only [List.map_append, List.map_cons, List.map_nil, next_alloc] at h3
      generalize (K2.kill q2).alloc _ = K3 at h3 ⊢
      generalize K2.next = q3 at h3 ⊢
      generalize a3 : A2 ++ i4 hi_ = A3 at h3 ⊢
      have b3 : A3.length ≤ 700008 := by rw [← a3, List.length_append]; simp only [i4_len, List.length_cons, List.length_nil]; omega
      have c3 := (h3.at_ (cb, c.cells) (by simp)).1
      simp only [Config.cells] at c3
      clear e3 c2 h2
      refine IWp.one [1, 3, 4] ?_
      simp [go_sem, -getElem?_pos, -List.map_take, -List.map_drop, IntWalk.iteOmega, IntWalk.toNatUp, w1]
      exact ⟨c.sigs.length - (i + 1), by omega, i + 1, rfl, by omega, q3, by rw [← hstep]; simpa [sigB, ← a3, ← a2] using h3, by rw [← hstep]; simp [sigB, ← a3, ← a2]⟩
    · skip
      have Kp : Kept [[1,3,4,23],[],[1,3]] := ⟨⟩
      iterate 3 (refine Kp.s ?_; clear Kp; intro Kp; simp [go_sem, -getElem?_pos, -List.map_take, -List.map_drop, IntWalk.iteOmega, IntWalk.toNatUp, c1, hlt, show ¬ (i : Int) < c.sigs.length by omega])
      have hi2 : c.sigs.take i = c.sigs := List.take_of_length_le (by omega)
      rw [hi2] at aa
      exact ⟨q1, by rw [← aa]; exact h1, by rw [aa]⟩
  rintro e K4 ⟨q4, h4, rfl⟩
  have b4 : (A0 ++ c.sigs.flatMap sigB).length ≤ 700000 := Nat.le_trans p0.length_le hl
  obtain ⟨A4, a4⟩ : ∃ A, A = A0 ++ c.sigs.flatMap sigB := ⟨_, rfl⟩
  rw [← a4] at h4 b4 ⊢
  clear c0 h0
  have c4 := (h4.at_ (cb, c.cells) (by simp)).1
  simp only [Config.cells] at c4
  have e5 := h4.iappL (P := Tryd.prog) (t := 23) (e := 5) (by kernel_rfl) (by kernel_rfl) (by kernel_rfl) (by kernel_rfl) [((c.rules.length : Int) % 256)] [Value.int .u8 (((c.rules.length : Int) % 256))] rfl 1 rfl (by simp) (by simp; omega)
  have h5 := (h4.alloc [Value.int .u8 (((c.rules.length : Int) % 256))]).app [((c.rules.length : Int) % 256)]
  refine IWp.one [1, 3] ?_
  simp [go_sem, -getElem?_pos, -List.map_take, -List.map_drop, IntWalk.iteOmega, IntWalk.toNatUp, c4, e5, u8_mod]
  simp only [List.map_append, List.map_cons, List.map_nil, next_alloc] at h5
  generalize ((K4.alloc _).kill q4).alloc _ = K5 at h5 ⊢
  generalize K4.next + 1 = q5 at h5 ⊢
  generalize a5 : A4 ++ [((c.rules.length : Int) % 256)] = A5 at h5 ⊢
  have b5 : A5.length ≤ 700001 := by rw [← a5, List.length_append]; simp only [i4_len, List.length_cons, List.length_nil]; omega
  have c5 := (h5.at_ (cb, c.cells) (by simp)).1
  simp only [Config.cells] at c5
  clear e5 c4 h4
  have p5 : A5 ++ c.rules.flatMap ruleY <+: cfgB c := by rw [← a5, a4, a0]; unfold cfgB; exact ⟨_, by simp only [List.append_assoc, List.cons_append, List.nil_append]; rfl⟩
  refine IWp.cut (fun e K => ∃ q, RowAt K q (A5 ++ c.rules.flatMap ruleY) [(cb, c.cells)] ∧ e = [(1, ptrTo cb 0), (3, rowV q (A5 ++ c.rules.flatMap ruleY))]) ?_ ?_
  · skip
    refine IWp.one [1, 3, 5] ?_
    simp [go_sem, -getElem?_pos, -List.map_take, -List.map_drop, IntWalk.iteOmega, IntWalk.toNatUp, c5]
    refine IWp.block ?_
    refine IWp.loop (fun j e K => ∃ i q, j = c.rules.length - i ∧ i ≤ c.rules.length ∧ RowAt K q (A5 ++ (c.rules.take i).flatMap ruleY) [(cb, c.cells)] ∧ e = [(1, ptrTo cb 0), (3, rowV q (A5 ++ (c.rules.take i).flatMap ruleY)), (5, .int .i64 (i : Int))]) c.rules.length ⟨0, q5, rfl, Nat.zero_le _, by simpa using h5, by simp [go_sem]⟩ ?_
    rintro j e K6 ⟨i, q6, rfl, hi, h6, rfl⟩
    have b6 : (A5 ++ (c.rules.take i).flatMap ruleY).length ≤ 700000 := Nat.le_trans (pre_of (lay_take ruleY _ i) p5).length_le hl
    obtain ⟨A6, aa⟩ : ∃ A, A = A5 ++ (c.rules.take i).flatMap ruleY := ⟨_, rfl⟩
    rw [← aa] at h6 b6 ⊢
    clear c5 h5
    have c6 := (h6.at_ (cb, c.cells) (by simp)).1
    simp only [Config.cells] at c6
    by_cases hlt : i < c.rules.length
    · have g : c.rules[i]? = some c.rules[i] := by simp [hlt]
      have hstep : A6 ++ ruleY c.rules[i] = A5 ++ (c.rules.take (i + 1)).flatMap ruleY := by rw [aa, lay_next ruleY hlt, List.append_assoc]
      have hx := hw.2.1.1 c.rules[i] (List.getElem_mem hlt)
      generalize c.rules[i] = x at g hx hstep
      have w1 := IntWalk.i64_in ((i : Int) + 1) (by omega)
      obtain ⟨r, hr⟩ : ∃ r, r = x := ⟨_, rfl⟩
      rw [← hr] at g hx hstep; clear hr
      have y1 := hx.2.1; have y2 := hx.2.2.1; have y3 := hx.2.2.2.1; have y4 := hx.2.2.2.2.1; have y5 := hx.2.2.2.2.2.1; have y6 := hx.2.2.2.2.2.2.2.1; have y7 := hx.2.2.2.2.2.2.2.2
      have h7 := h6.more r.cells
      have Kp : Kept [[1,3,5,55],[],[1,3,5],[1,3,5,6]] := ⟨⟩
      iterate 4 (refine Kp.s ?_; clear Kp; intro Kp; simp [go_sem, -getElem?_pos, -List.map_take, -List.map_drop, IntWalk.iteOmega, IntWalk.toNatUp, c6, hlt, g, Rule.val, Rule.cells])
      refine IWp.seq ?_
      rw [← show r.cells = [.int .u8 r.kind, .int .i64 r.sg, .int .i64 r.lim, .int .i64 r.back, .int .i64 r.delay, .int .i64 r.span, .int .u8 r.prio, .bool r.latch, frow 2 0 (r.stages.map Stage.val)] from rfl]
      generalize K6.alloc _ = K7 at h7 ⊢
      generalize K6.next = xb at h7 ⊢
      obtain ⟨A7, a7⟩ : ∃ A, A = A6 := ⟨_, rfl⟩; rw [← a7] at h7 ⊢; have b7 : A7.length ≤ 700000 := by rw [a7]; exact b6
      generalize hq : q6 = q7 at h7 ⊢
      have c7 := (h7.at_ (cb, c.cells) (by simp)).1
      simp only [Config.cells] at c7
      have d7 := (h7.at_ (xb, r.cells) (by simp)).1
      simp only [Rule.cells] at d7
      have e8 := h7.iappL (P := Tryd.prog) (t := 23) (e := 5) (by kernel_rfl) (by kernel_rfl) (by kernel_rfl) (by kernel_rfl) [r.kind, (r.sg % 256)] [Value.int .u8 r.kind, Value.int .u8 ((r.sg % 256))] rfl 2 rfl (by simp) (by simp; omega)
      have h8 := (h7.alloc [Value.int .u8 r.kind, Value.int .u8 ((r.sg % 256))]).app [r.kind, (r.sg % 256)]
      refine IWp.one [1, 3, 5, 6] ?_
      simp [go_sem, -getElem?_pos, -List.map_take, -List.map_drop, IntWalk.iteOmega, IntWalk.toNatUp, c7, e8, d7, u8_mod]
      refine IWp.seq ?_
      simp only [List.map_append, List.map_cons, List.map_nil, next_alloc] at h8
      generalize ((K7.alloc _).kill q7).alloc _ = K8 at h8 ⊢
      generalize K7.next + 1 = q8 at h8 ⊢
      generalize a8 : A7 ++ [r.kind, (r.sg % 256)] = A8 at h8 ⊢
      have b8 : A8.length ≤ 700002 := by rw [← a8, List.length_append]; simp only [i4_len, List.length_cons, List.length_nil]; omega
      have c8 := (h8.at_ (cb, c.cells) (by simp)).1
      simp only [Config.cells] at c8
      have d8 := (h8.at_ (xb, r.cells) (by simp)).1
      simp only [Rule.cells] at d8
      clear e8 c7 h7 d7
      have e9 := h8.iappB (P := Tryd.prog) (t := 23) (e := 5) (by kernel_rfl) (by kernel_rfl) (by kernel_rfl) (by kernel_rfl) (i4 r.lim) (by simp [i4]) (by rw [i4_len]; omega)
      have h9 := h8.app (i4 r.lim)
      refine IWp.one [1, 3, 5, 6] ?_
      simp [go_sem, -getElem?_pos, -List.map_take, -List.map_drop, IntWalk.iteOmega, IntWalk.toNatUp, c8, e9, d8]
      refine ICalls.then (refInt _ _ y2) ?_
      try simp [go_sem, -getElem?_pos, -List.map_take, -List.map_drop, IntWalk.iteOmega, IntWalk.toNatUp, c8, e9, d8]
      refine IWp.seq ?_
      simp only [List.map_append, List.map_cons, List.map_nil, next_alloc] at h9
      generalize (K8.kill q8).alloc _ = K9 at h9 ⊢
      generalize K8.next = q9 at h9 ⊢
      generalize a9 : A8 ++ i4 r.lim = A9 at h9 ⊢
      have b9 : A9.length ≤ 700006 := by rw [← a9, List.length_append]; simp only [i4_len, List.length_cons, List.length_nil]; omega
      have c9 := (h9.at_ (cb, c.cells) (by simp)).1
      simp only [Config.cells] at c9
      have d9 := (h9.at_ (xb, r.cells) (by simp)).1
      simp only [Rule.cells] at d9
      clear e9 c8 h8 d8
      have e10 := h9.iappB (P := Tryd.prog) (t := 23) (e := 5) (by kernel_rfl) (by kernel_rfl) (by kernel_rfl) (by kernel_rfl) (i4 r.back) (by simp [i4]) (by rw [i4_len]; omega)
      have h10 := h9.app (i4 r.back)
      refine IWp.one [1, 3, 5, 6] ?_
      simp [go_sem, -getElem?_pos, -List.map_take, -List.map_drop, IntWalk.iteOmega, IntWalk.toNatUp, c9, e10, d9]
      refine ICalls.then (refInt _ _ y3) ?_
      try simp [go_sem, -getElem?_pos, -List.map_take, -List.map_drop, IntWalk.iteOmega, IntWalk.toNatUp, c9, e10, d9]
      refine IWp.seq ?_
      simp only [List.map_append, List.map_cons, List.map_nil, next_alloc] at h10
      generalize (K9.kill q9).alloc _ = K10 at h10 ⊢
      generalize K9.next = q10 at h10 ⊢
      generalize a10 : A9 ++ i4 r.back = A10 at h10 ⊢
      have b10 : A10.length ≤ 700010 := by rw [← a10, List.length_append]; simp only [i4_len, List.length_cons, List.length_nil]; omega
      have c10 := (h10.at_ (cb, c.cells) (by simp)).1
      simp only [Config.cells] at c10
      have d10 := (h10.at_ (xb, r.cells) (by simp)).1
      simp only [Rule.cells] at d10
      clear e10 c9 h9 d9
      have e11 := h10.iappB (P := Tryd.prog) (t := 23) (e := 5) (by kernel_rfl) (by kernel_rfl) (by kernel_rfl) (by kernel_rfl) (i4 r.delay) (by simp [i4]) (by rw [i4_len]; omega)
      have h11 := h10.app (i4 r.delay)
      refine IWp.one [1, 3, 5, 6] ?_
      simp [go_sem, -getElem?_pos, -List.map_take, -List.map_drop, IntWalk.iteOmega, IntWalk.toNatUp, c10, e11, d10]
      refine ICalls.then (refInt _ _ y4) ?_
      try simp [go_sem, -getElem?_pos, -List.map_take, -List.map_drop, IntWalk.iteOmega, IntWalk.toNatUp, c10, e11, d10]
      refine IWp.seq ?_
      simp only [List.map_append, List.map_cons, List.map_nil, next_alloc] at h11
      generalize (K10.kill q10).alloc _ = K11 at h11 ⊢
      generalize K10.next = q11 at h11 ⊢
      generalize a11 : A10 ++ i4 r.delay = A11 at h11 ⊢
      have b11 : A11.length ≤ 700014 := by rw [← a11, List.length_append]; simp only [i4_len, List.length_cons, List.length_nil]; omega
      have c11 := (h11.at_ (cb, c.cells) (by simp)).1
      simp only [Config.cells] at c11
      have d11 := (h11.at_ (xb, r.cells) (by simp)).1
      simp only [Rule.cells] at d11
      clear e11 c10 h10 d10
      have e12 := h11.iappB (P := Tryd.prog) (t := 23) (e := 5) (by kernel_rfl) (by kernel_rfl) (by kernel_rfl) (by kernel_rfl) (i4 r.span) (by simp [i4]) (by rw [i4_len]; omega)
      have h12 := h11.app (i4 r.span)
      refine IWp.one [1, 3, 5, 6] ?_
      simp [go_sem, -getElem?_pos, -List.map_take, -List.map_drop, IntWalk.iteOmega, IntWalk.toNatUp, c11, e12, d11]
      refine ICalls.then (refInt _ _ y5) ?_
      try simp [go_sem, -getElem?_pos, -List.map_take, -List.map_drop, IntWalk.iteOmega, IntWalk.toNatUp, c11, e12, d11]
      refine IWp.seq ?_
      simp only [List.map_append, List.map_cons, List.map_nil, next_alloc] at h12
      generalize (K11.kill q11).alloc _ = K12 at h12 ⊢
      generalize K11.next = q12 at h12 ⊢
      generalize a12 : A11 ++ i4 r.span = A12 at h12 ⊢
      have b12 : A12.length ≤ 700018 := by rw [← a12, List.length_append]; simp only [i4_len, List.length_cons, List.length_nil]; omega
      have c12 := (h12.at_ (cb, c.cells) (by simp)).1
      simp only [Config.cells] at c12
      have d12 := (h12.at_ (xb, r.cells) (by simp)).1
      simp only [Rule.cells] at d12
      clear e12 c11 h11 d11
      have e13 := h12.iappL (P := Tryd.prog) (t := 23) (e := 5) (by kernel_rfl) (by kernel_rfl) (by kernel_rfl) (by kernel_rfl) [r.prio, (if r.latch = true then 1 else 0), ((r.stages.length : Int) % 256)] [Value.int .u8 r.prio, Value.int .u8 ((if r.latch = true then 1 else 0)), Value.int .u8 (((r.stages.length : Int) % 256))] rfl 3 rfl (by simp) (by simp; omega)
      have h13 := (h12.alloc [Value.int .u8 r.prio, Value.int .u8 ((if r.latch = true then 1 else 0)), Value.int .u8 (((r.stages.length : Int) % 256))]).app [r.prio, (if r.latch = true then 1 else 0), ((r.stages.length : Int) % 256)]
      refine IWp.draw [1, 3, 5, 6] [cb, xb] (.val 0 (.val 1 (.val 3 (.ld 4 [5, 10, 11, 12] (.val 6 (.val 2 (.val 7 (.val 8 (.val 9 (.eff 5 (.eff 10 (.eff 11 (.val 12 .done) .done) .done) .done)))))))))) follows (by kernel_rfl) ?_
      simp [go_sem, -getElem?_pos, -List.map_take, -List.map_drop, IntWalk.iteOmega, IntWalk.toNatUp, c12, e13, d12, u8_mod, get_alloc, get_kill, next_alloc, next_kill, Nat.ne_of_lt (Heap.lt_of_get c12), Nat.ne_of_lt (Nat.lt_succ_of_lt (Heap.lt_of_get c12)), (h12.at_ (cb, c.cells) (by simp)).2, Nat.ne_of_lt (Heap.lt_of_get d12), Nat.ne_of_lt (Nat.lt_succ_of_lt (Heap.lt_of_get d12)), (h12.at_ (xb, r.cells) (by simp)).2]
      refine ICalls.then (refFlag _ _) ?_
      try simp [go_sem, -getElem?_pos, -List.map_take, -List.map_drop, IntWalk.iteOmega, IntWalk.toNatUp, c12, e13, d12, u8_mod, get_alloc, get_kill, next_alloc, next_kill, Nat.ne_of_lt (Heap.lt_of_get c12), Nat.ne_of_lt (Nat.lt_succ_of_lt (Heap.lt_of_get c12)), (h12.at_ (cb, c.cells) (by simp)).2, Nat.ne_of_lt (Heap.lt_of_get d12), Nat.ne_of_lt (Nat.lt_succ_of_lt (Heap.lt_of_get d12)), (h12.at_ (xb, r.cells) (by simp)).2]
      refine IWp.one [1, 3, 5, 6, 7] ?_
      simp [go_sem, -getElem?_pos, -List.map_take, -List.map_drop, IntWalk.iteOmega, IntWalk.toNatUp, c12, e13, d12, u8_mod, get_alloc, get_kill, next_alloc, next_kill, Nat.ne_of_lt (Heap.lt_of_get c12), Nat.ne_of_lt (Nat.lt_succ_of_lt (Heap.lt_of_get c12)), (h12.at_ (cb, c.cells) (by simp)).2, Nat.ne_of_lt (Heap.lt_of_get d12), Nat.ne_of_lt (Nat.lt_succ_of_lt (Heap.lt_of_get d12)), (h12.at_ (xb, r.cells) (by simp)).2]
      refine IWp.block ?_
      simp only [List.map_append, List.map_cons, List.map_nil, next_alloc] at h13
      generalize ((K12.alloc _).kill q12).alloc _ = K13 at h13 ⊢
      generalize K12.next + 1 = q13 at h13 ⊢
      generalize a13 : A12 ++ [r.prio, (if r.latch = true then 1 else 0), ((r.stages.length : Int) % 256)] = A13 at h13 ⊢
      have b13 : A13.length ≤ 700021 := by rw [← a13, List.length_append]; simp only [i4_len, List.length_cons, List.length_nil]; omega
      have c13 := (h13.at_ (cb, c.cells) (by simp)).1
      simp only [Config.cells] at c13
      have d13 := (h13.at_ (xb, r.cells) (by simp)).1
      simp only [Rule.cells] at d13
      clear e13 c12 h12 d12
      have full : A13 ++ r.stages.flatMap stageB = A5 ++ (c.rules.take (i + 1)).flatMap ruleY := by rw [← hstep]; simp [ruleY, flagB, ← a13, ← a12, ← a11, ← a10, ← a9, ← a8, ← a7]
      have pI : A13 ++ r.stages.flatMap stageB <+: cfgB c := by rw [full]; exact pre_of (lay_take ruleY _ (i + 1)) p5
      simp only [maxLen] at y7
      refine IWp.loop (fun j e K => ∃ n q, j = r.stages.length - n ∧ n ≤ r.stages.length ∧ RowAt K q (A13 ++ (r.stages.take n).flatMap stageB) [(xb, r.cells), (cb, c.cells)] ∧ e = [(1, ptrTo cb 0), (3, rowV q (A13 ++ (r.stages.take n).flatMap stageB)), (5, .int .i64 (i : Int)), (6, ptrTo xb 0), (7, .int .i64 (n : Int))]) r.stages.length ⟨0, q13, rfl, Nat.zero_le _, by simpa using h13, by simp [go_sem]⟩ ?_
      clear h13 c13 d13
      rintro j e K14 ⟨n, q14, rfl, hn, h14, rfl⟩
      have b14 : (A13 ++ (r.stages.take n).flatMap stageB).length ≤ 700000 := Nat.le_trans (pre_of (lay_take stageB _ n) pI).length_le hl
      obtain ⟨A14, ab⟩ : ∃ A, A = A13 ++ (r.stages.take n).flatMap stageB := ⟨_, rfl⟩
      rw [← ab] at h14 b14 ⊢
      have c14 := (h14.at_ (cb, c.cells) (by simp)).1
      simp only [Config.cells] at c14
      have d14 := (h14.at_ (xb, r.cells) (by simp)).1
      simp only [Rule.cells] at d14
      by_cases hlt2 : n < r.stages.length
      · have g2 : r.stages[n]? = some r.stages[n] := by simp [hlt2]
        have hstep2 : A14 ++ stageB r.stages[n] = A13 ++ (r.stages.take (n + 1)).flatMap stageB := by rw [ab, lay_next stageB hlt2, List.append_assoc]
        have hx2 := y6 r.stages[n] (List.getElem_mem hlt2)
        generalize r.stages[n] = x2 at g2 hx2 hstep2
        have w2 := IntWalk.i64_in ((n : Int) + 1) (by omega)
        obtain ⟨wt, pr⟩ := x2
        have e15 := h14.iappB (P := Tryd.prog) (t := 23) (e := 5) (by kernel_rfl) (by kernel_rfl) (by kernel_rfl) (by kernel_rfl) (i4 wt) (by simp [i4]) (by rw [i4_len]; omega)
        have h15 := h14.app (i4 wt)
        have Kp : Kept [[1,3,5,6,7,107],[],[1,3,5,6,7],[1,3,5,6,7]] := ⟨⟩
        iterate 4 (refine Kp.s ?_; clear Kp; intro Kp; simp [go_sem, -getElem?_pos, -List.map_take, -List.map_drop, IntWalk.iteOmega, IntWalk.toNatUp, c14, e15, d14, hlt2, g2, Stage.val, Stage.cells])
        refine ICalls.then (refInt _ _ hx2.1) ?_
        try simp [go_sem, -getElem?_pos, -List.map_take, -List.map_drop, IntWalk.iteOmega, IntWalk.toNatUp, c14, e15, d14, hlt2, g2, Stage.val, Stage.cells]
        simp only [List.map_append, List.map_cons, List.map_nil, next_alloc] at h15
        generalize (K14.kill q14).alloc _ = K15 at h15 ⊢
        generalize K14.next = q15 at h15 ⊢
        generalize a15 : A14 ++ i4 wt = A15 at h15 ⊢
        have b15 : A15.length ≤ 700004 := by rw [← a15, List.length_append]; simp only [i4_len, List.length_cons, List.length_nil]; omega
        have c15 := (h15.at_ (cb, c.cells) (by simp)).1
        simp only [Config.cells] at c15
        have d15 := (h15.at_ (xb, r.cells) (by simp)).1
        simp only [Rule.cells] at d15
        clear e15 c14 h14 d14
        have e16 := h15.iappL (P := Tryd.prog) (t := 23) (e := 5) (by kernel_rfl) (by kernel_rfl) (by kernel_rfl) (by kernel_rfl) [pr] [Value.int .u8 pr] rfl 1 rfl (by simp) (by simp; omega)
        have h16 := (h15.alloc [Value.int .u8 pr]).app [pr]
        refine IWp.one [1, 3, 5, 6, 7] ?_
        simp [go_sem, -getElem?_pos, -List.map_take, -List.map_drop, IntWalk.iteOmega, IntWalk.toNatUp, c15, e16, d15, hlt2, g2, Stage.val, Stage.cells]
        simp only [List.map_append, List.map_cons, List.map_nil, next_alloc] at h16
        generalize ((K15.alloc _).kill q15).alloc _ = K16 at h16 ⊢
        generalize K15.next + 1 = q16 at h16 ⊢
        generalize a16 : A15 ++ [pr] = A16 at h16 ⊢
        have b16 : A16.length ≤ 700005 := by rw [← a16, List.length_append]; simp only [i4_len, List.length_cons, List.length_nil]; omega
        have c16 := (h16.at_ (cb, c.cells) (by simp)).1
        simp only [Config.cells] at c16
        have d16 := (h16.at_ (xb, r.cells) (by simp)).1
        simp only [Rule.cells] at d16
        clear e16 c15 h15 d15
        refine IWp.one [1, 3, 5, 6, 7] ?_
        simp [go_sem, -getElem?_pos, -List.map_take, -List.map_drop, IntWalk.iteOmega, IntWalk.toNatUp, w2]
        exact ⟨r.stages.length - (n + 1), by omega, n + 1, rfl, by omega, q16, by rw [← hstep2]; simpa [stageB, ← a16, ← a15] using h16, by rw [← hstep2]; simp [stageB, ← a16, ← a15]⟩
      · skip
        have Kp : Kept [[1,3,5,6,7,107],[],[1,3,5],[1,3,5]] := ⟨⟩
        iterate 4 (refine Kp.s ?_; clear Kp; intro Kp; simp [go_sem, -getElem?_pos, -List.map_take, -List.map_drop, IntWalk.iteOmega, IntWalk.toNatUp, c14, d14, hlt2, w1, show ¬ (n : Int) < r.stages.length by omega])
        have hn2 : r.stages.take n = r.stages := List.take_of_length_le (by omega)
        rw [hn2, full] at ab
        exact ⟨c.rules.length - (i + 1), by omega, i + 1, rfl, by omega, q14, by rw [← ab]; exact h14.less, by rw [ab]; simp⟩
    · skip
      have Kp : Kept [[1,3,5,55],[],[1,3]] := ⟨⟩
      iterate 3 (refine Kp.s ?_; clear Kp; intro Kp; simp [go_sem, -getElem?_pos, -List.map_take, -List.map_drop, IntWalk.iteOmega, IntWalk.toNatUp, c6, hlt, show ¬ (i : Int) < c.rules.length by omega])
      have hi2 : c.rules.take i = c.rules := List.take_of_length_le (by omega)
      rw [hi2] at aa
      exact ⟨q6, by rw [← aa]; exact h6, by rw [aa]⟩
  rintro e K17 ⟨q17, h17, rfl⟩
  have b17 : (A5 ++ c.rules.flatMap ruleY).length ≤ 700000 := Nat.le_trans p5.length_le hl
  obtain ⟨A17, a17⟩ : ∃ A, A = A5 ++ c.rules.flatMap ruleY := ⟨_, rfl⟩
  rw [← a17] at h17 b17 ⊢
  clear c5 h5
  have c17 := (h17.at_ (cb, c.cells) (by simp)).1
  simp only [Config.cells] at c17
  have e18 := h17.iappL (P := Tryd.prog) (t := 23) (e := 5) (by kernel_rfl) (by kernel_rfl) (by kernel_rfl) (by kernel_rfl) [((c.table.length : Int) % 256)] [Value.int .u8 (((c.table.length : Int) % 256))] rfl 1 rfl (by simp) (by simp; omega)
  have h18 := (h17.alloc [Value.int .u8 (((c.table.length : Int) % 256))]).app [((c.table.length : Int) % 256)]
  refine IWp.one [1, 3] ?_
  simp [go_sem, -getElem?_pos, -List.map_take, -List.map_drop, IntWalk.iteOmega, IntWalk.toNatUp, c17, e18, u8_mod]
  simp only [List.map_append, List.map_cons, List.map_nil, next_alloc] at h18
  generalize ((K17.alloc _).kill q17).alloc _ = K18 at h18 ⊢
  generalize K17.next + 1 = q18 at h18 ⊢
  generalize a18 : A17 ++ [((c.table.length : Int) % 256)] = A18 at h18 ⊢
  have b18 : A18.length ≤ 700001 := by rw [← a18, List.length_append]; simp only [i4_len, List.length_cons, List.length_nil]; omega
  have c18 := (h18.at_ (cb, c.cells) (by simp)).1
  simp only [Config.cells] at c18
  clear e18 c17 h17
  have p18 : A18 ++ c.table.flatMap slotB <+: cfgB c := by rw [← a18, a17, ← a5, a4, a0]; unfold cfgB; exact ⟨_, by simp only [List.append_assoc, List.cons_append, List.nil_append]; rfl⟩
  refine IWp.cut (fun e K => ∃ q, RowAt K q (A18 ++ c.table.flatMap slotB) [(cb, c.cells)] ∧ e = [(1, ptrTo cb 0), (3, rowV q (A18 ++ c.table.flatMap slotB))]) ?_ ?_
  · skip
    refine IWp.one [1, 3, 8] ?_
    simp [go_sem, -getElem?_pos, -List.map_take, -List.map_drop, IntWalk.iteOmega, IntWalk.toNatUp, c18]
    refine IWp.block ?_
    refine IWp.loop (fun j e K => ∃ i q, j = c.table.length - i ∧ i ≤ c.table.length ∧ RowAt K q (A18 ++ (c.table.take i).flatMap slotB) [(cb, c.cells)] ∧ e = [(1, ptrTo cb 0), (3, rowV q (A18 ++ (c.table.take i).flatMap slotB)), (8, .int .i64 (i : Int))]) c.table.length ⟨0, q18, rfl, Nat.zero_le _, by simpa using h18, by simp [go_sem]⟩ ?_
    rintro j e K19 ⟨i, q19, rfl, hi, h19, rfl⟩
    have b19 : (A18 ++ (c.table.take i).flatMap slotB).length ≤ 700000 := Nat.le_trans (pre_of (lay_take slotB _ i) p18).length_le hl
    obtain ⟨A19, aa⟩ : ∃ A, A = A18 ++ (c.table.take i).flatMap slotB := ⟨_, rfl⟩
    rw [← aa] at h19 b19 ⊢
    clear c18 h18
    have c19 := (h19.at_ (cb, c.cells) (by simp)).1
    simp only [Config.cells] at c19
    by_cases hlt : i < c.table.length
    · have g : c.table[i]? = some c.table[i] := by simp [hlt]
      have hstep : A19 ++ slotB c.table[i] = A18 ++ (c.table.take (i + 1)).flatMap slotB := by rw [aa, lay_next slotB hlt, List.append_assoc]
      have hx := hw.2.2.1.1 c.table[i] (List.getElem_mem hlt)
      generalize c.table[i] = x at g hx hstep
      have w1 := IntWalk.i64_in ((i : Int) + 1) (by omega)
      have y7 := hx.2; have y6 := hx.1
      have e20 := h19.iappL (P := Tryd.prog) (t := 23) (e := 5) (by kernel_rfl) (by kernel_rfl) (by kernel_rfl) (by kernel_rfl) [((x.length : Int) % 256)] [Value.int .u8 (((x.length : Int) % 256))] rfl 1 rfl (by simp) (by simp; omega)
      have h20 := (h19.alloc [Value.int .u8 (((x.length : Int) % 256))]).app [((x.length : Int) % 256)]
      have Kp : Kept [[1,3,8,139],[],[1,3,8],[1,3,8]] := ⟨⟩
      iterate 4 (refine Kp.s ?_; clear Kp; intro Kp; simp [go_sem, -getElem?_pos, -List.map_take, -List.map_drop, IntWalk.iteOmega, IntWalk.toNatUp, c19, e20, hlt, g, u8_mod])
      refine IWp.seq ?_
      simp only [List.map_append, List.map_cons, List.map_nil, next_alloc] at h20
      generalize ((K19.alloc _).kill q19).alloc _ = K20 at h20 ⊢
      generalize K19.next + 1 = q20 at h20 ⊢
      generalize a20 : A19 ++ [((x.length : Int) % 256)] = A20 at h20 ⊢
      have b20 : A20.length ≤ 700001 := by rw [← a20, List.length_append]; simp only [i4_len, List.length_cons, List.length_nil]; omega
      have c20 := (h20.at_ (cb, c.cells) (by simp)).1
      simp only [Config.cells] at c20
      clear e20 c19 h19
      have full : A20 ++ x.flatMap (fun y => [y % 256]) = A18 ++ (c.table.take (i + 1)).flatMap slotB := by rw [← hstep, ← a20]; simp [slotB, flat_one]
      have pI : A20 ++ x.flatMap (fun y => [y % 256]) <+: cfgB c := by rw [full]; exact pre_of (lay_take slotB _ (i + 1)) p18
      refine IWp.one [1, 3, 8, 9] ?_
      simp [go_sem, -getElem?_pos, -List.map_take, -List.map_drop, IntWalk.iteOmega, IntWalk.toNatUp, c20]
      refine IWp.block ?_
      simp only [maxLen] at y7
      refine IWp.loop (fun j e K => ∃ n q, j = x.length - n ∧ n ≤ x.length ∧ RowAt K q (A20 ++ (x.take n).flatMap (fun y => [y % 256])) [(cb, c.cells)] ∧ e = [(1, ptrTo cb 0), (3, rowV q (A20 ++ (x.take n).flatMap fun y => [y % 256])), (8, .int .i64 (i : Int)), (9, .int .i64 (n : Int))]) x.length ⟨0, q20, rfl, Nat.zero_le _, by simpa using h20, by simp [go_sem]⟩ ?_
      clear h20 c20
      rintro j e K21 ⟨n, q21, rfl, hn, h21, rfl⟩
      have b21 : (A20 ++ (x.take n).flatMap (fun y => [y % 256])).length ≤ 700000 := Nat.le_trans (pre_of (lay_take (fun y => [y % 256]) _ n) pI).length_le hl
      obtain ⟨A21, ab⟩ : ∃ A, A = A20 ++ (x.take n).flatMap (fun y => [y % 256]) := ⟨_, rfl⟩
      rw [← ab] at h21 b21 ⊢
      have c21 := (h21.at_ (cb, c.cells) (by simp)).1
      simp only [Config.cells] at c21
      by_cases hlt2 : n < x.length
      · have g2 : x[n]? = some x[n] := by simp [hlt2]
        have hstep2 : A21 ++ (fun y => [y % 256]) x[n] = A20 ++ (x.take (n + 1)).flatMap (fun y => [y % 256]) := by rw [ab, lay_next (fun y => [y % 256]) hlt2, List.append_assoc]
        have hx2 := y6 x[n] (List.getElem_mem hlt2)
        generalize x[n] = x2 at g2 hx2 hstep2
        have w2 := IntWalk.i64_in ((n : Int) + 1) (by omega)
        have e22 := h21.iappL (P := Tryd.prog) (t := 23) (e := 5) (by kernel_rfl) (by kernel_rfl) (by kernel_rfl) (by kernel_rfl) [(x2 % 256)] [Value.int .u8 ((x2 % 256))] rfl 1 rfl (by simp) (by simp; omega)
        have h22 := (h21.alloc [Value.int .u8 ((x2 % 256))]).app [(x2 % 256)]
        have Kp : Kept [[1,3,8,9,159],[],[1,3,8,9],[1,3,8,9]] := ⟨⟩
        iterate 4 (refine Kp.s ?_; clear Kp; intro Kp; simp [go_sem, -getElem?_pos, -List.map_take, -List.map_drop, IntWalk.iteOmega, IntWalk.toNatUp, c21, e22, hlt2, g2, hlt, g, u8_mod])
        simp only [List.map_append, List.map_cons, List.map_nil, next_alloc] at h22
        generalize ((K21.alloc _).kill q21).alloc _ = K22 at h22 ⊢
        generalize K21.next + 1 = q22 at h22 ⊢
        generalize a22 : A21 ++ [(x2 % 256)] = A22 at h22 ⊢
        have b22 : A22.length ≤ 700001 := by rw [← a22, List.length_append]; simp only [i4_len, List.length_cons, List.length_nil]; omega
        have c22 := (h22.at_ (cb, c.cells) (by simp)).1
        simp only [Config.cells] at c22
        clear e22 c21 h21
        refine IWp.one [1, 3, 8, 9] ?_
        simp [go_sem, -getElem?_pos, -List.map_take, -List.map_drop, IntWalk.iteOmega, IntWalk.toNatUp, w2]
        exact ⟨x.length - (n + 1), by omega, n + 1, rfl, by omega, q22, by rw [← hstep2]; simpa [← a22] using h22, by rw [← hstep2]; simp [← a22]⟩
      · skip
        have Kp : Kept [[1,3,8,9,159],[],[1,3,8],[1,3,8]] := ⟨⟩
        iterate 4 (refine Kp.s ?_; clear Kp; intro Kp; simp [go_sem, -getElem?_pos, -List.map_take, -List.map_drop, IntWalk.iteOmega, IntWalk.toNatUp, c21, g, hlt, show ¬ (i : Int) < 0 by omega, hlt2, w1, show ¬ (n : Int) < x.length by omega])
        have hn2 : x.take n = x := List.take_of_length_le (by omega)
        rw [hn2, full] at ab
        exact ⟨c.table.length - (i + 1), by omega, i + 1, rfl, by omega, q21, by rw [← ab]; exact h21, by rw [ab]; simp⟩
    · skip
      have Kp : Kept [[1,3,8,139],[],[1,3]] := ⟨⟩
      iterate 3 (refine Kp.s ?_; clear Kp; intro Kp; simp [go_sem, -getElem?_pos, -List.map_take, -List.map_drop, IntWalk.iteOmega, IntWalk.toNatUp, c19, hlt, show ¬ (i : Int) < c.table.length by omega])
      have hi2 : c.table.take i = c.table := List.take_of_length_le (by omega)
      rw [hi2] at aa
      exact ⟨q19, by rw [← aa]; exact h19, by rw [aa]⟩
  rintro e K23 ⟨q23, h23, rfl⟩
  have b23 : (A18 ++ c.table.flatMap slotB).length ≤ 700000 := Nat.le_trans p18.length_le hl
  obtain ⟨A23, a23⟩ : ∃ A, A = A18 ++ c.table.flatMap slotB := ⟨_, rfl⟩
  rw [← a23] at h23 b23 ⊢
  clear c18 h18
  have c23 := (h23.at_ (cb, c.cells) (by simp)).1
  simp only [Config.cells] at c23
  have e24 := h23.iappL (P := Tryd.prog) (t := 23) (e := 5) (by kernel_rfl) (by kernel_rfl) (by kernel_rfl) (by kernel_rfl) [(c.b0 % 256), (c.b1 % 256), (c.b2 % 256), (c.drain % 256)] [Value.int .u8 ((c.b0 % 256)), Value.int .u8 ((c.b1 % 256)), Value.int .u8 ((c.b2 % 256)), Value.int .u8 ((c.drain % 256))] rfl 4 rfl (by simp) (by simp; omega)
  have h24 := (h23.alloc [Value.int .u8 ((c.b0 % 256)), Value.int .u8 ((c.b1 % 256)), Value.int .u8 ((c.b2 % 256)), Value.int .u8 ((c.drain % 256))]).app [(c.b0 % 256), (c.b1 % 256), (c.b2 % 256), (c.drain % 256)]
  refine IWp.one [1, 3] ?_
  simp [go_sem, -getElem?_pos, -List.map_take, -List.map_drop, IntWalk.iteOmega, IntWalk.toNatUp, c23, e24, u8_mod]
  refine IWp.seq ?_
  simp only [List.map_append, List.map_cons, List.map_nil, next_alloc] at h24
  generalize ((K23.alloc _).kill q23).alloc _ = K24 at h24 ⊢
  generalize K23.next + 1 = q24 at h24 ⊢
  generalize a24 : A23 ++ [(c.b0 % 256), (c.b1 % 256), (c.b2 % 256), (c.drain % 256)] = A24 at h24 ⊢
  have b24 : A24.length ≤ 700004 := by rw [← a24, List.length_append]; simp only [i4_len, List.length_cons, List.length_nil]; omega
  have c24 := (h24.at_ (cb, c.cells) (by simp)).1
  simp only [Config.cells] at c24
  clear e24 c23 h23
  have e25 := h24.iappB (P := Tryd.prog) (t := 23) (e := 5) (by kernel_rfl) (by kernel_rfl) (by kernel_rfl) (by kernel_rfl) (i4 c.pause) (by simp [i4]) (by rw [i4_len]; omega)
  have h25 := h24.app (i4 c.pause)
  refine IWp.one [1, 3] ?_
  simp [go_sem, -getElem?_pos, -List.map_take, -List.map_drop, IntWalk.iteOmega, IntWalk.toNatUp, c24, e25]
  refine ICalls.then (refInt _ _ hw.2.2.2.2.2.2.2.1) ?_
  try simp [go_sem, -getElem?_pos, -List.map_take, -List.map_drop, IntWalk.iteOmega, IntWalk.toNatUp, c24, e25]
  refine IWp.seq ?_
  simp only [List.map_append, List.map_cons, List.map_nil, next_alloc] at h25
  generalize (K24.kill q24).alloc _ = K25 at h25 ⊢
  generalize K24.next = q25 at h25 ⊢
  generalize a25 : A24 ++ i4 c.pause = A25 at h25 ⊢
  have b25 : A25.length ≤ 700008 := by rw [← a25, List.length_append]; simp only [i4_len, List.length_cons, List.length_nil]; omega
  have c25 := (h25.at_ (cb, c.cells) (by simp)).1
  simp only [Config.cells] at c25
  clear e25 c24 h24
  have e26 := h25.iappB (P := Tryd.prog) (t := 23) (e := 5) (by kernel_rfl) (by kernel_rfl) (by kernel_rfl) (by kernel_rfl) (i4 c.off) (by simp [i4]) (by rw [i4_len]; omega)
  have h26 := h25.app (i4 c.off)
  refine IWp.one [1, 3] ?_
  simp [go_sem, -getElem?_pos, -List.map_take, -List.map_drop, IntWalk.iteOmega, IntWalk.toNatUp, c25, e26]
  refine ICalls.then (refInt _ _ hw.2.2.2.2.2.2.2.2.1) ?_
  try simp [go_sem, -getElem?_pos, -List.map_take, -List.map_drop, IntWalk.iteOmega, IntWalk.toNatUp, c25, e26]
  refine IWp.seq ?_
  simp only [List.map_append, List.map_cons, List.map_nil, next_alloc] at h26
  generalize (K25.kill q25).alloc _ = K26 at h26 ⊢
  generalize K25.next = q26 at h26 ⊢
  generalize a26 : A25 ++ i4 c.off = A26 at h26 ⊢
  have b26 : A26.length ≤ 700012 := by rw [← a26, List.length_append]; simp only [i4_len, List.length_cons, List.length_nil]; omega
  have c26 := (h26.at_ (cb, c.cells) (by simp)).1
  simp only [Config.cells] at c26
  clear e26 c25 h25
  have e27 := h26.iappL (P := Tryd.prog) (t := 23) (e := 5) (by kernel_rfl) (by kernel_rfl) (by kernel_rfl) (by kernel_rfl) [(if c.brk = true then 1 else 0)] [Value.int .u8 ((if c.brk = true then 1 else 0))] rfl 1 rfl (by simp) (by simp; omega)
  have h27 := (h26.alloc [Value.int .u8 ((if c.brk = true then 1 else 0))]).app [(if c.brk = true then 1 else 0)]
  refine IWp.one [1, 3] ?_
  simp [go_sem, -getElem?_pos, -List.map_take, -List.map_drop, IntWalk.iteOmega, IntWalk.toNatUp, c26, e27, get_alloc, get_kill, next_alloc, next_kill, Nat.ne_of_lt (Heap.lt_of_get c26), Nat.ne_of_lt (Nat.lt_succ_of_lt (Heap.lt_of_get c26)), (h26.at_ (cb, c.cells) (by simp)).2]
  refine ICalls.then (refFlag _ _) ?_
  try simp [go_sem, -getElem?_pos, -List.map_take, -List.map_drop, IntWalk.iteOmega, IntWalk.toNatUp, c26, e27, get_alloc, get_kill, next_alloc, next_kill, Nat.ne_of_lt (Heap.lt_of_get c26), Nat.ne_of_lt (Nat.lt_succ_of_lt (Heap.lt_of_get c26)), (h26.at_ (cb, c.cells) (by simp)).2]
  refine IWp.seq ?_
  simp only [List.map_append, List.map_cons, List.map_nil, next_alloc] at h27
  generalize ((K26.alloc _).kill q26).alloc _ = K27 at h27 ⊢
  generalize K26.next + 1 = q27 at h27 ⊢
  generalize a27 : A26 ++ [(if c.brk = true then 1 else 0)] = A27 at h27 ⊢
  have b27 : A27.length ≤ 700013 := by rw [← a27, List.length_append]; simp only [i4_len, List.length_cons, List.length_nil]; omega
  have c27 := (h27.at_ (cb, c.cells) (by simp)).1
  simp only [Config.cells] at c27
  clear e27 c26 h26
  have e28 := h27.iappB (P := Tryd.prog) (t := 23) (e := 5) (by kernel_rfl) (by kernel_rfl) (by kernel_rfl) (by kernel_rfl) (i4 c.log) (by simp [i4]) (by rw [i4_len]; omega)
  have h28 := h27.app (i4 c.log)
  refine IWp.one [3] ?_
  simp [go_sem, -getElem?_pos, -List.map_take, -List.map_drop, IntWalk.iteOmega, IntWalk.toNatUp, c27, e28]
  refine ICalls.then (refInt _ _ hw.2.2.2.2.2.2.2.2.2) ?_
  try simp [go_sem, -getElem?_pos, -List.map_take, -List.map_drop, IntWalk.iteOmega, IntWalk.toNatUp, c27, e28]
  refine IWp.seq ?_
  simp only [List.map_append, List.map_cons, List.map_nil, next_alloc] at h28
  generalize (K27.kill q27).alloc _ = K28 at h28 ⊢
  generalize K27.next = q28 at h28 ⊢
  generalize a28 : A27 ++ i4 c.log = A28 at h28 ⊢
  have b28 : A28.length ≤ 700017 := by rw [← a28, List.length_append]; simp only [i4_len, List.length_cons, List.length_nil]; omega
  have c28 := (h28.at_ (cb, c.cells) (by simp)).1
  simp only [Config.cells] at c28
  clear e28 c27 h27
  have full : A28 = cfgB c := by rw [← a28, ← a27, ← a26, ← a25, ← a24, a23, ← a18, a17, ← a5, a4, a0]; simp [cfgB, flagB]
  rw [full] at h28 b28 ⊢
  refine IWp.one [2] ?_
  simp [go_sem, -getElem?_pos, -List.map_take, -List.map_drop, IntWalk.iteOmega, IntWalk.toNatUp]
  refine ICalls.freeze1 q28 (.cons (frz_lit ((cfgB c).map (Value.int .u8)) h28.row (map_flat _ _) (map_sz .u8 _) (by simp) (by simp)) .nil) (ICalls.then (refClose _ 0 (cfgB c) (by omega) (cfgB_bs hw)) ?_)
  simp [go_sem]
  refine IWp.one [] ?_
  simp [go_sem, -getElem?_pos, -List.map_take, -List.map_drop, IntWalk.iteOmega, IntWalk.toNatUp]
end Go.Proofs.YtoecebibhcadoaaDoor.I
namespace Go.Proofs.YtoecebibhcadoaaDoor.I
open Go Go.RowKit
set_option linter.unusedVariables false
set_option linter.unusedSimpArgs false
def WrF (H : Heap) (b : Nat) (L : List Int) (F : List (Nat × List Value)) : Prop := ∃ r, WrAt H b r L ∧ ∀ p ∈ F, H.get p.1 = some ⟨p.2, true⟩ ∧ p.1 ≠ b ∧ r ≠ some p.1
section
variable {H K : Heap} {b : Nat} {L M : List Int} {F G : List (Nat × List Value)}
theorem WrF.at_ (h : WrF H b L F) {p : Nat × List Value} (hp : p ∈ F) : H.get p.1 = some ⟨p.2, true⟩ := by
  obtain ⟨r, _, h2⟩ := h
  exact (h2 p hp).1
theorem WrF.alloc (h : WrF H b L F) (cs : List Value) : WrF (H.alloc cs) b L F := by
  obtain ⟨r, h1, h2⟩ := h
  exact ⟨r, h1.same fun j hj => Heap.get_alloc_lt _ _ _ hj, fun p hp => ⟨by rw [Heap.get_alloc_lt _ _ _ (Heap.lt_of_get (h2 p hp).1)]; exact (h2 p hp).1, (h2 p hp).2⟩⟩
theorem WrF.more (h : WrF H b L F) (cs : List Value) : WrF (H.alloc cs) b L ((H.next, cs) :: F) := by
  obtain ⟨r, h1, h2⟩ := h
  have hl := h1.lt
  obtain ⟨r', h3, h4⟩ : WrF (H.alloc cs) b L F := WrF.alloc ⟨r, h1, h2⟩ cs
  refine ⟨r, h1.same fun j hj => Heap.get_alloc_lt _ _ _ hj, fun p hp => ?_⟩
  rcases List.mem_cons.1 hp with rfl | hp
  · exact ⟨Heap.get_alloc_new _ _, by simp only; omega, fun e => by have := hl.2 _ e; simp only at this; omega⟩
  · exact ⟨(h4 p hp).1, (h2 p hp).2⟩
theorem WrF.sub (h : WrF H b L F) (hs : ∀ p ∈ G, p ∈ F) : WrF H b L G := by
  obtain ⟨r, h1, h2⟩ := h
  exact ⟨r, h1, fun p hp => h2 p (hs p hp)⟩
theorem WrF.less {p : Nat × List Value} (h : WrF H b L (p :: F)) : WrF H b L F := h.sub fun x hx => List.mem_cons_of_mem _ hx
theorem WrF.step {r r' : Option Nat} (h1 : WrAt H b r L) (h2 : ∀ p ∈ F, H.get p.1 = some ⟨p.2, true⟩ ∧ p.1 ≠ b ∧ r ≠ some p.1) (h : WrAt K b r' M) (s : Step H K b r r') : WrF K b M F := by
  refine ⟨r', h, fun p hp => ?_⟩
  obtain ⟨a1, a2, a3⟩ := h2 p hp
  have hlt := Heap.lt_of_get a1
  refine ⟨by rw [s.get _ hlt a2 a3]; exact a1, a2, ?_⟩
  rcases s.row with rfl | ⟨q, rfl, hq⟩
  · exact a3
  · intro e; cases e; omega
theorem wfByte (h : WrF H b L F) (x : Int) (hl : L.length ≤ 900000) : ICalls Tryd.prog 22 [ptrTo b 0, .int .u8 x] H fun v K => v = ptrTo b 0 ∧ WrF K b (L ++ [x]) F := by
  obtain ⟨r, h1, h2⟩ := h
  exact (wByte H b r L x h1 hl).mono fun v K ⟨e, r', h3, h4⟩ => ⟨e, WrF.step h1 h2 h3 h4⟩
theorem wfInt (h : WrF H b L F) (x : Int) (hl : L.length ≤ 900000) : ICalls Tryd.prog 25 [ptrTo b 0, .int .i64 x] H fun v K => v = ptrTo b 0 ∧ WrF K b (L ++ i4 x) F := by
  obtain ⟨r, h1, h2⟩ := h
  exact (wInt H b r L x h1 hl).mono fun v K ⟨e, r', h3, h4⟩ => ⟨e, WrF.step h1 h2 h3 h4⟩
theorem wfFlag (h : WrF H b L F) (x : Bool) (hl : L.length ≤ 900000) : ICalls Tryd.prog 33 [ptrTo b 0, .bool x] H fun v K => v = ptrTo b 0 ∧ WrF K b (L ++ [if x then 1 else 0]) F := by
  obtain ⟨r, h1, h2⟩ := h
  exact (wFlag H b r L x h1 hl).mono fun v K ⟨e, r', h3, h4⟩ => ⟨e, WrF.step h1 h2 h3 h4⟩
end
theorem putSig {H : Heap} {b x : Nat} {L : List Int} {F : List (Nat × List Value)} (y : Sig) (h : WrF H b L F) (hx : (x, [ptrTo b 0]) ∈ F) (hl : (L ++ sigB y).length ≤ 700000) :
    ICalls Tryd.prog 24 [y.val, ptrTo x 0] H fun v K => v = .tuple #[] ∧ WrF K b (L ++ sigB y) F := by
  refine IBody.calls (by kernel_rfl) ?_
  have hl0 : L.length ≤ 700000 := by rw [List.length_append] at hl; omega
  have h1 := h.more [.int .i64 y.lo, .int .i64 y.hi]
  have a1 := h1.at_ (List.mem_cons_self ..)
  have a2 := h1.at_ (List.mem_cons_of_mem _ hx)
  simp only at a1 a2
  refine IBody.of Tryd.func24 rfl (by rw [Tryd.ntmps24]; simp) ?_
  rw [Tryd.ntmps24]
  refine IWp.one [1, 2] ?_
  simp [go_sem, -getElem?_pos, -List.map_take, -List.map_drop, IntWalk.iteOmega, IntWalk.toNatUp, Sig.val, Sig.cells]
  generalize H.alloc _ = K0 at h1 a1 a2 ⊢
  generalize H.next = yb at h1 a1 ⊢
  refine IWp.draw [] [yb, x] (.ld 0 [3, 6] (.val 1 (.ld 2 [3, 6] (.val 4 (.val 5 (.eff 3 (.eff 6 .done .done) .done)))))) follows (by kernel_rfl) ?_
  simp [go_sem, -getElem?_pos, -List.map_take, -List.map_drop, IntWalk.iteOmega, IntWalk.toNatUp, a1, a2]
  refine ICalls.mono (wfInt h1 y.lo (by omega)) ?_
  rintro v K1 ⟨rfl, h2⟩
  try simp [go_sem, -getElem?_pos, -List.map_take, -List.map_drop, IntWalk.iteOmega, IntWalk.toNatUp, a1, a2, h2.at_ (List.mem_cons_self ..), h2.at_ (List.mem_cons_of_mem _ hx)]
  refine ICalls.mono (wfInt h2 y.hi (by rw [List.length_append]; simp [i4]; omega)) ?_
  rintro v K2 ⟨rfl, h3⟩
  try simp [go_sem, -getElem?_pos, -List.map_take, -List.map_drop, IntWalk.iteOmega, IntWalk.toNatUp, a1, a2, h2.at_ (List.mem_cons_self ..), h2.at_ (List.mem_cons_of_mem _ hx), h3.at_ (List.mem_cons_self ..), h3.at_ (List.mem_cons_of_mem _ hx)]
  rw [List.append_assoc] at h3
  exact h3.less
set_option maxHeartbeats 4000000 in
theorem laySig {H : Heap} {b x : Nat} {L : List Int} {F : List (Nat × List Value)} (l : List Sig) (h : WrF H b L F) (hx : (x, [ptrTo b 0]) ∈ F) (hn : l.length ≤ 9223372036854775807) (hl : (L ++ [(l.length : Int) % 256] ++ l.flatMap sigB).length ≤ 700000) :
    ICalls Tryd.prog 23 [ptrTo b 0, frow 2 0 (l.map Sig.val), .func (.func 24) #[] #[ptrTo x 0]] H fun v K => v = .tuple #[] ∧ WrF K b (L ++ [(l.length : Int) % 256] ++ l.flatMap sigB) F := by
  refine IBody.calls (by kernel_rfl) ?_
  obtain ⟨CF, hCF⟩ : ∃ CF : Value, CF = .func (.func 24) #[] #[ptrTo x 0] := ⟨_, rfl⟩
  rw [← hCF]
  have hl0 : L.length ≤ 700000 := by rw [List.length_append, List.length_append] at hl; omega
  refine IBody.of Tryd.func23 rfl (by rw [Tryd.ntmps23]; simp) ?_
  rw [Tryd.ntmps23]
  refine IWp.one [1, 2] ?_
  simp [go_sem, -getElem?_pos, -List.map_take, -List.map_drop, IntWalk.iteOmega, IntWalk.toNatUp, u8_mod]
  refine ICalls.mono (wfByte h _ (by omega)) ?_
  rintro v K0 ⟨rfl, h0⟩
  try simp [go_sem, -getElem?_pos, -List.map_take, -List.map_drop, IntWalk.iteOmega, IntWalk.toNatUp, u8_mod]
  refine IWp.one [2, 13, 14, 15] ?_
  simp [go_sem, -getElem?_pos, -List.map_take, -List.map_drop, IntWalk.iteOmega, IntWalk.toNatUp, u8_mod]
  refine IWp.block ?_
  refine IWp.loop (fun j e K => ∃ i : Nat, j = l.length - i ∧ i ≤ l.length ∧ WrF K b (L ++ [(l.length : Int) % 256] ++ (l.take i).flatMap sigB) F ∧ e = [(2, CF), (13, frow 2 0 (l.map Sig.val)), (14, .int .i64 (l.length : Int)), (15, .int .i64 (i : Int))]) l.length ⟨0, rfl, Nat.zero_le _, by simpa using h0, by simp [go_sem]⟩ ?_
  rintro j e K ⟨i, rfl, hi, hk, rfl⟩
  by_cases hlt : i < l.length
  · have g : l[i]? = some l[i] := by simp [hlt]
    have hstep := lay_next sigB hlt
    have hb : (L ++ [(l.length : Int) % 256] ++ (l.take i).flatMap sigB ++ sigB l[i]).length ≤ 700000 := by
      refine Nat.le_trans ?_ hl
      rw [List.append_assoc, ← hstep]
      exact ((List.prefix_append_right_inj _).2 (lay_take sigB l (i + 1))).length_le
    generalize l[i] = y at g hstep hb
    have w1 := IntWalk.i64_in ((i : Int) + 1) (by omega)
    have c1 := putSig y (hk.more [.int .i64 y.lo, .int .i64 y.hi]) (List.mem_cons_of_mem _ hx) hb
    try simp only [Sig.val, Sig.cells] at c1
    have Kp : Kept [[2,13,14,15,16],[],[2,13,14,15],[2,7,13,14,15],[2,13,14,15]] := ⟨⟩
    iterate 5 (refine Kp.s ?_; clear Kp; intro Kp; simp [go_sem, -getElem?_pos, -List.map_take, -List.map_drop, IntWalk.iteOmega, IntWalk.toNatUp, hlt, g, Sig.val, Sig.cells])
    subst hCF
    simp [go_sem]
    refine ICalls.mono c1 ?_
    rintro v K1 ⟨rfl, hk1⟩
    simp [go_sem]
    refine IWp.one [2, 13, 14, 15] ?_
    simp [go_sem, -getElem?_pos, -List.map_take, -List.map_drop, IntWalk.iteOmega, IntWalk.toNatUp, w1]
    exact ⟨l.length - (i + 1), by omega, i + 1, rfl, by omega, by simpa [hstep] using hk1.less, by simp⟩
  · skip
    have Kp : Kept [[2,13,14,15,16],[],[]] := ⟨⟩
    iterate 3 (refine Kp.s ?_; clear Kp; intro Kp; simp [go_sem, -getElem?_pos, -List.map_take, -List.map_drop, IntWalk.iteOmega, IntWalk.toNatUp, show ¬ (i : Int) < l.length by omega])
    rw [List.take_of_length_le (by omega)] at hk
    simpa using hk
theorem putStage {H : Heap} {b x : Nat} {L : List Int} {F : List (Nat × List Value)} (y : Stage) (h : WrF H b L F) (hx : (x, [ptrTo b 0]) ∈ F) (hl : (L ++ stageB y).length ≤ 700000) :
    ICalls Tryd.prog 46 [y.val, ptrTo x 0] H fun v K => v = .tuple #[] ∧ WrF K b (L ++ stageB y) F := by
  refine IBody.calls (by kernel_rfl) ?_
  have hl0 : L.length ≤ 700000 := by rw [List.length_append] at hl; omega
  have h1 := h.more [.int .i64 y.wait, .int .u8 y.prio]
  have a1 := h1.at_ (List.mem_cons_self ..)
  have a2 := h1.at_ (List.mem_cons_of_mem _ hx)
  simp only at a1 a2
  refine IBody.of Tryd.func46 rfl (by rw [Tryd.ntmps46]; simp) ?_
  rw [Tryd.ntmps46]
  refine IWp.one [1, 2] ?_
  simp [go_sem, -getElem?_pos, -List.map_take, -List.map_drop, IntWalk.iteOmega, IntWalk.toNatUp, Stage.val, Stage.cells]
  generalize H.alloc _ = K0 at h1 a1 a2 ⊢
  generalize H.next = yb at h1 a1 ⊢
  refine IWp.draw [] [yb, x] (.ld 0 [3, 6] (.val 1 (.ld 2 [3, 6] (.val 4 (.val 5 (.eff 3 (.eff 6 .done .done) .done)))))) follows (by kernel_rfl) ?_
  simp [go_sem, -getElem?_pos, -List.map_take, -List.map_drop, IntWalk.iteOmega, IntWalk.toNatUp, a1, a2]
  refine ICalls.mono (wfInt h1 y.wait (by omega)) ?_
  rintro v K1 ⟨rfl, h2⟩
  try simp [go_sem, -getElem?_pos, -List.map_take, -List.map_drop, IntWalk.iteOmega, IntWalk.toNatUp, a1, a2, h2.at_ (List.mem_cons_self ..), h2.at_ (List.mem_cons_of_mem _ hx)]
  refine ICalls.mono (wfByte h2 y.prio (by rw [List.length_append]; simp [i4]; omega)) ?_
  rintro v K2 ⟨rfl, h3⟩
  try simp [go_sem, -getElem?_pos, -List.map_take, -List.map_drop, IntWalk.iteOmega, IntWalk.toNatUp, a1, a2, h2.at_ (List.mem_cons_self ..), h2.at_ (List.mem_cons_of_mem _ hx), h3.at_ (List.mem_cons_self ..), h3.at_ (List.mem_cons_of_mem _ hx)]
  rw [List.append_assoc] at h3
  exact h3.less
set_option maxHeartbeats 4000000 in
theorem layStage {H : Heap} {b x : Nat} {L : List Int} {F : List (Nat × List Value)} (l : List Stage) (h : WrF H b L F) (hx : (x, [ptrTo b 0]) ∈ F) (hn : l.length ≤ 9223372036854775807) (hl : (L ++ [(l.length : Int) % 256] ++ l.flatMap stageB).length ≤ 700000) :
    ICalls Tryd.prog 45 [ptrTo b 0, frow 2 0 (l.map Stage.val), .func (.func 46) #[] #[ptrTo x 0]] H fun v K => v = .tuple #[] ∧ WrF K b (L ++ [(l.length : Int) % 256] ++ l.flatMap stageB) F := by
  refine IBody.calls (by kernel_rfl) ?_
  obtain ⟨CF, hCF⟩ : ∃ CF : Value, CF = .func (.func 46) #[] #[ptrTo x 0] := ⟨_, rfl⟩
  rw [← hCF]
  have hl0 : L.length ≤ 700000 := by rw [List.length_append, List.length_append] at hl; omega
  refine IBody.of Tryd.func45 rfl (by rw [Tryd.ntmps45]; simp) ?_
  rw [Tryd.ntmps45]
  refine IWp.one [1, 2] ?_
  simp [go_sem, -getElem?_pos, -List.map_take, -List.map_drop, IntWalk.iteOmega, IntWalk.toNatUp, u8_mod]
  refine ICalls.mono (wfByte h _ (by omega)) ?_
  rintro v K0 ⟨rfl, h0⟩
  try simp [go_sem, -getElem?_pos, -List.map_take, -List.map_drop, IntWalk.iteOmega, IntWalk.toNatUp, u8_mod]
  refine IWp.one [2, 13, 14, 15] ?_
  simp [go_sem, -getElem?_pos, -List.map_take, -List.map_drop, IntWalk.iteOmega, IntWalk.toNatUp, u8_mod]
  refine IWp.block ?_
  refine IWp.loop (fun j e K => ∃ i : Nat, j = l.length - i ∧ i ≤ l.length ∧ WrF K b (L ++ [(l.length : Int) % 256] ++ (l.take i).flatMap stageB) F ∧ e = [(2, CF), (13, frow 2 0 (l.map Stage.val)), (14, .int .i64 (l.length : Int)), (15, .int .i64 (i : Int))]) l.length ⟨0, rfl, Nat.zero_le _, by simpa using h0, by simp [go_sem]⟩ ?_
  rintro j e K ⟨i, rfl, hi, hk, rfl⟩
  by_cases hlt : i < l.length
  · have g : l[i]? = some l[i] := by simp [hlt]
    have hstep := lay_next stageB hlt
    have hb : (L ++ [(l.length : Int) % 256] ++ (l.take i).flatMap stageB ++ stageB l[i]).length ≤ 700000 := by
      refine Nat.le_trans ?_ hl
      rw [List.append_assoc, ← hstep]
      exact ((List.prefix_append_right_inj _).2 (lay_take stageB l (i + 1))).length_le
    generalize l[i] = y at g hstep hb
    have w1 := IntWalk.i64_in ((i : Int) + 1) (by omega)
    have c1 := putStage y (hk.more [.int .i64 y.wait, .int .u8 y.prio]) (List.mem_cons_of_mem _ hx) hb
    try simp only [Stage.val, Stage.cells] at c1
    have Kp : Kept [[2,13,14,15,16],[],[2,13,14,15],[2,7,13,14,15],[2,13,14,15]] := ⟨⟩
    iterate 5 (refine Kp.s ?_; clear Kp; intro Kp; simp [go_sem, -getElem?_pos, -List.map_take, -List.map_drop, IntWalk.iteOmega, IntWalk.toNatUp, hlt, g, Stage.val, Stage.cells])
    subst hCF
    simp [go_sem]
    refine ICalls.mono c1 ?_
    rintro v K1 ⟨rfl, hk1⟩
    simp [go_sem]
    refine IWp.one [2, 13, 14, 15] ?_
    simp [go_sem, -getElem?_pos, -List.map_take, -List.map_drop, IntWalk.iteOmega, IntWalk.toNatUp, w1]
    exact ⟨l.length - (i + 1), by omega, i + 1, rfl, by omega, by simpa [hstep] using hk1.less, by simp⟩
  · skip
    have Kp : Kept [[2,13,14,15,16],[],[]] := ⟨⟩
    iterate 3 (refine Kp.s ?_; clear Kp; intro Kp; simp [go_sem, -getElem?_pos, -List.map_take, -List.map_drop, IntWalk.iteOmega, IntWalk.toNatUp, show ¬ (i : Int) < l.length by omega])
    rw [List.take_of_length_le (by omega)] at hk
    simpa using hk
set_option maxHeartbeats 4000000 in
theorem ruleW {H : Heap} {b : Nat} {L : List Int} {F : List (Nat × List Value)} (y : Rule) (h : WrF H b L F) (hn : y.stages.length ≤ 9223372036854775807) (hl : (L ++ ruleY y).length ≤ 700000) :
    ICalls Tryd.prog 28 [ptrTo b 0, y.val] H fun v K => v = .tuple #[] ∧ WrF K b (L ++ ruleY y) F := by
  refine IBody.calls (by kernel_rfl) ?_
  have hl0 : L.length ≤ 700000 := by rw [List.length_append] at hl; omega
  have h1 := (h.more [ptrTo b 0]).more [.int .u8 y.kind, .int .i64 y.sg, .int .i64 y.lim, .int .i64 y.back, .int .i64 y.delay, .int .i64 y.span, .int .u8 y.prio, .bool y.latch, frow 2 0 (y.stages.map Stage.val)]
  have a1 := h1.at_ (List.mem_cons_self ..)
  have a2 := h1.at_ (List.mem_cons_of_mem _ (List.mem_cons_self ..))
  simp only at a1 a2
  refine IBody.of Tryd.func28 rfl (by rw [Tryd.ntmps28]; simp) ?_
  rw [Tryd.ntmps28]
  refine IWp.one [2, 3] ?_
  simp [go_sem, -getElem?_pos, -List.map_take, -List.map_drop, IntWalk.iteOmega, IntWalk.toNatUp, Rule.val, Rule.cells]
  refine IWp.seq ?_
  simp only [next_alloc] at h1 a1
  try simp only [ptrTo] at h1
  try simp only [ptrTo] at a2
  try simp only [ptrTo] at a1
  generalize (H.alloc _).alloc _ = K0 at h1 a1 a2 ⊢
  generalize H.next + 1 = yb at h1 a1 ⊢
  generalize H.next = x at h1 a2 ⊢
  refine IWp.draw [2, 3] [yb, x] (.ld 0 [3, 7, 10, 13, 16, 19, 22, 25] (.val 1 (.ld 2 [3, 7, 10, 13, 16, 19, 22, 25] (.val 4 (.val 8 (.val 11 (.val 14 (.val 17 (.val 20 (.val 23 (.val 5 (.val 6 (.val 9 (.val 12 (.val 15 (.val 18 (.val 21 (.val 24 (.eff 3 (.eff 7 (.eff 10 (.eff 13 (.eff 16 (.eff 19 (.eff 22 (.eff 25 .done .done) .done) .done) .done) .done) .done) .done) .done))))))))))))))))))) follows (by kernel_rfl) ?_
  simp [go_sem, -getElem?_pos, -List.map_take, -List.map_drop, IntWalk.iteOmega, IntWalk.toNatUp, a1, a2, u8_mod]
  refine ICalls.mono (wfByte h1 y.kind (by (try simp [i4]); omega)) ?_
  rintro v K1 ⟨rfl, h2⟩
  try simp [go_sem, -getElem?_pos, -List.map_take, -List.map_drop, IntWalk.iteOmega, IntWalk.toNatUp, a1, a2, u8_mod, h2.at_ (List.mem_cons_self ..), h2.at_ (List.mem_cons_of_mem _ (List.mem_cons_self ..))]
  refine ICalls.mono (wfByte h2 (y.sg % 256) (by (try simp [i4]); omega)) ?_
  rintro v K2 ⟨rfl, h3⟩
  try simp [go_sem, -getElem?_pos, -List.map_take, -List.map_drop, IntWalk.iteOmega, IntWalk.toNatUp, a1, a2, u8_mod, h2.at_ (List.mem_cons_self ..), h2.at_ (List.mem_cons_of_mem _ (List.mem_cons_self ..)), h3.at_ (List.mem_cons_self ..), h3.at_ (List.mem_cons_of_mem _ (List.mem_cons_self ..))]
  refine ICalls.mono (wfInt h3 y.lim (by (try simp [i4]); omega)) ?_
  rintro v K3 ⟨rfl, h4⟩
  try simp [go_sem, -getElem?_pos, -List.map_take, -List.map_drop, IntWalk.iteOmega, IntWalk.toNatUp, a1, a2, u8_mod, h2.at_ (List.mem_cons_self ..), h2.at_ (List.mem_cons_of_mem _ (List.mem_cons_self ..)), h3.at_ (List.mem_cons_self ..), h3.at_ (List.mem_cons_of_mem _ (List.mem_cons_self ..)), h4.at_ (List.mem_cons_self ..), h4.at_ (List.mem_cons_of_mem _ (List.mem_cons_self ..))]
  refine ICalls.mono (wfInt h4 y.back (by (try simp [i4]); omega)) ?_
  rintro v K4 ⟨rfl, h5⟩
  try simp [go_sem, -getElem?_pos, -List.map_take, -List.map_drop, IntWalk.iteOmega, IntWalk.toNatUp, a1, a2, u8_mod, h2.at_ (List.mem_cons_self ..), h2.at_ (List.mem_cons_of_mem _ (List.mem_cons_self ..)), h3.at_ (List.mem_cons_self ..), h3.at_ (List.mem_cons_of_mem _ (List.mem_cons_self ..)), h4.at_ (List.mem_cons_self ..), h4.at_ (List.mem_cons_of_mem _ (List.mem_cons_self ..)), h5.at_ (List.mem_cons_self ..), h5.at_ (List.mem_cons_of_mem _ (List.mem_cons_self ..))]
  refine ICalls.mono (wfInt h5 y.delay (by (try simp [i4]); omega)) ?_
  rintro v K5 ⟨rfl, h6⟩
  try simp [go_sem, -getElem?_pos, -List.map_take, -List.map_drop, IntWalk.iteOmega, IntWalk.toNatUp, a1, a2, u8_mod, h2.at_ (List.mem_cons_self ..), h2.at_ (List.mem_cons_of_mem _ (List.mem_cons_self ..)), h3.at_ (List.mem_cons_self ..), h3.at_ (List.mem_cons_of_mem _ (List.mem_cons_self ..)), h4.at_ (List.mem_cons_self ..), h4.at_ (List.mem_cons_of_mem _ (List.mem_cons_self ..)), h5.at_ (List.mem_cons_self ..), h5.at_ (List.mem_cons_of_mem _ (List.mem_cons_self ..)), h6.at_ (List.mem_cons_self ..), h6.at_ (List.mem_cons_of_mem _ (List.mem_cons_self ..))]
  refine ICalls.mono (wfInt h6 y.span (by (try simp [i4]); omega)) ?_
  rintro v K6 ⟨rfl, h7⟩
  try simp [go_sem, -getElem?_pos, -List.map_take, -List.map_drop, IntWalk.iteOmega, IntWalk.toNatUp, a1, a2, u8_mod, h2.at_ (List.mem_cons_self ..), h2.at_ (List.mem_cons_of_mem _ (List.mem_cons_self ..)), h3.at_ (List.mem_cons_self ..), h3.at_ (List.mem_cons_of_mem _ (List.mem_cons_self ..)), h4.at_ (List.mem_cons_self ..), h4.at_ (List.mem_cons_of_mem _ (List.mem_cons_self ..)), h5.at_ (List.mem_cons_self ..), h5.at_ (List.mem_cons_of_mem _ (List.mem_cons_self ..)), h6.at_ (List.mem_cons_self ..), h6.at_ (List.mem_cons_of_mem _ (List.mem_cons_self ..)), h7.at_ (List.mem_cons_self ..), h7.at_ (List.mem_cons_of_mem _ (List.mem_cons_self ..))]
  refine ICalls.mono (wfByte h7 y.prio (by (try simp [i4]); omega)) ?_
  rintro v K7 ⟨rfl, h8⟩
  try simp [go_sem, -getElem?_pos, -List.map_take, -List.map_drop, IntWalk.iteOmega, IntWalk.toNatUp, a1, a2, u8_mod, h2.at_ (List.mem_cons_self ..), h2.at_ (List.mem_cons_of_mem _ (List.mem_cons_self ..)), h3.at_ (List.mem_cons_self ..), h3.at_ (List.mem_cons_of_mem _ (List.mem_cons_self ..)), h4.at_ (List.mem_cons_self ..), h4.at_ (List.mem_cons_of_mem _ (List.mem_cons_self ..)), h5.at_ (List.mem_cons_self ..), h5.at_ (List.mem_cons_of_mem _ (List.mem_cons_self ..)), h6.at_ (List.mem_cons_self ..), h6.at_ (List.mem_cons_of_mem _ (List.mem_cons_self ..)), h7.at_ (List.mem_cons_self ..), h7.at_ (List.mem_cons_of_mem _ (List.mem_cons_self ..)), h8.at_ (List.mem_cons_self ..), h8.at_ (List.mem_cons_of_mem _ (List.mem_cons_self ..))]
  refine ICalls.mono (wfFlag h8 y.latch (by (try simp [i4]); omega)) ?_
  rintro v K8 ⟨rfl, h9⟩
  try simp [go_sem, -getElem?_pos, -List.map_take, -List.map_drop, IntWalk.iteOmega, IntWalk.toNatUp, a1, a2, u8_mod, h2.at_ (List.mem_cons_self ..), h2.at_ (List.mem_cons_of_mem _ (List.mem_cons_self ..)), h3.at_ (List.mem_cons_self ..), h3.at_ (List.mem_cons_of_mem _ (List.mem_cons_self ..)), h4.at_ (List.mem_cons_self ..), h4.at_ (List.mem_cons_of_mem _ (List.mem_cons_self ..)), h5.at_ (List.mem_cons_self ..), h5.at_ (List.mem_cons_of_mem _ (List.mem_cons_self ..)), h6.at_ (List.mem_cons_self ..), h6.at_ (List.mem_cons_of_mem _ (List.mem_cons_self ..)), h7.at_ (List.mem_cons_self ..), h7.at_ (List.mem_cons_of_mem _ (List.mem_cons_self ..)), h8.at_ (List.mem_cons_self ..), h8.at_ (List.mem_cons_of_mem _ (List.mem_cons_self ..)), h9.at_ (List.mem_cons_self ..), h9.at_ (List.mem_cons_of_mem _ (List.mem_cons_self ..))]
  have e9 : L ++ ruleY y = L ++ [y.kind] ++ [y.sg % 256] ++ i4 y.lim ++ i4 y.back ++ i4 y.delay ++ i4 y.span ++ [y.prio] ++ [if y.latch = true then 1 else 0] ++ [(y.stages.length : Int) % 256] ++ y.stages.flatMap stageB := by simp [ruleY, flagB]
  rw [e9] at hl ⊢
  have c9 := layStage (x := x) y.stages h9 (List.mem_cons_of_mem _ (List.mem_cons_self ..)) hn hl
  simp only [ptrTo] at c9
  refine IWp.one [] ?_
  simp [go_sem, -getElem?_pos, -List.map_take, -List.map_drop, IntWalk.iteOmega, IntWalk.toNatUp, h9.at_ (List.mem_cons_self ..), h9.at_ (List.mem_cons_of_mem _ (List.mem_cons_self ..))]
  refine ICalls.mono (c9) ?_
  rintro v K9 ⟨rfl, h10⟩
  try simp [go_sem, -getElem?_pos, -List.map_take, -List.map_drop, IntWalk.iteOmega, IntWalk.toNatUp, h9.at_ (List.mem_cons_self ..), h9.at_ (List.mem_cons_of_mem _ (List.mem_cons_self ..))]
  simpa using h10.less.less
theorem putRule {H : Heap} {b x : Nat} {L : List Int} {F : List (Nat × List Value)} (y : Rule) (h : WrF H b L F) (hx : (x, [ptrTo b 0]) ∈ F) (hw : y.wf) (hl : (L ++ ruleY y).length ≤ 700000) :
    ICalls Tryd.prog 27 [y.val, ptrTo x 0] H fun v K => v = .tuple #[] ∧ WrF K b (L ++ ruleY y) F := by
  refine IBody.calls (by kernel_rfl) ?_
  have h1 := h.more [.int .u8 y.kind, .int .i64 y.sg, .int .i64 y.lim, .int .i64 y.back, .int .i64 y.delay, .int .i64 y.span, .int .u8 y.prio, .bool y.latch, frow 2 0 (y.stages.map Stage.val)]
  have a1 := h1.at_ (List.mem_cons_self ..)
  have a2 := h1.at_ (List.mem_cons_of_mem _ hx)
  simp only at a1 a2
  have c1 := ruleW y h1 (by have := hw.2.2.2.2.2.2.2.2; simp only [maxLen] at this; omega) hl
  simp only [Rule.val, Rule.cells] at c1
  refine IBody.of Tryd.func27 rfl (by rw [Tryd.ntmps27]; simp) ?_
  rw [Tryd.ntmps27]
  have Kp : Kept [[1,2],[]] := ⟨⟩
  iterate 2 (refine Kp.s ?_; clear Kp; intro Kp; simp [go_sem, -getElem?_pos, -List.map_take, -List.map_drop, IntWalk.iteOmega, IntWalk.toNatUp, a1, a2, Rule.val, Rule.cells])
  refine ICalls.mono (c1) ?_
  rintro v K1 ⟨rfl, h2⟩
  try simp [go_sem, -getElem?_pos, -List.map_take, -List.map_drop, IntWalk.iteOmega, IntWalk.toNatUp, a1, a2, Rule.val, Rule.cells]
  exact h2.less
theorem putEntry {H : Heap} {b x : Nat} {L : List Int} {F : List (Nat × List Value)} (y : Int) (h : WrF H b L F) (hx : (x, [ptrTo b 0]) ∈ F) (hl : (L ++ [y % 256]).length ≤ 700000) :
    ICalls Tryd.prog 32 [.int .i64 y, ptrTo x 0] H fun v K => v = .tuple #[] ∧ WrF K b (L ++ [y % 256]) F := by
  refine IBody.calls (by kernel_rfl) ?_
  have hl0 : L.length ≤ 700000 := by rw [List.length_append] at hl; omega
  have a2 := h.at_ hx
  simp only at a2
  refine IBody.of Tryd.func32 rfl (by rw [Tryd.ntmps32]; simp) ?_
  rw [Tryd.ntmps32]
  refine IWp.one [] ?_
  simp [go_sem, -getElem?_pos, -List.map_take, -List.map_drop, IntWalk.iteOmega, IntWalk.toNatUp, a2, u8_mod]
  refine ICalls.mono (wfByte h _ (by omega)) ?_
  rintro v K1 ⟨rfl, h2⟩
  try simp [go_sem, -getElem?_pos, -List.map_take, -List.map_drop, IntWalk.iteOmega, IntWalk.toNatUp, a2, u8_mod]
  exact h2
set_option maxHeartbeats 4000000 in
theorem layInt {H : Heap} {b x : Nat} {L : List Int} {F : List (Nat × List Value)} (l : List Int) (h : WrF H b L F) (hx : (x, [ptrTo b 0]) ∈ F) (hn : l.length ≤ 9223372036854775807) (hl : (L ++ [(l.length : Int) % 256] ++ l.flatMap (fun y => [y % 256])).length ≤ 700000) :
    ICalls Tryd.prog 31 [ptrTo b 0, frow 1 0 (l.map (Value.int .i64)), .func (.func 32) #[] #[ptrTo x 0]] H fun v K => v = .tuple #[] ∧ WrF K b (L ++ [(l.length : Int) % 256] ++ l.flatMap (fun y => [y % 256])) F := by
  refine IBody.calls (by kernel_rfl) ?_
  obtain ⟨CF, hCF⟩ : ∃ CF : Value, CF = .func (.func 32) #[] #[ptrTo x 0] := ⟨_, rfl⟩
  rw [← hCF]
  have hl0 : L.length ≤ 700000 := by rw [List.length_append, List.length_append] at hl; omega
  refine IBody.of Tryd.func31 rfl (by rw [Tryd.ntmps31]; simp) ?_
  rw [Tryd.ntmps31]
  refine IWp.one [1, 2] ?_
  simp [go_sem, -getElem?_pos, -List.map_take, -List.map_drop, IntWalk.iteOmega, IntWalk.toNatUp, u8_mod]
  refine ICalls.mono (wfByte h _ (by omega)) ?_
  rintro v K0 ⟨rfl, h0⟩
  try simp [go_sem, -getElem?_pos, -List.map_take, -List.map_drop, IntWalk.iteOmega, IntWalk.toNatUp, u8_mod]
  refine IWp.one [2, 13, 14, 15] ?_
  simp [go_sem, -getElem?_pos, -List.map_take, -List.map_drop, IntWalk.iteOmega, IntWalk.toNatUp, u8_mod]
  refine IWp.block ?_
  refine IWp.loop (fun j e K => ∃ i : Nat, j = l.length - i ∧ i ≤ l.length ∧ WrF K b (L ++ [(l.length : Int) % 256] ++ (l.take i).flatMap (fun y => [y % 256])) F ∧ e = [(2, CF), (13, frow 1 0 (l.map (Value.int .i64))), (14, .int .i64 (l.length : Int)), (15, .int .i64 (i : Int))]) l.length ⟨0, rfl, Nat.zero_le _, by simpa using h0, by simp [go_sem]⟩ ?_
  rintro j e K ⟨i, rfl, hi, hk, rfl⟩
  by_cases hlt : i < l.length
  · have g : l[i]? = some l[i] := by simp [hlt]
    have hstep := lay_next (fun y => [y % 256]) hlt
    have hb : (L ++ [(l.length : Int) % 256] ++ (l.take i).flatMap (fun y => [y % 256]) ++ (fun y => [y % 256]) l[i]).length ≤ 700000 := by
      refine Nat.le_trans ?_ hl
      rw [List.append_assoc, ← hstep]
      exact ((List.prefix_append_right_inj _).2 (lay_take (fun y => [y % 256]) l (i + 1))).length_le
    generalize l[i] = y at g hstep hb
    have w1 := IntWalk.i64_in ((i : Int) + 1) (by omega)
    have c1 := putEntry y (hk) hx hb
    try simp only [ints] at c1
    have Kp : Kept [[2,13,14,15,16],[],[2,13,14,15],[2,7,13,14,15],[2,13,14,15]] := ⟨⟩
    iterate 5 (refine Kp.s ?_; clear Kp; intro Kp; simp [go_sem, -getElem?_pos, -List.map_take, -List.map_drop, IntWalk.iteOmega, IntWalk.toNatUp, hlt, g, ints])
    subst hCF
    simp [go_sem]
    refine ICalls.mono c1 ?_
    rintro v K1 ⟨rfl, hk1⟩
    simp [go_sem]
    refine IWp.one [2, 13, 14, 15] ?_
    simp [go_sem, -getElem?_pos, -List.map_take, -List.map_drop, IntWalk.iteOmega, IntWalk.toNatUp, w1]
    exact ⟨l.length - (i + 1), by omega, i + 1, rfl, by omega, by simpa [hstep] using hk1, by simp⟩
  · skip
    have Kp : Kept [[2,13,14,15,16],[],[]] := ⟨⟩
    iterate 3 (refine Kp.s ?_; clear Kp; intro Kp; simp [go_sem, -getElem?_pos, -List.map_take, -List.map_drop, IntWalk.iteOmega, IntWalk.toNatUp, show ¬ (i : Int) < l.length by omega])
    rw [List.take_of_length_le (by omega)] at hk
    simpa using hk
theorem putSlot {H : Heap} {b x : Nat} {L : List Int} {F : List (Nat × List Value)} (y : List Int) (h : WrF H b L F) (hx : (x, [ptrTo b 0]) ∈ F) (hn : y.length ≤ 9223372036854775807) (hl : (L ++ slotB y).length ≤ 700000) :
    ICalls Tryd.prog 30 [ints .i64 y, ptrTo x 0] H fun v K => v = .tuple #[] ∧ WrF K b (L ++ slotB y) F := by
  refine IBody.calls (by kernel_rfl) ?_
  have a2 := h.at_ hx
  simp only at a2
  have e9 : L ++ slotB y = L ++ [(y.length : Int) % 256] ++ y.flatMap fun y => [y % 256] := by simp [slotB, flat_one]
  rw [e9] at hl ⊢
  refine IBody.of Tryd.func30 rfl (by rw [Tryd.ntmps30]; simp) ?_
  rw [Tryd.ntmps30]
  refine IWp.one [] ?_
  simp [go_sem, -getElem?_pos, -List.map_take, -List.map_drop, IntWalk.iteOmega, IntWalk.toNatUp, a2, ints]
  refine ICalls.mono (layInt (x := x) y h hx hn hl) ?_
  rintro v K1 ⟨rfl, h2⟩
  try simp [go_sem, -getElem?_pos, -List.map_take, -List.map_drop, IntWalk.iteOmega, IntWalk.toNatUp, a2, ints]
  simpa using h2
set_option maxHeartbeats 4000000 in
theorem laySlot {H : Heap} {b x : Nat} {L : List Int} {F : List (Nat × List Value)} (l : List (List Int)) (h : WrF H b L F) (hx : (x, [ptrTo b 0]) ∈ F) (hw : ∀ y ∈ l, y.length ≤ 9223372036854775807) (hn : l.length ≤ 9223372036854775807) (hl : (L ++ [(l.length : Int) % 256] ++ l.flatMap slotB).length ≤ 700000) :
    ICalls Tryd.prog 29 [ptrTo b 0, frow 1 0 (l.map (ints .i64)), .func (.func 30) #[] #[ptrTo x 0]] H fun v K => v = .tuple #[] ∧ WrF K b (L ++ [(l.length : Int) % 256] ++ l.flatMap slotB) F := by
  refine IBody.calls (by kernel_rfl) ?_
  obtain ⟨CF, hCF⟩ : ∃ CF : Value, CF = .func (.func 30) #[] #[ptrTo x 0] := ⟨_, rfl⟩
  rw [← hCF]
  have hl0 : L.length ≤ 700000 := by rw [List.length_append, List.length_append] at hl; omega
  refine IBody.of Tryd.func29 rfl (by rw [Tryd.ntmps29]; simp) ?_
  rw [Tryd.ntmps29]
  refine IWp.one [1, 2] ?_
  simp [go_sem, -getElem?_pos, -List.map_take, -List.map_drop, IntWalk.iteOmega, IntWalk.toNatUp, u8_mod]
  refine ICalls.mono (wfByte h _ (by omega)) ?_
  rintro v K0 ⟨rfl, h0⟩
  try simp [go_sem, -getElem?_pos, -List.map_take, -List.map_drop, IntWalk.iteOmega, IntWalk.toNatUp, u8_mod]
  refine IWp.one [2, 13, 14, 15] ?_
  simp [go_sem, -getElem?_pos, -List.map_take, -List.map_drop, IntWalk.iteOmega, IntWalk.toNatUp, u8_mod]
  refine IWp.block ?_
  refine IWp.loop (fun j e K => ∃ i : Nat, j = l.length - i ∧ i ≤ l.length ∧ WrF K b (L ++ [(l.length : Int) % 256] ++ (l.take i).flatMap slotB) F ∧ e = [(2, CF), (13, frow 1 0 (l.map (ints .i64))), (14, .int .i64 (l.length : Int)), (15, .int .i64 (i : Int))]) l.length ⟨0, rfl, Nat.zero_le _, by simpa using h0, by simp [go_sem]⟩ ?_
  rintro j e K ⟨i, rfl, hi, hk, rfl⟩
  by_cases hlt : i < l.length
  · have g : l[i]? = some l[i] := by simp [hlt]
    have hstep := lay_next slotB hlt
    have hb : (L ++ [(l.length : Int) % 256] ++ (l.take i).flatMap slotB ++ slotB l[i]).length ≤ 700000 := by
      refine Nat.le_trans ?_ hl
      rw [List.append_assoc, ← hstep]
      exact ((List.prefix_append_right_inj _).2 (lay_take slotB l (i + 1))).length_le
    have hy := hw l[i] (List.getElem_mem hlt)
    generalize l[i] = y at g hstep hb hy
    have w1 := IntWalk.i64_in ((i : Int) + 1) (by omega)
    have c1 := putSlot y (hk) hx hy hb
    try simp only [ints] at c1
    have Kp : Kept [[2,13,14,15,16],[],[2,13,14,15],[2,7,13,14,15],[2,13,14,15]] := ⟨⟩
    iterate 5 (refine Kp.s ?_; clear Kp; intro Kp; simp [go_sem, -getElem?_pos, -List.map_take, -List.map_drop, IntWalk.iteOmega, IntWalk.toNatUp, hlt, g, ints])
    subst hCF
    simp [go_sem]
    refine ICalls.mono c1 ?_
    rintro v K1 ⟨rfl, hk1⟩
    simp [go_sem]
    refine IWp.one [2, 13, 14, 15] ?_
    simp [go_sem, -getElem?_pos, -List.map_take, -List.map_drop, IntWalk.iteOmega, IntWalk.toNatUp, w1]
    exact ⟨l.length - (i + 1), by omega, i + 1, rfl, by omega, by simpa [hstep] using hk1, by simp⟩
  · skip
    have Kp : Kept [[2,13,14,15,16],[],[]] := ⟨⟩
    iterate 3 (refine Kp.s ?_; clear Kp; intro Kp; simp [go_sem, -getElem?_pos, -List.map_take, -List.map_drop, IntWalk.iteOmega, IntWalk.toNatUp, show ¬ (i : Int) < l.length by omega])
    rw [List.take_of_length_le (by omega)] at hk
    simpa using hk
set_option maxHeartbeats 4000000 in
theorem layRule {H : Heap} {b x : Nat} {L : List Int} {F : List (Nat × List Value)} (l : List Rule) (h : WrF H b L F) (hx : (x, [ptrTo b 0]) ∈ F) (hw : ∀ y ∈ l, y.wf) (hn : l.length ≤ 9223372036854775807) (hl : (L ++ [(l.length : Int) % 256] ++ l.flatMap ruleY).length ≤ 700000) :
    ICalls Tryd.prog 26 [ptrTo b 0, frow 9 0 (l.map Rule.val), .func (.func 27) #[] #[ptrTo x 0]] H fun v K => v = .tuple #[] ∧ WrF K b (L ++ [(l.length : Int) % 256] ++ l.flatMap ruleY) F := by
  refine IBody.calls (by kernel_rfl) ?_
  obtain ⟨CF, hCF⟩ : ∃ CF : Value, CF = .func (.func 27) #[] #[ptrTo x 0] := ⟨_, rfl⟩
  rw [← hCF]
  have hl0 : L.length ≤ 700000 := by rw [List.length_append, List.length_append] at hl; omega
  refine IBody.of Tryd.func26 rfl (by rw [Tryd.ntmps26]; simp) ?_
  rw [Tryd.ntmps26]
  refine IWp.one [1, 2] ?_
  simp [go_sem, -getElem?_pos, -List.map_take, -List.map_drop, IntWalk.iteOmega, IntWalk.toNatUp, u8_mod]
  refine ICalls.mono (wfByte h _ (by omega)) ?_
  rintro v K0 ⟨rfl, h0⟩
  try simp [go_sem, -getElem?_pos, -List.map_take, -List.map_drop, IntWalk.iteOmega, IntWalk.toNatUp, u8_mod]
  refine IWp.one [2, 13, 14, 15] ?_
  simp [go_sem, -getElem?_pos, -List.map_take, -List.map_drop, IntWalk.iteOmega, IntWalk.toNatUp, u8_mod]
  refine IWp.block ?_
  refine IWp.loop (fun j e K => ∃ i : Nat, j = l.length - i ∧ i ≤ l.length ∧ WrF K b (L ++ [(l.length : Int) % 256] ++ (l.take i).flatMap ruleY) F ∧ e = [(2, CF), (13, frow 9 0 (l.map Rule.val)), (14, .int .i64 (l.length : Int)), (15, .int .i64 (i : Int))]) l.length ⟨0, rfl, Nat.zero_le _, by simpa using h0, by simp [go_sem]⟩ ?_
  rintro j e K ⟨i, rfl, hi, hk, rfl⟩
  by_cases hlt : i < l.length
  · have g : l[i]? = some l[i] := by simp [hlt]
    have hstep := lay_next ruleY hlt
    have hb : (L ++ [(l.length : Int) % 256] ++ (l.take i).flatMap ruleY ++ ruleY l[i]).length ≤ 700000 := by
      refine Nat.le_trans ?_ hl
      rw [List.append_assoc, ← hstep]
      exact ((List.prefix_append_right_inj _).2 (lay_take ruleY l (i + 1))).length_le
    have hy := hw l[i] (List.getElem_mem hlt)
    generalize l[i] = y at g hstep hb hy
    have w1 := IntWalk.i64_in ((i : Int) + 1) (by omega)
    have c1 := putRule y (hk.more [.int .u8 y.kind, .int .i64 y.sg, .int .i64 y.lim, .int .i64 y.back, .int .i64 y.delay, .int .i64 y.span, .int .u8 y.prio, .bool y.latch, frow 2 0 (y.stages.map Stage.val)]) (List.mem_cons_of_mem _ hx) hy hb
    try simp only [Rule.val, Rule.cells] at c1
    have Kp : Kept [[2,13,14,15,16],[],[2,13,14,15],[2,7,13,14,15],[2,13,14,15]] := ⟨⟩
    iterate 5 (refine Kp.s ?_; clear Kp; intro Kp; simp [go_sem, -getElem?_pos, -List.map_take, -List.map_drop, IntWalk.iteOmega, IntWalk.toNatUp, hlt, g, Rule.val, Rule.cells])
    subst hCF
    simp [go_sem]
    refine ICalls.mono c1 ?_
    rintro v K1 ⟨rfl, hk1⟩
    simp [go_sem]
    refine IWp.one [2, 13, 14, 15] ?_
    simp [go_sem, -getElem?_pos, -List.map_take, -List.map_drop, IntWalk.iteOmega, IntWalk.toNatUp, w1]
    exact ⟨l.length - (i + 1), by omega, i + 1, rfl, by omega, by simpa [hstep] using hk1.less, by simp⟩
  · skip
    have Kp : Kept [[2,13,14,15,16],[],[]] := ⟨⟩
    iterate 3 (refine Kp.s ?_; clear Kp; intro Kp; simp [go_sem, -getElem?_pos, -List.map_take, -List.map_drop, IntWalk.iteOmega, IntWalk.toNatUp, show ¬ (i : Int) < l.length by omega])
    rw [List.take_of_length_le (by omega)] at hk
    simpa using hk
end Go.Proofs.YtoecebibhcadoaaDoor.I
namespace Go.Proofs.YtoecebibhcadoaaDoor.I
open Go Go.RowKit
set_option linter.unusedVariables false
set_option linter.unusedSimpArgs false
set_option maxHeartbeats 4000000 in
theorem encodeC (H : Heap) (c : Config) (hw : c.wf) (hl : (cfgB c).length ≤ 700000) :
    ICalls Tryd.prog 12 [c.val] H fun v H' => v = byts (closed (cfgB c)) ∧ H' = H := by
  refine ICalls.ans (by rw [cl_ints]; trivial) fun H => IBody.calls (by kernel_rfl) ?_
  have z1 := hw.1.2
  have z2 := hw.2.1.2
  have z3 := hw.2.2.1.2
  simp only [maxLen] at z1 z2 z3
  obtain ⟨M, hM⟩ : ∃ M : List Int, M = [72, 66, 49] := ⟨_, rfl⟩
  have h0 : WrF ((((H.alloc [frow 2 0 (c.sigs.map Sig.val), frow 9 0 (c.rules.map Rule.val), frow 1 0 (c.table.map (ints .i64)), .int .i64 c.b0, .int .i64 c.b1, .int .i64 c.b2, .int .i64 c.drain, .int .i64 c.pause, .int .i64 c.off, .bool c.brk, .int .i64 c.log]).alloc [.slice none 0 0]).alloc [ptrTo (H.next + 1) 0]).alloc [.int .u8 72, .int .u8 66, .int .u8 49]) (H.next + 1) [] [(H.next + 1 + 1 + 1, M.map (Value.int .u8)), (H.next + 1 + 1, [ptrTo (H.next + 1) 0]), (H.next, c.cells)] := by
    refine ⟨none, .inl ⟨rfl, rfl, ?_⟩, fun p hp => ?_⟩
    · simp only [get_alloc, next_alloc]; rw [if_neg (by omega), if_neg (by omega)]; simp
    · simp only [List.mem_cons, List.not_mem_nil, or_false] at hp
      rcases hp with rfl | rfl | rfl
      · exact ⟨by rw [hM]; simp [get_alloc, next_alloc], by simp only; omega, by simp⟩
      · exact ⟨by simp [get_alloc, next_alloc], by simp only; omega, by simp⟩
      · exact ⟨by simp only [get_alloc, next_alloc]; rw [if_neg (by omega), if_neg (by omega), if_neg (by omega)]; simp [Config.cells], by simp only; omega, by simp⟩
  obtain ⟨wb, hwb⟩ : ∃ wb, wb = H.next + 1 := ⟨_, rfl⟩
  refine IBody.of Tryd.func12 rfl (by rw [Tryd.ntmps12]; simp) ?_
  rw [Tryd.ntmps12]
  have Kp : Kept [[1],[1,3]] := ⟨⟩
  iterate 2 (refine Kp.s ?_; clear Kp; intro Kp; simp [go_sem, -getElem?_pos, -List.map_take, -List.map_drop, IntWalk.iteOmega, IntWalk.toNatUp, Config.val, Config.cells])
  refine IWp.cut (fun e K => WrF K (H.next + 1) M [(H.next + 1 + 1, [ptrTo (H.next + 1) 0]), (H.next, c.cells)] ∧ e = [(1, ptrTo H.next 0), (3, ptrTo (H.next + 1 + 1) 0)]) ?_ ?_
  · skip
    refine IWp.one [1, 3, 11, 12, 13] ?_
    simp [go_sem, -getElem?_pos, -List.map_take, -List.map_drop, IntWalk.iteOmega, IntWalk.toNatUp]
    refine IWp.block ?_
    refine IWp.loop (fun j e K => ∃ i : Nat, j = 3 - i ∧ i ≤ 3 ∧ WrF K (H.next + 1) (M.take i) [(H.next + 1 + 1 + 1, M.map (Value.int .u8)), (H.next + 1 + 1, [ptrTo (H.next + 1) 0]), (H.next, c.cells)] ∧ e = [(1, ptrTo H.next 0), (3, ptrTo (H.next + 1 + 1) 0), (11, .slice (some ⟨H.next + 1 + 1 + 1, 0, some 1⟩) 3 1), (12, .int .i64 3), (13, .int .i64 (i : Int))]) 3 ⟨0, rfl, Nat.zero_le _, by simpa [ptrTo] using h0, by simp [go_sem]⟩ ?_
    clear h0
    rintro j e K ⟨i, rfl, hi, h, rfl⟩
    have hml : M.length = 3 := by rw [hM]; rfl
    generalize H.next + 1 + 1 + 1 = mb at h ⊢
    generalize H.next + 1 + 1 = xb at h ⊢
    have a1 := h.at_ (List.mem_cons_self ..)
    have a2 := h.at_ (List.mem_cons_of_mem _ (List.mem_cons_self ..))
    simp only at a1 a2
    by_cases hlt : i < 3
    · have g : M[i]? = some M[i] := by simp [hml, hlt]
      have w1 := IntWalk.i64_in ((i : Int) + 1) (by omega)
      have Kp : Kept [[1,3,11,12,13,14],[],[1,3,11,12,13],[1,3,5,11,12,13],[1,3,11,12,13]] := ⟨⟩
      iterate 5 (refine Kp.s ?_; clear Kp; intro Kp; simp [go_sem, -getElem?_pos, -List.map_take, -List.map_drop, IntWalk.iteOmega, IntWalk.toNatUp, a1, a2, hlt, g, hml, w1, show (i : Int) < 3 by omega])
      refine ICalls.mono (wfByte h M[i] (by rw [List.length_take]; omega)) ?_
      rintro v K1 ⟨rfl, h1⟩
      try simp [go_sem, -getElem?_pos, -List.map_take, -List.map_drop, IntWalk.iteOmega, IntWalk.toNatUp, a1, a2, hlt, g, hml, w1, show (i : Int) < 3 by omega]
      refine IWp.one [1, 3, 11, 12, 13] ?_
      simp [go_sem, -getElem?_pos, -List.map_take, -List.map_drop, IntWalk.iteOmega, IntWalk.toNatUp, a1, a2, hlt, g, hml, w1, show (i : Int) < 3 by omega]
      exact ⟨3 - (i + 1), by omega, i + 1, rfl, by omega, by rw [List.take_succ_eq_append_getElem (by omega)]; exact h1, rfl⟩
    · skip
      have Kp : Kept [[1,3,11,12,13,14],[],[1,3]] := ⟨⟩
      iterate 3 (refine Kp.s ?_; clear Kp; intro Kp; simp [go_sem, -getElem?_pos, -List.map_take, -List.map_drop, IntWalk.iteOmega, IntWalk.toNatUp, show ¬ (i : Int) < 3 by omega])
      rw [List.take_of_length_le (by omega)] at h
      exact h.less
  clear h0
  rintro e K ⟨h, rfl⟩
  generalize H.next + 1 + 1 = xb at h ⊢
  generalize H.next + 1 = wb at h ⊢
  generalize H.next = cb at h ⊢
  obtain ⟨A1, e1⟩ : ∃ A, A = M ++ [(c.sigs.length : Int) % 256] ++ c.sigs.flatMap sigB := ⟨_, rfl⟩
  obtain ⟨A2, e2⟩ : ∃ A, A = A1 ++ [(c.rules.length : Int) % 256] ++ c.rules.flatMap ruleY := ⟨_, rfl⟩
  obtain ⟨A3, e3⟩ : ∃ A, A = A2 ++ [(c.table.length : Int) % 256] ++ c.table.flatMap slotB := ⟨_, rfl⟩
  have full : cfgB c = A3 ++ [c.b0 % 256] ++ [c.b1 % 256] ++ [c.b2 % 256] ++ [c.drain % 256] ++ i4 c.pause ++ i4 c.off ++ [flagB c.brk] ++ i4 c.log := by rw [e3, e2, e1, hM]; simp [cfgB]
  have l3 : A3.length ≤ 700000 := by rw [full] at hl; simp only [List.length_append] at hl; omega
  have l2 : A2.length ≤ 700000 := by rw [e3] at l3; simp only [List.length_append] at l3; omega
  have l1 : A1.length ≤ 700000 := by rw [e2] at l2; simp only [List.length_append] at l2; omega
  have c1 := laySig (x := xb) c.sigs h (List.mem_cons_self ..) (by omega) (by rw [← e1]; exact l1)
  rw [← e1] at c1
  have a1 := h.at_ (List.mem_cons_self ..)
  have a2 := h.at_ (List.mem_cons_of_mem _ (List.mem_cons_self ..))
  simp only [Config.cells] at a1 a2
  refine IWp.one [1, 3] ?_
  simp [go_sem, -getElem?_pos, -List.map_take, -List.map_drop, IntWalk.iteOmega, IntWalk.toNatUp, a1, a2]
  refine ICalls.mono (c1) ?_
  rintro v K1 ⟨rfl, h1⟩
  try simp [go_sem, -getElem?_pos, -List.map_take, -List.map_drop, IntWalk.iteOmega, IntWalk.toNatUp, a1, a2]
  refine IWp.seq ?_
  clear h c1 a1 a2
  have c1 := layRule (x := xb) c.rules h1 (List.mem_cons_self ..) hw.2.1.1 (by omega) (by rw [← e2]; exact l2)
  rw [← e2] at c1
  have a1 := h1.at_ (List.mem_cons_self ..)
  have a2 := h1.at_ (List.mem_cons_of_mem _ (List.mem_cons_self ..))
  simp only [Config.cells] at a1 a2
  refine IWp.one [1, 3] ?_
  simp [go_sem, -getElem?_pos, -List.map_take, -List.map_drop, IntWalk.iteOmega, IntWalk.toNatUp, a1, a2]
  refine ICalls.mono (c1) ?_
  rintro v K2 ⟨rfl, h2⟩
  try simp [go_sem, -getElem?_pos, -List.map_take, -List.map_drop, IntWalk.iteOmega, IntWalk.toNatUp, a1, a2]
  refine IWp.seq ?_
  clear h1 c1 a1 a2
  have c1 := laySlot (x := xb) c.table h2 (List.mem_cons_self ..) (fun y hy => by have := (hw.2.2.1.1 y hy).2; simp only [maxLen] at this; omega) (by omega) (by rw [← e3]; exact l3)
  rw [← e3] at c1
  have a1 := h2.at_ (List.mem_cons_self ..)
  have a2 := h2.at_ (List.mem_cons_of_mem _ (List.mem_cons_self ..))
  simp only [Config.cells] at a1 a2
  refine IWp.one [1, 3] ?_
  simp [go_sem, -getElem?_pos, -List.map_take, -List.map_drop, IntWalk.iteOmega, IntWalk.toNatUp, a1, a2]
  refine ICalls.mono (c1) ?_
  rintro v K3 ⟨rfl, h3⟩
  try simp [go_sem, -getElem?_pos, -List.map_take, -List.map_drop, IntWalk.iteOmega, IntWalk.toNatUp, a1, a2]
  clear h2 c1 a1 a2
  have a1 := h3.at_ (List.mem_cons_self ..)
  have a2 := h3.at_ (List.mem_cons_of_mem _ (List.mem_cons_self ..))
  simp only [Config.cells] at a1 a2
  obtain ⟨BA, hBA⟩ : ∃ BA : List Int, BA = [c.b0 % 256, c.b1 % 256, c.b2 % 256] := ⟨_, rfl⟩
  have full : cfgB c = A3 ++ BA ++ [c.drain % 256] ++ i4 c.pause ++ i4 c.off ++ [if c.brk = true then 1 else 0] ++ i4 c.log := by rw [full, hBA]; simp [flagB]
  have hbl : BA.length = 3 := by rw [hBA]; rfl
  refine IWp.cut (fun e K => WrF K wb (A3 ++ BA) [(xb, [ptrTo wb 0]), (cb, c.cells)] ∧ e = [(1, ptrTo cb 0), (3, ptrTo xb 0)]) ?_ ?_
  · skip
    refine IWp.one [1, 3, 37, 38] ?_
    simp [go_sem, -getElem?_pos, -List.map_take, -List.map_drop, IntWalk.iteOmega, IntWalk.toNatUp, a1, a2]
    refine IWp.block ?_
    refine IWp.loop (fun j e K => ∃ i : Nat, j = 3 - i ∧ i ≤ 3 ∧ WrF K wb (A3 ++ BA.take i) [(xb, [ptrTo wb 0]), (cb, c.cells)] ∧ e = [(1, ptrTo cb 0), (3, ptrTo xb 0), (37, .agg ⟨[.int .i64 c.b0, .int .i64 c.b1, .int .i64 c.b2]⟩), (38, .int .i64 (i : Int))]) 3 ⟨0, rfl, Nat.zero_le _, by simpa using h3, by simp [go_sem]⟩ ?_
    clear h3 a1 a2
    rintro j e K ⟨i, rfl, hi, h, rfl⟩
    have a1 := h.at_ (List.mem_cons_self ..)
    simp only at a1
    by_cases hlt : i < 3
    · have hli : (A3 ++ BA.take i).length ≤ 900000 := by rw [List.length_append, List.length_take]; omega
      have h012 : i = 0 ∨ i = 1 ∨ i = 2 := by omega
      rcases h012 with rfl | rfl | rfl
      · skip
        have Kp : Kept [[1,3,37,38,39],[],[1,3,37,38],[1,3,7,37,38],[1,3,37,38]] := ⟨⟩
        iterate 5 (refine Kp.s ?_; clear Kp; intro Kp; simp [go_sem, -getElem?_pos, -List.map_take, -List.map_drop, IntWalk.iteOmega, IntWalk.toNatUp, a1, u8_mod, show IntKind.i64.wrap 1 = 1 from IntWalk.i64_in _ (by omega)])
        refine ICalls.mono (wfByte h _ hli) ?_
        rintro v K1 ⟨rfl, h1⟩
        try simp [go_sem, -getElem?_pos, -List.map_take, -List.map_drop, IntWalk.iteOmega, IntWalk.toNatUp, a1, u8_mod, show IntKind.i64.wrap 1 = 1 from IntWalk.i64_in _ (by omega)]
        refine IWp.one [1, 3, 37, 38] ?_
        simp [go_sem, -getElem?_pos, -List.map_take, -List.map_drop, IntWalk.iteOmega, IntWalk.toNatUp, a1, u8_mod, show IntKind.i64.wrap 1 = 1 from IntWalk.i64_in _ (by omega)]
        exact ⟨2, by omega, 1, rfl, by omega, by rw [hBA] at h1 ⊢; simpa [ptrTo] using h1, rfl⟩
      · skip
        have Kp : Kept [[1,3,37,38,39],[],[1,3,37,38],[1,3,7,37,38],[1,3,37,38]] := ⟨⟩
        iterate 5 (refine Kp.s ?_; clear Kp; intro Kp; simp [go_sem, -getElem?_pos, -List.map_take, -List.map_drop, IntWalk.iteOmega, IntWalk.toNatUp, a1, u8_mod, show IntKind.i64.wrap 2 = 2 from IntWalk.i64_in _ (by omega)])
        refine ICalls.mono (wfByte h _ hli) ?_
        rintro v K1 ⟨rfl, h1⟩
        try simp [go_sem, -getElem?_pos, -List.map_take, -List.map_drop, IntWalk.iteOmega, IntWalk.toNatUp, a1, u8_mod, show IntKind.i64.wrap 2 = 2 from IntWalk.i64_in _ (by omega)]
        refine IWp.one [1, 3, 37, 38] ?_
        simp [go_sem, -getElem?_pos, -List.map_take, -List.map_drop, IntWalk.iteOmega, IntWalk.toNatUp, a1, u8_mod, show IntKind.i64.wrap 2 = 2 from IntWalk.i64_in _ (by omega)]
        exact ⟨1, by omega, 2, rfl, by omega, by rw [hBA] at h1 ⊢; simpa [ptrTo] using h1, rfl⟩
      · skip
        have Kp : Kept [[1,3,37,38,39],[],[1,3,37,38],[1,3,7,37,38],[1,3,37,38]] := ⟨⟩
        iterate 5 (refine Kp.s ?_; clear Kp; intro Kp; simp [go_sem, -getElem?_pos, -List.map_take, -List.map_drop, IntWalk.iteOmega, IntWalk.toNatUp, a1, u8_mod, show IntKind.i64.wrap 3 = 3 from IntWalk.i64_in _ (by omega)])
        refine ICalls.mono (wfByte h _ hli) ?_
        rintro v K1 ⟨rfl, h1⟩
        try simp [go_sem, -getElem?_pos, -List.map_take, -List.map_drop, IntWalk.iteOmega, IntWalk.toNatUp, a1, u8_mod, show IntKind.i64.wrap 3 = 3 from IntWalk.i64_in _ (by omega)]
        refine IWp.one [1, 3, 37, 38] ?_
        simp [go_sem, -getElem?_pos, -List.map_take, -List.map_drop, IntWalk.iteOmega, IntWalk.toNatUp, a1, u8_mod, show IntKind.i64.wrap 3 = 3 from IntWalk.i64_in _ (by omega)]
        exact ⟨3, by omega, by omega, by rw [hBA] at h1 ⊢; simpa [ptrTo] using h1, rfl⟩
    · skip
      have Kp : Kept [[1,3,37,38,39],[],[1,3]] := ⟨⟩
      iterate 3 (refine Kp.s ?_; clear Kp; intro Kp; simp [go_sem, -getElem?_pos, -List.map_take, -List.map_drop, IntWalk.iteOmega, IntWalk.toNatUp, show ¬ (i : Int) < 3 by omega])
      rw [List.take_of_length_le (by omega)] at h
      exact h
  clear h3 a1 a2
  rintro e K ⟨h, rfl⟩
  have a1 := h.at_ (List.mem_cons_self ..)
  have a2 := h.at_ (List.mem_cons_of_mem _ (List.mem_cons_self ..))
  simp only [Config.cells] at a1 a2
  have l4 : (A3 ++ BA).length ≤ 700003 := by rw [List.length_append]; omega
  refine IWp.seq ?_
  refine IWp.draw [3] [xb, cb] (.ld 0 [4, 7, 10, 13, 16] (.val 1 (.ld 2 [3, 4, 7, 10, 13, 16] (.val 3 (.val 5 (.val 8 (.val 11 (.val 14 (.val 6 (.val 9 (.val 12 (.val 15 (.eff 4 (.eff 7 (.eff 10 (.eff 13 (.eff 16 .done .done) .done) .done) .done) .done))))))))))))) follows (by kernel_rfl) ?_
  simp [go_sem, -getElem?_pos, -List.map_take, -List.map_drop, IntWalk.iteOmega, IntWalk.toNatUp, a1, a2, u8_mod, Config.cells]
  refine ICalls.mono (wfByte h (c.drain % 256) (by omega)) ?_
  rintro v K4 ⟨rfl, h4⟩
  try simp [go_sem, -getElem?_pos, -List.map_take, -List.map_drop, IntWalk.iteOmega, IntWalk.toNatUp, a1, a2, u8_mod, Config.cells, h4.at_ (List.mem_cons_self ..), h4.at_ (List.mem_cons_of_mem _ (List.mem_cons_self ..))]
  refine ICalls.mono (wfInt h4 c.pause (by simp [i4]; omega)) ?_
  rintro v K5 ⟨rfl, h5⟩
  try simp [go_sem, -getElem?_pos, -List.map_take, -List.map_drop, IntWalk.iteOmega, IntWalk.toNatUp, a1, a2, u8_mod, Config.cells, h4.at_ (List.mem_cons_self ..), h4.at_ (List.mem_cons_of_mem _ (List.mem_cons_self ..)), h5.at_ (List.mem_cons_self ..), h5.at_ (List.mem_cons_of_mem _ (List.mem_cons_self ..))]
  refine ICalls.mono (wfInt h5 c.off (by simp [i4]; omega)) ?_
  rintro v K6 ⟨rfl, h6⟩
  try simp [go_sem, -getElem?_pos, -List.map_take, -List.map_drop, IntWalk.iteOmega, IntWalk.toNatUp, a1, a2, u8_mod, Config.cells, h4.at_ (List.mem_cons_self ..), h4.at_ (List.mem_cons_of_mem _ (List.mem_cons_self ..)), h5.at_ (List.mem_cons_self ..), h5.at_ (List.mem_cons_of_mem _ (List.mem_cons_self ..)), h6.at_ (List.mem_cons_self ..), h6.at_ (List.mem_cons_of_mem _ (List.mem_cons_self ..))]
  refine ICalls.mono (wfFlag h6 c.brk (by simp [i4]; omega)) ?_
  rintro v K7 ⟨rfl, h7⟩
  try simp [go_sem, -getElem?_pos, -List.map_take, -List.map_drop, IntWalk.iteOmega, IntWalk.toNatUp, a1, a2, u8_mod, Config.cells, h4.at_ (List.mem_cons_self ..), h4.at_ (List.mem_cons_of_mem _ (List.mem_cons_self ..)), h5.at_ (List.mem_cons_self ..), h5.at_ (List.mem_cons_of_mem _ (List.mem_cons_self ..)), h6.at_ (List.mem_cons_self ..), h6.at_ (List.mem_cons_of_mem _ (List.mem_cons_self ..)), h7.at_ (List.mem_cons_self ..), h7.at_ (List.mem_cons_of_mem _ (List.mem_cons_self ..))]
  refine ICalls.mono (wfInt h7 c.log (by simp [i4]; omega)) ?_
  rintro v K8 ⟨rfl, h8⟩
  try simp [go_sem, -getElem?_pos, -List.map_take, -List.map_drop, IntWalk.iteOmega, IntWalk.toNatUp, a1, a2, u8_mod, Config.cells, h4.at_ (List.mem_cons_self ..), h4.at_ (List.mem_cons_of_mem _ (List.mem_cons_self ..)), h5.at_ (List.mem_cons_self ..), h5.at_ (List.mem_cons_of_mem _ (List.mem_cons_self ..)), h6.at_ (List.mem_cons_self ..), h6.at_ (List.mem_cons_of_mem _ (List.mem_cons_self ..)), h7.at_ (List.mem_cons_self ..), h7.at_ (List.mem_cons_of_mem _ (List.mem_cons_self ..)), h8.at_ (List.mem_cons_self ..), h8.at_ (List.mem_cons_of_mem _ (List.mem_cons_self ..))]
  refine IWp.seq ?_
  have e8 : A3 ++ BA ++ [c.drain % 256] ++ i4 c.pause ++ i4 c.off ++ [if c.brk = true then 1 else 0] ++ i4 c.log = cfgB c := full.symm
  rw [e8] at h8
  have hv : WrV K8 wb (cfgB c) := by
    obtain ⟨r, hr, _⟩ := h8
    exact hr.wrv
  refine IWp.one [2] ?_
  simp [go_sem, -getElem?_pos, -List.map_take, -List.map_drop, IntWalk.iteOmega, IntWalk.toNatUp, h8.at_ (List.mem_cons_self ..)]
  refine ICalls.then (wBytes K8 wb (cfgB c) hv (by omega)) ?_
  try simp [go_sem, -getElem?_pos, -List.map_take, -List.map_drop, IntWalk.iteOmega, IntWalk.toNatUp, h8.at_ (List.mem_cons_self ..)]
  refine ICalls.then (close _ 0 (cfgB c) (by omega) (cfgB_bs hw)) ?_
  try simp [go_sem, -getElem?_pos, -List.map_take, -List.map_drop, IntWalk.iteOmega, IntWalk.toNatUp, h8.at_ (List.mem_cons_self ..)]
  refine IWp.one [] ?_
  simp [go_sem, -getElem?_pos, -List.map_take, -List.map_drop, IntWalk.iteOmega, IntWalk.toNatUp, h8.at_ (List.mem_cons_self ..)]
end Go.Proofs.YtoecebibhcadoaaDoor.I
namespace Go.Proofs.YtoecebibhcadoaaDoor.I
open Go Go.RowKit
set_option linter.unusedVariables false
set_option linter.unusedSimpArgs false
section prog
variable (H : Heap) (b : Nat) (s : Rd) (hs : s.ok) (hg : H.get b = some ⟨s.cells, true⟩)
include hs hg
theorem mReady (n : Nat) (hn : n ≤ 100) : ICalls Tryd.prog 82 [ptrTo b 0, .int .i64 n] H fun v H' => v = .bool (decide ((s.ready n).e = 0)) ∧ H' = H.set b (s.ready n).cells := by
  obtain ⟨h1, h2, h3⟩ := hs
  unfold Rd.cells at hg
  by_cases he : s.e = 0
  · have w1 := IntWalk.i64_in ((s.L.length : Int) - s.pos) (by omega)
    by_cases hl : s.pos + n ≤ s.L.length
    · rw [Rd.ready_ok he hl]
      unfold Rd.cells
      rw [set_self hg]
      refine IBody.calls (by kernel_rfl) ?_
      refine IBody.of Tryd.func82 rfl (by rw [Tryd.ntmps82]; simp) ?_
      rw [Tryd.ntmps82]
      refine IWp.one [0, 1] ?_
      simp [go_sem, -getElem?_pos, -List.map_take, -List.map_drop, IntWalk.iteOmega, IntWalk.toNatUp, hg, he, w1, Rd.cells, show ¬ ((s.L.length : Int) - s.pos < n) by omega]
      refine IWp.seq ?_
      refine IWp.seq ?_
      refine IWp.read [0, 23] follows (by kernel_rfl) ?_
      simp [go_sem, -getElem?_pos, -List.map_take, -List.map_drop, IntWalk.iteOmega, IntWalk.toNatUp, hg, he, w1, Rd.cells, show ¬ ((s.L.length : Int) - s.pos < n) by omega]
      have Kp : Kept [[],[0],[4],[]] := ⟨⟩
      iterate 4 (refine Kp.s ?_; clear Kp; intro Kp; simp [go_sem, -getElem?_pos, -List.map_take, -List.map_drop, IntWalk.iteOmega, IntWalk.toNatUp, hg, he, w1, Rd.cells, show ¬ ((s.L.length : Int) - s.pos < n) by omega])
    · rw [Rd.ready_short he hl]
      refine IBody.calls (by kernel_rfl) ?_
      refine IBody.of Tryd.func82 rfl (by rw [Tryd.ntmps82]; simp) ?_
      rw [Tryd.ntmps82]
      refine IWp.one [0, 1] ?_
      simp [go_sem, -getElem?_pos, -List.map_take, -List.map_drop, IntWalk.iteOmega, IntWalk.toNatUp, hg, he, w1, Rd.cells, show ((s.L.length : Int) - s.pos < n) by omega]
      refine IWp.seq ?_
      refine IWp.seq ?_
      refine IWp.read [0, 23] follows (by kernel_rfl) ?_
      simp [go_sem, -getElem?_pos, -List.map_take, -List.map_drop, IntWalk.iteOmega, IntWalk.toNatUp, hg, he, w1, Rd.cells, show ((s.L.length : Int) - s.pos < n) by omega]
      have Kp : Kept [[],[0],[4],[]] := ⟨⟩
      iterate 4 (refine Kp.s ?_; clear Kp; intro Kp; simp [go_sem, -getElem?_pos, -List.map_take, -List.map_drop, IntWalk.iteOmega, IntWalk.toNatUp, hg, he, w1, Rd.cells, show ((s.L.length : Int) - s.pos < n) by omega])
  · rw [Rd.ready_bad he]
    unfold Rd.cells
    rw [set_self hg]
    have hd : decide (s.e = 0) = false := by simpa using he
    refine IBody.calls (by kernel_rfl) ?_
    refine IBody.of Tryd.func82 rfl (by rw [Tryd.ntmps82]; simp) ?_
    rw [Tryd.ntmps82]
    refine IWp.one [0, 1] ?_
    simp [go_sem, -getElem?_pos, -List.map_take, -List.map_drop, IntWalk.iteOmega, IntWalk.toNatUp, hg, he, hd, Rd.cells]
    refine IWp.seq ?_
    refine IWp.seq ?_
    refine IWp.read [0, 23] follows (by kernel_rfl) ?_
    simp [go_sem, -getElem?_pos, -List.map_take, -List.map_drop, IntWalk.iteOmega, IntWalk.toNatUp, hg, he, hd, Rd.cells]
    have Kp : Kept [[],[0],[4],[]] := ⟨⟩
    iterate 4 (refine Kp.s ?_; clear Kp; intro Kp; simp [go_sem, -getElem?_pos, -List.map_take, -List.map_drop, IntWalk.iteOmega, IntWalk.toNatUp, hg, he, hd, Rd.cells])
theorem mInt : ICalls Tryd.prog 62 [ptrTo b 0] H fun v H' => v = .int .i64 s.int.1 ∧ H' = H.set b s.int.2.cells := by
  have c1 := mReady H b s hs hg 4 (by decide)
  have a0 := Rd.at_byte hs
  obtain ⟨h1, h2, h3⟩ := hs
  by_cases he : s.e = 0
  · by_cases hn : s.pos + 4 ≤ s.L.length
    · rw [Rd.ready_ok he hn, set_self hg] at c1
      rw [Rd.int_eq he hn]
      have g0 := Rd.at_get (s := s) (i := 0) (by omega)
      have g1 := Rd.at_get (s := s) (i := 1) (by omega)
      have g2 := Rd.at_get (s := s) (i := 2) (by omega)
      have g3 := Rd.at_get (s := s) (i := 3) (by omega)
      rw [Nat.add_zero] at g0
      have w0 := IntWalk.i64_in (s.at_ 0) (by have := a0 0; omega)
      have wA := IntWalk.i64_in ((s.pos : Int) + 4) (by omega)
      have main : ∀ a : Int, (a = if 127 < s.at_ 0 then s.at_ 0 - 256 else s.at_ 0) → be4 (s.at_ 0) (s.at_ 1) (s.at_ 2) (s.at_ 3) = ((a * 256 + s.at_ 1) * 256 + s.at_ 2) * 256 + s.at_ 3 ∧ -128 ≤ a ∧ a < 128 := fun a ha => by
        have := a0 0
        unfold be4
        split at ha
        · rename_i h; rw [if_pos h]; omega
        · rename_i h; rw [if_neg h]; omega
      refine IBody.calls (by kernel_rfl) ?_
      by_cases hf : 127 < s.at_ 0
      · obtain ⟨hm, hm1, hm2⟩ := main _ rfl
        rw [if_pos hf] at hm hm1 hm2
        have w1 := IntWalk.i64_in (s.at_ 0 - 256) (by have := a0 0; omega)
        refine IBody.of Tryd.func62 rfl (by rw [Tryd.ntmps62]; simp) ?_
        rw [Tryd.ntmps62]
        have Kp : Kept [[0],[0,7]] := ⟨⟩
        iterate 2 (refine Kp.s ?_; clear Kp; intro Kp; simp [go_sem, -getElem?_pos, -List.map_take, -List.map_drop, IntWalk.iteOmega, IntWalk.toNatUp, hg, he, hf, w0, w1, g0, Rd.cells, show ¬ ((s.pos : Int) < 0) by omega])
        refine ICalls.mono (c1) ?_
        rintro v H ⟨rfl, rfl⟩
        try simp [go_sem, -getElem?_pos, -List.map_take, -List.map_drop, IntWalk.iteOmega, IntWalk.toNatUp, hg, he, hf, w0, w1, g0, Rd.cells, show ¬ ((s.pos : Int) < 0) by omega]
        have Kp : Kept [[],[0]] := ⟨⟩
        iterate 2 (refine Kp.s ?_; clear Kp; intro Kp; simp [go_sem, -getElem?_pos, -List.map_take, -List.map_drop, IntWalk.iteOmega, IntWalk.toNatUp, hg, he, hf, w0, w1, g0, Rd.cells, show ¬ ((s.pos : Int) < 0) by omega])
        refine IWp.seq ?_
        refine IWp.read [0, 3] follows (by kernel_rfl) ?_
        simp [go_sem, -getElem?_pos, -List.map_take, -List.map_drop, IntWalk.iteOmega, IntWalk.toNatUp, hg, he, hf, w0, w1, g0, Rd.cells, show ¬ ((s.pos : Int) < 0) by omega]
        have Kp : Kept [[0,3,20],[],[0,3],[0,3,4]] := ⟨⟩
        iterate 4 (refine Kp.s ?_; clear Kp; intro Kp; simp [go_sem, -getElem?_pos, -List.map_take, -List.map_drop, IntWalk.iteOmega, IntWalk.toNatUp, hg, he, hf, w0, w1, g0, Rd.cells, show ¬ ((s.pos : Int) < 0) by omega])
        refine IWp.block ?_
        refine IWp.loop (fun j e K => ∃ k : Nat, j = 3 - k ∧ k ≤ 3 ∧ e = [(0, .pointer (some ⟨b, 0, none⟩)), (3, .int .i64 (grown (s.at_ 0 - 256) s.at_ k)), (4, .int .i64 ((k : Int) + 1))] ∧ K = H) 3 ⟨0, rfl, by omega, rfl, rfl⟩ ?_
        rintro j e K ⟨k, rfl, hk, rfl, rfl⟩
        have hb := grown_bound _ s.at_ ⟨hm1, hm2⟩ a0 k hk
        by_cases hlt : k < 3
        · have hb2 := grown_bound _ s.at_ ⟨hm1, hm2⟩ a0 (k + 1) (by omega)
          have hx := a0 (k + 1)
          have hs1 : grown (s.at_ 0 - 256) s.at_ (k + 1) = grown (s.at_ 0 - 256) s.at_ k * 256 + s.at_ (k + 1) := rfl
          have gk := Rd.at_get (s := s) (i := k + 1) (by omega)
          generalize grown (s.at_ 0 - 256) s.at_ k = y at hb hs1
          have v1 := IntWalk.i64_in (y * 256) (by omega)
          have v2 := IntWalk.i64_in (s.at_ (k + 1)) (by omega)
          have v3 := IntWalk.i64_in (y * 256 + s.at_ (k + 1)) (by omega)
          have v4 := IntWalk.i64_in ((s.pos : Int) + ((k : Int) + 1)) (by omega)
          have v5 := IntWalk.i64_in ((k : Int) + 1 + 1) (by omega)
          have v6 : ((s.pos : Int) + ((k : Int) + 1)).toNat = s.pos + (k + 1) := by omega
          have Kp : Kept [[0,3,4,24],[],[0,3,4]] := ⟨⟩
          iterate 3 (refine Kp.s ?_; clear Kp; intro Kp; simp [go_sem, -getElem?_pos, -List.map_take, -List.map_drop, IntWalk.iteOmega, IntWalk.toNatUp, hg, he, v1, v2, v3, v4, v5, v6, gk, Rd.cells, show (k : Int) + 1 < 4 by omega, show 0 ≤ (s.pos : Int) + ((k : Int) + 1) by omega])
          refine IWp.seq ?_
          refine IWp.block ?_
          refine IWp.read [0, 3, 4] follows (by kernel_rfl) ?_
          simp [go_sem, -getElem?_pos, -List.map_take, -List.map_drop, IntWalk.iteOmega, IntWalk.toNatUp, hg, he, v1, v2, v3, v4, v5, v6, gk, Rd.cells, show (k : Int) + 1 < 4 by omega, show 0 ≤ (s.pos : Int) + ((k : Int) + 1) by omega]
          refine IWp.one [0, 3, 4] ?_
          simp [go_sem, -getElem?_pos, -List.map_take, -List.map_drop, IntWalk.iteOmega, IntWalk.toNatUp, hg, he, v1, v2, v3, v4, v5, v6, gk, Rd.cells, show (k : Int) + 1 < 4 by omega, show 0 ≤ (s.pos : Int) + ((k : Int) + 1) by omega]
          exact ⟨3 - (k + 1), by omega, k + 1, rfl, by omega, hs1.symm, by omega⟩
        · have hk3 : k = 3 := by omega
          subst hk3
          have hfin : grown (s.at_ 0 - 256) s.at_ 3 = be4 (s.at_ 0) (s.at_ 1) (s.at_ 2) (s.at_ 3) := by rw [hm]; rfl
          have Kp : Kept [[0,3,4,24],[],[0,3],[3],[2],[]] := ⟨⟩
          iterate 6 (refine Kp.s ?_; clear Kp; intro Kp; simp [go_sem, -getElem?_pos, -List.map_take, -List.map_drop, IntWalk.iteOmega, IntWalk.toNatUp, hg, he, wA, hfin, Rd.cells])
      · obtain ⟨hm, hm1, hm2⟩ := main _ rfl
        rw [if_neg hf] at hm hm1 hm2
        refine IBody.of Tryd.func62 rfl (by rw [Tryd.ntmps62]; simp) ?_
        rw [Tryd.ntmps62]
        have Kp : Kept [[0],[0,7]] := ⟨⟩
        iterate 2 (refine Kp.s ?_; clear Kp; intro Kp; simp [go_sem, -getElem?_pos, -List.map_take, -List.map_drop, IntWalk.iteOmega, IntWalk.toNatUp, hg, he, hf, w0, g0, Rd.cells, show ¬ ((s.pos : Int) < 0) by omega])
        refine ICalls.mono (c1) ?_
        rintro v H ⟨rfl, rfl⟩
        try simp [go_sem, -getElem?_pos, -List.map_take, -List.map_drop, IntWalk.iteOmega, IntWalk.toNatUp, hg, he, hf, w0, g0, Rd.cells, show ¬ ((s.pos : Int) < 0) by omega]
        have Kp : Kept [[],[0]] := ⟨⟩
        iterate 2 (refine Kp.s ?_; clear Kp; intro Kp; simp [go_sem, -getElem?_pos, -List.map_take, -List.map_drop, IntWalk.iteOmega, IntWalk.toNatUp, hg, he, hf, w0, g0, Rd.cells, show ¬ ((s.pos : Int) < 0) by omega])
        refine IWp.seq ?_
        refine IWp.read [0, 3] follows (by kernel_rfl) ?_
        simp [go_sem, -getElem?_pos, -List.map_take, -List.map_drop, IntWalk.iteOmega, IntWalk.toNatUp, hg, he, hf, w0, g0, Rd.cells, show ¬ ((s.pos : Int) < 0) by omega]
        have Kp : Kept [[0,3,20],[],[0,3],[0,3,4]] := ⟨⟩
        iterate 4 (refine Kp.s ?_; clear Kp; intro Kp; simp [go_sem, -getElem?_pos, -List.map_take, -List.map_drop, IntWalk.iteOmega, IntWalk.toNatUp, hg, he, hf, w0, g0, Rd.cells, show ¬ ((s.pos : Int) < 0) by omega])
        refine IWp.block ?_
        refine IWp.loop (fun j e K => ∃ k : Nat, j = 3 - k ∧ k ≤ 3 ∧ e = [(0, .pointer (some ⟨b, 0, none⟩)), (3, .int .i64 (grown (s.at_ 0) s.at_ k)), (4, .int .i64 ((k : Int) + 1))] ∧ K = H) 3 ⟨0, rfl, by omega, rfl, rfl⟩ ?_
        rintro j e K ⟨k, rfl, hk, rfl, rfl⟩
        have hb := grown_bound _ s.at_ ⟨hm1, hm2⟩ a0 k hk
        by_cases hlt : k < 3
        · have hb2 := grown_bound _ s.at_ ⟨hm1, hm2⟩ a0 (k + 1) (by omega)
          have hx := a0 (k + 1)
          have hs1 : grown (s.at_ 0) s.at_ (k + 1) = grown (s.at_ 0) s.at_ k * 256 + s.at_ (k + 1) := rfl
          have gk := Rd.at_get (s := s) (i := k + 1) (by omega)
          generalize grown (s.at_ 0) s.at_ k = y at hb hs1
          have v1 := IntWalk.i64_in (y * 256) (by omega)
          have v2 := IntWalk.i64_in (s.at_ (k + 1)) (by omega)
          have v3 := IntWalk.i64_in (y * 256 + s.at_ (k + 1)) (by omega)
          have v4 := IntWalk.i64_in ((s.pos : Int) + ((k : Int) + 1)) (by omega)
          have v5 := IntWalk.i64_in ((k : Int) + 1 + 1) (by omega)
          have v6 : ((s.pos : Int) + ((k : Int) + 1)).toNat = s.pos + (k + 1) := by omega
          have Kp : Kept [[0,3,4,24],[],[0,3,4]] := ⟨⟩
          iterate 3 (refine Kp.s ?_; clear Kp; intro Kp; simp [go_sem, -getElem?_pos, -List.map_take, -List.map_drop, IntWalk.iteOmega, IntWalk.toNatUp, hg, he, v1, v2, v3, v4, v5, v6, gk, Rd.cells, show (k : Int) + 1 < 4 by omega, show 0 ≤ (s.pos : Int) + ((k : Int) + 1) by omega])
          refine IWp.seq ?_
          refine IWp.block ?_
          refine IWp.read [0, 3, 4] follows (by kernel_rfl) ?_
          simp [go_sem, -getElem?_pos, -List.map_take, -List.map_drop, IntWalk.iteOmega, IntWalk.toNatUp, hg, he, v1, v2, v3, v4, v5, v6, gk, Rd.cells, show (k : Int) + 1 < 4 by omega, show 0 ≤ (s.pos : Int) + ((k : Int) + 1) by omega]
          refine IWp.one [0, 3, 4] ?_
          simp [go_sem, -getElem?_pos, -List.map_take, -List.map_drop, IntWalk.iteOmega, IntWalk.toNatUp, hg, he, v1, v2, v3, v4, v5, v6, gk, Rd.cells, show (k : Int) + 1 < 4 by omega, show 0 ≤ (s.pos : Int) + ((k : Int) + 1) by omega]
          exact ⟨3 - (k + 1), by omega, k + 1, rfl, by omega, hs1.symm, by omega⟩
        · have hk3 : k = 3 := by omega
          subst hk3
          have hfin : grown (s.at_ 0) s.at_ 3 = be4 (s.at_ 0) (s.at_ 1) (s.at_ 2) (s.at_ 3) := by rw [hm]; rfl
          have Kp : Kept [[0,3,4,24],[],[0,3],[3],[2],[]] := ⟨⟩
          iterate 6 (refine Kp.s ?_; clear Kp; intro Kp; simp [go_sem, -getElem?_pos, -List.map_take, -List.map_drop, IntWalk.iteOmega, IntWalk.toNatUp, hg, he, wA, hfin, Rd.cells])
    · rw [Rd.ready_short he hn] at c1
      rw [Rd.int_short he hn]
      refine IBody.calls (by kernel_rfl) ?_
      refine IBody.of Tryd.func62 rfl (by rw [Tryd.ntmps62]; simp) ?_
      rw [Tryd.ntmps62]
      have Kp : Kept [[0],[0,7]] := ⟨⟩
      iterate 2 (refine Kp.s ?_; clear Kp; intro Kp; simp [go_sem, -getElem?_pos, -List.map_take, -List.map_drop, IntWalk.iteOmega, IntWalk.toNatUp, hg, he, Rd.cells])
      refine ICalls.mono (c1) ?_
      rintro v _ ⟨rfl, rfl⟩
      try simp [go_sem, -getElem?_pos, -List.map_take, -List.map_drop, IntWalk.iteOmega, IntWalk.toNatUp, hg, he, Rd.cells]
      have Kp : Kept [[],[2],[]] := ⟨⟩
      iterate 3 (refine Kp.s ?_; clear Kp; intro Kp; simp [go_sem, -getElem?_pos, -List.map_take, -List.map_drop, IntWalk.iteOmega, IntWalk.toNatUp, hg, he, Rd.cells])
  · rw [Rd.ready_bad he, set_self hg] at c1
    rw [Rd.int_bad he, set_self hg]
    refine IBody.calls (by kernel_rfl) ?_
    refine IBody.of Tryd.func62 rfl (by rw [Tryd.ntmps62]; simp) ?_
    rw [Tryd.ntmps62]
    have Kp : Kept [[0],[0,7]] := ⟨⟩
    iterate 2 (refine Kp.s ?_; clear Kp; intro Kp; simp [go_sem, -getElem?_pos, -List.map_take, -List.map_drop, IntWalk.iteOmega, IntWalk.toNatUp, hg, he, Rd.cells])
    refine ICalls.mono (c1) ?_
    rintro v _ ⟨rfl, rfl⟩
    try simp [go_sem, -getElem?_pos, -List.map_take, -List.map_drop, IntWalk.iteOmega, IntWalk.toNatUp, hg, he, Rd.cells]
    have Kp : Kept [[],[2],[]] := ⟨⟩
    iterate 3 (refine Kp.s ?_; clear Kp; intro Kp; simp [go_sem, -getElem?_pos, -List.map_take, -List.map_drop, IntWalk.iteOmega, IntWalk.toNatUp, hg, he, Rd.cells])
end prog
end Go.Proofs.YtoecebibhcadoaaDoor.I
namespace Go.Proofs.YtoecebibhcadoaaDoor.I
open Go Go.RowKit
set_option linter.unusedVariables false
set_option linter.unusedSimpArgs false
section prog
variable (H : Heap) (b : Nat) (s : Rd) (hs : s.ok) (hg : H.get b = some ⟨s.cells, true⟩)
include hs hg
theorem mLeft : ICalls Tryd.prog 83 [ptrTo b 0] H fun v H' => v = .int .i64 s.left ∧ H' = H := by
  refine IBody.calls (by kernel_rfl) ?_
  obtain ⟨h1, h2, h3⟩ := hs
  unfold Rd.cells at hg
  by_cases he : s.e = 0
  · have w1 := IntWalk.i64_in ((s.L.length : Int) - s.pos) (by omega)
    refine IBody.of Tryd.func83 rfl (by rw [Tryd.ntmps83]; simp) ?_
    rw [Tryd.ntmps83]
    have Kp : Kept [[0],[0,7],[],[0]] := ⟨⟩
    iterate 4 (refine Kp.s ?_; clear Kp; intro Kp; simp [go_sem, -getElem?_pos, -List.map_take, -List.map_drop, IntWalk.iteOmega, IntWalk.toNatUp, hg, he, w1, Rd.left_ok])
    refine IWp.seq ?_
    refine IWp.read [2] follows (by kernel_rfl) ?_
    simp [go_sem, -getElem?_pos, -List.map_take, -List.map_drop, IntWalk.iteOmega, IntWalk.toNatUp, hg, he, w1, Rd.left_ok]
    refine IWp.one [] ?_
    simp [go_sem, -getElem?_pos, -List.map_take, -List.map_drop, IntWalk.iteOmega, IntWalk.toNatUp, hg, he, w1, Rd.left_ok]
  · skip
    refine IBody.of Tryd.func83 rfl (by rw [Tryd.ntmps83]; simp) ?_
    rw [Tryd.ntmps83]
    have Kp : Kept [[0],[0,7],[],[2],[]] := ⟨⟩
    iterate 5 (refine Kp.s ?_; clear Kp; intro Kp; simp [go_sem, -getElem?_pos, -List.map_take, -List.map_drop, IntWalk.iteOmega, IntWalk.toNatUp, hg, he, Rd.left_bad])
omit hs in
theorem mFault : ICalls Tryd.prog 84 [ptrTo b 0] H fun v H' => v = .tuple #[.int .i64 s.fault.1, .int .i64 s.fault.2] ∧ H' = H := by
  refine IBody.calls (by kernel_rfl) ?_
  unfold Rd.cells at hg
  by_cases he : s.e = 0
  · skip
    refine IBody.of Tryd.func84 rfl (by rw [Tryd.ntmps84]; simp) ?_
    rw [Tryd.ntmps84]
    have Kp : Kept [[0],[0,8],[],[2,3],[]] := ⟨⟩
    iterate 5 (refine Kp.s ?_; clear Kp; intro Kp; simp [go_sem, -getElem?_pos, -List.map_take, -List.map_drop, IntWalk.iteOmega, IntWalk.toNatUp, hg, he, Rd.fault])
  · skip
    refine IBody.of Tryd.func84 rfl (by rw [Tryd.ntmps84]; simp) ?_
    rw [Tryd.ntmps84]
    have Kp : Kept [[0],[0,8],[],[0]] := ⟨⟩
    iterate 4 (refine Kp.s ?_; clear Kp; intro Kp; simp [go_sem, -getElem?_pos, -List.map_take, -List.map_drop, IntWalk.iteOmega, IntWalk.toNatUp, hg, he, Rd.fault])
    refine IWp.seq ?_
    refine IWp.read [2, 3] follows (by kernel_rfl) ?_
    simp [go_sem, -getElem?_pos, -List.map_take, -List.map_drop, IntWalk.iteOmega, IntWalk.toNatUp, hg, he, Rd.fault]
    refine IWp.one [] ?_
    simp [go_sem, -getElem?_pos, -List.map_take, -List.map_drop, IntWalk.iteOmega, IntWalk.toNatUp, hg, he, Rd.fault]
theorem mEnd : ICalls Tryd.prog 64 [ptrTo b 0] H fun v H' => v = .tuple #[.int .i64 s.ending.1, .int .i64 s.ending.2] ∧ H' = H := by
  have c1 := mLeft H b s hs hg
  have c2 := mFault H b s hg
  refine IBody.calls (by kernel_rfl) ?_
  unfold Rd.cells at hg
  by_cases he : 0 < s.left
  · skip
    refine IBody.of Tryd.func64 rfl (by rw [Tryd.ntmps64]; simp) ?_
    rw [Tryd.ntmps64]
    have Kp : Kept [[0],[0,6]] := ⟨⟩
    iterate 2 (refine Kp.s ?_; clear Kp; intro Kp; simp [go_sem, -getElem?_pos, -List.map_take, -List.map_drop, IntWalk.iteOmega, IntWalk.toNatUp, hg, he, Rd.ending])
    refine ICalls.mono (c1) ?_
    rintro v _ ⟨rfl, rfl⟩
    try simp [go_sem, -getElem?_pos, -List.map_take, -List.map_drop, IntWalk.iteOmega, IntWalk.toNatUp, hg, he, Rd.ending]
    have Kp : Kept [[],[2,3],[]] := ⟨⟩
    iterate 3 (refine Kp.s ?_; clear Kp; intro Kp; simp [go_sem, -getElem?_pos, -List.map_take, -List.map_drop, IntWalk.iteOmega, IntWalk.toNatUp, hg, he, Rd.ending])
  · skip
    refine IBody.of Tryd.func64 rfl (by rw [Tryd.ntmps64]; simp) ?_
    rw [Tryd.ntmps64]
    have Kp : Kept [[0],[0,6]] := ⟨⟩
    iterate 2 (refine Kp.s ?_; clear Kp; intro Kp; simp [go_sem, -getElem?_pos, -List.map_take, -List.map_drop, IntWalk.iteOmega, IntWalk.toNatUp, hg, he, Rd.ending])
    refine ICalls.mono (c1) ?_
    rintro v _ ⟨rfl, rfl⟩
    try simp [go_sem, -getElem?_pos, -List.map_take, -List.map_drop, IntWalk.iteOmega, IntWalk.toNatUp, hg, he, Rd.ending]
    have Kp : Kept [[],[0],[2,3]] := ⟨⟩
    iterate 3 (refine Kp.s ?_; clear Kp; intro Kp; simp [go_sem, -getElem?_pos, -List.map_take, -List.map_drop, IntWalk.iteOmega, IntWalk.toNatUp, hg, he, Rd.ending])
    refine ICalls.mono (c2) ?_
    rintro v _ ⟨rfl, rfl⟩
    try simp [go_sem, -getElem?_pos, -List.map_take, -List.map_drop, IntWalk.iteOmega, IntWalk.toNatUp, hg, he, Rd.ending]
    refine IWp.one [] ?_
    simp [go_sem, -getElem?_pos, -List.map_take, -List.map_drop, IntWalk.iteOmega, IntWalk.toNatUp, hg, he, Rd.ending]
theorem mByte : ICalls Tryd.prog 61 [ptrTo b 0] H fun v H' => v = .int .u8 s.byte.1 ∧ H' = H.set b s.byte.2.cells := by
  have c1 := mReady H b s hs hg 1 (by decide)
  obtain ⟨h1, h2, h3⟩ := hs
  by_cases he : s.e = 0
  · by_cases hn : s.pos + 1 ≤ s.L.length
    · rw [Rd.ready_ok he hn, set_self hg] at c1
      rw [Rd.byte_eq he hn]
      have ha := Rd.at_get (s := s) (i := 0) (by omega)
      rw [Nat.add_zero] at ha
      have w1 := IntWalk.i64_in ((s.pos : Int) + 1) (by omega)
      have w2 := IntWalk.i64_in (s.pos : Int) (by omega)
      refine IBody.calls (by kernel_rfl) ?_
      refine IBody.of Tryd.func61 rfl (by rw [Tryd.ntmps61]; simp) ?_
      rw [Tryd.ntmps61]
      have Kp : Kept [[0],[0,5]] := ⟨⟩
      iterate 2 (refine Kp.s ?_; clear Kp; intro Kp; simp [go_sem, -getElem?_pos, -List.map_take, -List.map_drop, IntWalk.iteOmega, IntWalk.toNatUp, hg, he, w1, w2, ha, Rd.cells, show ¬ ((s.pos : Int) < 0) by omega])
      refine ICalls.mono (c1) ?_
      rintro v _ ⟨rfl, rfl⟩
      try simp [go_sem, -getElem?_pos, -List.map_take, -List.map_drop, IntWalk.iteOmega, IntWalk.toNatUp, hg, he, w1, w2, ha, Rd.cells, show ¬ ((s.pos : Int) < 0) by omega]
      have Kp : Kept [[],[0],[0]] := ⟨⟩
      iterate 3 (refine Kp.s ?_; clear Kp; intro Kp; simp [go_sem, -getElem?_pos, -List.map_take, -List.map_drop, IntWalk.iteOmega, IntWalk.toNatUp, hg, he, w1, w2, ha, Rd.cells, show ¬ ((s.pos : Int) < 0) by omega])
      refine IWp.seq ?_
      refine IWp.read [2] follows (by kernel_rfl) ?_
      simp [go_sem, -getElem?_pos, -List.map_take, -List.map_drop, IntWalk.iteOmega, IntWalk.toNatUp, hg, he, w1, w2, ha, Rd.cells, show ¬ ((s.pos : Int) < 0) by omega]
      refine IWp.one [] ?_
      simp [go_sem, -getElem?_pos, -List.map_take, -List.map_drop, IntWalk.iteOmega, IntWalk.toNatUp, hg, he, w1, w2, ha, Rd.cells, show ¬ ((s.pos : Int) < 0) by omega]
    · rw [Rd.ready_short he hn] at c1
      rw [Rd.byte_short he hn]
      refine IBody.calls (by kernel_rfl) ?_
      refine IBody.of Tryd.func61 rfl (by rw [Tryd.ntmps61]; simp) ?_
      rw [Tryd.ntmps61]
      have Kp : Kept [[0],[0,5]] := ⟨⟩
      iterate 2 (refine Kp.s ?_; clear Kp; intro Kp; simp [go_sem, -getElem?_pos, -List.map_take, -List.map_drop, IntWalk.iteOmega, IntWalk.toNatUp, hg, he, Rd.cells])
      refine ICalls.mono (c1) ?_
      rintro v _ ⟨rfl, rfl⟩
      try simp [go_sem, -getElem?_pos, -List.map_take, -List.map_drop, IntWalk.iteOmega, IntWalk.toNatUp, hg, he, Rd.cells]
      have Kp : Kept [[],[2],[]] := ⟨⟩
      iterate 3 (refine Kp.s ?_; clear Kp; intro Kp; simp [go_sem, -getElem?_pos, -List.map_take, -List.map_drop, IntWalk.iteOmega, IntWalk.toNatUp, hg, he, Rd.cells])
  · rw [Rd.ready_bad he, set_self hg] at c1
    rw [Rd.byte_bad he, set_self hg]
    refine IBody.calls (by kernel_rfl) ?_
    refine IBody.of Tryd.func61 rfl (by rw [Tryd.ntmps61]; simp) ?_
    rw [Tryd.ntmps61]
    have Kp : Kept [[0],[0,5]] := ⟨⟩
    iterate 2 (refine Kp.s ?_; clear Kp; intro Kp; simp [go_sem, -getElem?_pos, -List.map_take, -List.map_drop, IntWalk.iteOmega, IntWalk.toNatUp, hg, he, Rd.cells])
    refine ICalls.mono (c1) ?_
    rintro v _ ⟨rfl, rfl⟩
    try simp [go_sem, -getElem?_pos, -List.map_take, -List.map_drop, IntWalk.iteOmega, IntWalk.toNatUp, hg, he, Rd.cells]
    have Kp : Kept [[],[2],[]] := ⟨⟩
    iterate 3 (refine Kp.s ?_; clear Kp; intro Kp; simp [go_sem, -getElem?_pos, -List.map_take, -List.map_drop, IntWalk.iteOmega, IntWalk.toNatUp, hg, he, Rd.cells])
theorem mFlag : ICalls Tryd.prog 63 [ptrTo b 0] H fun v H' => v = .bool s.flag.1 ∧ H' = H.set b s.flag.2.cells := by
  have c1 := mReady H b s hs hg 1 (by decide)
  obtain ⟨h1, h2, h3⟩ := hs
  by_cases he : s.e = 0
  · by_cases hn : s.pos + 1 ≤ s.L.length
    · rw [Rd.ready_ok he hn, set_self hg] at c1
      have ha := Rd.at_get (s := s) (i := 0) (by omega)
      rw [Nat.add_zero] at ha
      have w1 := IntWalk.i64_in ((s.pos : Int) + 1) (by omega)
      have w2 := IntWalk.i64_in (s.pos : Int) (by omega)
      by_cases hf : 1 < s.at_ 0
      · rw [Rd.flag_form he hn hf]
        refine IBody.calls (by kernel_rfl) ?_
        refine IBody.of Tryd.func63 rfl (by rw [Tryd.ntmps63]; simp) ?_
        rw [Tryd.ntmps63]
        have Kp : Kept [[0],[0,5]] := ⟨⟩
        iterate 2 (refine Kp.s ?_; clear Kp; intro Kp; simp [go_sem, -getElem?_pos, -List.map_take, -List.map_drop, IntWalk.iteOmega, IntWalk.toNatUp, hg, he, hf, w1, w2, ha, Rd.cells, show ¬ ((s.pos : Int) < 0) by omega])
        refine ICalls.mono (c1) ?_
        rintro v _ ⟨rfl, rfl⟩
        try simp [go_sem, -getElem?_pos, -List.map_take, -List.map_drop, IntWalk.iteOmega, IntWalk.toNatUp, hg, he, hf, w1, w2, ha, Rd.cells, show ¬ ((s.pos : Int) < 0) by omega]
        have Kp : Kept [[],[0]] := ⟨⟩
        iterate 2 (refine Kp.s ?_; clear Kp; intro Kp; simp [go_sem, -getElem?_pos, -List.map_take, -List.map_drop, IntWalk.iteOmega, IntWalk.toNatUp, hg, he, hf, w1, w2, ha, Rd.cells, show ¬ ((s.pos : Int) < 0) by omega])
        refine IWp.seq ?_
        refine IWp.seq ?_
        refine IWp.read [0, 16] follows (by kernel_rfl) ?_
        simp [go_sem, -getElem?_pos, -List.map_take, -List.map_drop, IntWalk.iteOmega, IntWalk.toNatUp, hg, he, hf, w1, w2, ha, Rd.cells, show ¬ ((s.pos : Int) < 0) by omega]
        have Kp : Kept [[],[],[2],[]] := ⟨⟩
        iterate 4 (refine Kp.s ?_; clear Kp; intro Kp; simp [go_sem, -getElem?_pos, -List.map_take, -List.map_drop, IntWalk.iteOmega, IntWalk.toNatUp, hg, he, hf, w1, w2, ha, Rd.cells, show ¬ ((s.pos : Int) < 0) by omega])
      · rw [Rd.flag_eq he hn hf]
        refine IBody.calls (by kernel_rfl) ?_
        refine IBody.of Tryd.func63 rfl (by rw [Tryd.ntmps63]; simp) ?_
        rw [Tryd.ntmps63]
        have Kp : Kept [[0],[0,5]] := ⟨⟩
        iterate 2 (refine Kp.s ?_; clear Kp; intro Kp; simp [go_sem, -getElem?_pos, -List.map_take, -List.map_drop, IntWalk.iteOmega, IntWalk.toNatUp, hg, he, hf, w1, w2, ha, Rd.cells, show ¬ ((s.pos : Int) < 0) by omega])
        refine ICalls.mono (c1) ?_
        rintro v _ ⟨rfl, rfl⟩
        try simp [go_sem, -getElem?_pos, -List.map_take, -List.map_drop, IntWalk.iteOmega, IntWalk.toNatUp, hg, he, hf, w1, w2, ha, Rd.cells, show ¬ ((s.pos : Int) < 0) by omega]
        have Kp : Kept [[],[0]] := ⟨⟩
        iterate 2 (refine Kp.s ?_; clear Kp; intro Kp; simp [go_sem, -getElem?_pos, -List.map_take, -List.map_drop, IntWalk.iteOmega, IntWalk.toNatUp, hg, he, hf, w1, w2, ha, Rd.cells, show ¬ ((s.pos : Int) < 0) by omega])
        refine IWp.seq ?_
        refine IWp.seq ?_
        refine IWp.read [0, 16] follows (by kernel_rfl) ?_
        simp [go_sem, -getElem?_pos, -List.map_take, -List.map_drop, IntWalk.iteOmega, IntWalk.toNatUp, hg, he, hf, w1, w2, ha, Rd.cells, show ¬ ((s.pos : Int) < 0) by omega]
        have Kp : Kept [[],[0],[0]] := ⟨⟩
        iterate 3 (refine Kp.s ?_; clear Kp; intro Kp; simp [go_sem, -getElem?_pos, -List.map_take, -List.map_drop, IntWalk.iteOmega, IntWalk.toNatUp, hg, he, hf, w1, w2, ha, Rd.cells, show ¬ ((s.pos : Int) < 0) by omega])
        refine IWp.seq ?_
        refine IWp.read [2] follows (by kernel_rfl) ?_
        simp [go_sem, -getElem?_pos, -List.map_take, -List.map_drop, IntWalk.iteOmega, IntWalk.toNatUp, hg, he, hf, w1, w2, ha, Rd.cells, show ¬ ((s.pos : Int) < 0) by omega]
        refine IWp.one [] ?_
        simp [go_sem, -getElem?_pos, -List.map_take, -List.map_drop, IntWalk.iteOmega, IntWalk.toNatUp, hg, he, hf, w1, w2, ha, Rd.cells, show ¬ ((s.pos : Int) < 0) by omega]
    · rw [Rd.ready_short he hn] at c1
      rw [Rd.flag_short he hn]
      refine IBody.calls (by kernel_rfl) ?_
      refine IBody.of Tryd.func63 rfl (by rw [Tryd.ntmps63]; simp) ?_
      rw [Tryd.ntmps63]
      have Kp : Kept [[0],[0,5]] := ⟨⟩
      iterate 2 (refine Kp.s ?_; clear Kp; intro Kp; simp [go_sem, -getElem?_pos, -List.map_take, -List.map_drop, IntWalk.iteOmega, IntWalk.toNatUp, hg, he, Rd.cells])
      refine ICalls.mono (c1) ?_
      rintro v _ ⟨rfl, rfl⟩
      try simp [go_sem, -getElem?_pos, -List.map_take, -List.map_drop, IntWalk.iteOmega, IntWalk.toNatUp, hg, he, Rd.cells]
      have Kp : Kept [[],[2],[]] := ⟨⟩
      iterate 3 (refine Kp.s ?_; clear Kp; intro Kp; simp [go_sem, -getElem?_pos, -List.map_take, -List.map_drop, IntWalk.iteOmega, IntWalk.toNatUp, hg, he, Rd.cells])
  · rw [Rd.ready_bad he, set_self hg] at c1
    rw [Rd.flag_bad he, set_self hg]
    refine IBody.calls (by kernel_rfl) ?_
    refine IBody.of Tryd.func63 rfl (by rw [Tryd.ntmps63]; simp) ?_
    rw [Tryd.ntmps63]
    have Kp : Kept [[0],[0,5]] := ⟨⟩
    iterate 2 (refine Kp.s ?_; clear Kp; intro Kp; simp [go_sem, -getElem?_pos, -List.map_take, -List.map_drop, IntWalk.iteOmega, IntWalk.toNatUp, hg, he, Rd.cells])
    refine ICalls.mono (c1) ?_
    rintro v _ ⟨rfl, rfl⟩
    try simp [go_sem, -getElem?_pos, -List.map_take, -List.map_drop, IntWalk.iteOmega, IntWalk.toNatUp, hg, he, Rd.cells]
    have Kp : Kept [[],[2],[]] := ⟨⟩
    iterate 3 (refine Kp.s ?_; clear Kp; intro Kp; simp [go_sem, -getElem?_pos, -List.map_take, -List.map_drop, IntWalk.iteOmega, IntWalk.toNatUp, hg, he, Rd.cells])
end prog
end Go.Proofs.YtoecebibhcadoaaDoor.I
namespace Go.Proofs.YtoecebibhcadoaaDoor.I
open Go Go.RowKit
set_option linter.unusedVariables false
set_option linter.unusedSimpArgs false
structure Dx (n b rb xb : Nat) (K : Heap) (st : Rd) (cs : List Value) : Prop where
  gb : K.get b = some ⟨st.cells, true⟩
  gr : K.get rb = some ⟨[.slice none 0 0, .slice none 0 0, .slice none 0 0, .int .i64 0, .int .i64 0, .int .i64 0, .int .i64 0, .int .i64 0, .int .i64 0, .bool false, .int .i64 0], true⟩
  gx : K.get xb = some ⟨cs, true⟩
  ne : ¬ b = rb ∧ ¬ b = xb ∧ ¬ rb = xb ∧ b < n ∧ rb < n ∧ xb < n
  nx : n ≤ K.next
theorem Dx.set {n b rb xb : Nat} {K : Heap} {st : Rd} {cs : List Value} (h : Dx n b rb xb K st cs) (t : Rd) : Dx n b rb xb (K.set b t.cells) t cs :=
  ⟨by rw [get_set, if_pos rfl, h.gb]; rfl, by rw [get_set, if_neg (Ne.symm h.ne.1)]; exact h.gr, by rw [get_set, if_neg (Ne.symm h.ne.2.1)]; exact h.gx, h.ne, h.nx⟩
theorem Dx.put {n b rb xb : Nat} {K : Heap} {st : Rd} {cs : List Value} (h : Dx n b rb xb K st cs) (cs' : List Value) : Dx n b rb xb (K.set xb cs') st cs' :=
  ⟨by rw [get_set, if_neg h.ne.2.1]; exact h.gb, by rw [get_set, if_neg h.ne.2.2.1]; exact h.gr, by rw [get_set, if_pos rfl, h.gx]; rfl, h.ne, h.nx⟩
theorem Dx.same {n b rb xb : Nat} {K M : Heap} {st : Rd} {cs : List Value} (h : Dx n b rb xb K st cs) (hs : ∀ j, j < n → M.get j = K.get j) (hn : n ≤ M.next) : Dx n b rb xb M st cs :=
  ⟨by rw [hs b h.ne.2.2.2.1]; exact h.gb, by rw [hs rb h.ne.2.2.2.2.1]; exact h.gr, by rw [hs xb h.ne.2.2.2.2.2]; exact h.gx, h.ne, hn⟩
theorem Dx.alloc {n b rb xb : Nat} {K : Heap} {st : Rd} {cs : List Value} (h : Dx n b rb xb K st cs) (ds : List Value) : Dx n b rb xb (K.alloc ds) st cs :=
  h.same (fun j hj => Heap.get_alloc_lt _ _ _ (by have := h.nx; omega)) (by rw [next_alloc]; have := h.nx; omega)
theorem Dx.setN {n b rb xb : Nat} {K : Heap} {st : Rd} {cs : List Value} (h : Dx n b rb xb K st cs) {q : Nat} (hq : n ≤ q) (ds : List Value) : Dx n b rb xb (K.set q ds) st cs :=
  h.same (fun j hj => by rw [get_set, if_neg (by omega)]) h.nx
theorem Dx.step {n b rb xb : Nat} {K : Heap} {st : Rd} {cs : List Value} (h : Dx n b rb xb K st cs) (t : Rd) (cs' : List Value) : Dx n b rb xb ((K.set b t.cells).set xb cs') t cs' := (h.set t).put cs'
theorem Bld.blk {sz n : Nat} {K : Heap} {v : Value} {us : List Value} (h : Bld sz K n v us) : ∀ j, blkOf v j = true → j < K.next := fun j hj => by
  rcases h.2 with ⟨e1, e2⟩ | ⟨q, hq, e1, e2⟩
  · rw [e1] at hj; cases hj
  · rw [e1] at hj; simp [blkOf] at hj; rw [hj]; exact Heap.lt_of_get e2
theorem Bld.low {sz n : Nat} {K : Heap} {v : Value} {us : List Value} (h : Bld sz K n v us) : ∀ j, j < n → blkOf v j = false := fun j hj => by
  rcases h.2 with ⟨e1, _⟩ | ⟨q, hq, e1, _⟩
  · rw [e1]; rfl
  · rw [e1]; simp [blkOf]; omega
theorem Bld.to {sz n m : Nat} {K M : Heap} {v : Value} {us : List Value} (h : Bld sz K n v us) (hv : ∀ j, blkOf v j = true → j < m) (hs : ∀ j, n ≤ j → j < m → M.get j = K.get j) : Bld sz M n v us := by
  refine ⟨h.1, ?_⟩
  rcases h.2 with ⟨e1, e2⟩ | ⟨q, hq, e1, e2⟩
  · exact .inl ⟨e1, e2⟩
  · exact .inr ⟨q, hq, e1, (hs q hq (hv q (by rw [e1]; simp [blkOf]))).trans e2⟩
structure Rx (n b rb xb yb : Nat) (v : Value) (us : List Value) (K : Heap) (st : Rd) (cs rs : List Value) : Prop where
  d : Dx n b rb xb K st cs
  y : K.get yb = some ⟨rs, true⟩
  hy : n ≤ yb
  bl : Bld 9 K n v us
  bn : blkOf v yb = false
theorem Rx.step {n b rb xb yb : Nat} {v : Value} {us : List Value} {K : Heap} {st : Rd} {cs rs : List Value} (h : Rx n b rb xb yb v us K st cs rs) (t : Rd) (rs' : List Value) : Rx n b rb xb yb v us ((K.set b t.cells).set yb rs') t cs rs' := by
  have hb := h.d.ne.2.2.2.1
  have hy := h.hy
  refine ⟨(h.d.set t).setN h.hy _, by rw [get_set, if_pos rfl, get_set, if_neg (by omega), h.y]; rfl, h.hy, ⟨h.bl.1, ?_⟩, h.bn⟩
  rcases h.bl.2 with ⟨e1, e2⟩ | ⟨q, hq, e1, e2⟩
  · exact .inl ⟨e1, e2⟩
  · have hn := h.bn
    rw [e1] at hn
    have hqy : ¬ q = yb := by simp [blkOf] at hn; omega
    exact .inr ⟨q, hq, e1, by rw [get_set, if_neg hqy, get_set, if_neg (by omega)]; exact e2⟩
theorem Rx.to {n b rb xb yb : Nat} {v : Value} {us : List Value} {K : Heap} {st : Rd} {cs rs : List Value} (h : Rx n b rb xb yb v us K st cs rs) {M : Heap} {t : Rd} {m : Nat} (hm : yb < m) (hv : ∀ j, blkOf v j = true → j < m) (hb : M.get b = some ⟨t.cells, true⟩) (hs : ∀ j, j < m → j ≠ b → M.get j = K.get j) (hn : n ≤ M.next) : Rx n b rb xb yb v us M t cs rs := by
  have ne := h.d.ne
  have hy := h.hy
  refine ⟨⟨hb, (hs rb (by omega) (by omega)).trans h.d.gr, (hs xb (by omega) (by omega)).trans h.d.gx, ne, hn⟩, (hs yb hm (by omega)).trans h.y, hy, ⟨h.bl.1, ?_⟩, h.bn⟩
  rcases h.bl.2 with ⟨e1, e2⟩ | ⟨q, hq, e1, e2⟩
  · exact .inl ⟨e1, e2⟩
  · exact .inr ⟨q, hq, e1, (hs q (hv q (by rw [e1]; simp [blkOf])) (by omega)).trans e2⟩
theorem Rx.put {n b rb xb yb : Nat} {v : Value} {us : List Value} {K : Heap} {st : Rd} {cs rs : List Value} (h : Rx n b rb xb yb v us K st cs rs) (rs' : List Value) : Rx n b rb xb yb v us (K.set yb rs') st cs rs' := by
  refine ⟨h.d.setN h.hy _, by rw [get_set, if_pos rfl, h.y]; rfl, h.hy, ⟨h.bl.1, ?_⟩, h.bn⟩
  rcases h.bl.2 with ⟨e1, e2⟩ | ⟨q, hq, e1, e2⟩
  · exact .inl ⟨e1, e2⟩
  · have hn := h.bn
    rw [e1] at hn
    exact .inr ⟨q, hq, e1, by rw [get_set, if_neg (by simp [blkOf] at hn; omega)]; exact e2⟩
theorem Bld.keepD {sz n : Nat} {K M : Heap} {v : Value} {us : List Value} (h : Bld sz K n v us) (hs : ∀ j, n ≤ j → j < K.next → M.get j = K.get j) : Bld sz M n v us :=
  h.same fun j k hj hk => by rw [hs j hj (Heap.lt_of_get hk)]; exact hk
theorem decP_alt (L : List Int) (h1 : (opened L).2 = 0) (h2 : (opened L).1.take 3 = [72, 66, 49]) (s : Rd) (hs : s = ⟨(opened L).1, 3, 0⟩) (hok : s.ok) :
    decP L = if ¬ (cfgP s).2.ending.2 = 0 then (cfgZ, (cfgP s).2.ending.1, (cfgP s).2.ending.2) else ((cfgP s).1, 0, 0) := by
  have hq : 3 ≤ (opened L).1.length := by have := congrArg List.length h2; simp at this; omega
  have ok0 : (Rd.mk ((opened L).1.drop 3) 0 0).ok := ⟨Nat.zero_le _, by have := hok.2.1; rw [hs] at this; simp only [List.length_drop] at *; omega, fun x hx => hok.2.2 x (by rw [hs]; exact List.mem_of_mem_drop hx)⟩
  obtain ⟨e1, e2⟩ := cfgP_shift 3 ⟨(opened L).1.drop 3, 0, 0⟩ s ⟨by rw [hs], by rw [hs], by rw [hs], by rw [hs]; exact hq⟩
  obtain ⟨e3, e4⟩ := e2.ending (cfgP_ok _ ok0)
  unfold decP
  rw [if_neg (by simpa using h1), if_neg (by simpa using h2), e1, e3]
  simp only
  split
  · rename_i hne
    rw [e4 hne]; rw [Int.add_comm]; rfl
  · rfl
set_option maxRecDepth 8000 in
set_option maxHeartbeats 4000000 in
theorem refDecode (H : Heap) (m : Int) (L : List Int) (hL : L.length ≤ 800000) (hB : Bs L) :
    ICalls Tryd.prog 42 [frow 1 m (L.map (Value.int .u8))] H fun v H' => v = .tuple #[(decP L).1.val, .int .i64 (decP L).2.1, .int .i64 (decP L).2.2] ∧ H' = H := by
  refine ICalls.ans (by simp only [Cl_tuple, ClL_cons, Config.cl_val, Cl_int, ClL_nil]; exact ⟨trivial, trivial, trivial, trivial⟩) fun H => IBody.calls (by kernel_rfl) ?_
  have ol := opened_len L
  have ob := opened_bs hB
  have c1 := refOpen (H.alloc [.slice none 0 0, .slice none 0 0, .slice none 0 0, .int .i64 0, .int .i64 0, .int .i64 0, .int .i64 0, .int .i64 0, .int .i64 0, .bool false, .int .i64 0]) m L hL hB
  have fin : ∀ (a e : Int), decP L = (cfgZ, a, e) → ∀ K : Heap, Frz K (fun _ => true) (.tuple #[.agg #[.slice none 0 0, .slice none 0 0, .slice none 0 0, .int .i64 0, .int .i64 0, .int .i64 0, .int .i64 0, .int .i64 0, .int .i64 0, .bool false, .int .i64 0], .int .i64 a, .int .i64 e]) (.tuple #[(decP L).1.val, .int .i64 (decP L).2.1, .int .i64 (decP L).2.2]) := fun a e h K => by
    rw [h]; exact .tuple (.cons (frzZ _ _) (.cons (.same _) (.cons (.same _) .nil)))
  obtain ⟨U, hU⟩ : ∃ U : Value, U = .tuple #[(decP L).1.val, .int .i64 (decP L).2.1, .int .i64 (decP L).2.2] := ⟨_, rfl⟩
  rw [← hU] at fin ⊢
  by_cases h1 : (opened L).2 = 0
  · obtain ⟨Q, hQ⟩ : ∃ Q, Q = (opened L).1 := ⟨_, rfl⟩
    rw [← hQ] at ol ob c1
    by_cases hs : Q.length < 3
    · have hd : decP L = (cfgZ, 0, 2) := by
        unfold decP; rw [if_neg (by simpa using h1), ← hQ, if_pos]
        intro e; have := congrArg List.length e; simp at this; omega
      refine IBody.of Tryd.func42 rfl (by rw [Tryd.ntmps42]; simp) ?_
      rw [Tryd.ntmps42]
      have Kp : Kept [[0,2],[2,5,6]] := ⟨⟩
      iterate 2 (refine Kp.s ?_; clear Kp; intro Kp; simp [go_sem, -getElem?_pos, -List.map_take, -List.map_drop, IntWalk.iteOmega, IntWalk.toNatUp, h1, hs, show (Q.length : Int) < 3 by omega])
      refine ICalls.then (c1) ?_
      try simp [go_sem, -getElem?_pos, -List.map_take, -List.map_drop, IntWalk.iteOmega, IntWalk.toNatUp, h1, hs, show (Q.length : Int) < 3 by omega]
      have Kp : Kept [[2,5,6,26],[],[2,5],[2,5,39],[],[2,3,4],[]] := ⟨⟩
      iterate 7 (refine Kp.s ?_; clear Kp; intro Kp; simp [go_sem, -getElem?_pos, -List.map_take, -List.map_drop, IntWalk.iteOmega, IntWalk.toNatUp, h1, hs, show (Q.length : Int) < 3 by omega])
      exact fin 0 2 hd _
    · have lit : ((H.alloc [.slice none 0 0, .slice none 0 0, .slice none 0 0, .int .i64 0, .int .i64 0, .int .i64 0, .int .i64 0, .int .i64 0, .int .i64 0, .bool false, .int .i64 0]).alloc [.int .u8 72, .int .u8 66, .int .u8 49]).get (H.next + 1) = some ⟨[(72 : Int), 66, 49].map (Value.int .u8), true⟩ := by simp [get_alloc, next_alloc]
      have g0 : (((H.alloc [.slice none 0 0, .slice none 0 0, .slice none 0 0, .int .i64 0, .int .i64 0, .int .i64 0, .int .i64 0, .int .i64 0, .int .i64 0, .bool false, .int .i64 0]).alloc [.int .u8 72, .int .u8 66, .int .u8 49]).kill (H.next + 1)).get H.next = some ⟨[.slice none 0 0, .slice none 0 0, .slice none 0 0, .int .i64 0, .int .i64 0, .int .i64 0, .int .i64 0, .int .i64 0, .int .i64 0, .bool false, .int .i64 0], true⟩ := by
        rw [get_kill, if_neg (by omega), get_alloc, next_alloc, if_neg (by omega)]; exact Heap.get_alloc_new _ _
      have n0 : (((H.alloc [.slice none 0 0, .slice none 0 0, .slice none 0 0, .int .i64 0, .int .i64 0, .int .i64 0, .int .i64 0, .int .i64 0, .int .i64 0, .bool false, .int .i64 0]).alloc [.int .u8 72, .int .u8 66, .int .u8 49]).kill (H.next + 1)).next = H.next + 1 + 1 := by simp only [next_kill, next_alloc]
      refine IBody.of Tryd.func42 rfl (by rw [Tryd.ntmps42]; simp) ?_
      rw [Tryd.ntmps42]
      have Kp : Kept [[0,2],[2,5,6]] := ⟨⟩
      iterate 2 (refine Kp.s ?_; clear Kp; intro Kp; simp [go_sem, -getElem?_pos, -List.map_take, -List.map_drop, IntWalk.iteOmega, IntWalk.toNatUp, h1, hs, show ¬ (Q.length : Int) < 3 by omega, show (3 : Int) ≤ Q.length by omega])
      refine ICalls.then (c1) ?_
      try simp [go_sem, -getElem?_pos, -List.map_take, -List.map_drop, IntWalk.iteOmega, IntWalk.toNatUp, h1, hs, show ¬ (Q.length : Int) < 3 by omega, show (3 : Int) ≤ Q.length by omega]
      have Kp : Kept [[2,5,6,26],[],[2,5],[2,5,39]] := ⟨⟩
      iterate 4 (refine Kp.s ?_; clear Kp; intro Kp; simp [go_sem, -getElem?_pos, -List.map_take, -List.map_drop, IntWalk.iteOmega, IntWalk.toNatUp, h1, hs, show ¬ (Q.length : Int) < 3 by omega, show (3 : Int) ≤ Q.length by omega])
      refine ICalls.freeze1 (H.next + 1) (.cons (.same _) (.cons (frz_lit ([(72 : Int), 66, 49].map (Value.int .u8)) lit rfl (fun u hu => by obtain ⟨x, _, rfl⟩ := List.mem_map.1 hu; rfl) rfl (by simp)) .nil)) (ICalls.then (refBytes _ 0 0 (Q.take 3) [72, 66, 49] (by simp; omega)) ?_)
      clear lit c1
      generalize ((H.alloc _).alloc _).kill _ = K0 at g0 n0 ⊢
      by_cases h2 : Q.take 3 = [72, 66, 49]
      · rw [show decide (Q.take 3 = [72, 66, 49]) = true from decide_eq_true h2]
        simp [go_sem, -List.map_take, -List.map_drop]
        have Kp : Kept [[],[2,5],[2,7],[2,7,8]] := ⟨⟩
        iterate 4 (refine Kp.s ?_; clear Kp; intro Kp; simp [go_sem, -getElem?_pos, -List.map_take, -List.map_drop, IntWalk.iteOmega, IntWalk.toNatUp, h2])
        have hq3 : 3 ≤ Q.length := by have := congrArg List.length h2; simp at this; omega
        obtain ⟨s0, hs0⟩ : ∃ x : Rd, x = ⟨Q, 3, 0⟩ := ⟨_, rfl⟩
        have ks0 : s0.ok := by rw [hs0]; exact ⟨hq3, by simp only; omega, ob⟩
        have hd := decP_alt L h1 (by rw [← hQ]; exact h2) s0 (by rw [hs0, hQ]) ks0
        obtain ⟨ZC, hZC⟩ : ∃ ZC, ZC = confB (.slice none 0 0) (.slice none 0 0) (.slice none 0 0) 0 0 0 0 0 0 false 0 := ⟨_, rfl⟩
        have D0 : Dx (K0.next + 1 + 1) K0.next H.next (K0.next + 1) ((K0.alloc s0.cells).alloc ZC) s0 ZC := by
          refine ⟨by simp only [get_alloc, next_alloc]; rw [if_neg (by omega)]; simp, ?_, by simp [get_alloc, next_alloc], by omega, by simp [next_alloc]⟩
          simp only [get_alloc, next_alloc]; rw [if_neg (by omega), if_neg (by omega)]; exact g0
        rw [hs0, hZC] at D0
        simp only [confB, Rd.cells] at D0
        generalize K0.next + 1 = xb at D0 ⊢
        generalize (K0.alloc _).alloc _ = K1 at D0 ⊢
        generalize K0.next = b at D0 ⊢
        generalize H.next = rb at D0 ⊢
        generalize xb + 1 = n at D0 ⊢
        have hZ := D0.gr
        have nb := D0.ne
        obtain ⟨SV, hSV⟩ : ∃ y, y = (manyP sigP s0).1 := ⟨_, rfl⟩
        obtain ⟨s1, hs1⟩ : ∃ y, y = (manyP sigP s0).2 := ⟨_, rfl⟩
        have k1 : s1.ok := by rw [hs1]; exact manyP_ok _ sigP_ok _ ks0
        obtain ⟨RV, hRV⟩ : ∃ y, y = (manyP ruleP s1).1 := ⟨_, rfl⟩
        obtain ⟨s2, hs2⟩ : ∃ y, y = (manyP ruleP s1).2 := ⟨_, rfl⟩
        have k2 : s2.ok := by rw [hs2]; exact manyP_ok _ ruleP_ok _ k1
        obtain ⟨TV, hTV⟩ : ∃ y, y = (manyP slotP s2).1 := ⟨_, rfl⟩
        obtain ⟨s3, hs3⟩ : ∃ y, y = (manyP slotP s2).2 := ⟨_, rfl⟩
        have k3 : s3.ok := by rw [hs3]; exact manyP_ok _ slotP_ok _ k2
        have D0 : Dx n b rb xb K1 s0 (confB (.slice none 0 0) (.slice none 0 0) (.slice none 0 0) 0 0 0 0 0 0 false 0) := by rw [hs0]; exact D0
        refine IWp.cut (fun e K => ∃ v, Dx n b rb xb K s1 (confB v (.slice none 0 0) (.slice none 0 0) 0 0 0 0 0 0 false 0) ∧ Bld 2 K n v (SV.map Sig.val) ∧ e = [(2, ptrTo rb 0), (7, ptrTo b 0), (8, ptrTo xb 0)]) ?_ ?_
        · skip
          refine IWp.one [2, 7, 8, 9] ?_
          simp [go_sem, -getElem?_pos, -List.map_take, -List.map_drop, IntWalk.iteOmega, IntWalk.toNatUp]
          refine ICalls.mono (mByte K1 b s0 ks0 D0.gb) ?_
          rintro v _ ⟨rfl, rfl⟩
          try simp [go_sem, -getElem?_pos, -List.map_take, -List.map_drop, IntWalk.iteOmega, IntWalk.toNatUp]
          refine IWp.block ?_
          have D1 := D0.set s0.byte.2
          have i1 := Inv.start sigP s0 ks0
          have hN := Rd.byte_u8 s0 ks0
          generalize K1.set b _ = K at D1 ⊢
          obtain ⟨N, hNe⟩ : ∃ N, N = s0.byte.1 := ⟨_, rfl⟩
          rw [← hNe] at hN i1 ⊢
          clear D0
          refine IWp.loop (fun j e K => ∃ (i : Nat) (v : Value) (acc : List Sig) (st : Rd), j = N.toNat - i ∧ Inv sigP s0 N.toNat i acc st ∧ Dx n b rb xb K st (confB v (.slice none 0 0) (.slice none 0 0) 0 0 0 0 0 0 false 0) ∧ Bld 2 K n v (acc.map Sig.val) ∧ e = [(2, ptrTo rb 0), (7, ptrTo b 0), (8, ptrTo xb 0), (9, .int .u8 (N - i))]) N.toNat ⟨0, _, [], _, rfl, i1, D1, Bld.nil _ _ _, by simp [go_sem]⟩ ?_
          clear i1 D1 hZ
          rintro j e K ⟨i, v, acc, st, rfl, hi, D, hv, rfl⟩
          obtain ⟨hi1, hso, hil, hin⟩ := hi.parts
          have dn := D.nx
          have db := D.gb
          have dx := D.gx
          simp only [Rd.cells] at db
          simp only [confB] at dx
          by_cases hlt : i < N.toNat
          · by_cases he : st.e = 0
            · have hstep := hi.step sigP_ok hlt he
              have DA := D.alloc [.int .i64 0, .int .i64 0]
              have D2 := (DA.set st.int.2).setN dn [.int .i64 st.int.1, .int .i64 0]
              have hvA : ∀ {M : Heap}, M = (((((K.alloc [.int .i64 0, .int .i64 0]).set b st.int.2.cells).set K.next [.int .i64 st.int.1, .int .i64 0]).set b st.int.2.int.2.cells).set K.next [.int .i64 st.int.1, .int .i64 st.int.2.int.1]) → Bld 2 M n v (acc.map Sig.val) := fun {M} hM => hv.keepD fun j hj hl => by
                rw [hM]; simp only [get_set, get_alloc]; rw [if_neg (by omega), if_neg (by omega), if_neg (by omega), if_neg (by omega), if_neg (by omega)]
              have w1 : IntKind.u8.wrap (N - i - 1) = N - ((i + 1 : Nat) : Int) := by rw [show N - ((i + 1 : Nat) : Int) = N - i - 1 by omega]; exact IntWalk.u8_in _ (by omega)
              have Kp : Kept [[2,7,8,9,54],[],[2,7,8,9],[2,7,8,9,10],[2,7,8,9,10]] := ⟨⟩
              iterate 5 (refine Kp.s ?_; clear Kp; intro Kp; simp [go_sem, -getElem?_pos, -List.map_take, -List.map_drop, IntWalk.iteOmega, IntWalk.toNatUp, db, he, show (0 : Int) < N - i by omega, show ¬ b = K.next by omega, show ¬ K.next = b by omega])
              refine ICalls.mono (mInt _ b st hso DA.gb) ?_
              rintro v1 _ ⟨rfl, rfl⟩
              try simp [go_sem, -getElem?_pos, -List.map_take, -List.map_drop, IntWalk.iteOmega, IntWalk.toNatUp, db, he, show (0 : Int) < N - i by omega, show ¬ b = K.next by omega, show ¬ K.next = b by omega]
              refine IWp.one [2, 7, 8, 9, 10] ?_
              simp [go_sem, -getElem?_pos, -List.map_take, -List.map_drop, IntWalk.iteOmega, IntWalk.toNatUp, db, he, show (0 : Int) < N - i by omega, show ¬ b = K.next by omega, show ¬ K.next = b by omega]
              refine ICalls.mono (mInt _ b st.int.2 (Rd.int_ok hso) D2.gb) ?_
              rintro v2 _ ⟨rfl, rfl⟩
              try simp [go_sem, -getElem?_pos, -List.map_take, -List.map_drop, IntWalk.iteOmega, IntWalk.toNatUp, db, he, show (0 : Int) < N - i by omega, show ¬ b = K.next by omega, show ¬ K.next = b by omega]
              have hvM := hvA (M := (((((K.alloc [.int .i64 0, .int .i64 0]).set b st.int.2.cells).set K.next [.int .i64 st.int.1, .int .i64 0]).set b st.int.2.int.2.cells).set K.next [.int .i64 st.int.1, .int .i64 st.int.2.int.1])) rfl
              have DM := (D2.set st.int.2.int.2).setN dn [.int .i64 st.int.1, .int .i64 st.int.2.int.1]
              have gs : (((((K.alloc [.int .i64 0, .int .i64 0]).set b st.int.2.cells).set K.next [.int .i64 st.int.1, .int .i64 0]).set b st.int.2.int.2.cells).set K.next [.int .i64 st.int.1, .int .i64 st.int.2.int.1]).get K.next = some ⟨[.int .i64 st.int.1, .int .i64 st.int.2.int.1], true⟩ := by
                simp only [get_set, get_alloc, if_true, if_neg (show ¬ K.next = b by omega), Option.map_some]
              rw [show (st.int.2.int.2) = (sigP st).2 from rfl] at DM hvM gs ⊢
              clear D2 DA
              have hnM : K.next < (((((K.alloc [.int .i64 0, .int .i64 0]).set b st.int.2.cells).set K.next [.int .i64 st.int.1, .int .i64 0]).set b (sigP st).2.cells).set K.next [.int .i64 st.int.1, .int .i64 st.int.2.int.1]).next := by simp only [next_set, next_alloc]; omega
              generalize ((((K.alloc _).set b _).set K.next _).set b _).set K.next _ = M at DM hvM gs hnM ⊢
              have dmx := DM.gx
              simp only [confB] at dmx
              obtain ⟨v', K3, e3, b3, s3, n3, f3, t3⟩ := app_one (P := Tryd.prog) (t := 28) (e := 51) (sz := 2) (by_ := 16) (z := .agg ⟨[.int .i64 0, .int .i64 0]⟩) (by kernel_rfl) (by kernel_rfl) (by kernel_rfl) (by kernel_rfl) rfl (Sig.val (sigP st).1) [.int .i64 st.int.1, .int .i64 st.int.2.int.1] hvM rfl rfl (by simp [one0]) DM.nx (by simp; omega) (by simp; omega)
              rw [List.length_map] at t3
              subst t3
              have D3 := (DM.same s3 (Nat.le_trans DM.nx n3)).put (confB (.slice (some ⟨M.next + 1, 0, some 2⟩) (acc.length + 1) 1) (.slice none 0 0) (.slice none 0 0) 0 0 0 0 0 0 false 0)
              have d3x := (DM.same s3 (Nat.le_trans DM.nx n3)).gx
              simp only [confB] at d3x
              have Kp : Kept [[2,7,8,9],[2,7,8,9]] := ⟨⟩
              iterate 2 (refine Kp.s ?_; clear Kp; intro Kp; simp [go_sem, -getElem?_pos, -List.map_take, -List.map_drop, IntWalk.iteOmega, IntWalk.toNatUp, dmx, gs, e3, d3x, w1])
              exact ⟨N.toNat - (i + 1), by omega, i + 1, rfl, _, acc ++ [(sigP st).1], (sigP st).2, hstep, D3, by rw [List.map_append]; exact b3.keepD fun j hj _ => by rw [get_set, if_neg (by omega)], by simp⟩
            · skip
              have Kp : Kept [[2,7,8,9,54],[],[2,7,8]] := ⟨⟩
              iterate 3 (refine Kp.s ?_; clear Kp; intro Kp; simp [go_sem, -getElem?_pos, -List.map_take, -List.map_drop, IntWalk.iteOmega, IntWalk.toNatUp, db, he, show (0 : Int) < N - i by omega])
              obtain ⟨q1, q2⟩ := hi.stop (.inl he)
              exact ⟨v, by rw [hs1, q2]; exact D, by rw [hSV, q1]; exact hv⟩
          · skip
            have Kp : Kept [[2,7,8,9,54],[],[2,7,8]] := ⟨⟩
            iterate 3 (refine Kp.s ?_; clear Kp; intro Kp; simp [go_sem, -getElem?_pos, -List.map_take, -List.map_drop, IntWalk.iteOmega, IntWalk.toNatUp, show ¬ (i : Int) < N by omega])
            obtain ⟨q1, q2⟩ := hi.stop (.inr hlt)
            exact ⟨v, by rw [hs1, q2]; exact D, by rw [hSV, q1]; exact hv⟩
        clear D0
        rintro e K ⟨v, D, hv, rfl⟩
        have hS : ∀ j, j < n → blkOf v j = false := fun j hj => by
          rcases hv.2 with ⟨e1, _⟩ | ⟨q, hq, e1, _⟩
          · rw [e1]; rfl
          · rw [e1]; simp [blkOf]; omega
        obtain ⟨K0', hf, f1, f2, f3⟩ := FrzH.one (S := blkOf v) (b := xb) (cs' := confB (frow 2 0 (SV.map Sig.val)) (.slice none 0 0) (.slice none 0 0) 0 0 0 0 0 0 false 0) (hS xb nb.2.2.2.2.2) D.gx (.cons hv.frzV (FrzL.same _))
        refine IWp.freezeH K0' _ (.cons (.same _) (.cons (.same _) (.cons (.same _) .nil))) hf ?_
        have D2 : Dx n b rb xb K0' s1 (confB (frow 2 0 (SV.map Sig.val)) (.slice none 0 0) (.slice none 0 0) 0 0 0 0 0 0 false 0) := ⟨(f2 b nb.2.1 (hS b nb.2.2.2.1)).trans D.gb, (f2 rb nb.2.2.1 (hS rb nb.2.2.2.2.1)).trans D.gr, f1, D.ne, by rw [f3]; exact D.nx⟩
        clear hf f1 f2 f3 hS hv D
        generalize K0' = K2 at D2 ⊢
        refine IWp.cut (fun e K => ∃ v, Dx n b rb xb K s2 (confB (frow 2 0 (SV.map Sig.val)) v (.slice none 0 0) 0 0 0 0 0 0 false 0) ∧ Bld 9 K n v (RV.map Rule.val) ∧ e = [(2, ptrTo rb 0), (7, ptrTo b 0), (8, ptrTo xb 0)]) ?_ ?_
        · skip
          refine IWp.one [2, 7, 8, 11] ?_
          simp [go_sem, -getElem?_pos, -List.map_take, -List.map_drop, IntWalk.iteOmega, IntWalk.toNatUp]
          refine ICalls.mono (mByte K2 b s1 k1 D2.gb) ?_
          rintro v _ ⟨rfl, rfl⟩
          try simp [go_sem, -getElem?_pos, -List.map_take, -List.map_drop, IntWalk.iteOmega, IntWalk.toNatUp]
          refine IWp.block ?_
          have D1 := D2.set s1.byte.2
          have i1 := Inv.start ruleP s1 k1
          have hN := Rd.byte_u8 s1 k1
          generalize K2.set b _ = K at D1 ⊢
          obtain ⟨N, hNe⟩ : ∃ N, N = s1.byte.1 := ⟨_, rfl⟩
          rw [← hNe] at hN i1 ⊢
          clear D2
          refine IWp.loop (fun j e K => ∃ (i : Nat) (v : Value) (acc : List Rule) (st : Rd), j = N.toNat - i ∧ Inv ruleP s1 N.toNat i acc st ∧ Dx n b rb xb K st (confB (frow 2 0 (SV.map Sig.val)) v (.slice none 0 0) 0 0 0 0 0 0 false 0) ∧ Bld 9 K n v (acc.map Rule.val) ∧ e = [(2, ptrTo rb 0), (7, ptrTo b 0), (8, ptrTo xb 0), (11, .int .u8 (N - i))]) N.toNat ⟨0, _, [], _, rfl, i1, D1, Bld.nil _ _ _, by simp [go_sem]⟩ ?_
          clear i1 D1
          rintro j e K ⟨i, v, acc, st, rfl, hi, D, hv, rfl⟩
          obtain ⟨hi1, hso, hil, hin⟩ := hi.parts
          have dn := D.nx
          have db := D.gb
          simp only [Rd.cells] at db
          by_cases hlt : i < N.toNat
          · by_cases he : st.e = 0
            · have hstep := hi.step (fun s h => ruleP_ok s h) hlt he
              have w1 : IntKind.u8.wrap (N - i - 1) = N - ((i + 1 : Nat) : Int) := by rw [show N - ((i + 1 : Nat) : Int) = N - i - 1 by omega]; exact IntWalk.u8_in _ (by omega)
              have R0 : Rx n b rb xb K.next v (acc.map Rule.val) (K.alloc ruleZ) st (confB (frow 2 0 (SV.map Sig.val)) v (.slice none 0 0) 0 0 0 0 0 0 false 0) ruleZ := ⟨D.alloc _, Heap.get_alloc_new _ _, dn, hv.alloc _, by
                rcases hv.2 with ⟨e1, _⟩ | ⟨q, hq, e1, e2⟩
                · rw [e1]; rfl
                · rw [e1]; have := Heap.lt_of_get e2; simp [blkOf]; omega⟩
              simp only [ruleZ] at R0
              have Kp : Kept [[2,7,8,11,79],[],[2,7,8,11],[2,7,8,11,12]] := ⟨⟩
              iterate 4 (refine Kp.s ?_; clear Kp; intro Kp; simp [go_sem, -getElem?_pos, -List.map_take, -List.map_drop, IntWalk.iteOmega, IntWalk.toNatUp, db, he, show (0 : Int) < N - i by omega])
              refine IWp.seq ?_
              generalize K.alloc _ = M0 at R0 ⊢
              generalize K.next = yb at R0 dn ⊢
              obtain ⟨t0, ht0⟩ : ∃ t : Rd, t = st := ⟨_, rfl⟩
              have kt0 : t0.ok := by rw [ht0]; exact hso
              rw [← ht0] at R0
              obtain ⟨x0, hx0⟩ : ∃ y, y = t0.byte.1 := ⟨_, rfl⟩
              obtain ⟨t1, ht1⟩ : ∃ y, y = t0.byte.2 := ⟨_, rfl⟩
              have kt1 : t1.ok := by rw [ht1]; exact Rd.byte_ok kt0
              have c1 := mByte M0 b t0 kt0 R0.d.gb
              rw [← hx0, ← ht1] at c1
              have R1 := R0.step t1 [.int .u8 x0, .int .i64 0, .int .i64 0, .int .i64 0, .int .i64 0, .int .i64 0, .int .u8 0, .bool false, .slice none 0 0]
              have gy : (M0.set b t1.cells).get yb = some ⟨[.int .u8 0, .int .i64 0, .int .i64 0, .int .i64 0, .int .i64 0, .int .i64 0, .int .u8 0, .bool false, .slice none 0 0], true⟩ := by rw [get_set, if_neg (by omega)]; exact R0.y
              have wx : True := trivial
              refine IWp.one [2, 7, 8, 11, 12] ?_
              simp [go_sem, -getElem?_pos, -List.map_take, -List.map_drop, IntWalk.iteOmega, IntWalk.toNatUp, gy, wx]
              refine ICalls.mono (c1) ?_
              rintro v _ ⟨rfl, rfl⟩
              try simp [go_sem, -getElem?_pos, -List.map_take, -List.map_drop, IntWalk.iteOmega, IntWalk.toNatUp, gy, wx]
              refine IWp.seq ?_
              generalize (M0.set b _).set yb _ = M1 at R1 ⊢
              clear gy c1 wx R0
              obtain ⟨x1, hx1⟩ : ∃ y, y = t1.byte.1 := ⟨_, rfl⟩
              obtain ⟨t2, ht2⟩ : ∃ y, y = t1.byte.2 := ⟨_, rfl⟩
              have kt2 : t2.ok := by rw [ht2]; exact Rd.byte_ok kt1
              have c1 := mByte M1 b t1 kt1 R1.d.gb
              rw [← hx1, ← ht2] at c1
              have R2 := R1.step t2 [.int .u8 x0, .int .i64 x1, .int .i64 0, .int .i64 0, .int .i64 0, .int .i64 0, .int .u8 0, .bool false, .slice none 0 0]
              have gy : (M1.set b t2.cells).get yb = some ⟨[.int .u8 x0, .int .i64 0, .int .i64 0, .int .i64 0, .int .i64 0, .int .i64 0, .int .u8 0, .bool false, .slice none 0 0], true⟩ := by rw [get_set, if_neg (by omega)]; exact R1.y
              have wx : IntKind.i64.wrap x1 = x1 := by rw [hx1]; have := Rd.byte_u8 t1 kt1; exact IntWalk.i64_in _ (by omega)
              refine IWp.one [2, 7, 8, 11, 12] ?_
              simp [go_sem, -getElem?_pos, -List.map_take, -List.map_drop, IntWalk.iteOmega, IntWalk.toNatUp, gy, wx]
              refine ICalls.mono (c1) ?_
              rintro v _ ⟨rfl, rfl⟩
              try simp [go_sem, -getElem?_pos, -List.map_take, -List.map_drop, IntWalk.iteOmega, IntWalk.toNatUp, gy, wx]
              refine IWp.seq ?_
              generalize (M1.set b _).set yb _ = M2 at R2 ⊢
              clear gy c1 wx R1
              obtain ⟨x2, hx2⟩ : ∃ y, y = t2.int.1 := ⟨_, rfl⟩
              obtain ⟨t3, ht3⟩ : ∃ y, y = t2.int.2 := ⟨_, rfl⟩
              have kt3 : t3.ok := by rw [ht3]; exact Rd.int_ok kt2
              have c1 := mInt M2 b t2 kt2 R2.d.gb
              rw [← hx2, ← ht3] at c1
              have R3 := R2.step t3 [.int .u8 x0, .int .i64 x1, .int .i64 x2, .int .i64 0, .int .i64 0, .int .i64 0, .int .u8 0, .bool false, .slice none 0 0]
              have gy : (M2.set b t3.cells).get yb = some ⟨[.int .u8 x0, .int .i64 x1, .int .i64 0, .int .i64 0, .int .i64 0, .int .i64 0, .int .u8 0, .bool false, .slice none 0 0], true⟩ := by rw [get_set, if_neg (by omega)]; exact R2.y
              have wx : True := trivial
              refine IWp.one [2, 7, 8, 11, 12] ?_
              simp [go_sem, -getElem?_pos, -List.map_take, -List.map_drop, IntWalk.iteOmega, IntWalk.toNatUp, gy, wx]
              refine ICalls.mono (c1) ?_
              rintro v _ ⟨rfl, rfl⟩
              try simp [go_sem, -getElem?_pos, -List.map_take, -List.map_drop, IntWalk.iteOmega, IntWalk.toNatUp, gy, wx]
              refine IWp.seq ?_
              generalize (M2.set b _).set yb _ = M3 at R3 ⊢
              clear gy c1 wx R2
              obtain ⟨x3, hx3⟩ : ∃ y, y = t3.int.1 := ⟨_, rfl⟩
              obtain ⟨t4, ht4⟩ : ∃ y, y = t3.int.2 := ⟨_, rfl⟩
              have kt4 : t4.ok := by rw [ht4]; exact Rd.int_ok kt3
              have c1 := mInt M3 b t3 kt3 R3.d.gb
              rw [← hx3, ← ht4] at c1
              have R4 := R3.step t4 [.int .u8 x0, .int .i64 x1, .int .i64 x2, .int .i64 x3, .int .i64 0, .int .i64 0, .int .u8 0, .bool false, .slice none 0 0]
              have gy : (M3.set b t4.cells).get yb = some ⟨[.int .u8 x0, .int .i64 x1, .int .i64 x2, .int .i64 0, .int .i64 0, .int .i64 0, .int .u8 0, .bool false, .slice none 0 0], true⟩ := by rw [get_set, if_neg (by omega)]; exact R3.y
              have wx : True := trivial
              refine IWp.one [2, 7, 8, 11, 12] ?_
              simp [go_sem, -getElem?_pos, -List.map_take, -List.map_drop, IntWalk.iteOmega, IntWalk.toNatUp, gy, wx]
              refine ICalls.mono (c1) ?_
              rintro v _ ⟨rfl, rfl⟩
              try simp [go_sem, -getElem?_pos, -List.map_take, -List.map_drop, IntWalk.iteOmega, IntWalk.toNatUp, gy, wx]
              refine IWp.seq ?_
              generalize (M3.set b _).set yb _ = M4 at R4 ⊢
              clear gy c1 wx R3
              obtain ⟨x4, hx4⟩ : ∃ y, y = t4.int.1 := ⟨_, rfl⟩
              obtain ⟨t5, ht5⟩ : ∃ y, y = t4.int.2 := ⟨_, rfl⟩
              have kt5 : t5.ok := by rw [ht5]; exact Rd.int_ok kt4
              have c1 := mInt M4 b t4 kt4 R4.d.gb
              rw [← hx4, ← ht5] at c1
              have R5 := R4.step t5 [.int .u8 x0, .int .i64 x1, .int .i64 x2, .int .i64 x3, .int .i64 x4, .int .i64 0, .int .u8 0, .bool false, .slice none 0 0]
              have gy : (M4.set b t5.cells).get yb = some ⟨[.int .u8 x0, .int .i64 x1, .int .i64 x2, .int .i64 x3, .int .i64 0, .int .i64 0, .int .u8 0, .bool false, .slice none 0 0], true⟩ := by rw [get_set, if_neg (by omega)]; exact R4.y
              have wx : True := trivial
              refine IWp.one [2, 7, 8, 11, 12] ?_
              simp [go_sem, -getElem?_pos, -List.map_take, -List.map_drop, IntWalk.iteOmega, IntWalk.toNatUp, gy, wx]
              refine ICalls.mono (c1) ?_
              rintro v _ ⟨rfl, rfl⟩
              try simp [go_sem, -getElem?_pos, -List.map_take, -List.map_drop, IntWalk.iteOmega, IntWalk.toNatUp, gy, wx]
              refine IWp.seq ?_
              generalize (M4.set b _).set yb _ = M5 at R5 ⊢
              clear gy c1 wx R4
              obtain ⟨x5, hx5⟩ : ∃ y, y = t5.int.1 := ⟨_, rfl⟩
              obtain ⟨t6, ht6⟩ : ∃ y, y = t5.int.2 := ⟨_, rfl⟩
              have kt6 : t6.ok := by rw [ht6]; exact Rd.int_ok kt5
              have c1 := mInt M5 b t5 kt5 R5.d.gb
              rw [← hx5, ← ht6] at c1
              have R6 := R5.step t6 [.int .u8 x0, .int .i64 x1, .int .i64 x2, .int .i64 x3, .int .i64 x4, .int .i64 x5, .int .u8 0, .bool false, .slice none 0 0]
              have gy : (M5.set b t6.cells).get yb = some ⟨[.int .u8 x0, .int .i64 x1, .int .i64 x2, .int .i64 x3, .int .i64 x4, .int .i64 0, .int .u8 0, .bool false, .slice none 0 0], true⟩ := by rw [get_set, if_neg (by omega)]; exact R5.y
              have wx : True := trivial
              refine IWp.one [2, 7, 8, 11, 12] ?_
              simp [go_sem, -getElem?_pos, -List.map_take, -List.map_drop, IntWalk.iteOmega, IntWalk.toNatUp, gy, wx]
              refine ICalls.mono (c1) ?_
              rintro v _ ⟨rfl, rfl⟩
              try simp [go_sem, -getElem?_pos, -List.map_take, -List.map_drop, IntWalk.iteOmega, IntWalk.toNatUp, gy, wx]
              refine IWp.seq ?_
              generalize (M5.set b _).set yb _ = M6 at R6 ⊢
              clear gy c1 wx R5
              obtain ⟨x6, hx6⟩ : ∃ y, y = t6.byte.1 := ⟨_, rfl⟩
              obtain ⟨t7, ht7⟩ : ∃ y, y = t6.byte.2 := ⟨_, rfl⟩
              have kt7 : t7.ok := by rw [ht7]; exact Rd.byte_ok kt6
              have c1 := mByte M6 b t6 kt6 R6.d.gb
              rw [← hx6, ← ht7] at c1
              have R7 := R6.step t7 [.int .u8 x0, .int .i64 x1, .int .i64 x2, .int .i64 x3, .int .i64 x4, .int .i64 x5, .int .u8 x6, .bool false, .slice none 0 0]
              have gy : (M6.set b t7.cells).get yb = some ⟨[.int .u8 x0, .int .i64 x1, .int .i64 x2, .int .i64 x3, .int .i64 x4, .int .i64 x5, .int .u8 0, .bool false, .slice none 0 0], true⟩ := by rw [get_set, if_neg (by omega)]; exact R6.y
              have wx : True := trivial
              refine IWp.one [2, 7, 8, 11, 12] ?_
              simp [go_sem, -getElem?_pos, -List.map_take, -List.map_drop, IntWalk.iteOmega, IntWalk.toNatUp, gy, wx]
              refine ICalls.mono (c1) ?_
              rintro v _ ⟨rfl, rfl⟩
              try simp [go_sem, -getElem?_pos, -List.map_take, -List.map_drop, IntWalk.iteOmega, IntWalk.toNatUp, gy, wx]
              refine IWp.seq ?_
              generalize (M6.set b _).set yb _ = M7 at R7 ⊢
              clear gy c1 wx R6
              obtain ⟨x7, hx7⟩ : ∃ y, y = t7.flag.1 := ⟨_, rfl⟩
              obtain ⟨t8, ht8⟩ : ∃ y, y = t7.flag.2 := ⟨_, rfl⟩
              have kt8 : t8.ok := by rw [ht8]; exact Rd.flag_ok kt7
              have c1 := mFlag M7 b t7 kt7 R7.d.gb
              rw [← hx7, ← ht8] at c1
              have R8 := R7.step t8 [.int .u8 x0, .int .i64 x1, .int .i64 x2, .int .i64 x3, .int .i64 x4, .int .i64 x5, .int .u8 x6, .bool x7, .slice none 0 0]
              have gy : (M7.set b t8.cells).get yb = some ⟨[.int .u8 x0, .int .i64 x1, .int .i64 x2, .int .i64 x3, .int .i64 x4, .int .i64 x5, .int .u8 x6, .bool false, .slice none 0 0], true⟩ := by rw [get_set, if_neg (by omega)]; exact R7.y
              have wx : True := trivial
              refine IWp.one [2, 7, 8, 11, 12] ?_
              simp [go_sem, -getElem?_pos, -List.map_take, -List.map_drop, IntWalk.iteOmega, IntWalk.toNatUp, gy, wx]
              refine ICalls.mono (c1) ?_
              rintro v _ ⟨rfl, rfl⟩
              try simp [go_sem, -getElem?_pos, -List.map_take, -List.map_drop, IntWalk.iteOmega, IntWalk.toNatUp, gy, wx]
              generalize (M7.set b _).set yb _ = M8 at R8 ⊢
              clear gy c1 wx R7
              obtain ⟨GV, hGV⟩ : ∃ y, y = (manyP stageP t8).1 := ⟨_, rfl⟩
              obtain ⟨t9, ht9⟩ : ∃ y, y = (manyP stageP t8).2 := ⟨_, rfl⟩
              have hym : yb < M8.next := Heap.lt_of_get R8.y
              have hvm : ∀ j, blkOf v j = true → j < M8.next := fun j hj => by
                rcases R8.bl.2 with ⟨e1, e2⟩ | ⟨q, hq, e1, e2⟩
                · rw [e1] at hj; cases hj
                · rw [e1] at hj; simp [blkOf] at hj; rw [hj]; exact Heap.lt_of_get e2
              have hnm : n ≤ M8.next := R8.d.nx
              refine IWp.cut (fun e K => ∃ w, Rx n b rb xb yb v (acc.map Rule.val) K t9 (confB (frow 2 0 (SV.map Sig.val)) v (.slice none 0 0) 0 0 0 0 0 0 false 0) [.int .u8 x0, .int .i64 x1, .int .i64 x2, .int .i64 x3, .int .i64 x4, .int .i64 x5, .int .u8 x6, .bool x7, w] ∧ Bld 2 K M8.next w (GV.map Stage.val) ∧ M8.next ≤ K.next ∧ e = [(2, ptrTo rb 0), (7, ptrTo b 0), (8, ptrTo xb 0), (11, .int .u8 (N - i)), (12, ptrTo yb 0)]) ?_ ?_
              · skip
                refine IWp.one [2, 7, 8, 11, 12, 13] ?_
                simp [go_sem, -getElem?_pos, -List.map_take, -List.map_drop, IntWalk.iteOmega, IntWalk.toNatUp]
                refine ICalls.mono (mByte M8 b t8 kt8 R8.d.gb) ?_
                rintro v _ ⟨rfl, rfl⟩
                try simp [go_sem, -getElem?_pos, -List.map_take, -List.map_drop, IntWalk.iteOmega, IntWalk.toNatUp]
                refine IWp.block ?_
                have Q1 := R8.to (M := M8.set b t8.byte.2.cells) (t := t8.byte.2) hym hvm (by rw [get_set, if_pos rfl, R8.d.gb]; rfl) (fun j _ hj => by rw [get_set, if_neg hj]) hnm
                have i1 := Inv.start stageP t8 kt8
                have hN2 := Rd.byte_u8 t8 kt8
                have hm1 : M8.next ≤ (M8.set b t8.byte.2.cells).next := Nat.le_refl _
                generalize hmm : M8.next = m at *
                generalize M8.set b _ = M at Q1 hm1 ⊢
                obtain ⟨N2, hN2e⟩ : ∃ N, N = t8.byte.1 := ⟨_, rfl⟩
                rw [← hN2e] at hN2 i1 ⊢
                clear R8
                refine IWp.loop (fun j e K => ∃ (i2 : Nat) (w : Value) (acc2 : List Stage) (st : Rd), j = N2.toNat - i2 ∧ Inv stageP t8 N2.toNat i2 acc2 st ∧ Rx n b rb xb yb v (acc.map Rule.val) K st (confB (frow 2 0 (SV.map Sig.val)) v (.slice none 0 0) 0 0 0 0 0 0 false 0) [.int .u8 x0, .int .i64 x1, .int .i64 x2, .int .i64 x3, .int .i64 x4, .int .i64 x5, .int .u8 x6, .bool x7, w] ∧ Bld 2 K m w (acc2.map Stage.val) ∧ m ≤ K.next ∧ e = [(2, ptrTo rb 0), (7, ptrTo b 0), (8, ptrTo xb 0), (11, .int .u8 (N - i)), (12, ptrTo yb 0), (13, .int .u8 (N2 - i2))]) N2.toNat ⟨0, _, [], _, rfl, i1, Q1, Bld.nil _ _ _, hm1, by simp [go_sem]⟩ ?_
                clear i1 Q1 hm1
                rintro j e K ⟨i2, w, acc2, st2, rfl, hi2, R, hw2, hm1, rfl⟩
                obtain ⟨hi3, hso2, hil2, hin2⟩ := hi2.parts
                have db2 := R.d.gb
                simp only [Rd.cells] at db2
                have ry := R.y
                by_cases hlt2 : i2 < N2.toNat
                · by_cases he2 : st2.e = 0
                  · have hstep2 := hi2.step stageP_ok hlt2 he2
                    have w2 : IntKind.u8.wrap (N2 - i2 - 1) = N2 - ((i2 + 1 : Nat) : Int) := by rw [show N2 - ((i2 + 1 : Nat) : Int) = N2 - i2 - 1 by omega]; exact IntWalk.u8_in _ (by omega)
                    have nb2 := R.d.ne
                    have g1 : (K.alloc [.int .i64 0, .int .u8 0]).get b = some ⟨st2.cells, true⟩ := by rw [Heap.get_alloc_lt _ _ _ (by omega)]; exact R.d.gb
                    have g2 : (((K.alloc [.int .i64 0, .int .u8 0]).set b st2.int.2.cells).set K.next [.int .i64 st2.int.1, .int .u8 0]).get b = some ⟨st2.int.2.cells, true⟩ := by rw [get_set, if_neg (by omega), get_set, if_pos rfl, g1]; rfl
                    obtain ⟨M, hM⟩ : ∃ M, M = (((((K.alloc [.int .i64 0, .int .u8 0]).set b st2.int.2.cells).set K.next [.int .i64 st2.int.1, .int .u8 0]).set b st2.int.2.byte.2.cells).set K.next [.int .i64 st2.int.1, .int .u8 st2.int.2.byte.1]) := ⟨_, rfl⟩
                    have gM : ∀ j, j < K.next → j ≠ b → M.get j = K.get j := fun j hj hjb => by
                      rw [hM]; simp only [get_set, get_alloc]; rw [if_neg (by omega), if_neg hjb, if_neg (by omega), if_neg hjb, if_neg (by omega)]
                    have nM : M.next = K.next + 1 := by rw [hM]; simp only [next_set, next_alloc]
                    have gs : M.get K.next = some ⟨[.int .i64 st2.int.1, .int .u8 st2.int.2.byte.1], true⟩ := by
                      rw [hM]; simp only [get_set, get_alloc, if_true, if_neg (show ¬ K.next = b by omega), Option.map_some]
                    have gb : M.get b = some ⟨(stageP st2).2.cells, true⟩ := by
                      rw [hM, get_set, if_neg (by omega), get_set, if_pos rfl, g2]; rfl
                    have RM : Rx n b rb xb yb v (acc.map Rule.val) M (stageP st2).2 (confB (frow 2 0 (SV.map Sig.val)) v (.slice none 0 0) 0 0 0 0 0 0 false 0) [.int .u8 x0, .int .i64 x1, .int .i64 x2, .int .i64 x3, .int .i64 x4, .int .i64 x5, .int .u8 x6, .bool x7, w] := R.to hym hvm gb (fun j hj hjb => gM j (by omega) hjb) (by omega)
                    have wM : Bld 2 M m w (acc2.map Stage.val) := hw2.keepD fun j hj hl => gM j hl (by omega)
                    have Kp : Kept [[2,7,8,11,12,13,117],[],[2,7,8,11,12,13],[2,7,8,11,12,13,14],[2,7,8,11,12,13,14]] := ⟨⟩
                    iterate 5 (refine Kp.s ?_; clear Kp; intro Kp; simp [go_sem, -getElem?_pos, -List.map_take, -List.map_drop, IntWalk.iteOmega, IntWalk.toNatUp, db2, he2, show (0 : Int) < N2 - i2 by omega, show ¬ b = K.next by omega, show ¬ K.next = b by omega])
                    refine ICalls.mono (mInt _ b st2 hso2 g1) ?_
                    rintro v1 _ ⟨rfl, rfl⟩
                    try simp [go_sem, -getElem?_pos, -List.map_take, -List.map_drop, IntWalk.iteOmega, IntWalk.toNatUp, db2, he2, show (0 : Int) < N2 - i2 by omega, show ¬ b = K.next by omega, show ¬ K.next = b by omega]
                    refine IWp.one [2, 7, 8, 11, 12, 13, 14] ?_
                    simp [go_sem, -getElem?_pos, -List.map_take, -List.map_drop, IntWalk.iteOmega, IntWalk.toNatUp, db2, he2, show (0 : Int) < N2 - i2 by omega, show ¬ b = K.next by omega, show ¬ K.next = b by omega]
                    refine ICalls.mono (mByte _ b st2.int.2 (Rd.int_ok hso2) g2) ?_
                    rintro v2 _ ⟨rfl, rfl⟩
                    try simp [go_sem, -getElem?_pos, -List.map_take, -List.map_drop, IntWalk.iteOmega, IntWalk.toNatUp, db2, he2, show (0 : Int) < N2 - i2 by omega, show ¬ b = K.next by omega, show ¬ K.next = b by omega]
                    rw [← hM]
                    have rym := RM.y
                    obtain ⟨w', K3, e3, b3, s3, n3, f3, t3⟩ := app_one (P := Tryd.prog) (t := 47) (e := 57) (sz := 2) (by_ := 16) (z := .agg ⟨[.int .i64 0, .int .u8 0]⟩) (by kernel_rfl) (by kernel_rfl) (by kernel_rfl) (by kernel_rfl) rfl (Stage.val (stageP st2).1) [.int .i64 st2.int.1, .int .u8 st2.int.2.byte.1] wM rfl rfl (by simp [one0]) (by omega) (by simp; omega) (by simp; omega)
                    rw [List.length_map] at t3
                    subst t3
                    have R3 := (RM.to (M := K3) (t := (stageP st2).2) hym hvm ((s3 b (by omega)).trans RM.d.gb) (fun j hj _ => s3 j hj) (by omega)).put [.int .u8 x0, .int .i64 x1, .int .i64 x2, .int .i64 x3, .int .i64 x4, .int .i64 x5, .int .u8 x6, .bool x7, .slice (some ⟨M.next + 1, 0, some 2⟩) (acc2.length + 1) 1]
                    have ry3 := (s3 yb hym).trans RM.y
                    have Kp : Kept [[2,7,8,11,12,13],[2,7,8,11,12,13]] := ⟨⟩
                    iterate 2 (refine Kp.s ?_; clear Kp; intro Kp; simp [go_sem, -getElem?_pos, -List.map_take, -List.map_drop, IntWalk.iteOmega, IntWalk.toNatUp, rym, gs, e3, ry3, w2])
                    exact ⟨N2.toNat - (i2 + 1), by omega, i2 + 1, rfl, _, acc2 ++ [(stageP st2).1], (stageP st2).2, hstep2, R3, by rw [List.map_append]; exact b3.keepD fun j hj _ => by rw [get_set, if_neg (by omega)], by omega, by simp⟩
                  · skip
                    have Kp : Kept [[2,7,8,11,12,13,117],[],[2,7,8,11,12]] := ⟨⟩
                    iterate 3 (refine Kp.s ?_; clear Kp; intro Kp; simp [go_sem, -getElem?_pos, -List.map_take, -List.map_drop, IntWalk.iteOmega, IntWalk.toNatUp, db2, he2, show (0 : Int) < N2 - i2 by omega])
                    obtain ⟨q1, q2⟩ := hi2.stop (.inl he2)
                    exact ⟨w, by rw [ht9, q2]; exact R, by rw [hGV, q1]; exact hw2, hm1⟩
                · skip
                  have Kp : Kept [[2,7,8,11,12,13,117],[],[2,7,8,11,12]] := ⟨⟩
                  iterate 3 (refine Kp.s ?_; clear Kp; intro Kp; simp [go_sem, -getElem?_pos, -List.map_take, -List.map_drop, IntWalk.iteOmega, IntWalk.toNatUp, show ¬ (i2 : Int) < N2 by omega])
                  obtain ⟨q1, q2⟩ := hi2.stop (.inr hlt2)
                  exact ⟨w, by rw [ht9, q2]; exact R, by rw [hGV, q1]; exact hw2, hm1⟩
              clear R8
              rintro e K9 ⟨w, R9, hw9, hm9, rfl⟩
              have hSw : ∀ j, j < M8.next → blkOf w j = false := fun j hj => by
                rcases hw9.2 with ⟨e1, _⟩ | ⟨q, hq, e1, _⟩
                · rw [e1]; rfl
                · rw [e1]; simp [blkOf]; omega
              obtain ⟨K0', hf, f1, f2, f3⟩ := FrzH.one (S := blkOf w) (b := yb) (cs' := [.int .u8 x0, .int .i64 x1, .int .i64 x2, .int .i64 x3, .int .i64 x4, .int .i64 x5, .int .u8 x6, .bool x7, frow 2 0 (GV.map Stage.val)]) (hSw yb hym) R9.y (.cons (.same _) (.cons (.same _) (.cons (.same _) (.cons (.same _) (.cons (.same _) (.cons (.same _) (.cons (.same _) (.cons (.same _) (.cons hw9.frzV .nil)))))))))
              refine IWp.freezeH K0' _ (.cons (.same _) (.cons (.same _) (.cons (.same _) (.cons (.same _) (.cons (.same _) .nil))))) hf ?_
              have hyn := R9.hy
              have nb9 := R9.d.ne
              have D9 : Dx n b rb xb K0' t9 (confB (frow 2 0 (SV.map Sig.val)) v (.slice none 0 0) 0 0 0 0 0 0 false 0) := ⟨(f2 b (by omega) (hSw b (by omega))).trans R9.d.gb, (f2 rb (by omega) (hSw rb (by omega))).trans R9.d.gr, (f2 xb (by omega) (hSw xb (by omega))).trans R9.d.gx, nb9, by omega⟩
              have B9 : Bld 9 K0' n v (acc.map Rule.val) := ⟨R9.bl.1, by
                rcases R9.bl.2 with ⟨e1, e2⟩ | ⟨q, hq, e1, e2⟩
                · exact .inl ⟨e1, e2⟩
                · have hn := R9.bn
                  have hqv := hvm q (by rw [e1]; simp [blkOf])
                  rw [e1] at hn
                  exact .inr ⟨q, hq, e1, (f2 q (by simp [blkOf] at hn; omega) (hSw q hqv)).trans e2⟩⟩
              have hR : (ruleP st).1 = ⟨x0, x1, x2, x3, x4, x5, x6, x7, GV⟩ := by rw [hGV, hx0, hx1, hx2, hx3, hx4, hx5, hx6, hx7, ht8, ht7, ht6, ht5, ht4, ht3, ht2, ht1, ht0]; rfl
              have hR2 : (ruleP st).2 = t9 := by rw [ht9, ht8, ht7, ht6, ht5, ht4, ht3, ht2, ht1, ht0]; rfl
              have nx9 := D9.nx
              clear hf R9 hSw hw9 f2
              generalize K0' = M at f1 D9 B9 nx9 ⊢
              have dmx := D9.gx
              simp only [confB] at dmx
              obtain ⟨v', K3, e3, b3, s3, n3, f3', t3'⟩ := app_one (P := Tryd.prog) (t := 29) (e := 49) (sz := 9) (by_ := 80) (z := .agg ⟨[.int .u8 0, .int .i64 0, .int .i64 0, .int .i64 0, .int .i64 0, .int .i64 0, .int .u8 0, .bool false, .slice none 0 0]⟩) (by kernel_rfl) (by kernel_rfl) (by kernel_rfl) (by kernel_rfl) rfl (Rule.val ⟨x0, x1, x2, x3, x4, x5, x6, x7, GV⟩) [.int .u8 x0, .int .i64 x1, .int .i64 x2, .int .i64 x3, .int .i64 x4, .int .i64 x5, .int .u8 x6, .bool x7, frow 2 0 (GV.map Stage.val)] B9 rfl rfl (by simp [one0, frow]) nx9 (by simp; omega) (by simp; omega)
              rw [List.length_map] at t3'
              subst t3'
              have D3 := (D9.same s3 (Nat.le_trans nx9 n3)).put (confB (frow 2 0 (SV.map Sig.val)) (.slice (some ⟨M.next + 1, 0, some 9⟩) (acc.length + 1) 1) (.slice none 0 0) 0 0 0 0 0 0 false 0)
              have d3x := (D9.same s3 (Nat.le_trans nx9 n3)).gx
              simp only [confB] at d3x
              have Kp : Kept [[2,7,8,11],[2,7,8,11]] := ⟨⟩
              iterate 2 (refine Kp.s ?_; clear Kp; intro Kp; simp [go_sem, -getElem?_pos, -List.map_take, -List.map_drop, IntWalk.iteOmega, IntWalk.toNatUp, dmx, f1, e3, d3x, w1])
              rw [hR, hR2] at hstep
              exact ⟨N.toNat - (i + 1), by omega, i + 1, rfl, _, _, _, hstep, D3, by rw [List.map_append]; exact b3.keepD fun j hj _ => by rw [get_set, if_neg (by omega)], by simp⟩
            · skip
              have Kp : Kept [[2,7,8,11,79],[],[2,7,8]] := ⟨⟩
              iterate 3 (refine Kp.s ?_; clear Kp; intro Kp; simp [go_sem, -getElem?_pos, -List.map_take, -List.map_drop, IntWalk.iteOmega, IntWalk.toNatUp, db, he, show (0 : Int) < N - i by omega])
              obtain ⟨q1, q2⟩ := hi.stop (.inl he)
              exact ⟨v, by rw [hs2, q2]; exact D, by rw [hRV, q1]; exact hv⟩
          · skip
            have Kp : Kept [[2,7,8,11,79],[],[2,7,8]] := ⟨⟩
            iterate 3 (refine Kp.s ?_; clear Kp; intro Kp; simp [go_sem, -getElem?_pos, -List.map_take, -List.map_drop, IntWalk.iteOmega, IntWalk.toNatUp, show ¬ (i : Int) < N by omega])
            obtain ⟨q1, q2⟩ := hi.stop (.inr hlt)
            exact ⟨v, by rw [hs2, q2]; exact D, by rw [hRV, q1]; exact hv⟩
        rintro e K ⟨v, D, hv, rfl⟩
        have hS := hv.low
        obtain ⟨K0', hf, f1, f2, f3⟩ := FrzH.one (S := blkOf v) (b := xb) (cs' := (confB (frow 2 0 (SV.map Sig.val)) (frow 9 0 (RV.map Rule.val)) (.slice none 0 0) 0 0 0 0 0 0 false 0)) (hS xb nb.2.2.2.2.2) D.gx (.cons (.same _) (.cons hv.frzV (FrzL.same _)))
        refine IWp.freezeH K0' _ (.cons (.same _) (.cons (.same _) (.cons (.same _) .nil))) hf ?_
        have D3 : Dx n b rb xb K0' s2 (confB (frow 2 0 (SV.map Sig.val)) (frow 9 0 (RV.map Rule.val)) (.slice none 0 0) 0 0 0 0 0 0 false 0) := ⟨(f2 b nb.2.1 (hS b nb.2.2.2.1)).trans D.gb, (f2 rb nb.2.2.1 (hS rb nb.2.2.2.2.1)).trans D.gr, f1, D.ne, by rw [f3]; exact D.nx⟩
        clear hf f1 f2 f3 hS hv D
        generalize K0' = K3 at D3 ⊢
        refine IWp.cut (fun e K => ∃ v, Dx n b rb xb K s3 (confB (frow 2 0 (SV.map Sig.val)) (frow 9 0 (RV.map Rule.val)) v 0 0 0 0 0 0 false 0) ∧ Bld 1 K n v (TV.map (ints .i64)) ∧ e = [(2, ptrTo rb 0), (7, ptrTo b 0), (8, ptrTo xb 0)]) ?_ ?_
        · skip
          refine IWp.one [2, 7, 8, 15] ?_
          simp [go_sem, -getElem?_pos, -List.map_take, -List.map_drop, IntWalk.iteOmega, IntWalk.toNatUp]
          refine ICalls.mono (mByte K3 b s2 k2 D3.gb) ?_
          rintro v _ ⟨rfl, rfl⟩
          try simp [go_sem, -getElem?_pos, -List.map_take, -List.map_drop, IntWalk.iteOmega, IntWalk.toNatUp]
          refine IWp.block ?_
          have D1 := D3.set s2.byte.2
          have i1 := Inv.start slotP s2 k2
          have hN := Rd.byte_u8 s2 k2
          generalize K3.set b _ = K at D1 ⊢
          obtain ⟨N, hNe⟩ : ∃ N, N = s2.byte.1 := ⟨_, rfl⟩
          rw [← hNe] at hN i1 ⊢
          clear D3
          refine IWp.loop (fun j e K => ∃ (i : Nat) (v : Value) (acc : List (List Int)) (st : Rd), j = N.toNat - i ∧ Inv slotP s2 N.toNat i acc st ∧ Dx n b rb xb K st (confB (frow 2 0 (SV.map Sig.val)) (frow 9 0 (RV.map Rule.val)) v 0 0 0 0 0 0 false 0) ∧ Bld 1 K n v (acc.map (ints .i64)) ∧ e = [(2, ptrTo rb 0), (7, ptrTo b 0), (8, ptrTo xb 0), (15, .int .u8 (N - i))]) N.toNat ⟨0, _, [], _, rfl, i1, D1, Bld.nil _ _ _, by simp [go_sem]⟩ ?_
          clear i1 D1
          rintro j e K ⟨i, v, acc, st, rfl, hi, D, hv, rfl⟩
          obtain ⟨hi1, hso, hil, hin⟩ := hi.parts
          have dn := D.nx
          have db := D.gb
          simp only [Rd.cells] at db
          by_cases hlt : i < N.toNat
          · by_cases he : st.e = 0
            · have hstep := hi.step (fun s h => slotP_ok s h) hlt he
              have w1 : IntKind.u8.wrap (N - i - 1) = N - ((i + 1 : Nat) : Int) := by rw [show N - ((i + 1 : Nat) : Int) = N - i - 1 by omega]; exact IntWalk.u8_in _ (by omega)
              have Kp : Kept [[2,7,8,15,148],[],[2,7,8,15],[2,7,8,15,16]] := ⟨⟩
              iterate 4 (refine Kp.s ?_; clear Kp; intro Kp; simp [go_sem, -getElem?_pos, -List.map_take, -List.map_drop, IntWalk.iteOmega, IntWalk.toNatUp, db, he, show (0 : Int) < N - i by omega])
              refine IWp.cut (fun e K => ∃ w, Dx n b rb xb K (slotP st).2 (confB (frow 2 0 (SV.map Sig.val)) (frow 9 0 (RV.map Rule.val)) v 0 0 0 0 0 0 false 0) ∧ Bld 1 K n v (acc.map (ints .i64)) ∧ (∀ j, blkOf v j = true → blkOf w j = false) ∧ Bld 1 K n w ((slotP st).1.map (Value.int .i64)) ∧ e = [(2, ptrTo rb 0), (7, ptrTo b 0), (8, ptrTo xb 0), (15, .int .u8 (N - i)), (16, w)]) ?_ ?_
              · skip
                refine IWp.one [2, 7, 8, 15, 16, 17] ?_
                simp [go_sem, -getElem?_pos, -List.map_take, -List.map_drop, IntWalk.iteOmega, IntWalk.toNatUp]
                refine ICalls.mono (mByte K b st hso D.gb) ?_
                rintro v _ ⟨rfl, rfl⟩
                try simp [go_sem, -getElem?_pos, -List.map_take, -List.map_drop, IntWalk.iteOmega, IntWalk.toNatUp]
                refine IWp.block ?_
                have D1 := D.set st.byte.2
                have i1 := Inv.start Rd.byte st hso
                have hN2 := Rd.byte_u8 st hso
                have hvm := hv.blk
                have hv1 : Bld 1 (K.set b st.byte.2.cells) n v (acc.map (ints .i64)) := hv.to hvm fun j hj _ => by rw [get_set, if_neg (by omega)]
                have hm1 : K.next ≤ (K.set b st.byte.2.cells).next := Nat.le_refl _
                generalize hmm : K.next = m at *
                generalize K.set b _ = M at D1 hv1 hm1 ⊢
                obtain ⟨N2, hN2e⟩ : ∃ N, N = st.byte.1 := ⟨_, rfl⟩
                rw [← hN2e] at hN2 i1 ⊢
                clear hv D db
                refine IWp.loop (fun j e K => ∃ (i2 : Nat) (w : Value) (acc2 : List Int) (t : Rd), j = N2.toNat - i2 ∧ Inv Rd.byte st N2.toNat i2 acc2 t ∧ Dx n b rb xb K t (confB (frow 2 0 (SV.map Sig.val)) (frow 9 0 (RV.map Rule.val)) v 0 0 0 0 0 0 false 0) ∧ Bld 1 K n v (acc.map (ints .i64)) ∧ Bld 1 K m w (acc2.map (Value.int .i64)) ∧ m ≤ K.next ∧ e = [(2, ptrTo rb 0), (7, ptrTo b 0), (8, ptrTo xb 0), (15, .int .u8 (N - i)), (16, w), (17, .int .u8 (N2 - i2))]) N2.toNat ⟨0, _, [], _, rfl, i1, D1, hv1, Bld.nil _ _ _, hm1, by simp [go_sem]⟩ ?_
                clear i1 D1 hv1 hm1
                rintro j e K ⟨i2, w, acc2, t, rfl, hi2, D, hv, hw2, hm1, rfl⟩
                obtain ⟨hi3, hso2, hil2, hin2⟩ := hi2.parts
                have db := D.gb
                simp only [Rd.cells] at db
                have fin2 : (manyP Rd.byte st).1 = acc2 → (manyP Rd.byte st).2 = t → Dx n b rb xb K (slotP st).2 (confB (frow 2 0 (SV.map Sig.val)) (frow 9 0 (RV.map Rule.val)) v 0 0 0 0 0 0 false 0) ∧ Bld 1 K n v (acc.map (ints .i64)) ∧ (∀ j, blkOf v j = true → blkOf w j = false) ∧ Bld 1 K n w ((slotP st).1.map (Value.int .i64)) := fun q1 q2 => by
                  rw [show (slotP st).2 = t from q2, show (slotP st).1 = acc2 from q1]
                  exact ⟨D, hv, fun j hj => hw2.low j (hvm j hj), hw2.le dn⟩
                by_cases hlt2 : i2 < N2.toNat
                · by_cases he2 : t.e = 0
                  · have hstep2 := hi2.step (fun s h => Rd.byte_ok h) hlt2 he2
                    have w2 : IntKind.u8.wrap (N2 - i2 - 1) = N2 - ((i2 + 1 : Nat) : Int) := by rw [show N2 - ((i2 + 1 : Nat) : Int) = N2 - i2 - 1 by omega]; exact IntWalk.u8_in _ (by omega)
                    have hu := Rd.byte_u8 t hso2
                    have w3 := IntWalk.i64_in t.byte.1 (by omega)
                    have wM : Bld 1 (K.set b t.byte.2.cells) m w (acc2.map (Value.int .i64)) := hw2.keepD fun j hj _ => by rw [get_set, if_neg (by omega)]
                    obtain ⟨w', K3, e3, b3, s3, n3, f3, t3⟩ := app_one (P := Tryd.prog) (t := 58) (e := 3) (sz := 1) (by_ := 8) (z := .int .i64 0) (by kernel_rfl) (by kernel_rfl) (by kernel_rfl) (by kernel_rfl) rfl (Value.int .i64 t.byte.1) [.int .i64 t.byte.1] wM rfl rfl (by simp [one0]) hm1 (by simp; omega) (by simp; omega)
                    simp only [next_set] at e3
                    have D4 := (D.set t.byte.2).same (fun j hj => s3 j (by omega)) (Nat.le_trans (D.set t.byte.2).nx n3)
                    have hv4 : Bld 1 K3 n v (acc.map (ints .i64)) := hv.to hvm fun j hj hl => (s3 j hl).trans (by rw [get_set, if_neg (by omega)])
                    have Kp : Kept [[2,7,8,15,16,17,161],[],[2,7,8,15,16,17],[2,7,8,15,16,17]] := ⟨⟩
                    iterate 4 (refine Kp.s ?_; clear Kp; intro Kp; simp [go_sem, -getElem?_pos, -List.map_take, -List.map_drop, IntWalk.iteOmega, IntWalk.toNatUp, db, he2, show (0 : Int) < N2 - i2 by omega, w3, e3, w2])
                    refine ICalls.mono (mByte K b t hso2 D.gb) ?_
                    rintro v _ ⟨rfl, rfl⟩
                    try simp [go_sem, -getElem?_pos, -List.map_take, -List.map_drop, IntWalk.iteOmega, IntWalk.toNatUp, db, he2, show (0 : Int) < N2 - i2 by omega, w3, e3, w2]
                    refine IWp.one [2, 7, 8, 15, 16, 17] ?_
                    simp [go_sem, -getElem?_pos, -List.map_take, -List.map_drop, IntWalk.iteOmega, IntWalk.toNatUp, db, he2, show (0 : Int) < N2 - i2 by omega, w3, e3, w2]
                    exact ⟨N2.toNat - (i2 + 1), by omega, i2 + 1, rfl, w', _, _, hstep2, D4, hv4, by rw [List.map_append]; exact b3, Nat.le_trans hm1 n3, by simp⟩
                  · skip
                    have Kp : Kept [[2,7,8,15,16,17,161],[],[2,7,8,15,16]] := ⟨⟩
                    iterate 3 (refine Kp.s ?_; clear Kp; intro Kp; simp [go_sem, -getElem?_pos, -List.map_take, -List.map_drop, IntWalk.iteOmega, IntWalk.toNatUp, db, he2, show (0 : Int) < N2 - i2 by omega])
                    obtain ⟨q1, q2⟩ := hi2.stop (.inl he2)
                    obtain ⟨a1, a2, a3, a4⟩ := fin2 q1 q2
                    exact ⟨a1, a2, a3, a4⟩
                · skip
                  have Kp : Kept [[2,7,8,15,16,17,161],[],[2,7,8,15,16]] := ⟨⟩
                  iterate 3 (refine Kp.s ?_; clear Kp; intro Kp; simp [go_sem, -getElem?_pos, -List.map_take, -List.map_drop, IntWalk.iteOmega, IntWalk.toNatUp, show ¬ (i2 : Int) < N2 by omega])
                  obtain ⟨q1, q2⟩ := hi2.stop (.inr hlt2)
                  obtain ⟨a1, a2, a3, a4⟩ := fin2 q1 q2
                  exact ⟨a1, a2, a3, a4⟩
              clear D hv db
              rintro e K9 ⟨w, D, hv, hvw, hw, rfl⟩
              have hSn := hw.low
              refine IWp.freezeE (blkOf w) (.cons (.same _) (.cons (.same _) (.cons (.same _) (.cons (.same _) (.cons hw.frzV .nil))))) ?_
              have go : ∀ j, blkOf w j = false → (K9.only fun j => !blkOf w j).get j = K9.get j := fun j hj => by
                show (if (!blkOf w j) = true then K9.get j else none) = _
                rw [hj]; rfl
              have D9 : Dx n b rb xb (K9.only fun j => !blkOf w j) (slotP st).2 (confB (frow 2 0 (SV.map Sig.val)) (frow 9 0 (RV.map Rule.val)) v 0 0 0 0 0 0 false 0) := D.same (fun j hj => go j (hSn j hj)) D.nx
              have B9 : Bld 1 (K9.only fun j => !blkOf w j) n v (acc.map (ints .i64)) := ⟨hv.1, by
                rcases hv.2 with ⟨e1, e2⟩ | ⟨q, hq, e1, e2⟩
                · exact .inl ⟨e1, e2⟩
                · exact .inr ⟨q, hq, e1, (go q (hvw q (by rw [e1]; simp [blkOf]))).trans e2⟩⟩
              clear hvw hv D hw hSn go
              generalize (K9.only fun j => !blkOf w j) = M at D9 B9 ⊢
              have nx9 := D9.nx
              have dmx := D9.gx
              simp only [confB] at dmx
              generalize hgl : (slotP st).1 = l at *
              obtain ⟨v', K3, e3, b3, s3, n3, f3', t3'⟩ := app_one (P := Tryd.prog) (t := 30) (e := 58) (sz := 1) (by_ := 24) (z := .slice none 0 0) (by kernel_rfl) (by kernel_rfl) (by kernel_rfl) (by kernel_rfl) rfl (ints .i64 l) [ints .i64 l] B9 rfl rfl (by simp [one0, ints, frow]) nx9 (by simp; omega) (by simp; omega)
              rw [List.length_map] at t3'
              subst t3'
              have D3 := (D9.same s3 (Nat.le_trans nx9 n3)).put (confB (frow 2 0 (SV.map Sig.val)) (frow 9 0 (RV.map Rule.val)) (.slice (some ⟨M.next + 1, 0, some 1⟩) (acc.length + 1) 1) 0 0 0 0 0 0 false 0)
              have d3x := (D9.same s3 (Nat.le_trans nx9 n3)).gx
              simp only [confB] at d3x
              have Kp : Kept [[2,7,8,15],[2,7,8,15]] := ⟨⟩
              iterate 2 (refine Kp.s ?_; clear Kp; intro Kp; simp [go_sem, -getElem?_pos, -List.map_take, -List.map_drop, IntWalk.iteOmega, IntWalk.toNatUp, dmx, e3, d3x, w1])
              exact ⟨N.toNat - (i + 1), by omega, i + 1, rfl, _, _, _, hstep, D3, by rw [List.map_append]; exact b3.keepD fun j hj _ => by rw [get_set, if_neg (by omega)], by simp⟩
            · skip
              have Kp : Kept [[2,7,8,15,148],[],[2,7,8]] := ⟨⟩
              iterate 3 (refine Kp.s ?_; clear Kp; intro Kp; simp [go_sem, -getElem?_pos, -List.map_take, -List.map_drop, IntWalk.iteOmega, IntWalk.toNatUp, db, he, show (0 : Int) < N - i by omega])
              obtain ⟨q1, q2⟩ := hi.stop (.inl he)
              exact ⟨v, by rw [hs3, q2]; exact D, by rw [hTV, q1]; exact hv⟩
          · skip
            have Kp : Kept [[2,7,8,15,148],[],[2,7,8]] := ⟨⟩
            iterate 3 (refine Kp.s ?_; clear Kp; intro Kp; simp [go_sem, -getElem?_pos, -List.map_take, -List.map_drop, IntWalk.iteOmega, IntWalk.toNatUp, show ¬ (i : Int) < N by omega])
            obtain ⟨q1, q2⟩ := hi.stop (.inr hlt)
            exact ⟨v, by rw [hs3, q2]; exact D, by rw [hTV, q1]; exact hv⟩
        rintro e K ⟨v, D, hv, rfl⟩
        have hS := hv.low
        obtain ⟨K0', hf, f1, f2, f3⟩ := FrzH.one (S := blkOf v) (b := xb) (cs' := (confB (frow 2 0 (SV.map Sig.val)) (frow 9 0 (RV.map Rule.val)) (frow 1 0 (TV.map (ints .i64))) 0 0 0 0 0 0 false 0)) (hS xb nb.2.2.2.2.2) D.gx (.cons (.same _) (.cons (.same _) (.cons hv.frzV (FrzL.same _))))
        refine IWp.freezeH K0' _ (.cons (.same _) (.cons (.same _) (.cons (.same _) .nil))) hf ?_
        have R0 : Dx n b rb xb K0' s3 (confB (frow 2 0 (SV.map Sig.val)) (frow 9 0 (RV.map Rule.val)) (frow 1 0 (TV.map (ints .i64))) 0 0 0 0 0 0 false 0) := ⟨(f2 b nb.2.1 (hS b nb.2.2.2.1)).trans D.gb, (f2 rb nb.2.2.1 (hS rb nb.2.2.2.2.1)).trans D.gr, f1, D.ne, by rw [f3]; exact D.nx⟩
        clear hf f1 f2 f3 hS hv D
        generalize K0' = M0 at R0 ⊢
        obtain ⟨t0, ht0⟩ : ∃ t : Rd, t = s3 := ⟨_, rfl⟩
        have kt0 : t0.ok := by rw [ht0]; exact k3
        rw [← ht0] at R0
        obtain ⟨x0, hx0⟩ : ∃ y, y = t0.byte.1 := ⟨_, rfl⟩
        obtain ⟨t1, ht1⟩ : ∃ y, y = t0.byte.2 := ⟨_, rfl⟩
        have kt1 : t1.ok := by rw [ht1]; exact Rd.byte_ok kt0
        have c1 := mByte M0 b t0 kt0 R0.gb
        rw [← hx0, ← ht1] at c1
        have R1 := R0.step t1 (confB (frow 2 0 (SV.map Sig.val)) (frow 9 0 (RV.map Rule.val)) (frow 1 0 (TV.map (ints .i64))) x0 0 0 0 0 0 false 0)
        have gy := (R0.set t1).gx
        simp only [confB] at gy R1
        have wx : IntKind.i64.wrap x0 = x0 := by rw [hx0]; have := Rd.byte_u8 t0 kt0; exact IntWalk.i64_in _ (by omega)
        refine IWp.one [2, 7, 8] ?_
        simp [go_sem, -getElem?_pos, -List.map_take, -List.map_drop, IntWalk.iteOmega, IntWalk.toNatUp, gy, wx]
        refine ICalls.mono (c1) ?_
        rintro v _ ⟨rfl, rfl⟩
        try simp [go_sem, -getElem?_pos, -List.map_take, -List.map_drop, IntWalk.iteOmega, IntWalk.toNatUp, gy, wx]
        refine IWp.seq ?_
        generalize (M0.set b _).set xb _ = M1 at R1 ⊢
        clear gy c1 wx R0
        obtain ⟨x1, hx1⟩ : ∃ y, y = t1.byte.1 := ⟨_, rfl⟩
        obtain ⟨t2, ht2⟩ : ∃ y, y = t1.byte.2 := ⟨_, rfl⟩
        have kt2 : t2.ok := by rw [ht2]; exact Rd.byte_ok kt1
        have c1 := mByte M1 b t1 kt1 R1.gb
        rw [← hx1, ← ht2] at c1
        have R2 := R1.step t2 (confB (frow 2 0 (SV.map Sig.val)) (frow 9 0 (RV.map Rule.val)) (frow 1 0 (TV.map (ints .i64))) x0 x1 0 0 0 0 false 0)
        have gy := (R1.set t2).gx
        simp only [confB] at gy R2
        have wx : IntKind.i64.wrap x1 = x1 := by rw [hx1]; have := Rd.byte_u8 t1 kt1; exact IntWalk.i64_in _ (by omega)
        refine IWp.one [2, 7, 8] ?_
        simp [go_sem, -getElem?_pos, -List.map_take, -List.map_drop, IntWalk.iteOmega, IntWalk.toNatUp, gy, wx]
        refine ICalls.mono (c1) ?_
        rintro v _ ⟨rfl, rfl⟩
        try simp [go_sem, -getElem?_pos, -List.map_take, -List.map_drop, IntWalk.iteOmega, IntWalk.toNatUp, gy, wx]
        refine IWp.seq ?_
        generalize (M1.set b _).set xb _ = M2 at R2 ⊢
        clear gy c1 wx R1
        obtain ⟨x2, hx2⟩ : ∃ y, y = t2.byte.1 := ⟨_, rfl⟩
        obtain ⟨t3, ht3⟩ : ∃ y, y = t2.byte.2 := ⟨_, rfl⟩
        have kt3 : t3.ok := by rw [ht3]; exact Rd.byte_ok kt2
        have c1 := mByte M2 b t2 kt2 R2.gb
        rw [← hx2, ← ht3] at c1
        have R3 := R2.step t3 (confB (frow 2 0 (SV.map Sig.val)) (frow 9 0 (RV.map Rule.val)) (frow 1 0 (TV.map (ints .i64))) x0 x1 x2 0 0 0 false 0)
        have gy := (R2.set t3).gx
        simp only [confB] at gy R3
        have wx : IntKind.i64.wrap x2 = x2 := by rw [hx2]; have := Rd.byte_u8 t2 kt2; exact IntWalk.i64_in _ (by omega)
        refine IWp.one [2, 7, 8] ?_
        simp [go_sem, -getElem?_pos, -List.map_take, -List.map_drop, IntWalk.iteOmega, IntWalk.toNatUp, gy, wx]
        refine ICalls.mono (c1) ?_
        rintro v _ ⟨rfl, rfl⟩
        try simp [go_sem, -getElem?_pos, -List.map_take, -List.map_drop, IntWalk.iteOmega, IntWalk.toNatUp, gy, wx]
        refine IWp.seq ?_
        generalize (M2.set b _).set xb _ = M3 at R3 ⊢
        clear gy c1 wx R2
        obtain ⟨x3, hx3⟩ : ∃ y, y = t3.byte.1 := ⟨_, rfl⟩
        obtain ⟨t4, ht4⟩ : ∃ y, y = t3.byte.2 := ⟨_, rfl⟩
        have kt4 : t4.ok := by rw [ht4]; exact Rd.byte_ok kt3
        have c1 := mByte M3 b t3 kt3 R3.gb
        rw [← hx3, ← ht4] at c1
        have R4 := R3.step t4 (confB (frow 2 0 (SV.map Sig.val)) (frow 9 0 (RV.map Rule.val)) (frow 1 0 (TV.map (ints .i64))) x0 x1 x2 x3 0 0 false 0)
        have gy := (R3.set t4).gx
        simp only [confB] at gy R4
        have wx : IntKind.i64.wrap x3 = x3 := by rw [hx3]; have := Rd.byte_u8 t3 kt3; exact IntWalk.i64_in _ (by omega)
        refine IWp.one [2, 7, 8] ?_
        simp [go_sem, -getElem?_pos, -List.map_take, -List.map_drop, IntWalk.iteOmega, IntWalk.toNatUp, gy, wx]
        refine ICalls.mono (c1) ?_
        rintro v _ ⟨rfl, rfl⟩
        try simp [go_sem, -getElem?_pos, -List.map_take, -List.map_drop, IntWalk.iteOmega, IntWalk.toNatUp, gy, wx]
        refine IWp.seq ?_
        generalize (M3.set b _).set xb _ = M4 at R4 ⊢
        clear gy c1 wx R3
        obtain ⟨x4, hx4⟩ : ∃ y, y = t4.int.1 := ⟨_, rfl⟩
        obtain ⟨t5, ht5⟩ : ∃ y, y = t4.int.2 := ⟨_, rfl⟩
        have kt5 : t5.ok := by rw [ht5]; exact Rd.int_ok kt4
        have c1 := mInt M4 b t4 kt4 R4.gb
        rw [← hx4, ← ht5] at c1
        have R5 := R4.step t5 (confB (frow 2 0 (SV.map Sig.val)) (frow 9 0 (RV.map Rule.val)) (frow 1 0 (TV.map (ints .i64))) x0 x1 x2 x3 x4 0 false 0)
        have gy := (R4.set t5).gx
        simp only [confB] at gy R5
        have wx : True := trivial
        refine IWp.one [2, 7, 8] ?_
        simp [go_sem, -getElem?_pos, -List.map_take, -List.map_drop, IntWalk.iteOmega, IntWalk.toNatUp, gy, wx]
        refine ICalls.mono (c1) ?_
        rintro v _ ⟨rfl, rfl⟩
        try simp [go_sem, -getElem?_pos, -List.map_take, -List.map_drop, IntWalk.iteOmega, IntWalk.toNatUp, gy, wx]
        refine IWp.seq ?_
        generalize (M4.set b _).set xb _ = M5 at R5 ⊢
        clear gy c1 wx R4
        obtain ⟨x5, hx5⟩ : ∃ y, y = t5.int.1 := ⟨_, rfl⟩
        obtain ⟨t6, ht6⟩ : ∃ y, y = t5.int.2 := ⟨_, rfl⟩
        have kt6 : t6.ok := by rw [ht6]; exact Rd.int_ok kt5
        have c1 := mInt M5 b t5 kt5 R5.gb
        rw [← hx5, ← ht6] at c1
        have R6 := R5.step t6 (confB (frow 2 0 (SV.map Sig.val)) (frow 9 0 (RV.map Rule.val)) (frow 1 0 (TV.map (ints .i64))) x0 x1 x2 x3 x4 x5 false 0)
        have gy := (R5.set t6).gx
        simp only [confB] at gy R6
        have wx : True := trivial
        refine IWp.one [2, 7, 8] ?_
        simp [go_sem, -getElem?_pos, -List.map_take, -List.map_drop, IntWalk.iteOmega, IntWalk.toNatUp, gy, wx]
        refine ICalls.mono (c1) ?_
        rintro v _ ⟨rfl, rfl⟩
        try simp [go_sem, -getElem?_pos, -List.map_take, -List.map_drop, IntWalk.iteOmega, IntWalk.toNatUp, gy, wx]
        refine IWp.seq ?_
        generalize (M5.set b _).set xb _ = M6 at R6 ⊢
        clear gy c1 wx R5
        obtain ⟨x6, hx6⟩ : ∃ y, y = t6.flag.1 := ⟨_, rfl⟩
        obtain ⟨t7, ht7⟩ : ∃ y, y = t6.flag.2 := ⟨_, rfl⟩
        have kt7 : t7.ok := by rw [ht7]; exact Rd.flag_ok kt6
        have c1 := mFlag M6 b t6 kt6 R6.gb
        rw [← hx6, ← ht7] at c1
        have R7 := R6.step t7 (confB (frow 2 0 (SV.map Sig.val)) (frow 9 0 (RV.map Rule.val)) (frow 1 0 (TV.map (ints .i64))) x0 x1 x2 x3 x4 x5 x6 0)
        have gy := (R6.set t7).gx
        simp only [confB] at gy R7
        have wx : True := trivial
        refine IWp.one [2, 7, 8] ?_
        simp [go_sem, -getElem?_pos, -List.map_take, -List.map_drop, IntWalk.iteOmega, IntWalk.toNatUp, gy, wx]
        refine ICalls.mono (c1) ?_
        rintro v _ ⟨rfl, rfl⟩
        try simp [go_sem, -getElem?_pos, -List.map_take, -List.map_drop, IntWalk.iteOmega, IntWalk.toNatUp, gy, wx]
        refine IWp.seq ?_
        generalize (M6.set b _).set xb _ = M7 at R7 ⊢
        clear gy c1 wx R6
        obtain ⟨x7, hx7⟩ : ∃ y, y = t7.int.1 := ⟨_, rfl⟩
        obtain ⟨t8, ht8⟩ : ∃ y, y = t7.int.2 := ⟨_, rfl⟩
        have kt8 : t8.ok := by rw [ht8]; exact Rd.int_ok kt7
        have c1 := mInt M7 b t7 kt7 R7.gb
        rw [← hx7, ← ht8] at c1
        have R8 := R7.step t8 (confB (frow 2 0 (SV.map Sig.val)) (frow 9 0 (RV.map Rule.val)) (frow 1 0 (TV.map (ints .i64))) x0 x1 x2 x3 x4 x5 x6 x7)
        have gy := (R7.set t8).gx
        simp only [confB] at gy R8
        have wx : True := trivial
        refine IWp.one [2, 7, 8] ?_
        simp [go_sem, -getElem?_pos, -List.map_take, -List.map_drop, IntWalk.iteOmega, IntWalk.toNatUp, gy, wx]
        refine ICalls.mono (c1) ?_
        rintro v _ ⟨rfl, rfl⟩
        try simp [go_sem, -getElem?_pos, -List.map_take, -List.map_drop, IntWalk.iteOmega, IntWalk.toNatUp, gy, wx]
        refine IWp.seq ?_
        generalize (M7.set b _).set xb _ = M8 at R8 ⊢
        clear gy c1 wx R7
        have hcf : cfgP s0 = (⟨SV, RV, TV, x0, x1, x2, x3, x4, x5, x6, x7⟩, t8) := by
          rw [ht8, hx7, ht7, hx6, ht6, hx5, ht5, hx4, ht4, hx3, ht3, hx2, ht2, hx1, ht1, hx0, ht0, hs3, hTV, hs2, hRV, hs1, hSV]; rfl
        rw [hcf] at hd
        simp only at hd
        have g8 := R8.gx
        have r8 := R8.gr
        have c1 := mEnd M8 b t8 kt8 R8.gb
        by_cases h9 : t8.ending.2 = 0
        · rw [if_neg (by simpa using h9)] at hd
          refine IWp.one [2, 8, 18, 19] ?_
          simp [go_sem, -getElem?_pos, -List.map_take, -List.map_drop, IntWalk.iteOmega, IntWalk.toNatUp, h9, g8, r8, show ¬ rb = xb from nb.2.2.1]
          refine ICalls.then (c1) ?_
          try simp [go_sem, -getElem?_pos, -List.map_take, -List.map_drop, IntWalk.iteOmega, IntWalk.toNatUp, h9, g8, r8, show ¬ rb = xb from nb.2.2.1]
          have Kp : Kept [[2,8,18,19,213],[],[2,8],[2,3,4],[]] := ⟨⟩
          iterate 5 (refine Kp.s ?_; clear Kp; intro Kp; simp [go_sem, -getElem?_pos, -List.map_take, -List.map_drop, IntWalk.iteOmega, IntWalk.toNatUp, h9, g8, r8, show ¬ rb = xb from nb.2.2.1])
          rw [hU, hd]
          exact .same _
        · rw [if_pos h9] at hd
          refine IWp.one [2, 8, 18, 19] ?_
          simp [go_sem, -getElem?_pos, -List.map_take, -List.map_drop, IntWalk.iteOmega, IntWalk.toNatUp, h9, r8]
          refine ICalls.then (c1) ?_
          try simp [go_sem, -getElem?_pos, -List.map_take, -List.map_drop, IntWalk.iteOmega, IntWalk.toNatUp, h9, r8]
          have Kp : Kept [[2,8,18,19,213],[],[2,3,4],[]] := ⟨⟩
          iterate 4 (refine Kp.s ?_; clear Kp; intro Kp; simp [go_sem, -getElem?_pos, -List.map_take, -List.map_drop, IntWalk.iteOmega, IntWalk.toNatUp, h9, r8])
          exact fin _ _ hd _
      · have hd : decP L = (cfgZ, 0, 2) := by unfold decP; rw [if_neg (by simpa using h1), ← hQ, if_pos h2]
        rw [show decide (Q.take 3 = [72, 66, 49]) = false from decide_eq_false h2]
        simp [go_sem, -List.map_take, -List.map_drop]
        have Kp : Kept [[],[2,3,4],[]] := ⟨⟩
        iterate 3 (refine Kp.s ?_; clear Kp; intro Kp; simp [go_sem, -getElem?_pos, -List.map_take, -List.map_drop, IntWalk.iteOmega, IntWalk.toNatUp, g0])
        exact fin _ _ hd _
  · have hd : decP L = (cfgZ, 0, (opened L).2) := by unfold decP; rw [if_pos h1]
    refine IBody.of Tryd.func42 rfl (by rw [Tryd.ntmps42]; simp) ?_
    rw [Tryd.ntmps42]
    have Kp : Kept [[0,2],[2,5,6]] := ⟨⟩
    iterate 2 (refine Kp.s ?_; clear Kp; intro Kp; simp [go_sem, -getElem?_pos, -List.map_take, -List.map_drop, IntWalk.iteOmega, IntWalk.toNatUp, h1])
    refine ICalls.then (c1) ?_
    try simp [go_sem, -getElem?_pos, -List.map_take, -List.map_drop, IntWalk.iteOmega, IntWalk.toNatUp, h1]
    have Kp : Kept [[2,5,6,26],[],[2,3,4],[]] := ⟨⟩
    iterate 4 (refine Kp.s ?_; clear Kp; intro Kp; simp [go_sem, -getElem?_pos, -List.map_take, -List.map_drop, IntWalk.iteOmega, IntWalk.toNatUp, h1])
    exact fin _ _ hd _
end Go.Proofs.YtoecebibhcadoaaDoor.I
namespace Go.Proofs.YtoecebibhcadoaaDoor.I
open Go Go.RowKit
set_option linter.unusedVariables false
set_option linter.unusedSimpArgs false
set_option maxHeartbeats 4000000 in
theorem sameIself (H : Heap) (m k : Int) (L : List Int) (hL : L.length ≤ 9223372036854775806) : ICalls Tryd.prog 41 [frow 1 m (L.map (Value.int .i64)), frow 1 k (L.map (Value.int .i64))] H fun v H' => v = .bool true ∧ H' = H := by
  refine IBody.calls (by kernel_rfl) ?_
  refine IBody.of Tryd.func41 rfl (by rw [Tryd.ntmps41]; simp) ?_
  rw [Tryd.ntmps41]
  have Kp : Kept [[0,1],[0,1,10],[],[0,1],[0,1,5]] := ⟨⟩
  iterate 5 (refine Kp.s ?_; clear Kp; intro Kp; simp [go_sem, -getElem?_pos, -List.map_take, -List.map_drop, IntWalk.iteOmega, IntWalk.toNatUp])
  refine IWp.block ?_
  refine IWp.loop (fun j e K => ∃ i : Nat, j = L.length - i ∧ i ≤ L.length ∧ K = H ∧ e = [(0, frow 1 m (L.map (Value.int .i64))), (1, frow 1 k (L.map (Value.int .i64))), (5, .int .i64 (i : Int))]) L.length ⟨0, rfl, Nat.zero_le _, rfl, by simp [go_sem]⟩ ?_
  rintro j e K ⟨i, rfl, hi, rfl, rfl⟩
  by_cases hlt : i < L.length
  · have g : L[i]? = some L[i] := by simp [hlt]
    have w1 := IntWalk.i64_in ((i : Int) + 1) (by omega)
    generalize L[i] = x at g
    have Kp : Kept [[0,1,5,14],[],[0,1,5]] := ⟨⟩
    iterate 3 (refine Kp.s ?_; clear Kp; intro Kp; simp [go_sem, -getElem?_pos, -List.map_take, -List.map_drop, IntWalk.iteOmega, IntWalk.toNatUp, g, hlt, w1])
    refine IWp.seq ?_
    refine IWp.block ?_
    refine IWp.seq ?_
    refine IWp.read [0, 1, 5, 25] follows (by kernel_rfl) ?_
    simp [go_sem, -getElem?_pos, -List.map_take, -List.map_drop, IntWalk.iteOmega, IntWalk.toNatUp, g, hlt, w1]
    have Kp : Kept [[],[0,1,5],[0,1,5]] := ⟨⟩
    iterate 3 (refine Kp.s ?_; clear Kp; intro Kp; simp [go_sem, -getElem?_pos, -List.map_take, -List.map_drop, IntWalk.iteOmega, IntWalk.toNatUp, g, hlt, w1])
    exact ⟨L.length - (i + 1), by omega, i + 1, rfl, by omega, by simp⟩
  · skip
    have Kp : Kept [[0,1,5,14],[],[],[4],[]] := ⟨⟩
    iterate 5 (refine Kp.s ?_; clear Kp; intro Kp; simp [go_sem, -getElem?_pos, -List.map_take, -List.map_drop, IntWalk.iteOmega, IntWalk.toNatUp, hlt, show ¬ (i : Int) < L.length by omega])
set_option maxRecDepth 4000 in
set_option maxHeartbeats 4000000 in
theorem sameCfg (H : Heap) (c : Config) (hw : c.wf) (hn : ∀ x ∈ c.table, x.length ≤ 1000000) : ICalls Tryd.prog 16 [c.val, c.val] H fun v H' => v = .bool true ∧ H' = H := by
  refine ICalls.ans (by simp [go_sem]) fun H => IBody.calls (by kernel_rfl) ?_
  have z1 := hw.1.2
  have z2 := hw.2.1.2
  have z3 := hw.2.2.1.2
  have z4 : ∀ x ∈ c.table, x.length ≤ 1000000 := hn
  have z5 : ∀ r ∈ c.rules, r.stages.length ≤ maxLen := fun r hr => (hw.2.1.1 r hr).2.2.2.2.2.2.2.2
  simp only [maxLen] at z1 z2 z3 z5
  have a1 : ((H.alloc [frow 2 0 (c.sigs.map Sig.val), frow 9 0 (c.rules.map Rule.val), frow 1 0 (c.table.map (ints .i64)), .int .i64 c.b0, .int .i64 c.b1, .int .i64 c.b2, .int .i64 c.drain, .int .i64 c.pause, .int .i64 c.off, .bool c.brk, .int .i64 c.log]).alloc [frow 2 0 (c.sigs.map Sig.val), frow 9 0 (c.rules.map Rule.val), frow 1 0 (c.table.map (ints .i64)), .int .i64 c.b0, .int .i64 c.b1, .int .i64 c.b2, .int .i64 c.drain, .int .i64 c.pause, .int .i64 c.off, .bool c.brk, .int .i64 c.log]).get H.next = some ⟨[frow 2 0 (c.sigs.map Sig.val), frow 9 0 (c.rules.map Rule.val), frow 1 0 (c.table.map (ints .i64)), .int .i64 c.b0, .int .i64 c.b1, .int .i64 c.b2, .int .i64 c.drain, .int .i64 c.pause, .int .i64 c.off, .bool c.brk, .int .i64 c.log], true⟩ := by simp only [get_alloc, next_alloc]; rw [if_neg (by omega)]; simp
  have a2 : ((H.alloc [frow 2 0 (c.sigs.map Sig.val), frow 9 0 (c.rules.map Rule.val), frow 1 0 (c.table.map (ints .i64)), .int .i64 c.b0, .int .i64 c.b1, .int .i64 c.b2, .int .i64 c.drain, .int .i64 c.pause, .int .i64 c.off, .bool c.brk, .int .i64 c.log]).alloc [frow 2 0 (c.sigs.map Sig.val), frow 9 0 (c.rules.map Rule.val), frow 1 0 (c.table.map (ints .i64)), .int .i64 c.b0, .int .i64 c.b1, .int .i64 c.b2, .int .i64 c.drain, .int .i64 c.pause, .int .i64 c.off, .bool c.brk, .int .i64 c.log]).get (H.next + 1) = some ⟨[frow 2 0 (c.sigs.map Sig.val), frow 9 0 (c.rules.map Rule.val), frow 1 0 (c.table.map (ints .i64)), .int .i64 c.b0, .int .i64 c.b1, .int .i64 c.b2, .int .i64 c.drain, .int .i64 c.pause, .int .i64 c.off, .bool c.brk, .int .i64 c.log], true⟩ := by simp only [get_alloc, next_alloc]; simp
  refine IBody.of Tryd.func16 rfl (by rw [Tryd.ntmps16]; simp) ?_
  rw [Tryd.ntmps16]
  have Kp : Kept [[2,3],[2,3,77],[],[2,3]] := ⟨⟩
  iterate 4 (refine Kp.s ?_; clear Kp; intro Kp; simp [go_sem, -getElem?_pos, -List.map_take, -List.map_drop, IntWalk.iteOmega, IntWalk.toNatUp, Config.val, Config.cells])
  generalize (H.alloc _).alloc _ = K0 at a1 a2 ⊢
  generalize H.next + 1 = q at a2 ⊢
  generalize H.next = p at a1 ⊢
  refine IWp.cut (fun e K => K.get p = some ⟨[frow 2 0 (c.sigs.map Sig.val), frow 9 0 (c.rules.map Rule.val), frow 1 0 (c.table.map (ints .i64)), .int .i64 c.b0, .int .i64 c.b1, .int .i64 c.b2, .int .i64 c.drain, .int .i64 c.pause, .int .i64 c.off, .bool c.brk, .int .i64 c.log], true⟩ ∧ K.get q = some ⟨[frow 2 0 (c.sigs.map Sig.val), frow 9 0 (c.rules.map Rule.val), frow 1 0 (c.table.map (ints .i64)), .int .i64 c.b0, .int .i64 c.b1, .int .i64 c.b2, .int .i64 c.drain, .int .i64 c.pause, .int .i64 c.off, .bool c.brk, .int .i64 c.log], true⟩ ∧ e = [(2, ptrTo p 0), (3, ptrTo q 0)]) ?_ ?_
  · skip
    refine IWp.one [2, 3, 5] ?_
    simp [go_sem, -getElem?_pos, -List.map_take, -List.map_drop, IntWalk.iteOmega, IntWalk.toNatUp, a1, a2]
    refine IWp.block ?_
    refine IWp.loop (fun j e K => ∃ i : Nat, j = c.sigs.length - i ∧ i ≤ c.sigs.length ∧ K.get p = some ⟨[frow 2 0 (c.sigs.map Sig.val), frow 9 0 (c.rules.map Rule.val), frow 1 0 (c.table.map (ints .i64)), .int .i64 c.b0, .int .i64 c.b1, .int .i64 c.b2, .int .i64 c.drain, .int .i64 c.pause, .int .i64 c.off, .bool c.brk, .int .i64 c.log], true⟩ ∧ K.get q = some ⟨[frow 2 0 (c.sigs.map Sig.val), frow 9 0 (c.rules.map Rule.val), frow 1 0 (c.table.map (ints .i64)), .int .i64 c.b0, .int .i64 c.b1, .int .i64 c.b2, .int .i64 c.drain, .int .i64 c.pause, .int .i64 c.off, .bool c.brk, .int .i64 c.log], true⟩ ∧ e = [(2, ptrTo p 0), (3, ptrTo q 0), (5, .int .i64 (i : Int))]) c.sigs.length ⟨0, rfl, Nat.zero_le _, a1, a2, by simp [go_sem]⟩ ?_
    clear a1 a2
    rintro j e K ⟨i, rfl, hi, a1, a2, rfl⟩
    by_cases hlt : i < c.sigs.length
    · have g : c.sigs[i]? = some c.sigs[i] := by simp [hlt]
      have w1 := IntWalk.i64_in ((i : Int) + 1) (by omega)
      generalize c.sigs[i] = x at *
      have Kp : Kept [[2,3,5,82],[],[2,3,5]] := ⟨⟩
      iterate 3 (refine Kp.s ?_; clear Kp; intro Kp; simp [go_sem, -getElem?_pos, -List.map_take, -List.map_drop, IntWalk.iteOmega, IntWalk.toNatUp, a1, a2, g, hlt, w1, Sig.val, Sig.cells])
      refine IWp.seq ?_
      refine IWp.block ?_
      refine IWp.seq ?_
      refine IWp.read [2, 3, 5, 95] follows (by kernel_rfl) ?_
      simp [go_sem, -getElem?_pos, -List.map_take, -List.map_drop, IntWalk.iteOmega, IntWalk.toNatUp, a1, a2, g, hlt, w1, Sig.val, Sig.cells]
      have Kp : Kept [[],[2,3,5],[2,3,5]] := ⟨⟩
      iterate 3 (refine Kp.s ?_; clear Kp; intro Kp; simp [go_sem, -getElem?_pos, -List.map_take, -List.map_drop, IntWalk.iteOmega, IntWalk.toNatUp, a1, a2, g, hlt, w1, Sig.val, Sig.cells])
      exact ⟨c.sigs.length - (i + 1), by omega, i + 1, rfl, by omega, by simp⟩
    · skip
      have Kp : Kept [[2,3,5,82],[],[2,3]] := ⟨⟩
      iterate 3 (refine Kp.s ?_; clear Kp; intro Kp; simp [go_sem, -getElem?_pos, -List.map_take, -List.map_drop, IntWalk.iteOmega, IntWalk.toNatUp, a1, a2, hlt, show ¬ (i : Int) < c.sigs.length by omega])
  clear a1 a2
  rintro e K1 ⟨a1, a2, rfl⟩
  refine IWp.cut (fun e K => K.get p = some ⟨[frow 2 0 (c.sigs.map Sig.val), frow 9 0 (c.rules.map Rule.val), frow 1 0 (c.table.map (ints .i64)), .int .i64 c.b0, .int .i64 c.b1, .int .i64 c.b2, .int .i64 c.drain, .int .i64 c.pause, .int .i64 c.off, .bool c.brk, .int .i64 c.log], true⟩ ∧ K.get q = some ⟨[frow 2 0 (c.sigs.map Sig.val), frow 9 0 (c.rules.map Rule.val), frow 1 0 (c.table.map (ints .i64)), .int .i64 c.b0, .int .i64 c.b1, .int .i64 c.b2, .int .i64 c.drain, .int .i64 c.pause, .int .i64 c.off, .bool c.brk, .int .i64 c.log], true⟩ ∧ e = [(2, ptrTo p 0), (3, ptrTo q 0)]) ?_ ?_
  · skip
    refine IWp.one [2, 3, 6] ?_
    simp [go_sem, -getElem?_pos, -List.map_take, -List.map_drop, IntWalk.iteOmega, IntWalk.toNatUp, a1, a2]
    refine IWp.block ?_
    refine IWp.loop (fun j e K => ∃ i : Nat, j = c.rules.length - i ∧ i ≤ c.rules.length ∧ K.get p = some ⟨[frow 2 0 (c.sigs.map Sig.val), frow 9 0 (c.rules.map Rule.val), frow 1 0 (c.table.map (ints .i64)), .int .i64 c.b0, .int .i64 c.b1, .int .i64 c.b2, .int .i64 c.drain, .int .i64 c.pause, .int .i64 c.off, .bool c.brk, .int .i64 c.log], true⟩ ∧ K.get q = some ⟨[frow 2 0 (c.sigs.map Sig.val), frow 9 0 (c.rules.map Rule.val), frow 1 0 (c.table.map (ints .i64)), .int .i64 c.b0, .int .i64 c.b1, .int .i64 c.b2, .int .i64 c.drain, .int .i64 c.pause, .int .i64 c.off, .bool c.brk, .int .i64 c.log], true⟩ ∧ e = [(2, ptrTo p 0), (3, ptrTo q 0), (6, .int .i64 (i : Int))]) c.rules.length ⟨0, rfl, Nat.zero_le _, a1, a2, by simp [go_sem]⟩ ?_
    clear a1 a2
    rintro j e K ⟨i, rfl, hi, a1, a2, rfl⟩
    by_cases hlt : i < c.rules.length
    · have g : c.rules[i]? = some c.rules[i] := by simp [hlt]
      have w1 := IntWalk.i64_in ((i : Int) + 1) (by omega)
      have zx := z5 c.rules[i] (List.getElem_mem hlt)
      generalize c.rules[i] = x at *
      have l1 := Heap.lt_of_get a1
      have l2 := Heap.lt_of_get a2
      have b1 : ((K.alloc [.int .u8 x.kind, .int .i64 x.sg, .int .i64 x.lim, .int .i64 x.back, .int .i64 x.delay, .int .i64 x.span, .int .u8 x.prio, .bool x.latch, frow 2 0 (x.stages.map Stage.val)]).alloc [.int .u8 x.kind, .int .i64 x.sg, .int .i64 x.lim, .int .i64 x.back, .int .i64 x.delay, .int .i64 x.span, .int .u8 x.prio, .bool x.latch, frow 2 0 (x.stages.map Stage.val)]).get p = some ⟨[frow 2 0 (c.sigs.map Sig.val), frow 9 0 (c.rules.map Rule.val), frow 1 0 (c.table.map (ints .i64)), .int .i64 c.b0, .int .i64 c.b1, .int .i64 c.b2, .int .i64 c.drain, .int .i64 c.pause, .int .i64 c.off, .bool c.brk, .int .i64 c.log], true⟩ := by simp only [get_alloc, next_alloc]; rw [if_neg (by omega), if_neg (by omega)]; exact a1
      have b2 : ((K.alloc [.int .u8 x.kind, .int .i64 x.sg, .int .i64 x.lim, .int .i64 x.back, .int .i64 x.delay, .int .i64 x.span, .int .u8 x.prio, .bool x.latch, frow 2 0 (x.stages.map Stage.val)]).alloc [.int .u8 x.kind, .int .i64 x.sg, .int .i64 x.lim, .int .i64 x.back, .int .i64 x.delay, .int .i64 x.span, .int .u8 x.prio, .bool x.latch, frow 2 0 (x.stages.map Stage.val)]).get q = some ⟨[frow 2 0 (c.sigs.map Sig.val), frow 9 0 (c.rules.map Rule.val), frow 1 0 (c.table.map (ints .i64)), .int .i64 c.b0, .int .i64 c.b1, .int .i64 c.b2, .int .i64 c.drain, .int .i64 c.pause, .int .i64 c.off, .bool c.brk, .int .i64 c.log], true⟩ := by simp only [get_alloc, next_alloc]; rw [if_neg (by omega), if_neg (by omega)]; exact a2
      have b3 : ((K.alloc [.int .u8 x.kind, .int .i64 x.sg, .int .i64 x.lim, .int .i64 x.back, .int .i64 x.delay, .int .i64 x.span, .int .u8 x.prio, .bool x.latch, frow 2 0 (x.stages.map Stage.val)]).alloc [.int .u8 x.kind, .int .i64 x.sg, .int .i64 x.lim, .int .i64 x.back, .int .i64 x.delay, .int .i64 x.span, .int .u8 x.prio, .bool x.latch, frow 2 0 (x.stages.map Stage.val)]).get K.next = some ⟨[.int .u8 x.kind, .int .i64 x.sg, .int .i64 x.lim, .int .i64 x.back, .int .i64 x.delay, .int .i64 x.span, .int .u8 x.prio, .bool x.latch, frow 2 0 (x.stages.map Stage.val)], true⟩ := by simp only [get_alloc, next_alloc]; rw [if_neg (by omega)]; simp
      have b4 : ((K.alloc [.int .u8 x.kind, .int .i64 x.sg, .int .i64 x.lim, .int .i64 x.back, .int .i64 x.delay, .int .i64 x.span, .int .u8 x.prio, .bool x.latch, frow 2 0 (x.stages.map Stage.val)]).alloc [.int .u8 x.kind, .int .i64 x.sg, .int .i64 x.lim, .int .i64 x.back, .int .i64 x.delay, .int .i64 x.span, .int .u8 x.prio, .bool x.latch, frow 2 0 (x.stages.map Stage.val)]).get (K.next + 1) = some ⟨[.int .u8 x.kind, .int .i64 x.sg, .int .i64 x.lim, .int .i64 x.back, .int .i64 x.delay, .int .i64 x.span, .int .u8 x.prio, .bool x.latch, frow 2 0 (x.stages.map Stage.val)], true⟩ := by simp only [get_alloc, next_alloc]; simp
      have Kp : Kept [[2,3,6,100],[],[2,3,6]] := ⟨⟩
      iterate 3 (refine Kp.s ?_; clear Kp; intro Kp; simp [go_sem, -getElem?_pos, -List.map_take, -List.map_drop, IntWalk.iteOmega, IntWalk.toNatUp, a1, a2, hlt])
      refine IWp.seq ?_
      refine IWp.block ?_
      obtain ⟨Z, hZ⟩ : ∃ Z : Env → Heap → Prop, Z = fun e M => ∃ r s : Nat, M.get p = some ⟨[frow 2 0 (c.sigs.map Sig.val), frow 9 0 (c.rules.map Rule.val), frow 1 0 (c.table.map (ints .i64)), .int .i64 c.b0, .int .i64 c.b1, .int .i64 c.b2, .int .i64 c.drain, .int .i64 c.pause, .int .i64 c.off, .bool c.brk, .int .i64 c.log], true⟩ ∧ M.get q = some ⟨[frow 2 0 (c.sigs.map Sig.val), frow 9 0 (c.rules.map Rule.val), frow 1 0 (c.table.map (ints .i64)), .int .i64 c.b0, .int .i64 c.b1, .int .i64 c.b2, .int .i64 c.drain, .int .i64 c.pause, .int .i64 c.off, .bool c.brk, .int .i64 c.log], true⟩ ∧ M.get r = some ⟨[.int .u8 x.kind, .int .i64 x.sg, .int .i64 x.lim, .int .i64 x.back, .int .i64 x.delay, .int .i64 x.span, .int .u8 x.prio, .bool x.latch, frow 2 0 (x.stages.map Stage.val)], true⟩ ∧ M.get s = some ⟨[.int .u8 x.kind, .int .i64 x.sg, .int .i64 x.lim, .int .i64 x.back, .int .i64 x.delay, .int .i64 x.span, .int .u8 x.prio, .bool x.latch, frow 2 0 (x.stages.map Stage.val)], true⟩ ∧ e = [(2, ptrTo p 0), (3, ptrTo q 0), (6, .int .i64 (i : Int)), (7, ptrTo r 0), (8, ptrTo s 0)] := ⟨_, rfl⟩
      refine IWp.cut Z ?_ ?_
      · skip
        refine IWp.draw [2, 3, 6, 7, 8] [p, q] (.val 0 (.val 2 (.val 5 (.val 7 (.val 1 (.val 3 (.val 4 (.val 6 (.val 8 (.val 9 (.eff 10 (.eff 11 (.eff 12 (.eff 13 .done .done) .done) .done) (.eff 11 (.eff 10 (.eff 12 (.eff 13 .done .done) .done) .done) .done)))))))))))) follows (by kernel_rfl) ?_
        simp [go_sem, -getElem?_pos, -List.map_take, -List.map_drop, IntWalk.iteOmega, IntWalk.toNatUp, a1, a2, g, hlt, Rule.val, Rule.cells]
        rw [hZ]
        exact ⟨⟨_, _, b1, b2, b3, b4, rfl⟩, ⟨_, _, b1, b2, b4, b3, rfl⟩⟩
      clear a1 a2 b1 b2 b3 b4 l1 l2
      rw [hZ]
      rintro e M ⟨r, s, b1, b2, b3, b4, rfl⟩
      have Kp : Kept [[2,3,6,7,8,175],[],[2,3,6,7,8],[2,3,6,7,8,9]] := ⟨⟩
      iterate 4 (refine Kp.s ?_; clear Kp; intro Kp; simp [go_sem, -getElem?_pos, -List.map_take, -List.map_drop, IntWalk.iteOmega, IntWalk.toNatUp, b3, b4])
      refine IWp.block ?_
      refine IWp.loop (fun j e K => ∃ n : Nat, j = x.stages.length - n ∧ n ≤ x.stages.length ∧ K = M ∧ e = [(2, ptrTo p 0), (3, ptrTo q 0), (6, .int .i64 (i : Int)), (7, ptrTo r 0), (8, ptrTo s 0), (9, .int .i64 (n : Int))]) x.stages.length ⟨0, rfl, Nat.zero_le _, rfl, by simp [go_sem]⟩ ?_
      rintro j e K' ⟨n, rfl, hn, rfl, rfl⟩
      by_cases hlt2 : n < x.stages.length
      · have g2 : x.stages[n]? = some x.stages[n] := by simp [hlt2]
        have w2 := IntWalk.i64_in ((n : Int) + 1) (by omega)
        generalize x.stages[n] = y at *
        have Kp : Kept [[2,3,6,7,8,9,180],[],[2,3,6,7,8,9]] := ⟨⟩
        iterate 3 (refine Kp.s ?_; clear Kp; intro Kp; simp [go_sem, -getElem?_pos, -List.map_take, -List.map_drop, IntWalk.iteOmega, IntWalk.toNatUp, b3, b4, g2, hlt2, w2, Stage.val, Stage.cells])
        refine IWp.seq ?_
        refine IWp.block ?_
        refine IWp.seq ?_
        refine IWp.read [2, 3, 6, 7, 8, 9, 193] follows (by kernel_rfl) ?_
        simp [go_sem, -getElem?_pos, -List.map_take, -List.map_drop, IntWalk.iteOmega, IntWalk.toNatUp, b3, b4, g2, hlt2, w2, Stage.val, Stage.cells]
        have Kp : Kept [[],[2,3,6,7,8,9],[2,3,6,7,8,9]] := ⟨⟩
        iterate 3 (refine Kp.s ?_; clear Kp; intro Kp; simp [go_sem, -getElem?_pos, -List.map_take, -List.map_drop, IntWalk.iteOmega, IntWalk.toNatUp, b3, b4, g2, hlt2, w2, Stage.val, Stage.cells])
        exact ⟨x.stages.length - (n + 1), by omega, n + 1, rfl, by omega, by simp⟩
      · skip
        have Kp : Kept [[2,3,6,7,8,9,180],[],[2,3,6],[2,3,6]] := ⟨⟩
        iterate 4 (refine Kp.s ?_; clear Kp; intro Kp; simp [go_sem, -getElem?_pos, -List.map_take, -List.map_drop, IntWalk.iteOmega, IntWalk.toNatUp, b3, b4, hlt2, w1, show ¬ (n : Int) < x.stages.length by omega])
        exact ⟨c.rules.length - (i + 1), by omega, i + 1, rfl, by omega, b1, b2, by simp⟩
    · skip
      have Kp : Kept [[2,3,6,100],[],[2,3]] := ⟨⟩
      iterate 3 (refine Kp.s ?_; clear Kp; intro Kp; simp [go_sem, -getElem?_pos, -List.map_take, -List.map_drop, IntWalk.iteOmega, IntWalk.toNatUp, a1, a2, hlt, show ¬ (i : Int) < c.rules.length by omega])
  clear a1 a2
  rintro e K2 ⟨a1, a2, rfl⟩
  refine IWp.one [2, 3, 10] ?_
  simp [go_sem, -getElem?_pos, -List.map_take, -List.map_drop, IntWalk.iteOmega, IntWalk.toNatUp, a1, a2]
  refine IWp.block ?_
  refine IWp.loop (fun j e K => ∃ i : Nat, j = c.table.length - i ∧ i ≤ c.table.length ∧ K.get p = some ⟨[frow 2 0 (c.sigs.map Sig.val), frow 9 0 (c.rules.map Rule.val), frow 1 0 (c.table.map (ints .i64)), .int .i64 c.b0, .int .i64 c.b1, .int .i64 c.b2, .int .i64 c.drain, .int .i64 c.pause, .int .i64 c.off, .bool c.brk, .int .i64 c.log], true⟩ ∧ K.get q = some ⟨[frow 2 0 (c.sigs.map Sig.val), frow 9 0 (c.rules.map Rule.val), frow 1 0 (c.table.map (ints .i64)), .int .i64 c.b0, .int .i64 c.b1, .int .i64 c.b2, .int .i64 c.drain, .int .i64 c.pause, .int .i64 c.off, .bool c.brk, .int .i64 c.log], true⟩ ∧ e = [(2, ptrTo p 0), (3, ptrTo q 0), (10, .int .i64 (i : Int))]) c.table.length ⟨0, rfl, Nat.zero_le _, a1, a2, by simp [go_sem]⟩ ?_
  clear a1 a2
  rintro j e K ⟨i, rfl, hi, a1, a2, rfl⟩
  by_cases hlt : i < c.table.length
  · have g : c.table[i]? = some c.table[i] := by simp [hlt]
    have w1 := IntWalk.i64_in ((i : Int) + 1) (by omega)
    have zx := z4 c.table[i] (List.getElem_mem hlt)
    generalize c.table[i] = x at *
    have Kp : Kept [[2,3,10,198],[],[2,3,10]] := ⟨⟩
    iterate 3 (refine Kp.s ?_; clear Kp; intro Kp; simp [go_sem, -getElem?_pos, -List.map_take, -List.map_drop, IntWalk.iteOmega, IntWalk.toNatUp, a1, a2, g, hlt, w1, ints])
    refine IWp.seq ?_
    refine IWp.block ?_
    refine IWp.seq ?_
    refine IWp.draw [2, 3, 10, 212] [] (.val 0 (.ld 1 [3, 4, 10, 11] (.val 2 (.val 3 (.ld 4 [10, 11] (.val 5 (.ld 6 [8, 9, 10, 11] (.val 7 (.val 8 (.ld 9 [10, 11] (.eff 10 (.val 11 .done) .done))))))))))) follows (by kernel_rfl) ?_
    simp [go_sem, -getElem?_pos, -List.map_take, -List.map_drop, IntWalk.iteOmega, IntWalk.toNatUp, a1, a2, g, hlt, w1, ints]
    refine ICalls.then (sameIself K 0 0 x (by omega)) ?_
    try simp [go_sem, -getElem?_pos, -List.map_take, -List.map_drop, IntWalk.iteOmega, IntWalk.toNatUp, a1, a2, g, hlt, w1, ints]
    have Kp : Kept [[],[2,3,10],[2,3,10]] := ⟨⟩
    iterate 3 (refine Kp.s ?_; clear Kp; intro Kp; simp [go_sem, -getElem?_pos, -List.map_take, -List.map_drop, IntWalk.iteOmega, IntWalk.toNatUp, a1, a2, g, hlt, w1, ints])
    exact ⟨c.table.length - (i + 1), by omega, i + 1, rfl, by omega, by simp⟩
  · skip
    have Kp : Kept [[2,3,10,198],[],[],[4],[]] := ⟨⟩
    iterate 5 (refine Kp.s ?_; clear Kp; intro Kp; simp [go_sem, -getElem?_pos, -List.map_take, -List.map_drop, IntWalk.iteOmega, IntWalk.toNatUp, a1, a2, hlt, show ¬ (i : Int) < c.table.length by omega])
end Go.Proofs.YtoecebibhcadoaaDoor.I
