/- The law of what is turned: its body. No condition. -/
import Derived.Test.YtneiiglfdhghkaaLSum
namespace Go.Proofs.Ytneiiglfdhghkaa.I
open Go Go.RowKit
set_option linter.unusedVariables false
set_option linter.unusedSimpArgs false

theorem turn1_eq (x : BitVec 16) : turn1 x = (x <<< 1) ^^^ (if x.getLsbD 15 = true then 4129#16 else 0#16) := by
  unfold turn1
  by_cases h : x.getLsbD 15 = true
  · rw [if_neg (fun e => by rw [(top_bit x).1 e] at h; cases h), if_pos h]
  · have h2 : x.getLsbD 15 = false := by simpa using h
    rw [if_pos ((top_bit x).2 h2), if_neg h, BitVec.xor_zero]

theorem turn1_xor (x y : BitVec 16) : turn1 (x ^^^ y) = turn1 x ^^^ turn1 y := by
  rw [turn1_eq, turn1_eq, turn1_eq, BitVec.shiftLeft_xor_distrib, BitVec.getLsbD_xor]
  have e : (if (x.getLsbD 15 ^^ y.getLsbD 15) = true then 4129#16 else 0#16) = (if x.getLsbD 15 = true then 4129#16 else 0#16) ^^^ (if y.getLsbD 15 = true then 4129#16 else 0#16) := by
    cases x.getLsbD 15 <;> cases y.getLsbD 15 <;> rfl
  rw [e]
  ac_rfl

theorem turn1_zero {x : BitVec 16} (h : turn1 x = 0#16) : x = 0#16 := by
  rw [turn1_eq] at h
  have h15 : x.getLsbD 15 = false := by
    cases hb : x.getLsbD 15 with
    | false => rfl
    | true =>
      rw [hb] at h
      have h0 := congrArg (fun z : BitVec 16 => z.getLsbD 0) h
      simp [BitVec.getLsbD_xor] at h0
  rw [h15] at h
  simp only [Bool.false_eq_true, if_false, BitVec.xor_zero] at h
  apply BitVec.eq_of_getLsbD_eq
  intro i hi
  by_cases h1 : i = 15
  · subst h1; rw [h15]; simp
  · have h2 := congrArg (fun z : BitVec 16 => z.getLsbD (i + 1)) h
    simp only [BitVec.getLsbD_shiftLeft] at h2
    simpa [show i + 1 < 16 by omega] using h2

theorem turns_xor (k : Nat) (x y : BitVec 16) : turns k (x ^^^ y) = turns k x ^^^ turns k y := by
  induction k with
  | zero => rfl
  | succ k ih => simp only [turns]; rw [ih, turn1_xor]
theorem turns_zero {k : Nat} {x : BitVec 16} (h : turns k x = 0#16) : x = 0#16 := by
  induction k with
  | zero => exact h
  | succ k ih => exact ih (turn1_zero h)
theorem turns_nil (k : Nat) : turns k 0#16 = 0#16 := by
  induction k with
  | zero => rfl
  | succ k ih => simp only [turns]; rw [ih]; decide

/-- What a run over bytes makes of a register is linear in the register. -/
theorem run_xor (L : List Int) : ∀ x y : BitVec 16, L.foldl crcByte (x ^^^ y) = L.foldl crcByte x ^^^ L.foldl (fun z _ => turns 8 z) y := by
  induction L with
  | nil => intro x y; rfl
  | cons b L ih =>
    intro x y
    simp only [List.foldl_cons]
    rw [← ih]
    congr 1
    unfold crcByte
    rw [show x ^^^ y ^^^ BitVec.ofInt 16 b <<< 8 = (x ^^^ BitVec.ofInt 16 b <<< 8) ^^^ y by ac_rfl, turns_xor]
theorem run_zero (L : List Int) : ∀ y : BitVec 16, L.foldl (fun z _ => turns 8 z) y = 0#16 → y = 0#16 := by
  induction L with
  | nil => intro y h; exact h
  | cons b L ih => intro y h; exact turns_zero (ih _ h)

theorem byte_xor (c a : Int) (hc : 0 ≤ c ∧ c < 256) (ha : 0 ≤ a ∧ a < 256) :
    0 ≤ ((BitVec.ofInt 8 c ^^^ BitVec.ofInt 8 a : BitVec 8).toNat : Int) ∧ ((BitVec.ofInt 8 c ^^^ BitVec.ofInt 8 a : BitVec 8).toNat : Int) < 256 ∧
    BitVec.ofInt 16 ((BitVec.ofInt 8 c ^^^ BitVec.ofInt 8 a : BitVec 8).toNat : Int) = BitVec.ofInt 16 c ^^^ BitVec.ofInt 16 a := by
  have hlt := (BitVec.ofInt 8 c ^^^ BitVec.ofInt 8 a : BitVec 8).isLt
  refine ⟨by omega, by omega, ?_⟩
  obtain ⟨n, rfl⟩ : ∃ n : Nat, c = n := ⟨c.toNat, by omega⟩
  obtain ⟨m, rfl⟩ : ∃ n : Nat, a = n := ⟨a.toNat, by omega⟩
  have e1 : (BitVec.ofInt 8 (n : Int) ^^^ BitVec.ofInt 8 (m : Int) : BitVec 8).toNat = n ^^^ m := by
    rw [BitVec.toNat_xor, BitVec.toNat_ofInt, BitVec.toNat_ofInt]
    congr 1 <;> omega
  rw [e1]
  apply BitVec.eq_of_toNat_eq
  have hx : n ^^^ m < 2 ^ 16 := Nat.xor_lt_two_pow (by omega) (by omega)
  rw [BitVec.toNat_xor, BitVec.toNat_ofInt, BitVec.toNat_ofInt, BitVec.toNat_ofInt]
  have e2 : ((n : Int) % (2 ^ 16 : Nat)).toNat = n := by omega
  have e3 : ((m : Int) % (2 ^ 16 : Nat)).toNat = m := by omega
  rw [e2, e3]
  omega

theorem turns_low : ∀ (k : Nat) (y : BitVec 16), k ≤ 8 → y.toNat < 256 → turns k y = y <<< k ∧ (turns k y).toNat = y.toNat * 2 ^ k
  | 0, y, _, _ => by simp [turns]
  | k + 1, y, hk, h => by
    obtain ⟨h1, h2⟩ := turns_low k y (by omega) h
    have hp : 2 ^ k ≤ 128 := by
      have := Nat.pow_le_pow_right (show 0 < 2 by decide) (show k ≤ 7 by omega)
      simpa using this
    have hlt : (turns k y).toNat < 32768 := by
      rw [h2]
      calc y.toNat * 2 ^ k ≤ 255 * 128 := Nat.mul_le_mul (by omega) hp
        _ < 32768 := by decide
    have e : turns (k + 1) y = (turns k y) <<< 1 := by
      have ht : (turns k y).getLsbD 15 = false := by rw [BitVec.getLsbD]; exact Nat.testBit_lt_two_pow hlt
      simp only [turns, turn1_eq, ht]; simp
    rw [e]
    refine ⟨by rw [h1, BitVec.shiftLeft_add], ?_⟩
    rw [BitVec.toNat_shiftLeft, Nat.shiftLeft_eq, Nat.mod_eq_of_lt (by omega), h2, Nat.pow_one, Nat.mul_assoc, ← Nat.pow_succ]

theorem low8 (b : Int) (hb : 0 ≤ b ∧ b < 256) : turns 8 (BitVec.ofInt 16 b) = BitVec.ofInt 16 b <<< 8 :=
  (turns_low 8 _ (Nat.le_refl _) (by rw [BitVec.toNat_ofInt]; omega)).1

theorem turned_shown (A B : List Int) (c d a b : Int) (ha : 0 ≤ a ∧ a < 256) (hb : 0 ≤ b ∧ b < 256) (hne : ¬ (a = 0 ∧ b = 0)) (c' d' : Int) (hc : BitVec.ofInt 16 c' = BitVec.ofInt 16 c ^^^ BitVec.ofInt 16 a) (hd : BitVec.ofInt 16 d' = BitVec.ofInt 16 d ^^^ BitVec.ofInt 16 b)
    (h0 : crc (A ++ c :: d :: B) = 0#16) : crc (A ++ c' :: d' :: B) ≠ 0#16 := by
  intro h
  simp only [crc, List.foldl_append, List.foldl_cons] at h h0
  generalize List.foldl crcByte 65535#16 A = x at h h0
  have e : crcByte (crcByte x c') d' = crcByte (crcByte x c) d ^^^ turns 16 ((BitVec.ofInt 16 a <<< 8) ^^^ BitVec.ofInt 16 b) := by
    have t16 : ∀ z : BitVec 16, turns 16 z = turns 8 (turns 8 z) := fun z => rfl
    rw [t16, turns_xor 8 (BitVec.ofInt 16 a <<< 8), low8 b hb]
    unfold crcByte
    rw [hc, hd, BitVec.shiftLeft_xor_distrib, BitVec.shiftLeft_xor_distrib, ← BitVec.xor_assoc x, turns_xor 8 (x ^^^ BitVec.ofInt 16 c <<< 8)]
    have four : ∀ T A D E : BitVec 16, (T ^^^ A) ^^^ (D ^^^ E) = (T ^^^ D) ^^^ (A ^^^ E) := fun T A D E => by ac_rfl
    rw [four, turns_xor 8 (turns 8 (x ^^^ BitVec.ofInt 16 c <<< 8) ^^^ BitVec.ofInt 16 d <<< 8)]
  rw [e, run_xor, h0, BitVec.zero_xor] at h
  have h1 := turns_zero (run_zero B _ h)
  have h2 := congrArg BitVec.toNat h1
  apply hne
  have ea : BitVec.ofInt 16 a <<< 8 = BitVec.ofNat 16 (a.toNat * 256) := by
    apply BitVec.eq_of_toNat_eq
    rw [BitVec.toNat_shiftLeft, Nat.shiftLeft_eq, BitVec.toNat_ofInt, BitVec.toNat_ofNat]
    omega
  have hxor : (BitVec.ofInt 16 a <<< 8) = BitVec.ofInt 16 b := by
    have h3 : (BitVec.ofInt 16 a <<< 8 ^^^ BitVec.ofInt 16 b) ^^^ BitVec.ofInt 16 b = 0#16 ^^^ BitVec.ofInt 16 b := by rw [h1]
    rw [BitVec.xor_assoc, BitVec.xor_self, BitVec.xor_zero, BitVec.zero_xor] at h3
    exact h3
  have h4 := congrArg BitVec.toNat hxor
  rw [ea, BitVec.toNat_ofNat, BitVec.toNat_ofInt] at h4
  omega

theorem crc_closed (L : List Int) : crc (closed L) = 0#16 := by
  have hx := (crc L).isLt
  have e0 : crc (closed L) = crcByte (crcByte (crc L) (((crc L).toNat : Int) / 256)) (((crc L).toNat : Int) % 256) := by simp only [crc, closed, List.foldl_append, List.foldl_cons, List.foldl_nil]
  rw [e0]
  generalize crc L = x at hx
  have e1 : BitVec.ofInt 16 ((x.toNat : Int) / 256) = x >>> 8 := by
    apply BitVec.eq_of_toNat_eq; rw [BitVec.toNat_ofInt, BitVec.toNat_ushiftRight, Nat.shiftRight_eq_div_pow]; omega
  have e2 : BitVec.ofInt 16 ((x.toNat : Int) % 256) = BitVec.ofNat 16 (x.toNat % 256) := by
    apply BitVec.eq_of_toNat_eq; rw [BitVec.toNat_ofInt, BitVec.toNat_ofNat]; omega
  have e3 : x ^^^ ((x >>> 8) <<< 8) = BitVec.ofNat 16 (x.toNat % 256) := by
    apply BitVec.eq_of_getLsbD_eq
    intro i hi
    rw [BitVec.getLsbD_xor, BitVec.getLsbD_shiftLeft, BitVec.getLsbD_ushiftRight, BitVec.getLsbD_ofNat, show (256 : Nat) = 2 ^ 8 from rfl, Nat.testBit_mod_two_pow]
    by_cases h8 : i < 8
    · simp [h8, hi, BitVec.getLsbD]
    · simp [h8, hi, show 8 + (i - 8) = i by omega]
  have hy : (BitVec.ofNat 16 (x.toNat % 256)).toNat < 256 := by rw [BitVec.toNat_ofNat]; omega
  unfold crcByte
  rw [e1, e2, e3, (turns_low 8 _ (Nat.le_refl _) hy).1, BitVec.xor_self]
  decide

theorem opened_bad {L : List Int} (h2 : ¬ L.length < 2) (h : crc L ≠ 0#16) : opened L = ([], 3) := by
  unfold opened
  rw [if_neg h2, if_neg]
  intro e
  exact h (by rw [← e]; exact crc_closed _)

theorem splice_one (cs : List Value) (k : Nat) (v : Value) (h : k < cs.length) : splice cs k [v] = cs.set k v := by
  unfold splice
  rw [List.set_eq_take_append_cons_drop, if_pos h]
  simp

theorem set_two (L : List Int) (k : Nat) (h : k + 1 < L.length) (c' d' : Int) : ((L.set k c').set (k + 1) d') = L.take k ++ c' :: d' :: L.drop (k + 2) := by
  apply List.ext_getElem?
  intro i
  rw [List.getElem?_set, List.getElem?_set, List.getElem?_append]
  simp only [List.length_set, List.length_take, show min k L.length = k by omega]
  by_cases h1 : i < k
  · simp [h1, show ¬ k + 1 = i by omega, show ¬ k = i by omega]
  · rw [if_neg h1]
    by_cases h2 : i = k
    · subst h2; simp [show i < L.length by omega]
    · by_cases h3 : i = k + 1
      · subst h3; simp [h]
      · obtain ⟨j, rfl⟩ : ∃ j, i = k + 2 + j := ⟨i - (k + 2), by omega⟩
        simp [show ¬ k + 1 = k + 2 + j by omega, show ¬ k = k + 2 + j by omega, show k + 2 + j - k = j + 1 + 1 by omega]

theorem cut_two (L : List Int) (k : Nat) (h : k + 1 < L.length) : L = L.take k ++ L[k] :: L[k + 1] :: L.drop (k + 2) := by
  have e : L.drop k = L[k] :: L[k + 1] :: L.drop (k + 2) := by rw [List.drop_eq_getElem_cons (by omega), List.drop_eq_getElem_cons (by omega)]
  exact (List.take_append_drop k L).symm.trans (by rw [e])

theorem refClose_blk (H : Heap) (m : Int) (L : List Int) (hL : L.length ≤ 900000) (hB : Bs L) :
    ICalls Try.prog 20 [frow 1 m (L.map (Value.int .u8))] H fun v H' => ∃ q, v = .slice (some ⟨q, 0, some 1⟩) (closed L).length 1 ∧ H'.get q = some ⟨(closed L).map (Value.int .u8), true⟩ ∧ H.next ≤ q ∧ Old H H' :=
  (refClose_own H m L hL hB).mono fun v H' ⟨⟨_, h⟩, s⟩ => by
    rcases h with ⟨_, h⟩ | ⟨q, h1, h2, h3⟩
    · simp [closed] at h
    · rw [map_flat] at h3
      exact ⟨q, by simpa using h2, h3, h1, s⟩

theorem sumShows_law (H : Heap) (L : List Int) (at_ a b : Int) (hB : Bs L) (ht : 0 ≤ at_ ∧ at_ < 65536) (ha : 0 ≤ a ∧ a < 256) (hb : 0 ≤ b ∧ b < 256) :
    IBody Try.prog 6 [byts L, .int .u16 at_, .int .u8 a, .int .u8 b] H fun v _ => v = .bool true := by
  by_cases hl : 300 < L.length
  · skip
    refine IBody.of Try.func6 rfl (by rw [Try.ntmps6]; simp) ?_
    rw [Try.ntmps6]
    refine IWp.seq ?_
    refine IWp.run [0, 1, 2, 3] ?_
    simp [go_sem, -getElem?_pos, -List.map_take, -List.map_drop, List.getElem?_cons_zero, List.getElem?_cons_succ, Go.IntWalk.iteOmega, Go.IntWalk.toNatUp, show (300 : Int) < L.length by omega]
    refine IWp.seq ?_
    refine IWp.seq ?_
    refine IWp.run [0, 1, 2, 3, 23] ?_
    simp [go_sem, -getElem?_pos, -List.map_take, -List.map_drop, List.getElem?_cons_zero, List.getElem?_cons_succ, Go.IntWalk.iteOmega, Go.IntWalk.toNatUp, show (300 : Int) < L.length by omega]
    refine IWp.cond ?_
    simp [go_sem, -getElem?_pos, -List.map_take, -List.map_drop, List.getElem?_cons_zero, List.getElem?_cons_succ, Go.IntWalk.iteOmega, Go.IntWalk.toNatUp, show (300 : Int) < L.length by omega]
    refine IWp.seq ?_
    refine IWp.run [8] ?_
    simp [go_sem, -getElem?_pos, -List.map_take, -List.map_drop, List.getElem?_cons_zero, List.getElem?_cons_succ, Go.IntWalk.iteOmega, Go.IntWalk.toNatUp, show (300 : Int) < L.length by omega]
    refine ICalls.mono (letters _) ?_
    rintro v _ ⟨rfl, rfl⟩
    try simp [go_sem, -getElem?_pos, -List.map_take, -List.map_drop, List.getElem?_cons_zero, List.getElem?_cons_succ, Go.IntWalk.iteOmega, Go.IntWalk.toNatUp, show (300 : Int) < L.length by omega]
    refine IWp.ret ?_
    simp [go_sem, -getElem?_pos, -List.map_take, -List.map_drop, List.getElem?_cons_zero, List.getElem?_cons_succ, Go.IntWalk.iteOmega, Go.IntWalk.toNatUp, show (300 : Int) < L.length by omega, Try.results6]
  · by_cases h0 : a = 0 ∧ b = 0
    · obtain ⟨rfl, rfl⟩ := h0
      refine IBody.of Try.func6 rfl (by rw [Try.ntmps6]; simp) ?_
      rw [Try.ntmps6]
      refine IWp.seq ?_
      refine IWp.run [0, 1, 2, 3] ?_
      simp [go_sem, -getElem?_pos, -List.map_take, -List.map_drop, List.getElem?_cons_zero, List.getElem?_cons_succ, Go.IntWalk.iteOmega, Go.IntWalk.toNatUp, show ¬ ((300 : Int) < L.length) by omega]
      refine IWp.seq ?_
      refine IWp.seq ?_
      refine IWp.run [0, 1, 2, 3, 23] ?_
      simp [go_sem, -getElem?_pos, -List.map_take, -List.map_drop, List.getElem?_cons_zero, List.getElem?_cons_succ, Go.IntWalk.iteOmega, Go.IntWalk.toNatUp, show ¬ ((300 : Int) < L.length) by omega]
      refine IWp.cond ?_
      simp [go_sem, -getElem?_pos, -List.map_take, -List.map_drop, List.getElem?_cons_zero, List.getElem?_cons_succ, Go.IntWalk.iteOmega, Go.IntWalk.toNatUp, show ¬ ((300 : Int) < L.length) by omega]
      refine IWp.seq ?_
      refine IWp.run [8] ?_
      simp [go_sem, -getElem?_pos, -List.map_take, -List.map_drop, List.getElem?_cons_zero, List.getElem?_cons_succ, Go.IntWalk.iteOmega, Go.IntWalk.toNatUp, show ¬ ((300 : Int) < L.length) by omega]
      refine ICalls.mono (letters _) ?_
      rintro v _ ⟨rfl, rfl⟩
      try simp [go_sem, -getElem?_pos, -List.map_take, -List.map_drop, List.getElem?_cons_zero, List.getElem?_cons_succ, Go.IntWalk.iteOmega, Go.IntWalk.toNatUp, show ¬ ((300 : Int) < L.length) by omega]
      refine IWp.ret ?_
      simp [go_sem, -getElem?_pos, -List.map_take, -List.map_drop, List.getElem?_cons_zero, List.getElem?_cons_succ, Go.IntWalk.iteOmega, Go.IntWalk.toNatUp, show ¬ ((300 : Int) < L.length) by omega, Try.results6]
    · have hlen := closed_len L
      have hcB := closed_bs hB
      have w0 := IntWalk.i64_in at_ (by omega)
      have w1 := IntWalk.i64_in ((L.length : Int) + 2 - 1) (by omega)
      obtain ⟨k, hk, hk2⟩ : ∃ k : Nat, at_.tmod ((L.length : Int) + 2 - 1) = (k : Int) ∧ k + 1 < (closed L).length := by
        rw [Int.tmod_eq_emod_of_nonneg (by omega)]
        have h1 := Int.emod_nonneg at_ (show ((L.length : Int) + 2 - 1) ≠ 0 by omega)
        have h2 := Int.emod_lt_of_pos at_ (show 0 < ((L.length : Int) + 2 - 1) by omega)
        exact ⟨(at_ % ((L.length : Int) + 2 - 1)).toNat, by omega, by omega⟩
      have hk3 : k < (closed L).length := by omega
      have w2 := IntWalk.i64_in ((k : Int) + 1) (by omega)
      have hc1 := hcB _ (List.getElem_mem hk3)
      have hc2 := hcB _ (List.getElem_mem hk2)
      obtain ⟨c', hc', x1, x2, x3⟩ : ∃ c' : Int, ((BitVec.ofInt 8 (closed L)[k] ^^^ BitVec.ofInt 8 a : BitVec 8).toNat : Int) = c' ∧ 0 ≤ c' ∧ c' < 256 ∧ BitVec.ofInt 16 c' = BitVec.ofInt 16 (closed L)[k] ^^^ BitVec.ofInt 16 a := ⟨_, rfl, byte_xor (closed L)[k] a hc1 ha⟩
      obtain ⟨d', hd', y1, y2, y3⟩ : ∃ d' : Int, ((BitVec.ofInt 8 (closed L)[k + 1] ^^^ BitVec.ofInt 8 b : BitVec 8).toNat : Int) = d' ∧ 0 ≤ d' ∧ d' < 256 ∧ BitVec.ofInt 16 d' = BitVec.ofInt 16 (closed L)[k + 1] ^^^ BitVec.ofInt 16 b := ⟨_, rfl, byte_xor (closed L)[k + 1] b hc2 hb⟩
      have w3 := IntWalk.u8_in c' (by omega)
      have w4 := IntWalk.u8_in d' (by omega)
      have hset := set_two (closed L) k hk2 c' d'
      have hcut := cut_two (closed L) k hk2
      have hbad := turned_shown ((closed L).take k) ((closed L).drop (k + 2)) _ _ a b ha hb h0 _ _ x3 y3 (by rw [← hcut]; exact crc_closed L)
      rw [← hset] at hbad
      have hQ : Bs (((closed L).set k c').set (k + 1) d') := fun x hx => by
        rcases List.mem_or_eq_of_mem_set hx with hx | rfl
        · rcases List.mem_or_eq_of_mem_set hx with hx | rfl
          · exact hcB x hx
          · exact ⟨x1, x2⟩
        · exact ⟨y1, y2⟩
      have hop := opened_bad (L := ((closed L).set k c').set (k + 1) d') (by simp [hlen]) hbad
      by_cases ha0 : a = 0
      · have hda : decide (a = 0) = true := by simp [ha0]
        have hdb : decide (b = 0) = false := by simp; exact fun h => h0 ⟨ha0, h⟩
        refine IBody.of Try.func6 rfl (by rw [Try.ntmps6]; simp) ?_
        rw [Try.ntmps6]
        refine IWp.seq ?_
        refine IWp.run [0, 1, 2, 3] ?_
        simp [go_sem, -getElem?_pos, -List.map_take, -List.map_drop, List.getElem?_cons_zero, List.getElem?_cons_succ, Go.IntWalk.iteOmega, Go.IntWalk.toNatUp, show ¬ ((300 : Int) < L.length) by omega, hda, hdb, hlen, w0, w1, w2, w3, w4, hc', hd', hk, List.getElem?_eq_getElem hk3, List.getElem?_eq_getElem hk2, splice_one, -BitVec.toNat_xor, show ¬ ((k : Int) < 0) by omega, show (k : Int) < L.length + 2 by omega, show (k : Int) + 1 < L.length + 2 by omega, show k < L.length + 2 by omega, show k + 1 < L.length + 2 by omega]
        refine IWp.seq ?_
        refine IWp.seq ?_
        refine IWp.run [0, 1, 2, 3, 23] ?_
        simp [go_sem, -getElem?_pos, -List.map_take, -List.map_drop, List.getElem?_cons_zero, List.getElem?_cons_succ, Go.IntWalk.iteOmega, Go.IntWalk.toNatUp, show ¬ ((300 : Int) < L.length) by omega, hda, hdb, hlen, w0, w1, w2, w3, w4, hc', hd', hk, List.getElem?_eq_getElem hk3, List.getElem?_eq_getElem hk2, splice_one, -BitVec.toNat_xor, show ¬ ((k : Int) < 0) by omega, show (k : Int) < L.length + 2 by omega, show (k : Int) + 1 < L.length + 2 by omega, show k < L.length + 2 by omega, show k + 1 < L.length + 2 by omega]
        refine IWp.cond ?_
        simp [go_sem, -getElem?_pos, -List.map_take, -List.map_drop, List.getElem?_cons_zero, List.getElem?_cons_succ, Go.IntWalk.iteOmega, Go.IntWalk.toNatUp, show ¬ ((300 : Int) < L.length) by omega, hda, hdb, hlen, w0, w1, w2, w3, w4, hc', hd', hk, List.getElem?_eq_getElem hk3, List.getElem?_eq_getElem hk2, splice_one, -BitVec.toNat_xor, show ¬ ((k : Int) < 0) by omega, show (k : Int) < L.length + 2 by omega, show (k : Int) + 1 < L.length + 2 by omega, show k < L.length + 2 by omega, show k + 1 < L.length + 2 by omega]
        refine IWp.trim [0, 1, 2, 3] (IWp.skip ?_)
        simp [go_sem, -getElem?_pos, -List.map_take, -List.map_drop, List.getElem?_cons_zero, List.getElem?_cons_succ, Go.IntWalk.iteOmega, Go.IntWalk.toNatUp, show ¬ ((300 : Int) < L.length) by omega, hda, hdb, hlen, w0, w1, w2, w3, w4, hc', hd', hk, List.getElem?_eq_getElem hk3, List.getElem?_eq_getElem hk2, splice_one, -BitVec.toNat_xor, show ¬ ((k : Int) < 0) by omega, show (k : Int) < L.length + 2 by omega, show (k : Int) + 1 < L.length + 2 by omega, show k < L.length + 2 by omega, show k + 1 < L.length + 2 by omega]
        refine IWp.seq ?_
        refine IWp.run [1, 2, 3, 9] ?_
        simp [go_sem, -getElem?_pos, -List.map_take, -List.map_drop, List.getElem?_cons_zero, List.getElem?_cons_succ, Go.IntWalk.iteOmega, Go.IntWalk.toNatUp, show ¬ ((300 : Int) < L.length) by omega, hda, hdb, hlen, w0, w1, w2, w3, w4, hc', hd', hk, List.getElem?_eq_getElem hk3, List.getElem?_eq_getElem hk2, splice_one, -BitVec.toNat_xor, show ¬ ((k : Int) < 0) by omega, show (k : Int) < L.length + 2 by omega, show (k : Int) + 1 < L.length + 2 by omega, show k < L.length + 2 by omega, show k + 1 < L.length + 2 by omega]
        refine ICalls.mono (refClose_blk _ 0 L (by omega) hB) ?_
        rintro v H1 ⟨q, rfl, hg, hq, s1⟩
        try simp [go_sem, -getElem?_pos, -List.map_take, -List.map_drop, List.getElem?_cons_zero, List.getElem?_cons_succ, Go.IntWalk.iteOmega, Go.IntWalk.toNatUp, show ¬ ((300 : Int) < L.length) by omega, hda, hdb, hlen, w0, w1, w2, w3, w4, hc', hd', hk, List.getElem?_eq_getElem hk3, List.getElem?_eq_getElem hk2, splice_one, -BitVec.toNat_xor, show ¬ ((k : Int) < 0) by omega, show (k : Int) < L.length + 2 by omega, show (k : Int) + 1 < L.length + 2 by omega, show k < L.length + 2 by omega, show k + 1 < L.length + 2 by omega, hg]
        refine IWp.seq ?_
        refine IWp.run [2, 3, 9, 10] ?_
        simp [go_sem, -getElem?_pos, -List.map_take, -List.map_drop, List.getElem?_cons_zero, List.getElem?_cons_succ, Go.IntWalk.iteOmega, Go.IntWalk.toNatUp, show ¬ ((300 : Int) < L.length) by omega, hda, hdb, hlen, w0, w1, w2, w3, w4, hc', hd', hk, List.getElem?_eq_getElem hk3, List.getElem?_eq_getElem hk2, splice_one, -BitVec.toNat_xor, show ¬ ((k : Int) < 0) by omega, show (k : Int) < L.length + 2 by omega, show (k : Int) + 1 < L.length + 2 by omega, show k < L.length + 2 by omega, show k + 1 < L.length + 2 by omega, hg]
        refine IWp.seq ?_
        refine IWp.run [3, 9, 10] ?_
        simp [go_sem, -getElem?_pos, -List.map_take, -List.map_drop, List.getElem?_cons_zero, List.getElem?_cons_succ, Go.IntWalk.iteOmega, Go.IntWalk.toNatUp, show ¬ ((300 : Int) < L.length) by omega, hda, hdb, hlen, w0, w1, w2, w3, w4, hc', hd', hk, List.getElem?_eq_getElem hk3, List.getElem?_eq_getElem hk2, splice_one, -BitVec.toNat_xor, show ¬ ((k : Int) < 0) by omega, show (k : Int) < L.length + 2 by omega, show (k : Int) + 1 < L.length + 2 by omega, show k < L.length + 2 by omega, show k + 1 < L.length + 2 by omega, hg]
        refine IWp.seq ?_
        refine IWp.run [9] ?_
        simp [go_sem, -getElem?_pos, -List.map_take, -List.map_drop, List.getElem?_cons_zero, List.getElem?_cons_succ, Go.IntWalk.iteOmega, Go.IntWalk.toNatUp, show ¬ ((300 : Int) < L.length) by omega, hda, hdb, hlen, w0, w1, w2, w3, w4, hc', hd', hk, List.getElem?_eq_getElem hk3, List.getElem?_eq_getElem hk2, splice_one, -BitVec.toNat_xor, show ¬ ((k : Int) < 0) by omega, show (k : Int) < L.length + 2 by omega, show (k : Int) + 1 < L.length + 2 by omega, show k < L.length + 2 by omega, show k + 1 < L.length + 2 by omega, hg]
        refine IWp.seq ?_
        refine IWp.run [11, 12] ?_
        simp [go_sem, -getElem?_pos, -List.map_take, -List.map_drop, List.getElem?_cons_zero, List.getElem?_cons_succ, Go.IntWalk.iteOmega, Go.IntWalk.toNatUp, show ¬ ((300 : Int) < L.length) by omega, hda, hdb, hlen, w0, w1, w2, w3, w4, hc', hd', hk, List.getElem?_eq_getElem hk3, List.getElem?_eq_getElem hk2, splice_one, -BitVec.toNat_xor, show ¬ ((k : Int) < 0) by omega, show (k : Int) < L.length + 2 by omega, show (k : Int) + 1 < L.length + 2 by omega, show k < L.length + 2 by omega, show k + 1 < L.length + 2 by omega, hg]
        refine ICalls.freeze1 q (.cons (frz_lit ((((closed L).set k c').set (k + 1) d').map (Value.int .u8)) (by simp only [get_set, if_true, hg, Option.map_some]; rfl) (by rw [map_flat]; simp only [List.map_set]) (map_sz .u8 _) (by simp [hlen]) (by simp)) .nil) (ICalls.mono (openSum _ 0 _ (by simp [hlen]; omega) hQ) ?_)
        rintro v H2 ⟨rfl, rfl⟩
        simp [go_sem, hop]
        refine IWp.seq ?_
        refine IWp.run [8] ?_
        simp [go_sem, -getElem?_pos, -List.map_take, -List.map_drop, List.getElem?_cons_zero, List.getElem?_cons_succ, Go.IntWalk.iteOmega, Go.IntWalk.toNatUp]
        refine ICalls.mono (letters _) ?_
        rintro v _ ⟨rfl, rfl⟩
        try simp [go_sem, -getElem?_pos, -List.map_take, -List.map_drop, List.getElem?_cons_zero, List.getElem?_cons_succ, Go.IntWalk.iteOmega, Go.IntWalk.toNatUp]
        refine IWp.ret ?_
        simp [go_sem, -getElem?_pos, -List.map_take, -List.map_drop, List.getElem?_cons_zero, List.getElem?_cons_succ, Go.IntWalk.iteOmega, Go.IntWalk.toNatUp, Try.results6]
      · have hda : decide (a = 0) = false := by simp [ha0]
        refine IBody.of Try.func6 rfl (by rw [Try.ntmps6]; simp) ?_
        rw [Try.ntmps6]
        refine IWp.seq ?_
        refine IWp.run [0, 1, 2, 3] ?_
        simp [go_sem, -getElem?_pos, -List.map_take, -List.map_drop, List.getElem?_cons_zero, List.getElem?_cons_succ, Go.IntWalk.iteOmega, Go.IntWalk.toNatUp, show ¬ ((300 : Int) < L.length) by omega, hda, hlen, w0, w1, w2, w3, w4, hc', hd', hk, List.getElem?_eq_getElem hk3, List.getElem?_eq_getElem hk2, splice_one, -BitVec.toNat_xor, show ¬ ((k : Int) < 0) by omega, show (k : Int) < L.length + 2 by omega, show (k : Int) + 1 < L.length + 2 by omega, show k < L.length + 2 by omega, show k + 1 < L.length + 2 by omega]
        refine IWp.seq ?_
        refine IWp.seq ?_
        refine IWp.run [0, 1, 2, 3, 23] ?_
        simp [go_sem, -getElem?_pos, -List.map_take, -List.map_drop, List.getElem?_cons_zero, List.getElem?_cons_succ, Go.IntWalk.iteOmega, Go.IntWalk.toNatUp, show ¬ ((300 : Int) < L.length) by omega, hda, hlen, w0, w1, w2, w3, w4, hc', hd', hk, List.getElem?_eq_getElem hk3, List.getElem?_eq_getElem hk2, splice_one, -BitVec.toNat_xor, show ¬ ((k : Int) < 0) by omega, show (k : Int) < L.length + 2 by omega, show (k : Int) + 1 < L.length + 2 by omega, show k < L.length + 2 by omega, show k + 1 < L.length + 2 by omega]
        refine IWp.cond ?_
        simp [go_sem, -getElem?_pos, -List.map_take, -List.map_drop, List.getElem?_cons_zero, List.getElem?_cons_succ, Go.IntWalk.iteOmega, Go.IntWalk.toNatUp, show ¬ ((300 : Int) < L.length) by omega, hda, hlen, w0, w1, w2, w3, w4, hc', hd', hk, List.getElem?_eq_getElem hk3, List.getElem?_eq_getElem hk2, splice_one, -BitVec.toNat_xor, show ¬ ((k : Int) < 0) by omega, show (k : Int) < L.length + 2 by omega, show (k : Int) + 1 < L.length + 2 by omega, show k < L.length + 2 by omega, show k + 1 < L.length + 2 by omega]
        refine IWp.trim [0, 1, 2, 3] (IWp.skip ?_)
        simp [go_sem, -getElem?_pos, -List.map_take, -List.map_drop, List.getElem?_cons_zero, List.getElem?_cons_succ, Go.IntWalk.iteOmega, Go.IntWalk.toNatUp, show ¬ ((300 : Int) < L.length) by omega, hda, hlen, w0, w1, w2, w3, w4, hc', hd', hk, List.getElem?_eq_getElem hk3, List.getElem?_eq_getElem hk2, splice_one, -BitVec.toNat_xor, show ¬ ((k : Int) < 0) by omega, show (k : Int) < L.length + 2 by omega, show (k : Int) + 1 < L.length + 2 by omega, show k < L.length + 2 by omega, show k + 1 < L.length + 2 by omega]
        refine IWp.seq ?_
        refine IWp.run [1, 2, 3, 9] ?_
        simp [go_sem, -getElem?_pos, -List.map_take, -List.map_drop, List.getElem?_cons_zero, List.getElem?_cons_succ, Go.IntWalk.iteOmega, Go.IntWalk.toNatUp, show ¬ ((300 : Int) < L.length) by omega, hda, hlen, w0, w1, w2, w3, w4, hc', hd', hk, List.getElem?_eq_getElem hk3, List.getElem?_eq_getElem hk2, splice_one, -BitVec.toNat_xor, show ¬ ((k : Int) < 0) by omega, show (k : Int) < L.length + 2 by omega, show (k : Int) + 1 < L.length + 2 by omega, show k < L.length + 2 by omega, show k + 1 < L.length + 2 by omega]
        refine ICalls.mono (refClose_blk _ 0 L (by omega) hB) ?_
        rintro v H1 ⟨q, rfl, hg, hq, s1⟩
        try simp [go_sem, -getElem?_pos, -List.map_take, -List.map_drop, List.getElem?_cons_zero, List.getElem?_cons_succ, Go.IntWalk.iteOmega, Go.IntWalk.toNatUp, show ¬ ((300 : Int) < L.length) by omega, hda, hlen, w0, w1, w2, w3, w4, hc', hd', hk, List.getElem?_eq_getElem hk3, List.getElem?_eq_getElem hk2, splice_one, -BitVec.toNat_xor, show ¬ ((k : Int) < 0) by omega, show (k : Int) < L.length + 2 by omega, show (k : Int) + 1 < L.length + 2 by omega, show k < L.length + 2 by omega, show k + 1 < L.length + 2 by omega, hg]
        refine IWp.seq ?_
        refine IWp.run [2, 3, 9, 10] ?_
        simp [go_sem, -getElem?_pos, -List.map_take, -List.map_drop, List.getElem?_cons_zero, List.getElem?_cons_succ, Go.IntWalk.iteOmega, Go.IntWalk.toNatUp, show ¬ ((300 : Int) < L.length) by omega, hda, hlen, w0, w1, w2, w3, w4, hc', hd', hk, List.getElem?_eq_getElem hk3, List.getElem?_eq_getElem hk2, splice_one, -BitVec.toNat_xor, show ¬ ((k : Int) < 0) by omega, show (k : Int) < L.length + 2 by omega, show (k : Int) + 1 < L.length + 2 by omega, show k < L.length + 2 by omega, show k + 1 < L.length + 2 by omega, hg]
        refine IWp.seq ?_
        refine IWp.run [3, 9, 10] ?_
        simp [go_sem, -getElem?_pos, -List.map_take, -List.map_drop, List.getElem?_cons_zero, List.getElem?_cons_succ, Go.IntWalk.iteOmega, Go.IntWalk.toNatUp, show ¬ ((300 : Int) < L.length) by omega, hda, hlen, w0, w1, w2, w3, w4, hc', hd', hk, List.getElem?_eq_getElem hk3, List.getElem?_eq_getElem hk2, splice_one, -BitVec.toNat_xor, show ¬ ((k : Int) < 0) by omega, show (k : Int) < L.length + 2 by omega, show (k : Int) + 1 < L.length + 2 by omega, show k < L.length + 2 by omega, show k + 1 < L.length + 2 by omega, hg]
        refine IWp.seq ?_
        refine IWp.run [9] ?_
        simp [go_sem, -getElem?_pos, -List.map_take, -List.map_drop, List.getElem?_cons_zero, List.getElem?_cons_succ, Go.IntWalk.iteOmega, Go.IntWalk.toNatUp, show ¬ ((300 : Int) < L.length) by omega, hda, hlen, w0, w1, w2, w3, w4, hc', hd', hk, List.getElem?_eq_getElem hk3, List.getElem?_eq_getElem hk2, splice_one, -BitVec.toNat_xor, show ¬ ((k : Int) < 0) by omega, show (k : Int) < L.length + 2 by omega, show (k : Int) + 1 < L.length + 2 by omega, show k < L.length + 2 by omega, show k + 1 < L.length + 2 by omega, hg]
        refine IWp.seq ?_
        refine IWp.run [11, 12] ?_
        simp [go_sem, -getElem?_pos, -List.map_take, -List.map_drop, List.getElem?_cons_zero, List.getElem?_cons_succ, Go.IntWalk.iteOmega, Go.IntWalk.toNatUp, show ¬ ((300 : Int) < L.length) by omega, hda, hlen, w0, w1, w2, w3, w4, hc', hd', hk, List.getElem?_eq_getElem hk3, List.getElem?_eq_getElem hk2, splice_one, -BitVec.toNat_xor, show ¬ ((k : Int) < 0) by omega, show (k : Int) < L.length + 2 by omega, show (k : Int) + 1 < L.length + 2 by omega, show k < L.length + 2 by omega, show k + 1 < L.length + 2 by omega, hg]
        refine ICalls.freeze1 q (.cons (frz_lit ((((closed L).set k c').set (k + 1) d').map (Value.int .u8)) (by simp only [get_set, if_true, hg, Option.map_some]; rfl) (by rw [map_flat]; simp only [List.map_set]) (map_sz .u8 _) (by simp [hlen]) (by simp)) .nil) (ICalls.mono (openSum _ 0 _ (by simp [hlen]; omega) hQ) ?_)
        rintro v H2 ⟨rfl, rfl⟩
        simp [go_sem, hop]
        refine IWp.seq ?_
        refine IWp.run [8] ?_
        simp [go_sem, -getElem?_pos, -List.map_take, -List.map_drop, List.getElem?_cons_zero, List.getElem?_cons_succ, Go.IntWalk.iteOmega, Go.IntWalk.toNatUp]
        refine ICalls.mono (letters _) ?_
        rintro v _ ⟨rfl, rfl⟩
        try simp [go_sem, -getElem?_pos, -List.map_take, -List.map_drop, List.getElem?_cons_zero, List.getElem?_cons_succ, Go.IntWalk.iteOmega, Go.IntWalk.toNatUp]
        refine IWp.ret ?_
        simp [go_sem, -getElem?_pos, -List.map_take, -List.map_drop, List.getElem?_cons_zero, List.getElem?_cons_succ, Go.IntWalk.iteOmega, Go.IntWalk.toNatUp, Try.results6]

end Go.Proofs.Ytneiiglfdhghkaa.I
