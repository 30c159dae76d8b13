/- The sum of bytes: what the program reckons. No condition. -/
import Derived.Test.YtneiiglfdhghkaaCBytes
namespace Go.Proofs.Ytneiiglfdhghkaa.I
open Go Go.RowKit
set_option linter.unusedVariables false
set_option linter.unusedSimpArgs false

def turn1 (x : BitVec 16) : BitVec 16 := if x &&& 32768#16 = 0#16 then x <<< 1 else (x <<< 1) ^^^ 4129#16
def turns : Nat → BitVec 16 → BitVec 16
  | 0, x => x
  | k + 1, x => turn1 (turns k x)
def crcByte (x : BitVec 16) (b : Int) : BitVec 16 := turns 8 (x ^^^ (BitVec.ofInt 16 b <<< 8))
def crc (L : List Int) : BitVec 16 := L.foldl crcByte 65535#16

theorem b16 (x : BitVec 16) : BitVec.ofInt 16 (x.toNat : Int) = x := by
  apply BitVec.eq_of_toNat_eq; rw [BitVec.toNat_ofInt]; have := x.isLt; omega
theorem w16 (x : BitVec 16) : IntKind.u16.wrap (x.toNat : Int) = x.toNat := IntWalk.u16_in _ (by have := x.isLt; omega)
theorem wrap_u16' (n : Int) : IntKind.u16.wrap n = n % 65536 := by simp [IntKind.wrap, IntKind.bits, IntKind.signed]
theorem sh1 (x : BitVec 16) : IntKind.u16.wrap ((x.toNat : Int) * 2) = ((x <<< 1).toNat : Int) := by
  rw [wrap_u16', BitVec.toNat_shiftLeft, Nat.shiftLeft_eq]; omega
theorem sh8 (b : Int) (h : 0 ≤ b ∧ b < 256) : IntKind.u16.wrap (b * 256) = ((BitVec.ofInt 16 b <<< 8).toNat : Int) := by
  rw [wrap_u16', BitVec.toNat_shiftLeft, Nat.shiftLeft_eq, BitVec.toNat_ofInt]; omega
theorem zero16 (x : BitVec 16) : ((x.toNat : Int) = 0) = (x = 0#16) := by
  apply propext
  refine ⟨fun h => BitVec.eq_of_toNat_eq (by simp; omega), fun h => by rw [h]; rfl⟩

theorem zero16n (x : BitVec 16) : (x.toNat = 0) = (x = 0#16) := by
  apply propext
  exact ⟨fun h => BitVec.eq_of_toNat_eq (by simp; omega), fun h => by rw [h]; rfl⟩

theorem sumOf (H : Heap) (p : Option Addr) (c : Nat) (L : List Int) (hL : L.length ≤ 1000000) (hB : Bs L) (h : Row H p c L) :
    ICalls Try.prog 14 [.slice p L.length c] H fun v H' => v = .int .u16 ((crc L).toNat : Int) ∧ H' = H := by
  refine IBody.calls (by kernel_rfl) ?_
  refine IBody.of Try.func14 rfl (by rw [Try.ntmps14]; simp) ?_
  rw [Try.ntmps14]
  refine IWp.seq ?_
  refine IWp.run [0] ?_
  simp [go_sem, -getElem?_pos, List.getElem?_cons_zero, List.getElem?_cons_succ, Go.IntWalk.iteOmega, Go.IntWalk.toNatUp]
  refine IWp.seq ?_
  refine IWp.run [0, 3] ?_
  simp [go_sem, -getElem?_pos, List.getElem?_cons_zero, List.getElem?_cons_succ, Go.IntWalk.iteOmega, Go.IntWalk.toNatUp]
  refine IWp.seq ?_
  refine IWp.seq ?_
  refine IWp.run [3, 7, 8, 9] ?_
  simp [go_sem, -getElem?_pos, List.getElem?_cons_zero, List.getElem?_cons_succ, Go.IntWalk.iteOmega, Go.IntWalk.toNatUp]
  refine IWp.block ?_
  -- LOOP live [3, 7, 8, 9]
  refine IWp.loop (fun j e K => ∃ i : Nat, j = L.length - i ∧ i ≤ L.length ∧ e = [(3, .int .u16 ((crc (L.take i)).toNat : Int)), (7, .slice p L.length c), (8, .int .i64 (L.length : Int)), (9, .int .i64 (i : Int))] ∧ K = H) L.length ⟨0, rfl, Nat.zero_le _, rfl, rfl⟩ ?_
  rintro j e K ⟨i, rfl, hi, rfl, rfl⟩
  by_cases hlt : i < L.length
  · have w1 := IntWalk.i64_in ((i : Int) + 1) (by omega)
    rcases h with ⟨_, _, rfl⟩ | ⟨rfl, _⟩ | ⟨hne, b, o, cs, own, rfl, hg, hle, hrow⟩
    · simp at hlt
    · simp at hlt
    have a1 := row_at hrow i hlt
    have hb := hB _ (List.getElem_mem hlt)
    have w2 := IntWalk.u16_in L[i] (by omega)
    have w3 := sh8 L[i] hb
    refine IWp.seq ?_
    refine IWp.run [3, 7, 8, 9, 10] ?_
    simp [go_sem, -getElem?_pos, List.getElem?_cons_zero, List.getElem?_cons_succ, Go.IntWalk.iteOmega, Go.IntWalk.toNatUp, hlt, hg, a1, w1, w2, w3, b16, w16, -BitVec.toNat_and, -BitVec.toNat_xor, -BitVec.toNat_shiftLeft, show ¬ ((i : Int) < 0) by omega]
    refine IWp.seq ?_
    refine IWp.cond ?_
    simp [go_sem, -getElem?_pos, List.getElem?_cons_zero, List.getElem?_cons_succ, Go.IntWalk.iteOmega, Go.IntWalk.toNatUp, hlt, hg, a1, w1, w2, w3, b16, w16, -BitVec.toNat_and, -BitVec.toNat_xor, -BitVec.toNat_shiftLeft, show ¬ ((i : Int) < 0) by omega]
    refine IWp.trim [3, 7, 8, 9] (IWp.skip ?_)
    simp [go_sem, -getElem?_pos, List.getElem?_cons_zero, List.getElem?_cons_succ, Go.IntWalk.iteOmega, Go.IntWalk.toNatUp, hlt, hg, a1, w1, w2, w3, b16, w16, -BitVec.toNat_and, -BitVec.toNat_xor, -BitVec.toNat_shiftLeft, show ¬ ((i : Int) < 0) by omega]
    refine IWp.seq ?_
    refine IWp.block ?_
    refine IWp.seq ?_
    refine IWp.run [3, 5, 7, 8, 9] ?_
    simp [go_sem, -getElem?_pos, List.getElem?_cons_zero, List.getElem?_cons_succ, Go.IntWalk.iteOmega, Go.IntWalk.toNatUp, hlt, hg, a1, w1, w2, w3, b16, w16, -BitVec.toNat_and, -BitVec.toNat_xor, -BitVec.toNat_shiftLeft, show ¬ ((i : Int) < 0) by omega]
    refine IWp.seq ?_
    refine IWp.run [3, 7, 8, 9] ?_
    simp [go_sem, -getElem?_pos, List.getElem?_cons_zero, List.getElem?_cons_succ, Go.IntWalk.iteOmega, Go.IntWalk.toNatUp, hlt, hg, a1, w1, w2, w3, b16, w16, -BitVec.toNat_and, -BitVec.toNat_xor, -BitVec.toNat_shiftLeft, show ¬ ((i : Int) < 0) by omega]
    refine IWp.seq ?_
    refine IWp.run [3, 7, 8, 9, 18] ?_
    simp [go_sem, -getElem?_pos, List.getElem?_cons_zero, List.getElem?_cons_succ, Go.IntWalk.iteOmega, Go.IntWalk.toNatUp, hlt, hg, a1, w1, w2, w3, b16, w16, -BitVec.toNat_and, -BitVec.toNat_xor, -BitVec.toNat_shiftLeft, show ¬ ((i : Int) < 0) by omega]
    refine IWp.block ?_
    -- LOOP live [3, 7, 8, 9, 18]
    refine IWp.loop (fun j e K2 => ∃ m : Nat, j = 8 - m ∧ m ≤ 8 ∧ e = [(3, .int .u16 ((turns m (crc (L.take i) ^^^ (BitVec.ofInt 16 L[i] <<< 8))).toNat : Int)), (7, .slice (some ⟨b, o, some 1⟩) L.length c), (8, .int .i64 (L.length : Int)), (9, .int .i64 (i : Int)), (18, .int .i64 (m : Int))] ∧ K2 = K) 8 ⟨0, rfl, by omega, rfl, rfl⟩ ?_
    rintro j e K2 ⟨m, rfl, hm, rfl, rfl⟩
    by_cases hm8 : m < 8
    · have w5 := IntWalk.i64_in ((m : Int) + 1) (by omega)
      generalize hx : turns m (crc (L.take i) ^^^ (BitVec.ofInt 16 L[i] <<< 8)) = x
      by_cases ht : x &&& 32768#16 = 0#16
      · have ht2 : (x &&& 32768#16).toNat = 0 := by rw [ht]; rfl
        refine IWp.seq ?_
        refine IWp.run [3, 7, 8, 9, 18, 19] ?_
        simp [go_sem, -getElem?_pos, List.getElem?_cons_zero, List.getElem?_cons_succ, Go.IntWalk.iteOmega, Go.IntWalk.toNatUp, ht2, b16, w16, sh1, w5, -BitVec.toNat_and, -BitVec.toNat_xor, -BitVec.toNat_shiftLeft, show (m : Int) < 8 by omega]
        refine IWp.seq ?_
        refine IWp.cond ?_
        simp [go_sem, -getElem?_pos, List.getElem?_cons_zero, List.getElem?_cons_succ, Go.IntWalk.iteOmega, Go.IntWalk.toNatUp, ht2, b16, w16, sh1, w5, -BitVec.toNat_and, -BitVec.toNat_xor, -BitVec.toNat_shiftLeft, show (m : Int) < 8 by omega]
        refine IWp.trim [3, 7, 8, 9, 18] (IWp.skip ?_)
        simp [go_sem, -getElem?_pos, List.getElem?_cons_zero, List.getElem?_cons_succ, Go.IntWalk.iteOmega, Go.IntWalk.toNatUp, ht2, b16, w16, sh1, w5, -BitVec.toNat_and, -BitVec.toNat_xor, -BitVec.toNat_shiftLeft, show (m : Int) < 8 by omega]
        refine IWp.seq ?_
        refine IWp.block ?_
        refine IWp.seq ?_
        refine IWp.run [3, 6, 7, 8, 9, 18] ?_
        simp [go_sem, -getElem?_pos, List.getElem?_cons_zero, List.getElem?_cons_succ, Go.IntWalk.iteOmega, Go.IntWalk.toNatUp, ht2, b16, w16, sh1, w5, -BitVec.toNat_and, -BitVec.toNat_xor, -BitVec.toNat_shiftLeft, show (m : Int) < 8 by omega]
        refine IWp.seq ?_
        refine IWp.run [3, 6, 7, 8, 9, 18] ?_
        simp [go_sem, -getElem?_pos, List.getElem?_cons_zero, List.getElem?_cons_succ, Go.IntWalk.iteOmega, Go.IntWalk.toNatUp, ht2, b16, w16, sh1, w5, -BitVec.toNat_and, -BitVec.toNat_xor, -BitVec.toNat_shiftLeft, show (m : Int) < 8 by omega]
        refine IWp.seq ?_
        refine IWp.run [3, 7, 8, 9, 18, 25] ?_
        simp [go_sem, -getElem?_pos, List.getElem?_cons_zero, List.getElem?_cons_succ, Go.IntWalk.iteOmega, Go.IntWalk.toNatUp, ht2, b16, w16, sh1, w5, -BitVec.toNat_and, -BitVec.toNat_xor, -BitVec.toNat_shiftLeft, show (m : Int) < 8 by omega]
        refine IWp.cond ?_
        simp [go_sem, -getElem?_pos, List.getElem?_cons_zero, List.getElem?_cons_succ, Go.IntWalk.iteOmega, Go.IntWalk.toNatUp, ht2, b16, w16, sh1, w5, -BitVec.toNat_and, -BitVec.toNat_xor, -BitVec.toNat_shiftLeft, show (m : Int) < 8 by omega]
        refine IWp.trim [3, 7, 8, 9, 18] (IWp.skip ?_)
        simp [go_sem, -getElem?_pos, List.getElem?_cons_zero, List.getElem?_cons_succ, Go.IntWalk.iteOmega, Go.IntWalk.toNatUp, ht2, b16, w16, sh1, w5, -BitVec.toNat_and, -BitVec.toNat_xor, -BitVec.toNat_shiftLeft, show (m : Int) < 8 by omega]
        refine IWp.run [3, 7, 8, 9, 18] ?_
        simp [go_sem, -getElem?_pos, List.getElem?_cons_zero, List.getElem?_cons_succ, Go.IntWalk.iteOmega, Go.IntWalk.toNatUp, ht2, b16, w16, sh1, w5, -BitVec.toNat_and, -BitVec.toNat_xor, -BitVec.toNat_shiftLeft, show (m : Int) < 8 by omega]
        exact ⟨8 - (m + 1), by omega, m + 1, rfl, by omega, by simp only [turns, hx, turn1, if_pos ht], rfl⟩
      · have ht2 : ¬ (x &&& 32768#16).toNat = 0 := fun e => ht (BitVec.eq_of_toNat_eq (by rw [e]; rfl))
        refine IWp.seq ?_
        refine IWp.run [3, 7, 8, 9, 18, 19] ?_
        simp [go_sem, -getElem?_pos, List.getElem?_cons_zero, List.getElem?_cons_succ, Go.IntWalk.iteOmega, Go.IntWalk.toNatUp, ht2, b16, w16, sh1, w5, -BitVec.toNat_and, -BitVec.toNat_xor, -BitVec.toNat_shiftLeft, show (m : Int) < 8 by omega]
        refine IWp.seq ?_
        refine IWp.cond ?_
        simp [go_sem, -getElem?_pos, List.getElem?_cons_zero, List.getElem?_cons_succ, Go.IntWalk.iteOmega, Go.IntWalk.toNatUp, ht2, b16, w16, sh1, w5, -BitVec.toNat_and, -BitVec.toNat_xor, -BitVec.toNat_shiftLeft, show (m : Int) < 8 by omega]
        refine IWp.trim [3, 7, 8, 9, 18] (IWp.skip ?_)
        simp [go_sem, -getElem?_pos, List.getElem?_cons_zero, List.getElem?_cons_succ, Go.IntWalk.iteOmega, Go.IntWalk.toNatUp, ht2, b16, w16, sh1, w5, -BitVec.toNat_and, -BitVec.toNat_xor, -BitVec.toNat_shiftLeft, show (m : Int) < 8 by omega]
        refine IWp.seq ?_
        refine IWp.block ?_
        refine IWp.seq ?_
        refine IWp.run [3, 6, 7, 8, 9, 18] ?_
        simp [go_sem, -getElem?_pos, List.getElem?_cons_zero, List.getElem?_cons_succ, Go.IntWalk.iteOmega, Go.IntWalk.toNatUp, ht2, b16, w16, sh1, w5, -BitVec.toNat_and, -BitVec.toNat_xor, -BitVec.toNat_shiftLeft, show (m : Int) < 8 by omega]
        refine IWp.seq ?_
        refine IWp.run [3, 6, 7, 8, 9, 18] ?_
        simp [go_sem, -getElem?_pos, List.getElem?_cons_zero, List.getElem?_cons_succ, Go.IntWalk.iteOmega, Go.IntWalk.toNatUp, ht2, b16, w16, sh1, w5, -BitVec.toNat_and, -BitVec.toNat_xor, -BitVec.toNat_shiftLeft, show (m : Int) < 8 by omega]
        refine IWp.seq ?_
        refine IWp.run [3, 7, 8, 9, 18, 25] ?_
        simp [go_sem, -getElem?_pos, List.getElem?_cons_zero, List.getElem?_cons_succ, Go.IntWalk.iteOmega, Go.IntWalk.toNatUp, ht2, b16, w16, sh1, w5, -BitVec.toNat_and, -BitVec.toNat_xor, -BitVec.toNat_shiftLeft, show (m : Int) < 8 by omega]
        refine IWp.cond ?_
        simp [go_sem, -getElem?_pos, List.getElem?_cons_zero, List.getElem?_cons_succ, Go.IntWalk.iteOmega, Go.IntWalk.toNatUp, ht2, b16, w16, sh1, w5, -BitVec.toNat_and, -BitVec.toNat_xor, -BitVec.toNat_shiftLeft, show (m : Int) < 8 by omega]
        refine IWp.run [3, 7, 8, 9, 18] ?_
        simp [go_sem, -getElem?_pos, List.getElem?_cons_zero, List.getElem?_cons_succ, Go.IntWalk.iteOmega, Go.IntWalk.toNatUp, ht2, b16, w16, sh1, w5, -BitVec.toNat_and, -BitVec.toNat_xor, -BitVec.toNat_shiftLeft, show (m : Int) < 8 by omega]
        refine IWp.run [3, 7, 8, 9, 18] ?_
        simp [go_sem, -getElem?_pos, List.getElem?_cons_zero, List.getElem?_cons_succ, Go.IntWalk.iteOmega, Go.IntWalk.toNatUp, ht2, b16, w16, sh1, w5, -BitVec.toNat_and, -BitVec.toNat_xor, -BitVec.toNat_shiftLeft, show (m : Int) < 8 by omega]
        exact ⟨8 - (m + 1), by omega, m + 1, rfl, by omega, by simp only [turns, hx, turn1, if_neg ht], rfl⟩
    · have hm' : m = 8 := by omega
      subst hm'
      refine IWp.seq ?_
      refine IWp.run [3, 7, 8, 9, 18, 19] ?_
      simp [go_sem, -getElem?_pos, List.getElem?_cons_zero, List.getElem?_cons_succ, Go.IntWalk.iteOmega, Go.IntWalk.toNatUp, w1]
      refine IWp.seq ?_
      refine IWp.cond ?_
      simp [go_sem, -getElem?_pos, List.getElem?_cons_zero, List.getElem?_cons_succ, Go.IntWalk.iteOmega, Go.IntWalk.toNatUp, w1]
      refine IWp.trim [3, 7, 8, 9] (IWp.exit ?_)
      simp [go_sem, -getElem?_pos, List.getElem?_cons_zero, List.getElem?_cons_succ, Go.IntWalk.iteOmega, Go.IntWalk.toNatUp, w1]
      refine IWp.run [3, 7, 8, 9] ?_
      simp [go_sem, -getElem?_pos, List.getElem?_cons_zero, List.getElem?_cons_succ, Go.IntWalk.iteOmega, Go.IntWalk.toNatUp, w1]
      exact ⟨L.length - (i + 1), by omega, i + 1, rfl, by omega, by rw [List.take_succ_eq_append_getElem hlt]; simp only [crc, List.foldl_append, List.foldl_cons, List.foldl_nil, crcByte], rfl⟩
  · skip
    refine IWp.seq ?_
    refine IWp.run [3, 7, 8, 9, 10] ?_
    simp [go_sem, -getElem?_pos, List.getElem?_cons_zero, List.getElem?_cons_succ, Go.IntWalk.iteOmega, Go.IntWalk.toNatUp, show ¬ ((i : Int) < L.length) by omega]
    refine IWp.seq ?_
    refine IWp.cond ?_
    simp [go_sem, -getElem?_pos, List.getElem?_cons_zero, List.getElem?_cons_succ, Go.IntWalk.iteOmega, Go.IntWalk.toNatUp, show ¬ ((i : Int) < L.length) by omega]
    refine IWp.trim [3] (IWp.exit ?_)
    simp [go_sem, -getElem?_pos, List.getElem?_cons_zero, List.getElem?_cons_succ, Go.IntWalk.iteOmega, Go.IntWalk.toNatUp, show ¬ ((i : Int) < L.length) by omega]
    refine IWp.seq ?_
    refine IWp.run [2] ?_
    simp [go_sem, -getElem?_pos, List.getElem?_cons_zero, List.getElem?_cons_succ, Go.IntWalk.iteOmega, Go.IntWalk.toNatUp, show ¬ ((i : Int) < L.length) by omega]
    refine IWp.ret ?_
    simp [go_sem, -getElem?_pos, List.getElem?_cons_zero, List.getElem?_cons_succ, Go.IntWalk.iteOmega, Go.IntWalk.toNatUp, show ¬ ((i : Int) < L.length) by omega, Try.results14]
    rw [List.take_of_length_le (by omega)]

theorem fd8 (x : BitVec 16) : (x.toNat : Int).fdiv 256 = (x.toNat : Int) / 256 := Int.fdiv_eq_ediv_of_nonneg _ (by decide)
theorem lo8 (x : BitVec 16) : IntKind.u8.wrap (x.toNat : Int) = (x.toNat : Int) % 256 := by rw [IntKind.wrap_u8]
theorem hi8 (x : BitVec 16) : IntKind.u8.wrap ((x.toNat : Int) / 256) = (x.toNat : Int) / 256 := by rw [IntKind.wrap_u8]; have := x.isLt; omega
theorem Own.alloc {H : Heap} {n : Nat} {p : Option Addr} {c : Nat} {L : List Int} (h : Own H n p c L) (cs : List Value) : Own (H.alloc cs) n p c L := by
  rcases h with h | ⟨b, h1, h2, h3, h4⟩
  · exact .inl h
  · exact .inr ⟨b, h1, h2, h3, by rw [Heap.get_alloc_lt _ _ _ (Heap.lt_of_get h4)]; exact h4⟩

def closed (L : List Int) : List Int := L ++ [((crc L).toNat : Int) / 256, ((crc L).toNat : Int) % 256]
theorem close (H : Heap) (p : Option Addr) (c : Nat) (L : List Int) (hL : L.length ≤ 90000) (hB : Bs L) (h : Row H p c L) :
    ICalls Try.prog 17 [.slice p L.length c] H fun v H' => ∃ p' c', v = .slice p' (closed L).length c' ∧ Own H' H.next p' c' (closed L) ∧ Old H H' := by
  refine IBody.calls (by kernel_rfl) ?_
  refine IBody.of Try.func17 rfl (by rw [Try.ntmps17]; simp) ?_
  rw [Try.ntmps17]
  refine IWp.seq ?_
  refine IWp.run [0] ?_
  simp [go_sem, -getElem?_pos, List.getElem?_cons_zero, List.getElem?_cons_succ, Go.IntWalk.iteOmega, Go.IntWalk.toNatUp, b16, w16, fd8, lo8, hi8]
  refine IWp.seq ?_
  refine IWp.run [0, 3] ?_
  simp [go_sem, -getElem?_pos, List.getElem?_cons_zero, List.getElem?_cons_succ, Go.IntWalk.iteOmega, Go.IntWalk.toNatUp, b16, w16, fd8, lo8, hi8]
  refine ICalls.mono (sumOf H p c L (by omega) hB h) ?_
  rintro v _ ⟨rfl, rfl⟩
  try simp [go_sem, -getElem?_pos, List.getElem?_cons_zero, List.getElem?_cons_succ, Go.IntWalk.iteOmega, Go.IntWalk.toNatUp, b16, w16, fd8, lo8, hi8]
  refine IWp.seq ?_
  refine IWp.run [2] ?_
  simp [go_sem, -getElem?_pos, List.getElem?_cons_zero, List.getElem?_cons_succ, Go.IntWalk.iteOmega, Go.IntWalk.toNatUp, b16, w16, fd8, lo8, hi8]
  refine ICalls.mono (clone _ p c L (by omega) h) ?_
  rintro v H1 ⟨p1, c1, rfl, o1, s1⟩
  have hx := (crc L).isLt
  obtain ⟨p2, c2, H2, e2, o2, s2, n2, k2⟩ := app_bytes (P := Try.prog) (t := 22) (e := 5) (by kernel_rfl) (by kernel_rfl) (by kernel_rfl) (by kernel_rfl) (H := H1.alloc (byteCells [((crc L).toNat : Int) / 256, ((crc L).toNat : Int) % 256])) (q := some ⟨H1.next, 0, some 1⟩) (d := 1) (M := [((crc L).toNat : Int) / 256, ((crc L).toNat : Int) % 256])
    (o1.alloc _) (.inr (.inr ⟨by simp, H1.next, 0, _, true, rfl, by rw [get_alloc, if_pos rfl], by simp [byteCells], by simp [byteCells]⟩)) (Nat.le_succ_of_le s1.2) (by simp; omega)
  simp only [byteCells, List.map_cons, List.map_nil, List.length_cons, List.length_nil] at e2
  rw [show (0 + 1 + 1 : Nat) = 2 from rfl] at e2
  simp [go_sem, e2, fd8, lo8, hi8, w16]
  refine IWp.ret ?_
  simp [go_sem, -getElem?_pos, List.getElem?_cons_zero, List.getElem?_cons_succ, Go.IntWalk.iteOmega, Go.IntWalk.toNatUp, closed, Try.results17]
  refine ⟨p2, c2, ⟨rfl, rfl⟩, o2, fun b hb => ?_, by rw [next_alloc] at n2; have := s1.2; omega⟩
  rw [s2 b hb, Heap.get_alloc_lt _ _ _ (Nat.lt_of_lt_of_le hb s1.2)]
  exact s1.1 b hb

theorem Row.take {H : Heap} {b o : Nat} {c : Nat} {L : List Int} (h : Row H (some ⟨b, o, some 1⟩) c L) (n d : Nat) (hn : n ≤ L.length) : Row H (some ⟨b, o, some 1⟩) d (L.take n) := by
  by_cases h0 : L.take n = []
  · exact .inr (.inl ⟨h0, b, o, rfl⟩)
  · rcases h with ⟨h1, _⟩ | ⟨h1, _⟩ | ⟨h1, b', o', cs, own, h2, h3, h4, h5⟩
    · cases h1
    · subst h1; simp at h0
    · cases h2
      refine .inr (.inr ⟨h0, b, o, cs, own, rfl, h3, by simp; omega, ?_⟩)
      rw [List.length_take, Nat.min_eq_left hn]
      have := congrArg (List.take n) h5
      rw [List.take_take, Nat.min_eq_left hn] at this
      rw [this]; simp [byteCells, List.map_take]

theorem closed_bs {L : List Int} (h : Bs L) : Bs (closed L) := fun x hx => by
  have := (crc L).isLt
  rcases List.mem_append.1 hx with hx | hx
  · exact h x hx
  · simp at hx; omega
def opened (L : List Int) : List Int × Int := if L.length < 2 then ([], 4) else if closed (L.take (L.length - 2)) = L then (L.take (L.length - 2), 0) else ([], 3)

theorem Own.same {H K : Heap} {n : Nat} {p : Option Addr} {c : Nat} {L : List Int} (h : Own H n p c L) (hs : ∀ b k, H.get b = some k → K.get b = some k) : Own K n p c L := by
  rcases h with h | ⟨b, h1, h2, h3, h4⟩
  · exact .inl h
  · exact .inr ⟨b, h1, h2, h3, hs _ _ h4⟩

theorem openSum (H : Heap) (p : Option Addr) (c : Nat) (L : List Int) (hL : L.length ≤ 80000) (hB : Bs L) (h : Row H p c L) :
    ICalls Try.prog 18 [.slice p L.length c] H fun v H' => ∃ p' c', v = .tuple #[.slice p' (opened L).1.length c', .int .i64 (opened L).2] ∧ Own H' H.next p' c' (opened L).1 ∧ Old H H' := by
  refine IBody.calls (by kernel_rfl) ?_
  by_cases hs : L.length < 2
  · have ho : opened L = ([], 4) := by unfold opened; rw [if_pos hs]
    rw [ho]
    refine IBody.of Try.func18 rfl (by rw [Try.ntmps18]; simp) ?_
    rw [Try.ntmps18]
    refine IWp.seq ?_
    refine IWp.run [0] ?_
    simp [go_sem, -getElem?_pos, List.getElem?_cons_zero, List.getElem?_cons_succ, Go.IntWalk.iteOmega, Go.IntWalk.toNatUp, hs, show (L.length : Int) < 2 by omega]
    refine IWp.seq ?_
    refine IWp.seq ?_
    refine IWp.run [0, 7] ?_
    simp [go_sem, -getElem?_pos, List.getElem?_cons_zero, List.getElem?_cons_succ, Go.IntWalk.iteOmega, Go.IntWalk.toNatUp, hs, show (L.length : Int) < 2 by omega]
    refine IWp.cond ?_
    simp [go_sem, -getElem?_pos, List.getElem?_cons_zero, List.getElem?_cons_succ, Go.IntWalk.iteOmega, Go.IntWalk.toNatUp, hs, show (L.length : Int) < 2 by omega]
    refine IWp.seq ?_
    refine IWp.run [2, 3] ?_
    simp [go_sem, -getElem?_pos, List.getElem?_cons_zero, List.getElem?_cons_succ, Go.IntWalk.iteOmega, Go.IntWalk.toNatUp, hs, show (L.length : Int) < 2 by omega]
    refine IWp.ret ?_
    simp [go_sem, -getElem?_pos, List.getElem?_cons_zero, List.getElem?_cons_succ, Go.IntWalk.iteOmega, Go.IntWalk.toNatUp, hs, show (L.length : Int) < 2 by omega, Try.results18]
    exact ⟨_, _, ⟨rfl, rfl⟩, .inl ⟨rfl, rfl, rfl⟩, Old.refl H⟩
  · have hne : L ≠ [] := fun e => hs (by rw [e]; decide)
    obtain ⟨b, o, rfl⟩ : ∃ b o, p = some ⟨b, o, some 1⟩ := by
      rcases h with ⟨_, _, h1⟩ | ⟨h1, _⟩ | ⟨_, b, o, _, _, h1, _⟩
      · exact absurd h1 hne
      · exact absurd h1 hne
      · exact ⟨b, o, h1⟩
    have hB2 : Bs (L.take (L.length - 2)) := fun x hx => hB x (List.mem_of_mem_take hx)
    have w1 := IntWalk.i64_in ((L.length : Int) - 2) (by omega)
    have hto : ((L.length : Int) - 2).toNat = L.length - 2 := by omega
    have hl2 : (L.take (L.length - 2)).length = L.length - 2 := by simp
    refine IBody.of Try.func18 rfl (by rw [Try.ntmps18]; simp) ?_
    rw [Try.ntmps18]
    refine IWp.seq ?_
    refine IWp.run [0] ?_
    simp [go_sem, -getElem?_pos, List.getElem?_cons_zero, List.getElem?_cons_succ, Go.IntWalk.iteOmega, Go.IntWalk.toNatUp, w1, hto, show ¬ ((L.length : Int) < 2) by omega, show (2 : Int) ≤ L.length by omega]
    refine IWp.seq ?_
    refine IWp.seq ?_
    refine IWp.run [0, 7] ?_
    simp [go_sem, -getElem?_pos, List.getElem?_cons_zero, List.getElem?_cons_succ, Go.IntWalk.iteOmega, Go.IntWalk.toNatUp, w1, hto, show ¬ ((L.length : Int) < 2) by omega, show (2 : Int) ≤ L.length by omega]
    refine IWp.cond ?_
    simp [go_sem, -getElem?_pos, List.getElem?_cons_zero, List.getElem?_cons_succ, Go.IntWalk.iteOmega, Go.IntWalk.toNatUp, w1, hto, show ¬ ((L.length : Int) < 2) by omega, show (2 : Int) ≤ L.length by omega]
    refine IWp.trim [0] (IWp.skip ?_)
    simp [go_sem, -getElem?_pos, List.getElem?_cons_zero, List.getElem?_cons_succ, Go.IntWalk.iteOmega, Go.IntWalk.toNatUp, w1, hto, show ¬ ((L.length : Int) < 2) by omega, show (2 : Int) ≤ L.length by omega]
    refine IWp.seq ?_
    refine IWp.run [0, 4] ?_
    simp [go_sem, -getElem?_pos, List.getElem?_cons_zero, List.getElem?_cons_succ, Go.IntWalk.iteOmega, Go.IntWalk.toNatUp, w1, hto, show ¬ ((L.length : Int) < 2) by omega, show (2 : Int) ≤ L.length by omega]
    have hc := clone H (some ⟨b, o, some 1⟩) c (L.take (L.length - 2)) (by omega) (h.take _ _ (by omega))
    rw [hl2] at hc
    refine ICalls.mono hc ?_
    rintro v H1 ⟨p1, c1, rfl, o1, s1⟩
    simp [go_sem]
    have hc2 := close H1 p1 c1 (L.take (L.length - 2)) (by omega) hB2 o1.row
    rw [hl2] at hc2
    by_cases he : closed (L.take (L.length - 2)) = L
    · have ho : opened L = (L.take (L.length - 2), 0) := by unfold opened; rw [if_neg hs, if_pos he]
      rw [ho]
      refine IWp.seq ?_
      refine IWp.seq ?_
      refine IWp.run [4, 18] ?_
      simp [go_sem, -getElem?_pos, List.getElem?_cons_zero, List.getElem?_cons_succ, Go.IntWalk.iteOmega, Go.IntWalk.toNatUp]
      refine ICalls.mono (hc2) ?_
      rintro v H2 ⟨p2, c2, rfl, o2, s2⟩
      try simp [go_sem, -getElem?_pos, List.getElem?_cons_zero, List.getElem?_cons_succ, Go.IntWalk.iteOmega, Go.IntWalk.toNatUp]
      refine ICalls.mono (equal H2 p2 _ c2 c _ L (closed_bs hB2) hB o2.row (h.same (s1.trans s2).some)) ?_
      rintro v _ ⟨rfl, rfl⟩
      try simp [go_sem, -getElem?_pos, List.getElem?_cons_zero, List.getElem?_cons_succ, Go.IntWalk.iteOmega, Go.IntWalk.toNatUp, he]
      refine IWp.cond ?_
      simp [go_sem, -getElem?_pos, List.getElem?_cons_zero, List.getElem?_cons_succ, Go.IntWalk.iteOmega, Go.IntWalk.toNatUp, he]
      refine IWp.trim [4] (IWp.skip ?_)
      simp [go_sem, -getElem?_pos, List.getElem?_cons_zero, List.getElem?_cons_succ, Go.IntWalk.iteOmega, Go.IntWalk.toNatUp, he]
      refine IWp.seq ?_
      refine IWp.run [2, 3] ?_
      simp [go_sem, -getElem?_pos, List.getElem?_cons_zero, List.getElem?_cons_succ, Go.IntWalk.iteOmega, Go.IntWalk.toNatUp, he]
      refine IWp.ret ?_
      simp [go_sem, -getElem?_pos, List.getElem?_cons_zero, List.getElem?_cons_succ, Go.IntWalk.iteOmega, Go.IntWalk.toNatUp, he, Try.results18]
      exact ⟨_, _, ⟨rfl, rfl⟩, o1.same s2.some, s1.trans s2⟩
    · have ho : opened L = ([], 3) := by unfold opened; rw [if_neg hs, if_neg he]
      rw [ho]
      refine IWp.seq ?_
      refine IWp.seq ?_
      refine IWp.run [4, 18] ?_
      simp [go_sem, -getElem?_pos, List.getElem?_cons_zero, List.getElem?_cons_succ, Go.IntWalk.iteOmega, Go.IntWalk.toNatUp]
      refine ICalls.mono (hc2) ?_
      rintro v H2 ⟨p2, c2, rfl, o2, s2⟩
      try simp [go_sem, -getElem?_pos, List.getElem?_cons_zero, List.getElem?_cons_succ, Go.IntWalk.iteOmega, Go.IntWalk.toNatUp]
      refine ICalls.mono (equal H2 p2 _ c2 c _ L (closed_bs hB2) hB o2.row (h.same (s1.trans s2).some)) ?_
      rintro v _ ⟨rfl, rfl⟩
      try simp [go_sem, -getElem?_pos, List.getElem?_cons_zero, List.getElem?_cons_succ, Go.IntWalk.iteOmega, Go.IntWalk.toNatUp, he]
      refine IWp.cond ?_
      simp [go_sem, -getElem?_pos, List.getElem?_cons_zero, List.getElem?_cons_succ, Go.IntWalk.iteOmega, Go.IntWalk.toNatUp, he]
      refine IWp.seq ?_
      refine IWp.run [2, 3] ?_
      simp [go_sem, -getElem?_pos, List.getElem?_cons_zero, List.getElem?_cons_succ, Go.IntWalk.iteOmega, Go.IntWalk.toNatUp, he]
      refine IWp.ret ?_
      simp [go_sem, -getElem?_pos, List.getElem?_cons_zero, List.getElem?_cons_succ, Go.IntWalk.iteOmega, Go.IntWalk.toNatUp, he, Try.results18]
      exact ⟨_, _, ⟨rfl, rfl⟩, .inl ⟨rfl, rfl, rfl⟩, s1.trans s2⟩

end Go.Proofs.Ytneiiglfdhghkaa.I
