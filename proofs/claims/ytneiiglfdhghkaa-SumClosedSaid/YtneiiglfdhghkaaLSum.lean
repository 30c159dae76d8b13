/- The laws of sums: their bodies. No condition. -/
import Derived.Test.YtneiiglfdhghkaaCSum
import Derived.Test.YtneiiglfdhghkaaILaw
namespace Go.Proofs.Ytneiiglfdhghkaa.I
open Go Go.RowKit
set_option linter.unusedVariables false
set_option linter.unusedSimpArgs false

theorem nine (H : Heap) : ICalls Try.prog 14 [.slice (some ⟨H.next, 0, some 1⟩) 9 1] (H.alloc [.int .u8 49, .int .u8 50, .int .u8 51, .int .u8 52, .int .u8 53, .int .u8 54, .int .u8 55, .int .u8 56, .int .u8 57]) fun v H' => v = .int .u16 10673 ∧ H' = H.alloc [.int .u8 49, .int .u8 50, .int .u8 51, .int .u8 52, .int .u8 53, .int .u8 54, .int .u8 55, .int .u8 56, .int .u8 57] := by
  have h := sumOf (H.alloc (byteCells [49, 50, 51, 52, 53, 54, 55, 56, 57])) (some ⟨H.next, 0, some 1⟩) 1 [49, 50, 51, 52, 53, 54, 55, 56, 57] (by decide) (by simp [Bs]) (.inr (.inr ⟨by simp, H.next, 0, _, true, rfl, by rw [get_alloc, if_pos rfl], by simp [byteCells], by simp [byteCells]⟩))
  have hc : crc [49, 50, 51, 52, 53, 54, 55, 56, 57] = 10673#16 := by decide +kernel
  rw [hc] at h
  exact h

theorem letters (H : Heap) : ICalls Try.prog 13 [] H fun v H' => v = .bool true ∧ Old H H' := by
  refine IBody.calls (by kernel_rfl) ?_
  have r1 : Row (H.alloc (byteCells [7])) (some ⟨H.next, 0, some 1⟩) 1 [7] := .inr (.inr ⟨by simp, H.next, 0, _, true, rfl, by rw [get_alloc, if_pos rfl], by simp [byteCells], by simp [byteCells]⟩)
  have hc := openSum (H.alloc (byteCells [7])) _ 1 [7] (by decide) (by simp [Bs]) r1
  simp only [byteCells, List.map_cons, List.map_nil, List.length_cons, List.length_nil, show opened [7] = ([], 4) from rfl] at hc
  refine IBody.of Try.func13 rfl (by rw [Try.ntmps13]; simp) ?_
  rw [Try.ntmps13]
  refine IWp.seq ?_
  refine IWp.run [] ?_
  simp [go_sem, -getElem?_pos, List.getElem?_cons_zero, List.getElem?_cons_succ, Go.IntWalk.iteOmega, Go.IntWalk.toNatUp]
  refine IWp.seq ?_
  refine IWp.run [2] ?_
  simp [go_sem, -getElem?_pos, List.getElem?_cons_zero, List.getElem?_cons_succ, Go.IntWalk.iteOmega, Go.IntWalk.toNatUp]
  refine ICalls.mono (hc) ?_
  rintro v H1 ⟨p1, c1, rfl, o1, s1⟩
  try simp [go_sem, -getElem?_pos, List.getElem?_cons_zero, List.getElem?_cons_succ, Go.IntWalk.iteOmega, Go.IntWalk.toNatUp]
  refine IWp.seq ?_
  refine IWp.run [0] ?_
  simp [go_sem, -getElem?_pos, List.getElem?_cons_zero, List.getElem?_cons_succ, Go.IntWalk.iteOmega, Go.IntWalk.toNatUp]
  refine ICalls.mono (nine H1) ?_
  rintro v _ ⟨rfl, rfl⟩
  try simp [go_sem, -getElem?_pos, List.getElem?_cons_zero, List.getElem?_cons_succ, Go.IntWalk.iteOmega, Go.IntWalk.toNatUp]
  refine IWp.ret ?_
  simp [go_sem, -getElem?_pos, List.getElem?_cons_zero, List.getElem?_cons_succ, Go.IntWalk.iteOmega, Go.IntWalk.toNatUp, Try.results13]
  exact (((Old.refl H).alloc _).trans s1).alloc _

theorem top_zero (z : BitVec 16) (h : z.toNat < 32768) : z &&& 32768#16 = 0#16 := by
  apply BitVec.eq_of_getLsbD_eq
  intro i hi
  rw [BitVec.getLsbD_and]
  by_cases h1 : i = 15
  · subst h1
    have : z.getLsbD 15 = false := by rw [BitVec.getLsbD]; exact Nat.testBit_lt_two_pow h
    rw [this]; rfl
  · have : (32768#16).getLsbD i = false := by
      have : ∀ j : Fin 16, (j : Nat) ≠ 15 → (32768#16).getLsbD j = false := by decide
      exact this ⟨i, hi⟩ h1
    rw [this]; simp

theorem turns_low : ∀ (k : Nat) (y : BitVec 16), k ≤ 8 → y.toNat < 256 → turns k y = y <<< k ∧ (turns k y).toNat = y.toNat * 2 ^ k
  | 0, y, _, _ => by simp [turns]
  | k + 1, y, hk, h => by
    obtain ⟨h1, h2⟩ := turns_low k y (by omega) h
    have hp : 2 ^ k ≤ 128 := by
      have := Nat.pow_le_pow_right (show 0 < 2 by decide) (show k ≤ 7 by omega)
      simpa using this
    have hlt : (turns k y).toNat < 32768 := by
      rw [h2]
      calc y.toNat * 2 ^ k ≤ 255 * 128 := Nat.mul_le_mul (by omega) hp
        _ < 32768 := by decide
    have e : turns (k + 1) y = (turns k y) <<< 1 := by simp only [turns, turn1, if_pos (top_zero _ hlt)]
    rw [e]
    refine ⟨by rw [h1, BitVec.shiftLeft_add], ?_⟩
    rw [BitVec.toNat_shiftLeft, Nat.shiftLeft_eq, Nat.mod_eq_of_lt (by omega), h2, Nat.pow_one, Nat.mul_assoc, ← Nat.pow_succ]

theorem crc_closed (L : List Int) : crc (closed L) = 0#16 := by
  have hx := (crc L).isLt
  have e0 : crc (closed L) = crcByte (crcByte (crc L) (((crc L).toNat : Int) / 256)) (((crc L).toNat : Int) % 256) := by simp only [crc, closed, List.foldl_append, List.foldl_cons, List.foldl_nil]
  rw [e0]
  generalize crc L = x at hx
  have e1 : BitVec.ofInt 16 ((x.toNat : Int) / 256) = x >>> 8 := by
    apply BitVec.eq_of_toNat_eq; rw [BitVec.toNat_ofInt, BitVec.toNat_ushiftRight, Nat.shiftRight_eq_div_pow]; omega
  have e2 : BitVec.ofInt 16 ((x.toNat : Int) % 256) = BitVec.ofNat 16 (x.toNat % 256) := by
    apply BitVec.eq_of_toNat_eq; rw [BitVec.toNat_ofInt, BitVec.toNat_ofNat]; omega
  have e3 : x ^^^ ((x >>> 8) <<< 8) = BitVec.ofNat 16 (x.toNat % 256) := by
    apply BitVec.eq_of_getLsbD_eq
    intro i hi
    rw [BitVec.getLsbD_xor, BitVec.getLsbD_shiftLeft, BitVec.getLsbD_ushiftRight, BitVec.getLsbD_ofNat, show (256 : Nat) = 2 ^ 8 from rfl, Nat.testBit_mod_two_pow]
    by_cases h8 : i < 8
    · simp [h8, hi, BitVec.getLsbD]
    · simp [h8, hi, show 8 + (i - 8) = i by omega]
  have hy : (BitVec.ofNat 16 (x.toNat % 256)).toNat < 256 := by rw [BitVec.toNat_ofNat]; omega
  unfold crcByte
  rw [e1, e2, e3, (turns_low 8 _ (Nat.le_refl _) hy).1, BitVec.xor_self]
  decide

theorem bytes_ofLayS {H : Heap} : ∀ {xs : List Dt} {css : List (List Value)}, LayS H (.int .u8) xs css → ∃ L : List Int, css.flatten = byteCells L ∧ xs.length = L.length ∧ Bs L
  | _, _, .nil _ => ⟨[], rfl, rfl, fun _ h => (by cases h)⟩
  | _, _, .cons h hs => by
    obtain ⟨L, h1, h2, h3⟩ := bytes_ofLayS hs
    cases h
    rename_i n hn
    exact ⟨n :: L, by simp [h1, byteCells], by simp [h2], fun x hx => by
      rcases List.mem_cons.1 hx with rfl | hx
      · exact wf_u8 hn
      · exact h3 x hx⟩

theorem bytes_ofRow {H : Heap} {d : Dt} {v : Value} (h : LayV H (.row (.int .u8) 1) d v) : ∃ (L : List Int) (p : Option Addr) (c : Nat), v = .slice p L.length c ∧ Row H p c L ∧ Bs L := by
  have h := layV_row h
  cases h with
  | nil => exact ⟨[], none, 0, rfl, .inl ⟨rfl, rfl, rfl⟩, fun _ h => (by cases h)⟩
  | away => exact ⟨[], _, 1, rfl, .inr (.inl ⟨rfl, _, _, rfl⟩), fun _ h => (by cases h)⟩
  | row hn hm hg hs hz =>
    obtain ⟨L, h1, h2, h3⟩ := bytes_ofLayS hs
    have hne : L ≠ [] := fun e => hn (by rw [e] at h2; exact List.length_eq_zero_iff.1 h2)
    exact ⟨L, _, 1, by rw [h2], .inr (.inr ⟨hne, _, 0, _, false, rfl, by rw [hg, h1], by rw [byteCells_length]; omega, by rw [List.drop_zero, ← byteCells_length, List.take_length]⟩), h3⟩

theorem sumClosed (H : Heap) (p : Option Addr) (c : Nat) (L : List Int) (hB : Bs L) (h : Row H p c L) :
    IBody Try.prog 7 [.slice p L.length c] H fun v _ => v = .bool true := by
  by_cases hl : 300 < L.length
  · skip
    refine IBody.of Try.func7 rfl (by rw [Try.ntmps7]; simp) ?_
    rw [Try.ntmps7]
    refine IWp.seq ?_
    refine IWp.run [0] ?_
    simp [go_sem, -getElem?_pos, List.getElem?_cons_zero, List.getElem?_cons_succ, Go.IntWalk.iteOmega, Go.IntWalk.toNatUp, hl, show (300 : Int) < L.length by omega]
    refine IWp.seq ?_
    refine IWp.seq ?_
    refine IWp.run [0, 5] ?_
    simp [go_sem, -getElem?_pos, List.getElem?_cons_zero, List.getElem?_cons_succ, Go.IntWalk.iteOmega, Go.IntWalk.toNatUp, hl, show (300 : Int) < L.length by omega]
    refine IWp.cond ?_
    simp [go_sem, -getElem?_pos, List.getElem?_cons_zero, List.getElem?_cons_succ, Go.IntWalk.iteOmega, Go.IntWalk.toNatUp, hl, show (300 : Int) < L.length by omega]
    refine IWp.seq ?_
    refine IWp.run [2] ?_
    simp [go_sem, -getElem?_pos, List.getElem?_cons_zero, List.getElem?_cons_succ, Go.IntWalk.iteOmega, Go.IntWalk.toNatUp, hl, show (300 : Int) < L.length by omega]
    refine ICalls.mono (letters H) ?_
    rintro v H1 ⟨rfl, s1⟩
    try simp [go_sem, -getElem?_pos, List.getElem?_cons_zero, List.getElem?_cons_succ, Go.IntWalk.iteOmega, Go.IntWalk.toNatUp, hl, show (300 : Int) < L.length by omega]
    refine IWp.ret ?_
    simp [go_sem, -getElem?_pos, List.getElem?_cons_zero, List.getElem?_cons_succ, Go.IntWalk.iteOmega, Go.IntWalk.toNatUp, hl, show (300 : Int) < L.length by omega, Try.results7]
  · skip
    refine IBody.of Try.func7 rfl (by rw [Try.ntmps7]; simp) ?_
    rw [Try.ntmps7]
    refine IWp.seq ?_
    refine IWp.run [0] ?_
    simp [go_sem, -getElem?_pos, List.getElem?_cons_zero, List.getElem?_cons_succ, Go.IntWalk.iteOmega, Go.IntWalk.toNatUp, hl, show ¬ ((300 : Int) < L.length) by omega, crc_closed]
    refine IWp.seq ?_
    refine IWp.seq ?_
    refine IWp.run [0, 5] ?_
    simp [go_sem, -getElem?_pos, List.getElem?_cons_zero, List.getElem?_cons_succ, Go.IntWalk.iteOmega, Go.IntWalk.toNatUp, hl, show ¬ ((300 : Int) < L.length) by omega, crc_closed]
    refine IWp.cond ?_
    simp [go_sem, -getElem?_pos, List.getElem?_cons_zero, List.getElem?_cons_succ, Go.IntWalk.iteOmega, Go.IntWalk.toNatUp, hl, show ¬ ((300 : Int) < L.length) by omega, crc_closed]
    refine IWp.trim [0] (IWp.skip ?_)
    simp [go_sem, -getElem?_pos, List.getElem?_cons_zero, List.getElem?_cons_succ, Go.IntWalk.iteOmega, Go.IntWalk.toNatUp, hl, show ¬ ((300 : Int) < L.length) by omega, crc_closed]
    refine IWp.seq ?_
    refine IWp.run [2] ?_
    simp [go_sem, -getElem?_pos, List.getElem?_cons_zero, List.getElem?_cons_succ, Go.IntWalk.iteOmega, Go.IntWalk.toNatUp, hl, show ¬ ((300 : Int) < L.length) by omega, crc_closed]
    refine ICalls.mono (letters H) ?_
    rintro v H1 ⟨rfl, s1⟩
    try simp [go_sem, -getElem?_pos, List.getElem?_cons_zero, List.getElem?_cons_succ, Go.IntWalk.iteOmega, Go.IntWalk.toNatUp, hl, show ¬ ((300 : Int) < L.length) by omega, crc_closed]
    refine ICalls.mono (close H1 p c L (by omega) hB (h.same s1.some)) ?_
    rintro v H2 ⟨p2, c2, rfl, o2, s2⟩
    try simp [go_sem, -getElem?_pos, List.getElem?_cons_zero, List.getElem?_cons_succ, Go.IntWalk.iteOmega, Go.IntWalk.toNatUp, hl, show ¬ ((300 : Int) < L.length) by omega, crc_closed]
    refine ICalls.mono (sumOf H2 p2 c2 (closed L) (by simp [closed]; omega) (closed_bs hB) o2.row) ?_
    rintro v H1 ⟨rfl, rfl⟩
    try simp [go_sem, -getElem?_pos, List.getElem?_cons_zero, List.getElem?_cons_succ, Go.IntWalk.iteOmega, Go.IntWalk.toNatUp, hl, show ¬ ((300 : Int) < L.length) by omega, crc_closed]
    refine IWp.ret ?_
    simp [go_sem, -getElem?_pos, List.getElem?_cons_zero, List.getElem?_cons_succ, Go.IntWalk.iteOmega, Go.IntWalk.toNatUp, hl, show ¬ ((300 : Int) < L.length) by omega, crc_closed, Try.results7]

end Go.Proofs.Ytneiiglfdhghkaa.I
