/- The sum of bytes: what the program reckons. No condition. -/
import Derived.Test.YtoecebibhcadoaaDoorGEqual
namespace Go.Proofs.YtoecebibhcadoaaDoor.I
open Go Go.RowKit
set_option linter.unusedVariables false
set_option linter.unusedSimpArgs false
def turn1 (x : BitVec 16) : BitVec 16 := if x &&& 32768#16 = 0#16 then x <<< 1 else (x <<< 1) ^^^ 4129#16
def turns : Nat → BitVec 16 → BitVec 16
  | 0, x => x
  | k + 1, x => turn1 (turns k x)
def crcByte (x : BitVec 16) (b : Int) : BitVec 16 := turns 8 (x ^^^ (BitVec.ofInt 16 b <<< 8))
def crc (L : List Int) : BitVec 16 := L.foldl crcByte 65535#16
theorem b16 (x : BitVec 16) : BitVec.ofInt 16 (x.toNat : Int) = x := by
  apply BitVec.eq_of_toNat_eq; rw [BitVec.toNat_ofInt]; have := x.isLt; omega
theorem w16 (x : BitVec 16) : IntKind.u16.wrap (x.toNat : Int) = x.toNat := IntWalk.u16_in _ (by have := x.isLt; omega)
theorem wrap_u16' (n : Int) : IntKind.u16.wrap n = n % 65536 := by simp [IntKind.wrap, IntKind.bits, IntKind.signed]
theorem sh1 (x : BitVec 16) : IntKind.u16.wrap ((x.toNat : Int) * 2) = ((x <<< 1).toNat : Int) := by
  rw [wrap_u16', BitVec.toNat_shiftLeft, Nat.shiftLeft_eq]; omega
theorem sh8 (b : Int) (h : 0 ≤ b ∧ b < 256) : IntKind.u16.wrap (b * 256) = ((BitVec.ofInt 16 b <<< 8).toNat : Int) := by
  rw [wrap_u16', BitVec.toNat_shiftLeft, Nat.shiftLeft_eq, BitVec.toNat_ofInt]; omega
theorem zero16 (x : BitVec 16) : ((x.toNat : Int) = 0) = (x = 0#16) := by
  apply propext
  refine ⟨fun h => BitVec.eq_of_toNat_eq (by simp; omega), fun h => by rw [h]; rfl⟩
theorem zero16n (x : BitVec 16) : (x.toNat = 0) = (x = 0#16) := by
  apply propext
  exact ⟨fun h => BitVec.eq_of_toNat_eq (by simp; omega), fun h => by rw [h]; rfl⟩
theorem sumOf (H : Heap) (m : Int) (L : List Int) (hL : L.length ≤ 1000000) (hB : Bs L) :
    ICalls Tryd.prog 47 [frow 1 m (L.map (Value.int .u8))] H fun v H' => v = .int .u16 ((crc L).toNat : Int) ∧ H' = H := by
  refine IBody.calls (by kernel_rfl) ?_
  refine IBody.of Tryd.func47 rfl (by rw [Tryd.ntmps47]; simp) ?_
  rw [Tryd.ntmps47]
  have Kp : Kept [[0],[0,3],[3,7,8,9]] := ⟨⟩
  iterate 3 (refine Kp.s ?_; clear Kp; intro Kp; simp [go_sem, -getElem?_pos, -List.map_take, -List.map_drop, IntWalk.iteOmega, IntWalk.toNatUp])
  refine IWp.block ?_
  refine IWp.loop (fun j e K => ∃ i : Nat, j = L.length - i ∧ i ≤ L.length ∧ e = [(3, .int .u16 ((crc (L.take i)).toNat : Int)), (7, frow 1 m (L.map (Value.int .u8))), (8, .int .i64 (L.length : Int)), (9, .int .i64 (i : Int))] ∧ K = H) L.length ⟨0, rfl, Nat.zero_le _, rfl, rfl⟩ ?_
  rintro j e K ⟨i, rfl, hi, rfl, rfl⟩
  by_cases hlt : i < L.length
  · have w1 := IntWalk.i64_in ((i : Int) + 1) (by omega)
    have hb := hB _ (List.getElem_mem hlt)
    have w2 := IntWalk.u16_in L[i] (by omega)
    have w3 := sh8 L[i] hb
    have Kp : Kept [[3,7,8,9,10],[],[3,7,8,9],[3,5,7,8,9],[3,7,8,9],[3,7,8,9,18]] := ⟨⟩
    iterate 6 (refine Kp.s ?_; clear Kp; intro Kp; simp [go_sem, -getElem?_pos, -List.map_take, -List.map_drop, IntWalk.iteOmega, IntWalk.toNatUp, hlt, List.getElem?_eq_getElem hlt, w1, w2, w3, b16, w16, -BitVec.toNat_and, -BitVec.toNat_xor, -BitVec.toNat_shiftLeft, show ¬ ((i : Int) < 0) by omega])
    refine IWp.block ?_
    refine IWp.loop (fun j e K2 => ∃ k : Nat, j = 8 - k ∧ k ≤ 8 ∧ e = [(3, .int .u16 ((turns k (crc (L.take i) ^^^ (BitVec.ofInt 16 L[i] <<< 8))).toNat : Int)), (7, frow 1 m (L.map (Value.int .u8))), (8, .int .i64 (L.length : Int)), (9, .int .i64 (i : Int)), (18, .int .i64 (k : Int))] ∧ K2 = K) 8 ⟨0, rfl, by omega, rfl, rfl⟩ ?_
    rintro j e K2 ⟨k, rfl, hm, rfl, rfl⟩
    by_cases hm8 : k < 8
    · have w5 := IntWalk.i64_in ((k : Int) + 1) (by omega)
      generalize hx : turns k (crc (L.take i) ^^^ (BitVec.ofInt 16 L[i] <<< 8)) = x
      by_cases ht : x &&& 32768#16 = 0#16
      · have ht2 : (x &&& 32768#16).toNat = 0 := by rw [ht]; rfl
        have Kp : Kept [[3,7,8,9,18,19],[],[3,7,8,9,18],[3,6,7,8,9,18],[3,6,7,8,9,18],[3,7,8,9,18,25],[],[3,7,8,9,18],[3,7,8,9,18]] := ⟨⟩
        iterate 9 (refine Kp.s ?_; clear Kp; intro Kp; simp [go_sem, -getElem?_pos, -List.map_take, -List.map_drop, IntWalk.iteOmega, IntWalk.toNatUp, ht2, b16, w16, sh1, w5, -BitVec.toNat_and, -BitVec.toNat_xor, -BitVec.toNat_shiftLeft, show (k : Int) < 8 by omega])
        exact ⟨8 - (k + 1), by omega, k + 1, rfl, by omega, by simp only [turns, hx, turn1, if_pos ht], rfl⟩
      · have ht2 : ¬ (x &&& 32768#16).toNat = 0 := fun e => ht (BitVec.eq_of_toNat_eq (by rw [e]; rfl))
        have Kp : Kept [[3,7,8,9,18,19],[],[3,7,8,9,18],[3,6,7,8,9,18],[3,6,7,8,9,18],[3,7,8,9,18,25],[],[3,7,8,9,18],[3,7,8,9,18]] := ⟨⟩
        iterate 9 (refine Kp.s ?_; clear Kp; intro Kp; simp [go_sem, -getElem?_pos, -List.map_take, -List.map_drop, IntWalk.iteOmega, IntWalk.toNatUp, ht2, b16, w16, sh1, w5, -BitVec.toNat_and, -BitVec.toNat_xor, -BitVec.toNat_shiftLeft, show (k : Int) < 8 by omega])
        exact ⟨8 - (k + 1), by omega, k + 1, rfl, by omega, by simp only [turns, hx, turn1, if_neg ht], rfl⟩
    · have hm' : k = 8 := by omega
      subst hm'
      have Kp : Kept [[3,7,8,9,18,19],[],[3,7,8,9],[3,7,8,9]] := ⟨⟩
      iterate 4 (refine Kp.s ?_; clear Kp; intro Kp; simp [go_sem, -getElem?_pos, -List.map_take, -List.map_drop, IntWalk.iteOmega, IntWalk.toNatUp, w1])
      exact ⟨L.length - (i + 1), by omega, i + 1, rfl, by omega, by rw [List.take_succ_eq_append_getElem hlt]; simp only [crc, List.foldl_append, List.foldl_cons, List.foldl_nil, crcByte], rfl⟩
  · skip
    have Kp : Kept [[3,7,8,9,10],[],[3],[2],[]] := ⟨⟩
    iterate 5 (refine Kp.s ?_; clear Kp; intro Kp; simp [go_sem, -getElem?_pos, -List.map_take, -List.map_drop, IntWalk.iteOmega, IntWalk.toNatUp, show ¬ ((i : Int) < L.length) by omega])
    rw [List.take_of_length_le (by omega)]
theorem fd8 (x : BitVec 16) : (x.toNat : Int).fdiv 256 = (x.toNat : Int) / 256 := Int.fdiv_eq_ediv_of_nonneg _ (by decide)
theorem lo8 (x : BitVec 16) : IntKind.u8.wrap (x.toNat : Int) = (x.toNat : Int) % 256 := by rw [IntKind.wrap_u8]
theorem hi8 (x : BitVec 16) : IntKind.u8.wrap ((x.toNat : Int) / 256) = (x.toNat : Int) / 256 := by rw [IntKind.wrap_u8]; have := x.isLt; omega
def closed (L : List Int) : List Int := L ++ [((crc L).toNat : Int) / 256, ((crc L).toNat : Int) % 256]
theorem close_own (H : Heap) (m : Int) (L : List Int) (hL : L.length ≤ 900000) (hB : Bs L) :
    ICalls Tryd.prog 34 [frow 1 m (L.map (Value.int .u8))] H fun v H' => Bld 1 H' H.next v ((closed L).map (Value.int .u8)) ∧ Old H H' := by
  refine IBody.calls (by kernel_rfl) ?_
  refine IBody.of Tryd.func34 rfl (by rw [Tryd.ntmps34]; simp) ?_
  rw [Tryd.ntmps34]
  have Kp : Kept [[0],[0,3]] := ⟨⟩
  iterate 2 (refine Kp.s ?_; clear Kp; intro Kp; simp [go_sem, -getElem?_pos, -List.map_take, -List.map_drop, IntWalk.iteOmega, IntWalk.toNatUp, b16, w16, fd8, lo8, hi8])
  refine ICalls.mono (sumOf H m L (by omega) hB) ?_
  rintro v _ ⟨rfl, rfl⟩
  try simp [go_sem, -getElem?_pos, -List.map_take, -List.map_drop, IntWalk.iteOmega, IntWalk.toNatUp, b16, w16, fd8, lo8, hi8]
  refine IWp.one [2] ?_
  simp [go_sem, -getElem?_pos, -List.map_take, -List.map_drop, IntWalk.iteOmega, IntWalk.toNatUp, b16, w16, fd8, lo8, hi8]
  refine ICalls.mono (clone_own _ m L (by omega)) ?_
  rintro v H1 ⟨b1, s1⟩
  have hx := (crc L).isLt
  obtain ⟨v2, H2, e2, b2, s2, n2, _⟩ := app_own (P := Tryd.prog) (t := 23) (e := 5) (sz := 1) (by_ := 1) (z := .int .u8 0) (ws := [((crc L).toNat : Int) / 256, ((crc L).toNat : Int) % 256].map (Value.int .u8)) (x := .slice (some ⟨H1.next, 0, some 1⟩) 2 1) (by kernel_rfl) (by kernel_rfl) (by kernel_rfl) (by kernel_rfl) rfl
    (b1.alloc ([((crc L).toNat : Int) / 256, ((crc L).toNat : Int) % 256].map (Value.int .u8))) (map_sz .u8 _) (irow_blk (ws := [((crc L).toNat : Int) / 256, ((crc L).toNat : Int) % 256].map (Value.int .u8)) (own := true) (by rw [Heap.get_alloc_new, map_flat]) (map_sz .u8 _)) (by rw [map_flat]; exact map_one .u8 _) (Nat.le_succ_of_le s1.2) (by simp; omega) (by simp; omega)
  simp only [List.map_cons, List.map_nil] at e2
  simp [go_sem, e2, fd8, lo8, hi8, w16]
  refine IWp.one [] ?_
  simp [go_sem, -getElem?_pos, -List.map_take, -List.map_drop, IntWalk.iteOmega, IntWalk.toNatUp]
  refine ⟨by simpa [closed] using b2, fun b hb => ?_, by rw [next_alloc] at n2; have := s1.2; omega⟩
  rw [s2 b hb, Heap.get_alloc_lt _ _ _ (Nat.lt_of_lt_of_le hb s1.2)]
  exact s1.1 b hb
theorem close (H : Heap) (m : Int) (L : List Int) (hL : L.length ≤ 900000) (hB : Bs L) :
    ICalls Tryd.prog 34 [frow 1 m (L.map (Value.int .u8))] H fun v H' => v = byts (closed L) ∧ H' = H :=
  ICalls.ans (by rw [cl_ints]; trivial) fun H => (close_own H m L hL hB).mono fun v H' h => h.1.frz
theorem closed_bs {L : List Int} (h : Bs L) : Bs (closed L) := fun x hx => by
  have := (crc L).isLt
  rcases List.mem_append.1 hx with hx | hx
  · exact h x hx
  · simp at hx; omega
def opened (L : List Int) : List Int × Int := if L.length < 2 then ([], 4) else if closed (L.take (L.length - 2)) = L then (L.take (L.length - 2), 0) else ([], 3)
theorem Bs.take {L : List Int} (h : Bs L) (n : Nat) : Bs (L.take n) := fun x hx => h x (List.mem_of_mem_take hx)
theorem openSum (H : Heap) (m : Int) (L : List Int) (hL : L.length ≤ 800000) (hB : Bs L) :
    ICalls Tryd.prog 49 [frow 1 m (L.map (Value.int .u8))] H fun v H' => v = .tuple #[byts (opened L).1, .int .i64 (opened L).2] ∧ H' = H := by
  refine ICalls.ans (by simp [go_sem]) fun H => IBody.calls (by kernel_rfl) ?_
  by_cases hs : L.length < 2
  · have ho : opened L = ([], 4) := by unfold opened; rw [if_pos hs]
    rw [ho]
    refine IBody.of Tryd.func49 rfl (by rw [Tryd.ntmps49]; simp) ?_
    rw [Tryd.ntmps49]
    have Kp : Kept [[0],[0,7],[],[2,3],[]] := ⟨⟩
    iterate 5 (refine Kp.s ?_; clear Kp; intro Kp; simp [go_sem, -getElem?_pos, -List.map_take, -List.map_drop, IntWalk.iteOmega, IntWalk.toNatUp, hs, show (L.length : Int) < 2 by omega])
  · have w1 := IntWalk.i64_in ((L.length : Int) - 2) (by omega)
    have hto : ((L.length : Int) - 2).toNat = L.length - 2 := by omega
    have hB2 := hB.take (L.length - 2)
    have hl2 : (L.take (L.length - 2)).length ≤ 800000 := by simp; omega
    refine IBody.of Tryd.func49 rfl (by rw [Tryd.ntmps49]; simp) ?_
    rw [Tryd.ntmps49]
    have Kp : Kept [[0],[0,7],[],[0],[0,4]] := ⟨⟩
    iterate 5 (refine Kp.s ?_; clear Kp; intro Kp; simp [go_sem, -getElem?_pos, -List.map_take, -List.map_drop, IntWalk.iteOmega, IntWalk.toNatUp, w1, hto, show ¬ ((L.length : Int) < 2) by omega, show (2 : Int) ≤ L.length by omega])
    refine ICalls.mono (clone _ _ (L.take (L.length - 2)) (by omega)) ?_
    rintro v _ ⟨rfl, rfl⟩
    try simp [go_sem, -getElem?_pos, -List.map_take, -List.map_drop, IntWalk.iteOmega, IntWalk.toNatUp, w1, hto, show ¬ ((L.length : Int) < 2) by omega, show (2 : Int) ≤ L.length by omega]
    refine IWp.one [4, 18] ?_
    simp [go_sem, -getElem?_pos, -List.map_take, -List.map_drop, IntWalk.iteOmega, IntWalk.toNatUp, w1, hto, show ¬ ((L.length : Int) < 2) by omega, show (2 : Int) ≤ L.length by omega]
    refine ICalls.mono (close _ _ (L.take (L.length - 2)) (by omega) hB2) ?_
    rintro v _ ⟨rfl, rfl⟩
    try simp [go_sem, -getElem?_pos, -List.map_take, -List.map_drop, IntWalk.iteOmega, IntWalk.toNatUp, w1, hto, show ¬ ((L.length : Int) < 2) by omega, show (2 : Int) ≤ L.length by omega]
    refine ICalls.mono (equal _ _ _ (closed (L.take (L.length - 2))) L (closed_bs hB2) hB) ?_
    rintro v _ ⟨rfl, rfl⟩
    try simp [go_sem, -getElem?_pos, -List.map_take, -List.map_drop, IntWalk.iteOmega, IntWalk.toNatUp, w1, hto, show ¬ ((L.length : Int) < 2) by omega, show (2 : Int) ≤ L.length by omega]
    by_cases he : closed (L.take (L.length - 2)) = L
    · have ho : opened L = (L.take (L.length - 2), 0) := by unfold opened; rw [if_neg hs, if_pos he]
      rw [ho]
      have Kp : Kept [[],[4],[2,3],[]] := ⟨⟩
      iterate 4 (refine Kp.s ?_; clear Kp; intro Kp; simp [go_sem, -getElem?_pos, -List.map_take, -List.map_drop, IntWalk.iteOmega, IntWalk.toNatUp, he])
    · have ho : opened L = ([], 3) := by unfold opened; rw [if_neg hs, if_neg he]
      rw [ho]
      have Kp : Kept [[],[2,3],[]] := ⟨⟩
      iterate 3 (refine Kp.s ?_; clear Kp; intro Kp; simp [go_sem, -getElem?_pos, -List.map_take, -List.map_drop, IntWalk.iteOmega, IntWalk.toNatUp, he])
end Go.Proofs.YtoecebibhcadoaaDoor.I
