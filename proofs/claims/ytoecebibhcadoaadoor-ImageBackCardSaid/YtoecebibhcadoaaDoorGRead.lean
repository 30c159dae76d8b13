/- Bytes that are read, up to the first fault: what the program does, and what the document says. No condition. -/
import Derived.Test.YtoecebibhcadoaaDoorGBytes
namespace Go.Proofs.YtoecebibhcadoaaDoor.I
open Go Go.RowKit
set_option linter.unusedVariables false
set_option linter.unusedSimpArgs false
theorem set_self {H : Heap} {b : Nat} {cs : List Value} {own : Bool} (h : H.get b = some ⟨cs, own⟩) : H.set b cs = H := by
  refine Heap.ext' (fun j => ?_) rfl
  rw [get_set]
  by_cases e : j = b
  · subst e; rw [if_pos rfl, h]; rfl
  · rw [if_neg e]
structure Rd where
  L : List Int
  pos : Nat
  e : Int
def Rd.cells (s : Rd) : List Value := [byts s.L, .int .i64 s.pos, .int .i64 s.e]
def Rd.ok (s : Rd) : Prop := s.pos ≤ s.L.length ∧ s.L.length ≤ 1000000 ∧ Bs s.L
def Rd.ready (s : Rd) (n : Nat) : Rd := if s.e = 0 ∧ s.L.length < s.pos + n then { s with e := 4 } else s
def Rd.at_ (s : Rd) (i : Nat) : Int := s.L.getD (s.pos + i) 0
def Rd.byte (s : Rd) : Int × Rd := if (s.ready 1).e = 0 then (s.at_ 0, { s with pos := s.pos + 1 }) else (0, s.ready 1)
def Rd.flag (s : Rd) : Bool × Rd := if (s.ready 1).e = 0 then (if 1 < s.at_ 0 then (false, { s with e := 2 }) else (decide (s.at_ 0 = 1), { s with pos := s.pos + 1 })) else (false, s.ready 1)
def be4 (a b c d : Int) : Int := if 127 < a then ((a - 256) * 256 + b) * 65536 + c * 256 + d else (a * 256 + b) * 65536 + c * 256 + d
def Rd.int (s : Rd) : Int × Rd := if (s.ready 4).e = 0 then (be4 (s.at_ 0) (s.at_ 1) (s.at_ 2) (s.at_ 3), { s with pos := s.pos + 4 }) else (0, s.ready 4)
def Rd.left (s : Rd) : Int := if s.e = 0 then s.L.length - s.pos else 0
def Rd.fault (s : Rd) : Int × Int := if s.e = 0 then (0, 0) else (s.pos, s.e)
def Rd.ending (s : Rd) : Int × Int := if 0 < s.left then (s.pos, 2) else s.fault
theorem Rd.ready_ok {s : Rd} {n : Nat} (h : s.e = 0) (h2 : s.pos + n ≤ s.L.length) : s.ready n = s := by unfold Rd.ready; rw [if_neg (by omega)]
theorem Rd.ready_short {s : Rd} {n : Nat} (h : s.e = 0) (h2 : ¬ s.pos + n ≤ s.L.length) : s.ready n = { s with e := 4 } := by unfold Rd.ready; rw [if_pos (by omega)]
theorem Rd.ready_bad {s : Rd} {n : Nat} (h : ¬ s.e = 0) : s.ready n = s := by unfold Rd.ready; rw [if_neg (by omega)]
theorem Rd.at_get {s : Rd} {i : Nat} (h : s.pos + i < s.L.length) : s.L[s.pos + i]? = some (s.at_ i) := by simp [Rd.at_, h]
theorem Rd.at_byte {s : Rd} (h : s.ok) (i : Nat) : 0 ≤ s.at_ i ∧ s.at_ i < 256 := by
  by_cases hi : s.pos + i < s.L.length
  · have := h.2.2 _ (List.getElem_mem hi)
    simpa [Rd.at_, hi] using this
  · simp [Rd.at_, hi]
theorem or_low (x b : Int) (hx : 0 ≤ x ∧ x < 16777216) (hb : 0 ≤ b ∧ b < 256) : ((BitVec.ofInt 32 (x * 256) ||| BitVec.ofInt 32 b : BitVec 32).toNat : Int) = x * 256 + b := by
  obtain ⟨n, rfl⟩ : ∃ n : Nat, x = n := ⟨x.toNat, by omega⟩
  obtain ⟨m, rfl⟩ : ∃ n : Nat, b = n := ⟨b.toNat, by omega⟩
  rw [BitVec.toNat_or, BitVec.toNat_ofInt, BitVec.toNat_ofInt]
  have e1 : (((n : Int) * 256) % (2 ^ 32 : Nat)).toNat = 2 ^ 8 * n := by omega
  have e2 : ((m : Int) % (2 ^ 32 : Nat)).toNat = m := by omega
  rw [e1, e2, ← Nat.two_pow_add_eq_or_of_lt (by omega)]
  omega
def num (L : List Int) : Int := L.foldl (fun x b => x * 256 + b) 0
theorem num_snoc (L : List Int) (b : Int) : num (L ++ [b]) = num L * 256 + b := by simp [num]
theorem num_bound : ∀ (L : List Int), Bs L → 0 ≤ num L ∧ num L < 256 ^ L.length := by
  intro L hB
  have : ∀ (L : List Int) (x : Int) (k : Nat), Bs L → 0 ≤ x ∧ x < 256 ^ k → 0 ≤ L.foldl (fun x b => x * 256 + b) x ∧ L.foldl (fun x b => x * 256 + b) x < 256 ^ (k + L.length) := by
    intro L
    induction L with
    | nil => intro x k _ h; exact h
    | cons a L ih =>
      intro x k hB hx
      have ha := hB a (by simp)
      have := ih (x * 256 + a) (k + 1) (fun y hy => hB y (by simp [hy])) (by rw [Int.pow_succ]; omega)
      rw [show k + 1 + L.length = k + (a :: L).length by simp; omega] at this
      exact this
  have := this L 0 0 hB (by decide)
  simpa [num] using this
theorem be4_num (a b c d : Int) (ha : 0 ≤ a ∧ a < 256) (hb : 0 ≤ b ∧ b < 256) (hc : 0 ≤ c ∧ c < 256) (hd : 0 ≤ d ∧ d < 256) : IntKind.i64.wrap (IntKind.i32.wrap (num [a, b, c, d])) = be4 a b c d := by
  have e32 : ∀ n : Int, IntKind.i32.wrap n = if 2147483648 ≤ n % 4294967296 then n % 4294967296 - 4294967296 else n % 4294967296 := fun n => by simp [IntKind.wrap, IntKind.bits, IntKind.signed]
  have hn : num [a, b, c, d] = (((0 * 256 + a) * 256 + b) * 256 + c) * 256 + d := rfl
  generalize num [a, b, c, d] = n at hn
  rw [e32]
  have hm : n % 4294967296 = n := by omega
  rw [hm]
  unfold be4
  by_cases h : 2147483648 ≤ n
  · rw [if_pos h, IntWalk.i64_in _ (by omega), if_pos (by omega)]; omega
  · rw [if_neg h, IntWalk.i64_in _ (by omega), if_neg (by omega)]; omega
def grown (a : Int) (f : Nat → Int) : Nat → Int
  | 0 => a
  | k + 1 => grown a f k * 256 + f (k + 1)
theorem grown_bound (a : Int) (f : Nat → Int) (ha : -128 ≤ a ∧ a < 128) (hf : ∀ k, 0 ≤ f k ∧ f k < 256) : ∀ k, k ≤ 3 → -2147483648 ≤ grown a f k * 1 ∧ grown a f k < 2147483648 := by
  have h1 := hf 1
  have h2 := hf 2
  have h3 := hf 3
  intro k hk
  match k, hk with
  | 0, _ => simp only [grown, Nat.zero_add, Nat.reduceAdd]; omega
  | 1, _ => simp only [grown, Nat.zero_add, Nat.reduceAdd]; omega
  | 2, _ => simp only [grown, Nat.zero_add, Nat.reduceAdd]; omega
  | 3, _ => simp only [grown, Nat.zero_add, Nat.reduceAdd]; omega
section eqs
variable {s : Rd}
theorem Rd.byte_eq (h : s.e = 0) (h2 : s.pos + 1 ≤ s.L.length) : s.byte = (s.at_ 0, { s with pos := s.pos + 1 }) := by simp [Rd.byte, Rd.ready_ok h h2, h]
theorem Rd.byte_short (h : s.e = 0) (h2 : ¬ s.pos + 1 ≤ s.L.length) : s.byte = (0, { s with e := 4 }) := by simp [Rd.byte, Rd.ready_short h h2]
theorem Rd.byte_bad (h : ¬ s.e = 0) : s.byte = (0, s) := by simp [Rd.byte, Rd.ready_bad h, h]
theorem Rd.flag_eq (h : s.e = 0) (h2 : s.pos + 1 ≤ s.L.length) (h3 : ¬ 1 < s.at_ 0) : s.flag = (decide (s.at_ 0 = 1), { s with pos := s.pos + 1 }) := by simp [Rd.flag, Rd.ready_ok h h2, h, h3]
theorem Rd.flag_form (h : s.e = 0) (h2 : s.pos + 1 ≤ s.L.length) (h3 : 1 < s.at_ 0) : s.flag = (false, { s with e := 2 }) := by simp [Rd.flag, Rd.ready_ok h h2, h, h3]
theorem Rd.flag_short (h : s.e = 0) (h2 : ¬ s.pos + 1 ≤ s.L.length) : s.flag = (false, { s with e := 4 }) := by simp [Rd.flag, Rd.ready_short h h2]
theorem Rd.flag_bad (h : ¬ s.e = 0) : s.flag = (false, s) := by simp [Rd.flag, Rd.ready_bad h, h]
theorem Rd.int_eq (h : s.e = 0) (h2 : s.pos + 4 ≤ s.L.length) : s.int = (be4 (s.at_ 0) (s.at_ 1) (s.at_ 2) (s.at_ 3), { s with pos := s.pos + 4 }) := by simp [Rd.int, Rd.ready_ok h h2, h]
theorem Rd.int_short (h : s.e = 0) (h2 : ¬ s.pos + 4 ≤ s.L.length) : s.int = (0, { s with e := 4 }) := by simp [Rd.int, Rd.ready_short h h2]
theorem Rd.int_bad (h : ¬ s.e = 0) : s.int = (0, s) := by simp [Rd.int, Rd.ready_bad h, h]
theorem Rd.left_ok (h : s.e = 0) : s.left = s.L.length - s.pos := by simp [Rd.left, h]
theorem Rd.left_bad (h : ¬ s.e = 0) : s.left = 0 := by simp [Rd.left, h]
theorem Rd.byte_ok (h : s.ok) : s.byte.2.ok := by
  obtain ⟨h1, h2, h3⟩ := h
  by_cases he : s.e = 0
  · by_cases hn : s.pos + 1 ≤ s.L.length
    · rw [Rd.byte_eq he hn]; exact ⟨hn, h2, h3⟩
    · rw [Rd.byte_short he hn]; exact ⟨h1, h2, h3⟩
  · rw [Rd.byte_bad he]; exact ⟨h1, h2, h3⟩
theorem Rd.flag_ok (h : s.ok) : s.flag.2.ok := by
  obtain ⟨h1, h2, h3⟩ := h
  by_cases he : s.e = 0
  · by_cases hn : s.pos + 1 ≤ s.L.length
    · by_cases hf : 1 < s.at_ 0
      · rw [Rd.flag_form he hn hf]; exact ⟨h1, h2, h3⟩
      · rw [Rd.flag_eq he hn hf]; exact ⟨hn, h2, h3⟩
    · rw [Rd.flag_short he hn]; exact ⟨h1, h2, h3⟩
  · rw [Rd.flag_bad he]; exact ⟨h1, h2, h3⟩
theorem Rd.int_ok (h : s.ok) : s.int.2.ok := by
  obtain ⟨h1, h2, h3⟩ := h
  by_cases he : s.e = 0
  · by_cases hn : s.pos + 4 ≤ s.L.length
    · rw [Rd.int_eq he hn]; exact ⟨hn, h2, h3⟩
    · rw [Rd.int_short he hn]; exact ⟨h1, h2, h3⟩
  · rw [Rd.int_bad he]; exact ⟨h1, h2, h3⟩
end eqs
section prog
variable (H : Heap) (b : Nat) (s : Rd) (hs : s.ok) (hg : H.get b = some ⟨s.cells, true⟩)
include hs hg
theorem rLeft : ICalls Tryd.prog 78 [ptrTo b 0] H fun v H' => v = .int .i64 s.left ∧ H' = H := by
  refine IBody.calls (by kernel_rfl) ?_
  obtain ⟨h1, h2, h3⟩ := hs
  unfold Rd.cells at hg
  by_cases he : s.e = 0
  · have w1 := IntWalk.i64_in ((s.L.length : Int) - s.pos) (by omega)
    refine IBody.of Tryd.func78 rfl (by rw [Tryd.ntmps78]; simp) ?_
    rw [Tryd.ntmps78]
    have Kp : Kept [[0],[0,11],[],[0]] := ⟨⟩
    iterate 4 (refine Kp.s ?_; clear Kp; intro Kp; simp [go_sem, -getElem?_pos, -List.map_take, -List.map_drop, IntWalk.iteOmega, IntWalk.toNatUp, hg, he, w1, Rd.left_ok])
    refine IWp.seq ?_
    refine IWp.read [2] follows (by kernel_rfl) ?_
    simp [go_sem, -getElem?_pos, -List.map_take, -List.map_drop, IntWalk.iteOmega, IntWalk.toNatUp, hg, he, w1, Rd.left_ok]
    refine IWp.one [] ?_
    simp [go_sem, -getElem?_pos, -List.map_take, -List.map_drop, IntWalk.iteOmega, IntWalk.toNatUp, hg, he, w1, Rd.left_ok]
  · have hb : decide (s.e = 0) = false := by simpa using he
    refine IBody.of Tryd.func78 rfl (by rw [Tryd.ntmps78]; simp) ?_
    rw [Tryd.ntmps78]
    have Kp : Kept [[0],[0,11],[],[2],[]] := ⟨⟩
    iterate 5 (refine Kp.s ?_; clear Kp; intro Kp; simp [go_sem, -getElem?_pos, -List.map_take, -List.map_drop, IntWalk.iteOmega, IntWalk.toNatUp, hg, he, Rd.left_bad])
omit hs in
theorem rFault : ICalls Tryd.prog 79 [ptrTo b 0] H fun v H' => v = .tuple #[.int .i64 s.fault.1, .int .i64 s.fault.2] ∧ H' = H := by
  refine IBody.calls (by kernel_rfl) ?_
  unfold Rd.cells at hg
  by_cases he : s.e = 0
  · skip
    refine IBody.of Tryd.func79 rfl (by rw [Tryd.ntmps79]; simp) ?_
    rw [Tryd.ntmps79]
    have Kp : Kept [[0],[0,4],[],[0,7],[],[2,3],[]] := ⟨⟩
    iterate 7 (refine Kp.s ?_; clear Kp; intro Kp; simp [go_sem, -getElem?_pos, -List.map_take, -List.map_drop, IntWalk.iteOmega, IntWalk.toNatUp, hg, he, Rd.fault])
  · skip
    refine IBody.of Tryd.func79 rfl (by rw [Tryd.ntmps79]; simp) ?_
    rw [Tryd.ntmps79]
    have Kp : Kept [[0],[0,4],[],[0,7],[],[0]] := ⟨⟩
    iterate 6 (refine Kp.s ?_; clear Kp; intro Kp; simp [go_sem, -getElem?_pos, -List.map_take, -List.map_drop, IntWalk.iteOmega, IntWalk.toNatUp, hg, he, Rd.fault])
    refine IWp.seq ?_
    refine IWp.read [2, 3] follows (by kernel_rfl) ?_
    simp [go_sem, -getElem?_pos, -List.map_take, -List.map_drop, IntWalk.iteOmega, IntWalk.toNatUp, hg, he, Rd.fault]
    refine IWp.one [] ?_
    simp [go_sem, -getElem?_pos, -List.map_take, -List.map_drop, IntWalk.iteOmega, IntWalk.toNatUp, hg, he, Rd.fault]
theorem rEnd : ICalls Tryd.prog 53 [ptrTo b 0] H fun v H' => v = .tuple #[.int .i64 s.ending.1, .int .i64 s.ending.2] ∧ H' = H := by
  have c1 := rLeft H b s hs hg
  have c2 := rFault H b s hg
  refine IBody.calls (by kernel_rfl) ?_
  unfold Rd.cells at hg
  by_cases he : 0 < s.left
  · skip
    refine IBody.of Tryd.func53 rfl (by rw [Tryd.ntmps53]; simp) ?_
    rw [Tryd.ntmps53]
    have Kp : Kept [[0],[0,6]] := ⟨⟩
    iterate 2 (refine Kp.s ?_; clear Kp; intro Kp; simp [go_sem, -getElem?_pos, -List.map_take, -List.map_drop, IntWalk.iteOmega, IntWalk.toNatUp, hg, he, Rd.ending])
    refine ICalls.mono (c1) ?_
    rintro v _ ⟨rfl, rfl⟩
    try simp [go_sem, -getElem?_pos, -List.map_take, -List.map_drop, IntWalk.iteOmega, IntWalk.toNatUp, hg, he, Rd.ending]
    have Kp : Kept [[],[2,3],[]] := ⟨⟩
    iterate 3 (refine Kp.s ?_; clear Kp; intro Kp; simp [go_sem, -getElem?_pos, -List.map_take, -List.map_drop, IntWalk.iteOmega, IntWalk.toNatUp, hg, he, Rd.ending])
  · skip
    refine IBody.of Tryd.func53 rfl (by rw [Tryd.ntmps53]; simp) ?_
    rw [Tryd.ntmps53]
    have Kp : Kept [[0],[0,6]] := ⟨⟩
    iterate 2 (refine Kp.s ?_; clear Kp; intro Kp; simp [go_sem, -getElem?_pos, -List.map_take, -List.map_drop, IntWalk.iteOmega, IntWalk.toNatUp, hg, he, Rd.ending])
    refine ICalls.mono (c1) ?_
    rintro v _ ⟨rfl, rfl⟩
    try simp [go_sem, -getElem?_pos, -List.map_take, -List.map_drop, IntWalk.iteOmega, IntWalk.toNatUp, hg, he, Rd.ending]
    have Kp : Kept [[],[0],[2,3]] := ⟨⟩
    iterate 3 (refine Kp.s ?_; clear Kp; intro Kp; simp [go_sem, -getElem?_pos, -List.map_take, -List.map_drop, IntWalk.iteOmega, IntWalk.toNatUp, hg, he, Rd.ending])
    refine ICalls.mono (c2) ?_
    rintro v _ ⟨rfl, rfl⟩
    try simp [go_sem, -getElem?_pos, -List.map_take, -List.map_drop, IntWalk.iteOmega, IntWalk.toNatUp, hg, he, Rd.ending]
    refine IWp.one [] ?_
    simp [go_sem, -getElem?_pos, -List.map_take, -List.map_drop, IntWalk.iteOmega, IntWalk.toNatUp, hg, he, Rd.ending]
theorem take_ok (n : Nat) (he : s.e = 0) (hn : s.pos + n ≤ s.L.length) : ICalls Tryd.prog 85 [ptrTo b 0, .int .i64 n] H fun v H' => v = byts ((s.L.drop s.pos).take n) ∧ H' = H.set b { s with pos := s.pos + n }.cells := by
  have c1 := rLeft H b s hs hg
  rw [Rd.left_ok he] at c1
  refine IBody.calls (by kernel_rfl) ?_
  obtain ⟨h1, h2, h3⟩ := hs
  unfold Rd.cells at hg
  have w1 := IntWalk.i64_in ((s.pos : Int) + n) (by omega)
  have w2 := IntWalk.i64_in (s.pos : Int) (by omega)
  have w4 : ((s.pos : Int) + n).toNat = s.pos + n := by omega
  refine IBody.of Tryd.func85 rfl (by rw [Tryd.ntmps85]; simp) ?_
  rw [Tryd.ntmps85]
  have Kp : Kept [[0,1],[0,1,6],[],[0,1],[0,1,17]] := ⟨⟩
  iterate 5 (refine Kp.s ?_; clear Kp; intro Kp; simp [go_sem, -getElem?_pos, -List.map_take, -List.map_drop, IntWalk.iteOmega, IntWalk.toNatUp, hg, he, w1, w2, w4, hn, Rd.cells, Nat.add_sub_cancel_left, show ¬ ((s.L.length : Int) - s.pos < n) by omega, show 0 ≤ (s.pos : Int) + n by omega])
  refine ICalls.mono (c1) ?_
  rintro v _ ⟨rfl, rfl⟩
  try simp [go_sem, -getElem?_pos, -List.map_take, -List.map_drop, IntWalk.iteOmega, IntWalk.toNatUp, hg, he, w1, w2, w4, hn, Rd.cells, Nat.add_sub_cancel_left, show ¬ ((s.L.length : Int) - s.pos < n) by omega, show 0 ≤ (s.pos : Int) + n by omega]
  have Kp : Kept [[],[0,1],[0,1,25],[],[0,1],[0,1]] := ⟨⟩
  iterate 6 (refine Kp.s ?_; clear Kp; intro Kp; simp [go_sem, -getElem?_pos, -List.map_take, -List.map_drop, IntWalk.iteOmega, IntWalk.toNatUp, hg, he, w1, w2, w4, hn, Rd.cells, Nat.add_sub_cancel_left, show ¬ ((s.L.length : Int) - s.pos < n) by omega, show 0 ≤ (s.pos : Int) + n by omega])
  refine IWp.seq ?_
  refine IWp.read [4] follows (by kernel_rfl) ?_
  simp [go_sem, -getElem?_pos, -List.map_take, -List.map_drop, IntWalk.iteOmega, IntWalk.toNatUp, hg, he, w1, w2, w4, hn, Rd.cells, Nat.add_sub_cancel_left, show ¬ ((s.L.length : Int) - s.pos < n) by omega, show 0 ≤ (s.pos : Int) + n by omega]
  refine IWp.one [] ?_
  simp [go_sem, -getElem?_pos, -List.map_take, -List.map_drop, IntWalk.iteOmega, IntWalk.toNatUp, hg, he, w1, w2, w4, hn, Rd.cells, Nat.add_sub_cancel_left, show ¬ ((s.L.length : Int) - s.pos < n) by omega, show 0 ≤ (s.pos : Int) + n by omega]
theorem take_short (n : Nat) (he : s.e = 0) (hn : ¬ s.pos + n ≤ s.L.length) : ICalls Tryd.prog 85 [ptrTo b 0, .int .i64 n] H fun v H' => v = .slice none 0 0 ∧ H' = H.set b { s with e := 4 }.cells := by
  have c1 := rLeft H b s hs hg
  rw [Rd.left_ok he] at c1
  refine IBody.calls (by kernel_rfl) ?_
  obtain ⟨h1, h2, h3⟩ := hs
  unfold Rd.cells at hg
  refine IBody.of Tryd.func85 rfl (by rw [Tryd.ntmps85]; simp) ?_
  rw [Tryd.ntmps85]
  have Kp : Kept [[0,1],[0,1,6],[],[0,1],[0,1,17]] := ⟨⟩
  iterate 5 (refine Kp.s ?_; clear Kp; intro Kp; simp [go_sem, -getElem?_pos, -List.map_take, -List.map_drop, IntWalk.iteOmega, IntWalk.toNatUp, hg, he, Rd.cells, show ((s.L.length : Int) - s.pos < n) by omega])
  refine ICalls.mono (c1) ?_
  rintro v _ ⟨rfl, rfl⟩
  try simp [go_sem, -getElem?_pos, -List.map_take, -List.map_drop, IntWalk.iteOmega, IntWalk.toNatUp, hg, he, Rd.cells, show ((s.L.length : Int) - s.pos < n) by omega]
  have Kp : Kept [[],[0,1],[0,1,25],[],[4],[]] := ⟨⟩
  iterate 6 (refine Kp.s ?_; clear Kp; intro Kp; simp [go_sem, -getElem?_pos, -List.map_take, -List.map_drop, IntWalk.iteOmega, IntWalk.toNatUp, hg, he, Rd.cells, show ((s.L.length : Int) - s.pos < n) by omega])
omit hs in
theorem take_bad (n : Nat) (he : ¬ s.e = 0) : ICalls Tryd.prog 85 [ptrTo b 0, .int .i64 n] H fun v H' => v = .slice none 0 0 ∧ H' = H := by
  refine IBody.calls (by kernel_rfl) ?_
  unfold Rd.cells at hg
  have hd : decide (s.e = 0) = false := by simpa using he
  refine IBody.of Tryd.func85 rfl (by rw [Tryd.ntmps85]; simp) ?_
  rw [Tryd.ntmps85]
  have Kp : Kept [[0,1],[0,1,6],[],[0,1],[0,1,17],[],[0,1],[0,1,25],[],[4],[]] := ⟨⟩
  iterate 11 (refine Kp.s ?_; clear Kp; intro Kp; simp [go_sem, -getElem?_pos, -List.map_take, -List.map_drop, IntWalk.iteOmega, IntWalk.toNatUp, hg, he, hd, Rd.cells])
theorem rByte : ICalls Tryd.prog 76 [ptrTo b 0] H fun v H' => v = .int .u8 s.byte.1 ∧ H' = H.set b s.byte.2.cells := by
  by_cases he : s.e = 0
  · by_cases hn : s.pos + 1 ≤ s.L.length
    · rw [Rd.byte_eq he hn]
      have c1 := take_ok H b s hs hg 1 he hn
      have ha := Rd.at_get (s := s) (i := 0) (by omega)
      rw [Nat.add_zero] at ha
      rw [show (s.L.drop s.pos).take 1 = [s.at_ 0] by
        rw [List.getElem?_eq_getElem (by omega), Option.some.injEq] at ha
        rw [List.drop_eq_getElem_cons (by omega), List.take_succ_cons, List.take_zero, ha]] at c1
      refine IBody.calls (by kernel_rfl) ?_
      refine IBody.of Tryd.func76 rfl (by rw [Tryd.ntmps76]; simp) ?_
      rw [Tryd.ntmps76]
      have Kp : Kept [[0],[3]] := ⟨⟩
      iterate 2 (refine Kp.s ?_; clear Kp; intro Kp; simp [go_sem, -getElem?_pos, -List.map_take, -List.map_drop, IntWalk.iteOmega, IntWalk.toNatUp, hn])
      refine ICalls.mono (c1) ?_
      rintro v _ ⟨rfl, rfl⟩
      try simp [go_sem, -getElem?_pos, -List.map_take, -List.map_drop, IntWalk.iteOmega, IntWalk.toNatUp, hn]
      have Kp : Kept [[3,8],[],[3],[2],[]] := ⟨⟩
      iterate 5 (refine Kp.s ?_; clear Kp; intro Kp; simp [go_sem, -getElem?_pos, -List.map_take, -List.map_drop, IntWalk.iteOmega, IntWalk.toNatUp, hn])
    · rw [Rd.byte_short he hn]
      have c1 := take_short H b s hs hg 1 he hn
      refine IBody.calls (by kernel_rfl) ?_
      refine IBody.of Tryd.func76 rfl (by rw [Tryd.ntmps76]; simp) ?_
      rw [Tryd.ntmps76]
      have Kp : Kept [[0],[3]] := ⟨⟩
      iterate 2 (refine Kp.s ?_; clear Kp; intro Kp; simp [go_sem, -getElem?_pos, -List.map_take, -List.map_drop, IntWalk.iteOmega, IntWalk.toNatUp, hn])
      refine ICalls.mono (c1) ?_
      rintro v _ ⟨rfl, rfl⟩
      try simp [go_sem, -getElem?_pos, -List.map_take, -List.map_drop, IntWalk.iteOmega, IntWalk.toNatUp, hn]
      have Kp : Kept [[3,8],[],[2],[]] := ⟨⟩
      iterate 4 (refine Kp.s ?_; clear Kp; intro Kp; simp [go_sem, -getElem?_pos, -List.map_take, -List.map_drop, IntWalk.iteOmega, IntWalk.toNatUp, hn])
  · rw [Rd.byte_bad he, set_self hg]
    have c1 := take_bad H b s hg 1 he
    refine IBody.calls (by kernel_rfl) ?_
    refine IBody.of Tryd.func76 rfl (by rw [Tryd.ntmps76]; simp) ?_
    rw [Tryd.ntmps76]
    have Kp : Kept [[0],[3]] := ⟨⟩
    iterate 2 (refine Kp.s ?_; clear Kp; intro Kp; simp [go_sem, -getElem?_pos, -List.map_take, -List.map_drop, IntWalk.iteOmega, IntWalk.toNatUp, he])
    refine ICalls.mono (c1) ?_
    rintro v _ ⟨rfl, rfl⟩
    try simp [go_sem, -getElem?_pos, -List.map_take, -List.map_drop, IntWalk.iteOmega, IntWalk.toNatUp, he]
    have Kp : Kept [[3,8],[],[2],[]] := ⟨⟩
    iterate 4 (refine Kp.s ?_; clear Kp; intro Kp; simp [go_sem, -getElem?_pos, -List.map_take, -List.map_drop, IntWalk.iteOmega, IntWalk.toNatUp, he])
theorem rFlag : ICalls Tryd.prog 77 [ptrTo b 0] H fun v H' => v = .bool s.flag.1 ∧ H' = H.set b s.flag.2.cells := by
  have c1 := rByte H b s hs hg
  by_cases he : s.e = 0
  · by_cases hn : s.pos + 1 ≤ s.L.length
    · rw [Rd.byte_eq he hn] at c1
      obtain ⟨h1, h2, h3⟩ := hs
      have w1 := IntWalk.i64_in (s.pos : Int) (by omega)
      by_cases hf : 1 < s.at_ 0
      · rw [Rd.flag_form he hn hf]
        refine IBody.calls (by kernel_rfl) ?_
        refine IBody.of Tryd.func77 rfl (by rw [Tryd.ntmps77]; simp) ?_
        rw [Tryd.ntmps77]
        have Kp : Kept [[0],[0,3]] := ⟨⟩
        iterate 2 (refine Kp.s ?_; clear Kp; intro Kp; simp [go_sem, -getElem?_pos, -List.map_take, -List.map_drop, IntWalk.iteOmega, IntWalk.toNatUp, hg, hf, he, w1, set_set, Rd.cells])
        refine ICalls.mono (c1) ?_
        rintro v _ ⟨rfl, rfl⟩
        try simp [go_sem, -getElem?_pos, -List.map_take, -List.map_drop, IntWalk.iteOmega, IntWalk.toNatUp, hg, hf, he, w1, set_set, Rd.cells]
        have Kp : Kept [[0,3,7],[],[0],[],[2],[]] := ⟨⟩
        iterate 6 (refine Kp.s ?_; clear Kp; intro Kp; simp [go_sem, -getElem?_pos, -List.map_take, -List.map_drop, IntWalk.iteOmega, IntWalk.toNatUp, hg, hf, he, w1, set_set, Rd.cells])
      · rw [Rd.flag_eq he hn hf]
        refine IBody.calls (by kernel_rfl) ?_
        refine IBody.of Tryd.func77 rfl (by rw [Tryd.ntmps77]; simp) ?_
        rw [Tryd.ntmps77]
        have Kp : Kept [[0],[0,3]] := ⟨⟩
        iterate 2 (refine Kp.s ?_; clear Kp; intro Kp; simp [go_sem, -getElem?_pos, -List.map_take, -List.map_drop, IntWalk.iteOmega, IntWalk.toNatUp, hg, hf, he, Rd.cells])
        refine ICalls.mono (c1) ?_
        rintro v _ ⟨rfl, rfl⟩
        try simp [go_sem, -getElem?_pos, -List.map_take, -List.map_drop, IntWalk.iteOmega, IntWalk.toNatUp, hg, hf, he, Rd.cells]
        have Kp : Kept [[0,3,7],[],[3],[2],[]] := ⟨⟩
        iterate 5 (refine Kp.s ?_; clear Kp; intro Kp; simp [go_sem, -getElem?_pos, -List.map_take, -List.map_drop, IntWalk.iteOmega, IntWalk.toNatUp, hg, hf, he, Rd.cells])
    · rw [Rd.byte_short he hn] at c1
      rw [Rd.flag_short he hn]
      refine IBody.calls (by kernel_rfl) ?_
      refine IBody.of Tryd.func77 rfl (by rw [Tryd.ntmps77]; simp) ?_
      rw [Tryd.ntmps77]
      have Kp : Kept [[0],[0,3]] := ⟨⟩
      iterate 2 (refine Kp.s ?_; clear Kp; intro Kp; simp [go_sem, -getElem?_pos, -List.map_take, -List.map_drop, IntWalk.iteOmega, IntWalk.toNatUp, hg, he, Rd.cells])
      refine ICalls.mono (c1) ?_
      rintro v _ ⟨rfl, rfl⟩
      try simp [go_sem, -getElem?_pos, -List.map_take, -List.map_drop, IntWalk.iteOmega, IntWalk.toNatUp, hg, he, Rd.cells]
      have Kp : Kept [[0,3,7],[],[3],[2],[]] := ⟨⟩
      iterate 5 (refine Kp.s ?_; clear Kp; intro Kp; simp [go_sem, -getElem?_pos, -List.map_take, -List.map_drop, IntWalk.iteOmega, IntWalk.toNatUp, hg, he, Rd.cells])
  · rw [Rd.byte_bad he] at c1
    rw [Rd.flag_bad he]
    refine IBody.calls (by kernel_rfl) ?_
    refine IBody.of Tryd.func77 rfl (by rw [Tryd.ntmps77]; simp) ?_
    rw [Tryd.ntmps77]
    have Kp : Kept [[0],[0,3]] := ⟨⟩
    iterate 2 (refine Kp.s ?_; clear Kp; intro Kp; simp [go_sem, -getElem?_pos, -List.map_take, -List.map_drop, IntWalk.iteOmega, IntWalk.toNatUp, hg, he, Rd.cells])
    refine ICalls.mono (c1) ?_
    rintro v _ ⟨rfl, rfl⟩
    try simp [go_sem, -getElem?_pos, -List.map_take, -List.map_drop, IntWalk.iteOmega, IntWalk.toNatUp, hg, he, Rd.cells]
    have Kp : Kept [[0,3,7],[],[3],[2],[]] := ⟨⟩
    iterate 5 (refine Kp.s ?_; clear Kp; intro Kp; simp [go_sem, -getElem?_pos, -List.map_take, -List.map_drop, IntWalk.iteOmega, IntWalk.toNatUp, hg, he, Rd.cells])
theorem rInt : ICalls Tryd.prog 68 [ptrTo b 0] H fun v H' => v = .int .i64 s.int.1 ∧ H' = H.set b s.int.2.cells := by
  by_cases he : s.e = 0
  · by_cases hn : s.pos + 4 ≤ s.L.length
    · rw [Rd.int_eq he hn]
      have c1 := take_ok H b s hs hg 4 he hn
      have a0 := Rd.at_byte hs 0
      have a1 := Rd.at_byte hs 1
      have a2 := Rd.at_byte hs 2
      have a3 := Rd.at_byte hs 3
      have hl : (s.L.drop s.pos).take 4 = [s.at_ 0, s.at_ 1, s.at_ 2, s.at_ 3] := by
        apply List.ext_getElem?
        intro i
        by_cases hi : i < 4
        · rw [List.getElem?_take_of_lt hi, List.getElem?_drop, Rd.at_get (by omega)]
          match i, hi with
          | 0, _ => rfl
          | 1, _ => rfl
          | 2, _ => rfl
          | 3, _ => rfl
        · rw [List.getElem?_eq_none (by simp; omega), List.getElem?_eq_none (by simp; omega)]
      rw [hl] at c1
      have hB : Bs [s.at_ 0, s.at_ 1, s.at_ 2, s.at_ 3] := fun x hx => by simp at hx; rcases hx with rfl | rfl | rfl | rfl <;> assumption
      have hnum := be4_num _ _ _ _ a0 a1 a2 a3
      generalize hM : [s.at_ 0, s.at_ 1, s.at_ 2, s.at_ 3] = M at c1 hB hnum
      have hlen : M.length = 4 := by rw [← hM]; rfl
      rw [← hnum]
      refine IBody.calls (by kernel_rfl) ?_
      refine IBody.of Tryd.func68 rfl (by rw [Tryd.ntmps68]; simp) ?_
      rw [Tryd.ntmps68]
      have Kp : Kept [[0],[0,3],[3,7,8,9]] := ⟨⟩
      iterate 3 (refine Kp.s ?_; clear Kp; intro Kp; simp [go_sem, -getElem?_pos, -List.map_take, -List.map_drop, IntWalk.iteOmega, IntWalk.toNatUp, hlen])
      refine ICalls.mono (c1) ?_
      rintro v _ ⟨rfl, rfl⟩
      try simp [go_sem, -getElem?_pos, -List.map_take, -List.map_drop, IntWalk.iteOmega, IntWalk.toNatUp, hlen]
      refine IWp.block ?_
      refine IWp.loop (fun j e K => ∃ i : Nat, j = 4 - i ∧ i ≤ 4 ∧ e = [(3, .int .u32 (num (M.take i))), (7, byts M), (8, .int .i64 4), (9, .int .i64 (i : Int))] ∧ K = H.set b { s with pos := s.pos + 4 }.cells) 4 ⟨0, rfl, by omega, by simp [num], rfl⟩ ?_
      rintro j e K ⟨i, rfl, hi, rfl, rfl⟩
      by_cases hlt : i < 4
      · have hli : i < M.length := by omega
        have hb := num_bound (M.take i) (fun x hx => hB x (List.mem_of_mem_take hx))
        rw [show (M.take i).length = i by simp; omega] at hb
        have hp : (256 : Int) ^ i ≤ 256 ^ 3 := by
          match i, hlt with
          | 0, _ => decide
          | 1, _ => decide
          | 2, _ => decide
          | 3, _ => decide
        have hb2 : 0 ≤ num (M.take i) ∧ num (M.take i) < 16777216 := ⟨hb.1, Int.lt_of_lt_of_le hb.2 hp⟩
        have hx := hB _ (List.getElem_mem hli)
        have o1 := or_low _ _ hb2 hx
        have hs1 : num (M.take (i + 1)) = num (M.take i) * 256 + M[i] := by rw [List.take_succ_eq_append_getElem hli, num_snoc]
        generalize num (M.take i) = y at hb2 o1 hs1
        have w1 := IntWalk.u32_in (y * 256) (by omega)
        have w2 := IntWalk.u32_in (y * 256 + M[i]) (by omega)
        have w3 := IntWalk.u32_in M[i] (by omega)
        have w4 := IntWalk.i64_in ((i : Int) + 1) (by omega)
        have Kp : Kept [[3,7,8,9,10],[],[3,7,8,9],[3,5,7,8,9],[3,7,8,9],[3,7,8,9]] := ⟨⟩
        iterate 6 (refine Kp.s ?_; clear Kp; intro Kp; simp [go_sem, -getElem?_pos, -List.map_take, -List.map_drop, IntWalk.iteOmega, IntWalk.toNatUp, o1, w1, w2, w3, w4, List.getElem?_eq_getElem hli, -BitVec.toNat_or, show (i : Int) < 4 by omega, show ¬ ((i : Int) < 0) by omega])
        exact ⟨4 - (i + 1), by omega, i + 1, rfl, by omega, hs1.symm, by omega⟩
      · have hi4 : i = 4 := by omega
        subst hi4
        have ht : M.take 4 = M := List.take_of_length_le (by omega)
        have Kp : Kept [[3,7,8,9,10],[],[3],[2],[]] := ⟨⟩
        iterate 5 (refine Kp.s ?_; clear Kp; intro Kp; simp [go_sem, -getElem?_pos, -List.map_take, -List.map_drop, IntWalk.iteOmega, IntWalk.toNatUp, ht])
    · rw [Rd.int_short he hn]
      have c1 := take_short H b s hs hg 4 he hn
      refine IBody.calls (by kernel_rfl) ?_
      refine IBody.of Tryd.func68 rfl (by rw [Tryd.ntmps68]; simp) ?_
      rw [Tryd.ntmps68]
      have Kp : Kept [[0],[0,3],[3,7,8,9]] := ⟨⟩
      iterate 3 (refine Kp.s ?_; clear Kp; intro Kp; simp [go_sem, -getElem?_pos, -List.map_take, -List.map_drop, IntWalk.iteOmega, IntWalk.toNatUp, hn])
      refine ICalls.mono (c1) ?_
      rintro v _ ⟨rfl, rfl⟩
      try simp [go_sem, -getElem?_pos, -List.map_take, -List.map_drop, IntWalk.iteOmega, IntWalk.toNatUp, hn]
      refine IWp.block ?_
      refine IWp.loop (fun j e K => e = [(3, .int .u32 0), (7, .slice none 0 0), (8, .int .i64 0), (9, .int .i64 0)] ∧ K = H.set b { s with e := 4 }.cells) 0 ⟨rfl, rfl⟩ ?_
      rintro j e K ⟨rfl, rfl⟩
      have Kp : Kept [[3,7,8,9,10],[],[3],[2],[]] := ⟨⟩
      iterate 5 (refine Kp.s ?_; clear Kp; intro Kp; simp [go_sem, -getElem?_pos, -List.map_take, -List.map_drop, IntWalk.iteOmega, IntWalk.toNatUp, show IntKind.i64.wrap (IntKind.i32.wrap 0) = 0 by decide])
  · rw [Rd.int_bad he, set_self hg]
    have c1 := take_bad H b s hg 4 he
    refine IBody.calls (by kernel_rfl) ?_
    refine IBody.of Tryd.func68 rfl (by rw [Tryd.ntmps68]; simp) ?_
    rw [Tryd.ntmps68]
    have Kp : Kept [[0],[0,3],[3,7,8,9]] := ⟨⟩
    iterate 3 (refine Kp.s ?_; clear Kp; intro Kp; simp [go_sem, -getElem?_pos, -List.map_take, -List.map_drop, IntWalk.iteOmega, IntWalk.toNatUp, he])
    refine ICalls.mono (c1) ?_
    rintro v H ⟨rfl, rfl⟩
    try simp [go_sem, -getElem?_pos, -List.map_take, -List.map_drop, IntWalk.iteOmega, IntWalk.toNatUp, he]
    refine IWp.block ?_
    refine IWp.loop (fun j e K => e = [(3, .int .u32 0), (7, .slice none 0 0), (8, .int .i64 0), (9, .int .i64 0)] ∧ K = H) 0 ⟨rfl, rfl⟩ ?_
    rintro j e K ⟨rfl, rfl⟩
    have Kp : Kept [[3,7,8,9,10],[],[3],[2],[]] := ⟨⟩
    iterate 5 (refine Kp.s ?_; clear Kp; intro Kp; simp [go_sem, -getElem?_pos, -List.map_take, -List.map_drop, IntWalk.iteOmega, IntWalk.toNatUp, show IntKind.i64.wrap (IntKind.i32.wrap 0) = 0 by decide])
end prog
theorem newReader (H : Heap) (m : Int) (L : List Int) (hL : L.length ≤ 1000000) :
    ICalls Tryd.prog 51 [frow 1 m (L.map (Value.int .u8))] H fun v H' => v = ptrTo H.next 0 ∧ H' = H.alloc (Rd.cells ⟨L, 0, 0⟩) := by
  refine IBody.calls (by kernel_rfl) ?_
  refine IBody.of Tryd.func51 rfl (by rw [Tryd.ntmps51]; simp) ?_
  rw [Tryd.ntmps51]
  have Kp : Kept [[0],[2]] := ⟨⟩
  iterate 2 (refine Kp.s ?_; clear Kp; intro Kp; simp [go_sem, -getElem?_pos, -List.map_take, -List.map_drop, IntWalk.iteOmega, IntWalk.toNatUp, Rd.cells])
  refine ICalls.mono (clone _ m L hL) ?_
  rintro v H ⟨rfl, rfl⟩
  try simp [go_sem, -getElem?_pos, -List.map_take, -List.map_drop, IntWalk.iteOmega, IntWalk.toNatUp, Rd.cells]
  refine IWp.one [] ?_
  simp [go_sem, -getElem?_pos, -List.map_take, -List.map_drop, IntWalk.iteOmega, IntWalk.toNatUp, Rd.cells]
theorem bs_of {L : List Int} (h : L.all fun x => decide (0 ≤ x ∧ x < 256)) : Bs L := fun x hx => by
  rw [List.all_eq_true] at h
  simpa using h x hx
end Go.Proofs.YtoecebibhcadoaaDoor.I
