/- A burst begins with the sound that is told anew: the law's body. No condition. -/
import Derived.Test.YtdimnoeldnfikaaLPanelS
namespace Go.Proofs.Ytdimnoeldnfikaa.I
open Go Go.RowKit
set_option linter.unusedVariables false
set_option linter.unusedSimpArgs false

/-- A light that is lit. -/
def litA (p : Int) : Light := ⟨1, p, ⟨false, true, false, 0, 0⟩⟩
theorem litA_audio (p now : Int) (hp : 0 ≤ p) (hn : 0 ≤ now) : audioS now [litA p] ⟨0, 0, 0⟩ = p := by
  unfold audioS
  rw [if_neg (by simp; omega)]
  show max 0 p = p
  omega
theorem sound0 (p : Int) (hp : 1 ≤ p ∧ p ≤ 3) : soundS p 0 = true := by
  have : p = 1 ∨ p = 2 ∨ p = 3 := by omega
  rcases this with rfl | rfl | rfl <;> decide +kernel
theorem since0 (t : Int) : sinceS t t = 0 := by unfold sinceS; rw [if_pos (Int.le_refl _)]
theorem litA_out (s g now p : Int) (hp : 1 ≤ p ∧ p ≤ 3) (hn : 0 ≤ now) : (outS s g now [litA p] ⟨0, 0, 0⟩) = ⟨now, [lampOf (litA p)], p, soundS p (sinceS now (if p = s then g else now)), false, false⟩ := by
  unfold outS beganS
  rw [litA_audio p now (by omega) hn]
  have e : lampsS [litA p] = [lampOf (litA p)] := rfl
  rw [e]
  simp only [Outp.mk.injEq, true_and, decide_eq_false_iff_not]
  omega

set_option maxRecDepth 100000 in
set_option maxHeartbeats 4000000 in
theorem panelBegins_law (H : Heap) (a b n : Int) (w0 : 0 ≤ a ∧ a < 256) (w1 : 0 ≤ b ∧ b < 256) (w2 : 0 ≤ n ∧ n < 256) : IBody Try.prog 14 [.int .u8 a, .int .u8 b, .int .u8 n] H fun v _ => v = .bool true := by
  have t1 : a.tmod 3 = a % 3 := Int.tmod_eq_emod_of_nonneg w0.1
  have t2 : b.tmod 3 = b % 3 := Int.tmod_eq_emod_of_nonneg w1.1
  have t3 : n.tmod 50 = n % 50 := Int.tmod_eq_emod_of_nonneg w2.1
  have u1 := IntWalk.u8_in (a % 3) (by omega)
  have u2 := IntWalk.u8_in (1 + a % 3) (by omega)
  have u3 := IntWalk.u8_in (b % 3) (by omega)
  have u4 := IntWalk.u8_in (1 + b % 3) (by omega)
  have u5 := IntWalk.u8_in (n % 50) (by omega)
  have u6 := IntWalk.i64_in (n % 50) (by omega)
  have pa : 1 ≤ 1 + a % 3 ∧ 1 + a % 3 ≤ 3 := by omega
  have pb' : 1 ≤ 1 + b % 3 ∧ 1 + b % 3 ≤ 3 := by omega
  have hab : (1 + b % 3 = 1 + a % 3) ↔ (a % 3 = b % 3) := by omega
  obtain ⟨N, hN⟩ : ∃ N : Nat, n % 50 = N := ⟨(n % 50).toNat, by omega⟩
  have hN50 : N < 50 := by omega
  have u7 := IntWalk.i64_in (N : Int) (by omega)
  have u8 := IntWalk.u8_in (N : Int) (by omega)
  refine IBody.of Try.func14 rfl (by rw [Try.ntmps14]; simp) ?_
  rw [Try.ntmps14]
  refine IWp.seq ?_
  refine IWp.run [0, 1, 2] ?_
  simp [go_sem, -getElem?_pos, -List.map_take, -List.map_drop, List.getElem?_cons_zero, List.getElem?_cons_succ, Go.IntWalk.iteOmega, Go.IntWalk.toNatUp, get_alloc, next_alloc, t1, t2, u1, u2, u3, u4]
  refine IWp.seq ?_
  refine IWp.seq ?_
  refine IWp.run [0, 1, 2, 17] ?_
  simp [go_sem, -getElem?_pos, -List.map_take, -List.map_drop, List.getElem?_cons_zero, List.getElem?_cons_succ, Go.IntWalk.iteOmega, Go.IntWalk.toNatUp, get_alloc, next_alloc, t1, t2, u1, u2, u3, u4]
  refine ICalls.then (darkC _) ?_
  try simp [go_sem, -getElem?_pos, -List.map_take, -List.map_drop, List.getElem?_cons_zero, List.getElem?_cons_succ, Go.IntWalk.iteOmega, Go.IntWalk.toNatUp, get_alloc, next_alloc, t1, t2, u1, u2, u3, u4]
  refine IWp.cond ?_
  simp [go_sem, -getElem?_pos, -List.map_take, -List.map_drop, List.getElem?_cons_zero, List.getElem?_cons_succ, Go.IntWalk.iteOmega, Go.IntWalk.toNatUp, get_alloc, next_alloc, t1, t2, u1, u2, u3, u4]
  refine IWp.trim [0, 1, 2] (IWp.skip ?_)
  simp [go_sem, -getElem?_pos, -List.map_take, -List.map_drop, List.getElem?_cons_zero, List.getElem?_cons_succ, Go.IntWalk.iteOmega, Go.IntWalk.toNatUp, get_alloc, next_alloc, t1, t2, u1, u2, u3, u4]
  refine IWp.seq ?_
  refine IWp.run [0, 1, 2, 7] ?_
  simp [go_sem, -getElem?_pos, -List.map_take, -List.map_drop, List.getElem?_cons_zero, List.getElem?_cons_succ, Go.IntWalk.iteOmega, Go.IntWalk.toNatUp, get_alloc, next_alloc, t1, t2, u1, u2, u3, u4]
  refine ICalls.mono (newC _) ?_
  rintro v K1 ⟨hv, hK1⟩
  subst hv; subst hK1
  try simp [go_sem, -getElem?_pos, -List.map_take, -List.map_drop, List.getElem?_cons_zero, List.getElem?_cons_succ, Go.IntWalk.iteOmega, Go.IntWalk.toNatUp, get_alloc, next_alloc, t1, t2, u1, u2, u3, u4]
  refine IWp.seq ?_
  refine IWp.run [0, 1, 2, 7, 8] ?_
  simp [go_sem, -getElem?_pos, -List.map_take, -List.map_drop, List.getElem?_cons_zero, List.getElem?_cons_succ, Go.IntWalk.iteOmega, Go.IntWalk.toNatUp, get_alloc, next_alloc, t1, t2, u1, u2, u3, u4]
  refine IWp.seq ?_
  refine IWp.run [0, 1, 2, 7, 8, 9] ?_
  simp [go_sem, -getElem?_pos, -List.map_take, -List.map_drop, List.getElem?_cons_zero, List.getElem?_cons_succ, Go.IntWalk.iteOmega, Go.IntWalk.toNatUp, get_alloc, next_alloc, t1, t2, u1, u2, u3, u4]
  refine IWp.seq ?_
  refine IWp.freezeE (fun j => decide (H.next + 1 ≤ j)) (e' := [(0, .int .u8 a), (1, .int .u8 b), (2, .int .u8 n), (7, ptrTo H.next 0), (8, frow 7 0 ([litA (1 + a % 3)].map Light.val)), (9, frow 7 0 ([litA (1 + b % 3)].map Light.val))]) (.cons (.same _) (.cons (.same _) (.cons (.same _) (.cons (.same _) (.cons (frzLight (litA (1 + a % 3)) (by simp [get_alloc, next_alloc, litA, Light.cells, Life.cells]) (by simp)) (.cons (frzLight (litA (1 + b % 3)) (by simp [get_alloc, next_alloc, litA, Light.cells, Life.cells]) (by simp)) .nil)))))) ?_
  obtain ⟨K0, hK0⟩ : ∃ K0, K0 = (((H.alloc [.int .u8 0, .int .i64 0]).alloc [.int .i64 1, .int .u8 (1 + a % 3), .bool false, .bool true, .bool false, .int .i64 0, .int .i64 0]).alloc [.int .i64 1, .int .u8 (1 + b % 3), .bool false, .bool true, .bool false, .int .i64 0, .int .i64 0]).only fun j => !decide (H.next + 1 ≤ j) := ⟨_, rfl⟩
  have g0 : K0.get H.next = some ⟨[.int .u8 0, .int .i64 0], true⟩ := by
    rw [hK0]; simp [Heap.only, get_alloc, next_alloc, show ¬ H.next = H.next + 1 + 1 by omega]
  rw [← hK0]
  clear hK0
  generalize H.next = q0 at *
  refine IWp.run [0, 1, 2, 7, 8, 9, 10] ?_
  simp [go_sem, -getElem?_pos, -List.map_take, -List.map_drop, List.getElem?_cons_zero, List.getElem?_cons_succ, Go.IntWalk.iteOmega, Go.IntWalk.toNatUp]
  refine IWp.seq ?_
  refine IWp.seq ?_
  refine IWp.run [0, 1, 2, 7, 8, 9, 10, 11] ?_
  simp [go_sem, -getElem?_pos, -List.map_take, -List.map_drop, List.getElem?_cons_zero, List.getElem?_cons_succ, Go.IntWalk.iteOmega, Go.IntWalk.toNatUp]
  refine IWp.block ?_
  -- LOOP live [0, 1, 2, 7, 8, 9, 10, 11]
  refine IWp.loop (fun q e K => ∃ (i : Nat) (s g : Int), q = N - i ∧ i ≤ N ∧ K.get q0 = some ⟨[.int .u8 s, .int .i64 g], true⟩ ∧ ((i = 0 ∧ s = 0 ∧ g = 0) ∨ (0 < i ∧ s = 1 + a % 3 ∧ g = 1)) ∧ e = [(0, .int .u8 a), (1, .int .u8 b), (2, .int .u8 n), (7, ptrTo q0 0), (8, frow 7 0 ([litA (1 + a % 3)].map Light.val)), (9, frow 7 0 ([litA (1 + b % 3)].map Light.val)), (10, .int .i64 (1 + (i : Int))), (11, .int .i64 (i : Int))]) N ⟨0, 0, 0, rfl, Nat.zero_le _, g0, .inl ⟨rfl, rfl, rfl⟩, by simp [go_sem]⟩ ?_
  rintro q e K ⟨i, s, g, rfl, hi, hp, hs, rfl⟩
  have v1 := IntWalk.i64_in (1 + (i : Int) + 1) (by omega)
  have v2 := IntWalk.i64_in ((i : Int) + 1) (by omega)
  by_cases hlt : i < N
  · have c := showC K q0 s g (1 + (i : Int)) [litA (1 + a % 3)] ⟨0, 0, 0⟩ (by simp) (by simp) hp
    have eo := litA_out s g (1 + (i : Int)) (1 + a % 3) pa (by omega)
    have ea := litA_audio (1 + a % 3) (1 + (i : Int)) (by omega) (by omega)
    rw [eo, ea] at c
    simp only [Outp.val, Outp.cells, Hush.val, Hush.cells] at c
    have eb : beganS s g (1 + (i : Int)) [litA (1 + a % 3)] ⟨0, 0, 0⟩ = if 1 + a % 3 = s then g else 1 + (i : Int) := by unfold beganS; rw [ea]
    rw [eb] at c
    rcases hs with ⟨rfl, rfl, rfl⟩ | ⟨hi0, rfl, rfl⟩
    · rw [if_neg (by omega)] at c
      rw [since0, sound0 _ pa] at c
      refine IWp.seq ?_
      refine IWp.seq ?_
      refine IWp.run [0, 1, 2, 7, 8, 9, 10, 11, 35] ?_
      simp [go_sem, -getElem?_pos, -List.map_take, -List.map_drop, List.getElem?_cons_zero, List.getElem?_cons_succ, Go.IntWalk.iteOmega, Go.IntWalk.toNatUp, t3, u5, u6, u7, u8, hN, hlt, v1, v2, IntWalk.i64_in 1 (by omega), IntWalk.i64_in 2 (by omega)]
      refine IWp.cond ?_
      simp [go_sem, -getElem?_pos, -List.map_take, -List.map_drop, List.getElem?_cons_zero, List.getElem?_cons_succ, Go.IntWalk.iteOmega, Go.IntWalk.toNatUp, t3, u5, u6, u7, u8, hN, hlt, v1, v2, IntWalk.i64_in 1 (by omega), IntWalk.i64_in 2 (by omega)]
      refine IWp.trim [0, 1, 2, 7, 8, 9, 10, 11] (IWp.skip ?_)
      simp [go_sem, -getElem?_pos, -List.map_take, -List.map_drop, List.getElem?_cons_zero, List.getElem?_cons_succ, Go.IntWalk.iteOmega, Go.IntWalk.toNatUp, t3, u5, u6, u7, u8, hN, hlt, v1, v2, IntWalk.i64_in 1 (by omega), IntWalk.i64_in 2 (by omega)]
      refine IWp.seq ?_
      refine IWp.block ?_
      refine IWp.seq ?_
      refine IWp.run [0, 1, 2, 7, 8, 9, 10, 11, 12] ?_
      simp [go_sem, -getElem?_pos, -List.map_take, -List.map_drop, List.getElem?_cons_zero, List.getElem?_cons_succ, Go.IntWalk.iteOmega, Go.IntWalk.toNatUp, t3, u5, u6, u7, u8, hN, hlt, v1, v2, IntWalk.i64_in 1 (by omega), IntWalk.i64_in 2 (by omega)]
      refine ICalls.mono (c) ?_
      rintro v K2 ⟨hv, h2, h3, h4⟩
      subst hv
      try simp [go_sem, -getElem?_pos, -List.map_take, -List.map_drop, List.getElem?_cons_zero, List.getElem?_cons_succ, Go.IntWalk.iteOmega, Go.IntWalk.toNatUp, t3, u5, u6, u7, u8, hN, hlt, v1, v2, IntWalk.i64_in 1 (by omega), IntWalk.i64_in 2 (by omega)]
      refine IWp.seq ?_
      refine IWp.seq ?_
      refine IWp.run [0, 1, 2, 7, 8, 9, 10, 11, 49] ?_
      simp [go_sem, -getElem?_pos, -List.map_take, -List.map_drop, List.getElem?_cons_zero, List.getElem?_cons_succ, Go.IntWalk.iteOmega, Go.IntWalk.toNatUp, t3, u5, u6, u7, u8, hN, hlt, v1, v2, IntWalk.i64_in 1 (by omega), IntWalk.i64_in 2 (by omega)]
      refine IWp.cond ?_
      simp [go_sem, -getElem?_pos, -List.map_take, -List.map_drop, List.getElem?_cons_zero, List.getElem?_cons_succ, Go.IntWalk.iteOmega, Go.IntWalk.toNatUp, t3, u5, u6, u7, u8, hN, hlt, v1, v2, IntWalk.i64_in 1 (by omega), IntWalk.i64_in 2 (by omega)]
      refine IWp.trim [0, 1, 2, 7, 8, 9, 10, 11] (IWp.skip ?_)
      simp [go_sem, -getElem?_pos, -List.map_take, -List.map_drop, List.getElem?_cons_zero, List.getElem?_cons_succ, Go.IntWalk.iteOmega, Go.IntWalk.toNatUp, t3, u5, u6, u7, u8, hN, hlt, v1, v2, IntWalk.i64_in 1 (by omega), IntWalk.i64_in 2 (by omega)]
      refine IWp.run [0, 1, 2, 7, 8, 9, 10, 11] ?_
      simp [go_sem, -getElem?_pos, -List.map_take, -List.map_drop, List.getElem?_cons_zero, List.getElem?_cons_succ, Go.IntWalk.iteOmega, Go.IntWalk.toNatUp, t3, u5, u6, u7, u8, hN, hlt, v1, v2, IntWalk.i64_in 1 (by omega), IntWalk.i64_in 2 (by omega)]
      refine IWp.run [0, 1, 2, 7, 8, 9, 10, 11] ?_
      simp [go_sem, -getElem?_pos, -List.map_take, -List.map_drop, List.getElem?_cons_zero, List.getElem?_cons_succ, Go.IntWalk.iteOmega, Go.IntWalk.toNatUp, t3, u5, u6, u7, u8, hN, hlt, v1, v2, IntWalk.i64_in 1 (by omega), IntWalk.i64_in 2 (by omega)]
      have := Heap.lt_of_get h2
      exact ⟨N - 1, by omega, 1, rfl, by omega, 1 + a % 3, 1, by rw [if_neg (by omega)]; exact h2, .inr ⟨by omega, rfl, rfl⟩, by omega, by omega⟩
    · rw [if_pos rfl] at c
      generalize soundS (1 + a % 3) _ = so at c
      refine IWp.seq ?_
      refine IWp.seq ?_
      refine IWp.run [0, 1, 2, 7, 8, 9, 10, 11, 35] ?_
      simp [go_sem, -getElem?_pos, -List.map_take, -List.map_drop, List.getElem?_cons_zero, List.getElem?_cons_succ, Go.IntWalk.iteOmega, Go.IntWalk.toNatUp, t3, u5, u6, u7, u8, hN, hlt, v1, v2, show ¬ i = 0 by omega, show ¬ (i : Int) = 0 by omega]
      refine IWp.cond ?_
      simp [go_sem, -getElem?_pos, -List.map_take, -List.map_drop, List.getElem?_cons_zero, List.getElem?_cons_succ, Go.IntWalk.iteOmega, Go.IntWalk.toNatUp, t3, u5, u6, u7, u8, hN, hlt, v1, v2, show ¬ i = 0 by omega, show ¬ (i : Int) = 0 by omega]
      refine IWp.trim [0, 1, 2, 7, 8, 9, 10, 11] (IWp.skip ?_)
      simp [go_sem, -getElem?_pos, -List.map_take, -List.map_drop, List.getElem?_cons_zero, List.getElem?_cons_succ, Go.IntWalk.iteOmega, Go.IntWalk.toNatUp, t3, u5, u6, u7, u8, hN, hlt, v1, v2, show ¬ i = 0 by omega, show ¬ (i : Int) = 0 by omega]
      refine IWp.seq ?_
      refine IWp.block ?_
      refine IWp.seq ?_
      refine IWp.run [0, 1, 2, 7, 8, 9, 10, 11, 12] ?_
      simp [go_sem, -getElem?_pos, -List.map_take, -List.map_drop, List.getElem?_cons_zero, List.getElem?_cons_succ, Go.IntWalk.iteOmega, Go.IntWalk.toNatUp, t3, u5, u6, u7, u8, hN, hlt, v1, v2, show ¬ i = 0 by omega, show ¬ (i : Int) = 0 by omega]
      refine ICalls.mono (c) ?_
      rintro v K2 ⟨hv, h2, h3, h4⟩
      subst hv
      try simp [go_sem, -getElem?_pos, -List.map_take, -List.map_drop, List.getElem?_cons_zero, List.getElem?_cons_succ, Go.IntWalk.iteOmega, Go.IntWalk.toNatUp, t3, u5, u6, u7, u8, hN, hlt, v1, v2, show ¬ i = 0 by omega, show ¬ (i : Int) = 0 by omega]
      refine IWp.seq ?_
      refine IWp.seq ?_
      refine IWp.run [0, 1, 2, 7, 8, 9, 10, 11, 49] ?_
      simp [go_sem, -getElem?_pos, -List.map_take, -List.map_drop, List.getElem?_cons_zero, List.getElem?_cons_succ, Go.IntWalk.iteOmega, Go.IntWalk.toNatUp, t3, u5, u6, u7, u8, hN, hlt, v1, v2, show ¬ i = 0 by omega, show ¬ (i : Int) = 0 by omega]
      refine IWp.cond ?_
      simp [go_sem, -getElem?_pos, -List.map_take, -List.map_drop, List.getElem?_cons_zero, List.getElem?_cons_succ, Go.IntWalk.iteOmega, Go.IntWalk.toNatUp, t3, u5, u6, u7, u8, hN, hlt, v1, v2, show ¬ i = 0 by omega, show ¬ (i : Int) = 0 by omega]
      refine IWp.trim [0, 1, 2, 7, 8, 9, 10, 11] (IWp.skip ?_)
      simp [go_sem, -getElem?_pos, -List.map_take, -List.map_drop, List.getElem?_cons_zero, List.getElem?_cons_succ, Go.IntWalk.iteOmega, Go.IntWalk.toNatUp, t3, u5, u6, u7, u8, hN, hlt, v1, v2, show ¬ i = 0 by omega, show ¬ (i : Int) = 0 by omega]
      refine IWp.run [0, 1, 2, 7, 8, 9, 10, 11] ?_
      simp [go_sem, -getElem?_pos, -List.map_take, -List.map_drop, List.getElem?_cons_zero, List.getElem?_cons_succ, Go.IntWalk.iteOmega, Go.IntWalk.toNatUp, t3, u5, u6, u7, u8, hN, hlt, v1, v2, show ¬ i = 0 by omega, show ¬ (i : Int) = 0 by omega]
      refine IWp.run [0, 1, 2, 7, 8, 9, 10, 11] ?_
      simp [go_sem, -getElem?_pos, -List.map_take, -List.map_drop, List.getElem?_cons_zero, List.getElem?_cons_succ, Go.IntWalk.iteOmega, Go.IntWalk.toNatUp, t3, u5, u6, u7, u8, hN, hlt, v1, v2, show ¬ i = 0 by omega, show ¬ (i : Int) = 0 by omega]
      have := Heap.lt_of_get h2
      exact ⟨N - (i + 1), by omega, i + 1, rfl, by omega, 1 + a % 3, 1, by rw [if_neg (by omega)]; exact h2, .inr ⟨by omega, rfl, rfl⟩, by omega, by omega⟩
  · obtain rfl : i = N := by omega
    have c := showC K q0 s g (1 + (i : Int)) [litA (1 + b % 3)] ⟨0, 0, 0⟩ (by simp) (by simp) hp
    have eo := litA_out s g (1 + (i : Int)) (1 + b % 3) pb' (by omega)
    have ez := litA_out 0 0 (1 + (i : Int)) (1 + b % 3) pb' (by omega)
    have cz := fun K => showNil K (1 + (i : Int)) [litA (1 + b % 3)] ⟨0, 0, 0⟩ (by simp) (by simp)
    rw [eo] at c
    rw [if_neg (by omega), since0, sound0 _ pb'] at ez
    rw [ez] at cz
    simp only [Outp.val, Outp.cells, Hush.val, Hush.cells] at c cz
    by_cases hq : a % 3 = b % 3 ∧ 0 < i
    · obtain ⟨hq1, hq2⟩ := hq
      generalize soundS (1 + b % 3) _ = so at c
      refine IWp.seq ?_
      refine IWp.seq ?_
      refine IWp.run [0, 1, 2, 7, 8, 9, 10, 11, 35] ?_
      simp [go_sem, -getElem?_pos, -List.map_take, -List.map_drop, List.getElem?_cons_zero, List.getElem?_cons_succ, Go.IntWalk.iteOmega, Go.IntWalk.toNatUp, t1, t2, t3, u1, u2, u3, u4, u5, u6, u7, u8, hN, hlt, hq1, hq2]
      refine IWp.cond ?_
      simp [go_sem, -getElem?_pos, -List.map_take, -List.map_drop, List.getElem?_cons_zero, List.getElem?_cons_succ, Go.IntWalk.iteOmega, Go.IntWalk.toNatUp, t1, t2, t3, u1, u2, u3, u4, u5, u6, u7, u8, hN, hlt, hq1, hq2]
      refine IWp.trim [0, 1, 2, 7, 9, 10] (IWp.exit ?_)
      simp [go_sem, -getElem?_pos, -List.map_take, -List.map_drop, List.getElem?_cons_zero, List.getElem?_cons_succ, Go.IntWalk.iteOmega, Go.IntWalk.toNatUp, t1, t2, t3, u1, u2, u3, u4, u5, u6, u7, u8, hN, hlt, hq1, hq2]
      refine IWp.seq ?_
      refine IWp.run [0, 1, 2, 9, 10, 13] ?_
      simp [go_sem, -getElem?_pos, -List.map_take, -List.map_drop, List.getElem?_cons_zero, List.getElem?_cons_succ, Go.IntWalk.iteOmega, Go.IntWalk.toNatUp, t1, t2, t3, u1, u2, u3, u4, u5, u6, u7, u8, hN, hlt, hq1, hq2]
      refine ICalls.mono (c) ?_
      rintro v K2 ⟨hv, h2, h3, h4⟩
      subst hv
      try simp [go_sem, -getElem?_pos, -List.map_take, -List.map_drop, List.getElem?_cons_zero, List.getElem?_cons_succ, Go.IntWalk.iteOmega, Go.IntWalk.toNatUp, t1, t2, t3, u1, u2, u3, u4, u5, u6, u7, u8, hN, hlt, hq1, hq2]
      refine IWp.seq ?_
      refine IWp.run [0, 1, 2, 9, 10, 13, 14] ?_
      simp [go_sem, -getElem?_pos, -List.map_take, -List.map_drop, List.getElem?_cons_zero, List.getElem?_cons_succ, Go.IntWalk.iteOmega, Go.IntWalk.toNatUp, t1, t2, t3, u1, u2, u3, u4, u5, u6, u7, u8, hN, hlt, hq1, hq2]
      refine IWp.seq ?_
      refine IWp.run [0, 1, 2, 13, 15] ?_
      simp [go_sem, -getElem?_pos, -List.map_take, -List.map_drop, List.getElem?_cons_zero, List.getElem?_cons_succ, Go.IntWalk.iteOmega, Go.IntWalk.toNatUp, t1, t2, t3, u1, u2, u3, u4, u5, u6, u7, u8, hN, hlt, hq1, hq2]
      refine ICalls.mono (cz (K2.alloc _)) ?_
      rintro v K3 ⟨hv, h5, h6⟩
      subst hv; have gx := (h6 K2.next (by rw [next_alloc]; omega)).trans (Heap.get_alloc_new K2 _); have hn : ¬ K2.next = K3.next := by { rw [next_alloc] at h5; omega }
      try simp [go_sem, -getElem?_pos, -List.map_take, -List.map_drop, List.getElem?_cons_zero, List.getElem?_cons_succ, Go.IntWalk.iteOmega, Go.IntWalk.toNatUp, t1, t2, t3, u1, u2, u3, u4, u5, u6, u7, u8, hN, hlt, hq1, hq2, gx, hn]
      refine IWp.seq ?_
      refine IWp.run [6] ?_
      simp [go_sem, -getElem?_pos, -List.map_take, -List.map_drop, List.getElem?_cons_zero, List.getElem?_cons_succ, Go.IntWalk.iteOmega, Go.IntWalk.toNatUp, t1, t2, t3, u1, u2, u3, u4, u5, u6, u7, u8, hN, hlt, hq1, hq2, gx, hn]
      refine IWp.ret ?_
      simp [go_sem, -getElem?_pos, -List.map_take, -List.map_drop, List.getElem?_cons_zero, List.getElem?_cons_succ, Go.IntWalk.iteOmega, Go.IntWalk.toNatUp, t1, t2, t3, u1, u2, u3, u4, u5, u6, u7, u8, hN, hlt, hq1, hq2, gx, hn, Try.results14]
      try rfl
    · have hne : ¬ 1 + b % 3 = s := by
        rcases hs with ⟨h1, rfl, rfl⟩ | ⟨h1, rfl, rfl⟩
        · omega
        · intro e; exact hq ⟨by omega, h1⟩
      rw [if_neg hne, since0, sound0 _ pb'] at c
      by_cases hab3 : a % 3 = b % 3
      · skip
        refine IWp.seq ?_
        refine IWp.seq ?_
        refine IWp.run [0, 1, 2, 7, 8, 9, 10, 11, 35] ?_
        simp [go_sem, -getElem?_pos, -List.map_take, -List.map_drop, List.getElem?_cons_zero, List.getElem?_cons_succ, Go.IntWalk.iteOmega, Go.IntWalk.toNatUp, t1, t2, t3, u1, u2, u3, u4, u5, u6, u7, u8, hN, hlt, hab3, show ¬ 0 < i from fun h => hq ⟨hab3, h⟩]
        refine IWp.cond ?_
        simp [go_sem, -getElem?_pos, -List.map_take, -List.map_drop, List.getElem?_cons_zero, List.getElem?_cons_succ, Go.IntWalk.iteOmega, Go.IntWalk.toNatUp, t1, t2, t3, u1, u2, u3, u4, u5, u6, u7, u8, hN, hlt, hab3, show ¬ 0 < i from fun h => hq ⟨hab3, h⟩]
        refine IWp.trim [0, 1, 2, 7, 9, 10] (IWp.exit ?_)
        simp [go_sem, -getElem?_pos, -List.map_take, -List.map_drop, List.getElem?_cons_zero, List.getElem?_cons_succ, Go.IntWalk.iteOmega, Go.IntWalk.toNatUp, t1, t2, t3, u1, u2, u3, u4, u5, u6, u7, u8, hN, hlt, hab3, show ¬ 0 < i from fun h => hq ⟨hab3, h⟩]
        refine IWp.seq ?_
        refine IWp.run [0, 1, 2, 9, 10, 13] ?_
        simp [go_sem, -getElem?_pos, -List.map_take, -List.map_drop, List.getElem?_cons_zero, List.getElem?_cons_succ, Go.IntWalk.iteOmega, Go.IntWalk.toNatUp, t1, t2, t3, u1, u2, u3, u4, u5, u6, u7, u8, hN, hlt, hab3, show ¬ 0 < i from fun h => hq ⟨hab3, h⟩]
        refine ICalls.mono (c) ?_
        rintro v K2 ⟨hv, h2, h3, h4⟩
        subst hv
        try simp [go_sem, -getElem?_pos, -List.map_take, -List.map_drop, List.getElem?_cons_zero, List.getElem?_cons_succ, Go.IntWalk.iteOmega, Go.IntWalk.toNatUp, t1, t2, t3, u1, u2, u3, u4, u5, u6, u7, u8, hN, hlt, hab3, show ¬ 0 < i from fun h => hq ⟨hab3, h⟩]
        refine IWp.seq ?_
        refine IWp.run [0, 1, 2, 9, 10, 13, 14] ?_
        simp [go_sem, -getElem?_pos, -List.map_take, -List.map_drop, List.getElem?_cons_zero, List.getElem?_cons_succ, Go.IntWalk.iteOmega, Go.IntWalk.toNatUp, t1, t2, t3, u1, u2, u3, u4, u5, u6, u7, u8, hN, hlt, hab3, show ¬ 0 < i from fun h => hq ⟨hab3, h⟩]
        refine IWp.seq ?_
        refine IWp.run [0, 1, 2, 13, 15] ?_
        simp [go_sem, -getElem?_pos, -List.map_take, -List.map_drop, List.getElem?_cons_zero, List.getElem?_cons_succ, Go.IntWalk.iteOmega, Go.IntWalk.toNatUp, t1, t2, t3, u1, u2, u3, u4, u5, u6, u7, u8, hN, hlt, hab3, show ¬ 0 < i from fun h => hq ⟨hab3, h⟩]
        refine ICalls.mono (cz (K2.alloc _)) ?_
        rintro v K3 ⟨hv, h5, h6⟩
        subst hv; have gx := (h6 K2.next (by rw [next_alloc]; omega)).trans (Heap.get_alloc_new K2 _); have hn : ¬ K2.next = K3.next := by { rw [next_alloc] at h5; omega }
        try simp [go_sem, -getElem?_pos, -List.map_take, -List.map_drop, List.getElem?_cons_zero, List.getElem?_cons_succ, Go.IntWalk.iteOmega, Go.IntWalk.toNatUp, t1, t2, t3, u1, u2, u3, u4, u5, u6, u7, u8, hN, hlt, hab3, show ¬ 0 < i from fun h => hq ⟨hab3, h⟩, gx, hn]
        refine IWp.seq ?_
        refine IWp.run [6] ?_
        simp [go_sem, -getElem?_pos, -List.map_take, -List.map_drop, List.getElem?_cons_zero, List.getElem?_cons_succ, Go.IntWalk.iteOmega, Go.IntWalk.toNatUp, t1, t2, t3, u1, u2, u3, u4, u5, u6, u7, u8, hN, hlt, hab3, show ¬ 0 < i from fun h => hq ⟨hab3, h⟩, gx, hn]
        refine IWp.ret ?_
        simp [go_sem, -getElem?_pos, -List.map_take, -List.map_drop, List.getElem?_cons_zero, List.getElem?_cons_succ, Go.IntWalk.iteOmega, Go.IntWalk.toNatUp, t1, t2, t3, u1, u2, u3, u4, u5, u6, u7, u8, hN, hlt, hab3, show ¬ 0 < i from fun h => hq ⟨hab3, h⟩, gx, hn, Try.results14]
        try rfl
      · skip
        refine IWp.seq ?_
        refine IWp.seq ?_
        refine IWp.run [0, 1, 2, 7, 8, 9, 10, 11, 35] ?_
        simp [go_sem, -getElem?_pos, -List.map_take, -List.map_drop, List.getElem?_cons_zero, List.getElem?_cons_succ, Go.IntWalk.iteOmega, Go.IntWalk.toNatUp, t1, t2, t3, u1, u2, u3, u4, u5, u6, u7, u8, hN, hlt, hab3]
        refine IWp.cond ?_
        simp [go_sem, -getElem?_pos, -List.map_take, -List.map_drop, List.getElem?_cons_zero, List.getElem?_cons_succ, Go.IntWalk.iteOmega, Go.IntWalk.toNatUp, t1, t2, t3, u1, u2, u3, u4, u5, u6, u7, u8, hN, hlt, hab3]
        refine IWp.trim [0, 1, 2, 7, 9, 10] (IWp.exit ?_)
        simp [go_sem, -getElem?_pos, -List.map_take, -List.map_drop, List.getElem?_cons_zero, List.getElem?_cons_succ, Go.IntWalk.iteOmega, Go.IntWalk.toNatUp, t1, t2, t3, u1, u2, u3, u4, u5, u6, u7, u8, hN, hlt, hab3]
        refine IWp.seq ?_
        refine IWp.run [0, 1, 2, 9, 10, 13] ?_
        simp [go_sem, -getElem?_pos, -List.map_take, -List.map_drop, List.getElem?_cons_zero, List.getElem?_cons_succ, Go.IntWalk.iteOmega, Go.IntWalk.toNatUp, t1, t2, t3, u1, u2, u3, u4, u5, u6, u7, u8, hN, hlt, hab3]
        refine ICalls.mono (c) ?_
        rintro v K2 ⟨hv, h2, h3, h4⟩
        subst hv
        try simp [go_sem, -getElem?_pos, -List.map_take, -List.map_drop, List.getElem?_cons_zero, List.getElem?_cons_succ, Go.IntWalk.iteOmega, Go.IntWalk.toNatUp, t1, t2, t3, u1, u2, u3, u4, u5, u6, u7, u8, hN, hlt, hab3]
        refine IWp.seq ?_
        refine IWp.run [0, 1, 2, 9, 10, 13, 14] ?_
        simp [go_sem, -getElem?_pos, -List.map_take, -List.map_drop, List.getElem?_cons_zero, List.getElem?_cons_succ, Go.IntWalk.iteOmega, Go.IntWalk.toNatUp, t1, t2, t3, u1, u2, u3, u4, u5, u6, u7, u8, hN, hlt, hab3]
        refine IWp.seq ?_
        refine IWp.run [0, 1, 2, 13, 15] ?_
        simp [go_sem, -getElem?_pos, -List.map_take, -List.map_drop, List.getElem?_cons_zero, List.getElem?_cons_succ, Go.IntWalk.iteOmega, Go.IntWalk.toNatUp, t1, t2, t3, u1, u2, u3, u4, u5, u6, u7, u8, hN, hlt, hab3]
        refine ICalls.mono (cz (K2.alloc _)) ?_
        rintro v K3 ⟨hv, h5, h6⟩
        subst hv; have gx := (h6 K2.next (by rw [next_alloc]; omega)).trans (Heap.get_alloc_new K2 _); have hn : ¬ K2.next = K3.next := by { rw [next_alloc] at h5; omega }
        try simp [go_sem, -getElem?_pos, -List.map_take, -List.map_drop, List.getElem?_cons_zero, List.getElem?_cons_succ, Go.IntWalk.iteOmega, Go.IntWalk.toNatUp, t1, t2, t3, u1, u2, u3, u4, u5, u6, u7, u8, hN, hlt, hab3, gx, hn]
        refine IWp.seq ?_
        refine IWp.run [6] ?_
        simp [go_sem, -getElem?_pos, -List.map_take, -List.map_drop, List.getElem?_cons_zero, List.getElem?_cons_succ, Go.IntWalk.iteOmega, Go.IntWalk.toNatUp, t1, t2, t3, u1, u2, u3, u4, u5, u6, u7, u8, hN, hlt, hab3, gx, hn]
        refine IWp.ret ?_
        simp [go_sem, -getElem?_pos, -List.map_take, -List.map_drop, List.getElem?_cons_zero, List.getElem?_cons_succ, Go.IntWalk.iteOmega, Go.IntWalk.toNatUp, t1, t2, t3, u1, u2, u3, u4, u5, u6, u7, u8, hN, hlt, hab3, gx, hn, Try.results14]
        try rfl

end Go.Proofs.Ytdimnoeldnfikaa.I
