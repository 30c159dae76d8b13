/- Frames: how they are made, and what stands at a place. No condition. -/
import Derived.Test.YtgmpjbifbnaijaaGRefSum
namespace Go.Proofs.Ytgmpjbifbnaijaa.I
open Go Go.RowKit
set_option linter.unusedVariables false
set_option linter.unusedSimpArgs false

theorem Bld.frzS {sz : Nat} {H : Heap} {n : Nat} {v : Value} {us : List Value} (h : Bld sz H n v us) {S : Nat → Bool} (hS : ∀ b, n ≤ b → S b = true) : Frz H S v (frow sz 0 us) := by
  rcases h.2 with ⟨rfl, rfl⟩ | ⟨b, h1, rfl, h3⟩
  · exact .nil sz
  · exact frz_lit us h3 rfl h.1 rfl (hS b h1)

def frameB (p : List Int) : List Int := [85, 170] ++ closed ((p.length : Int) :: p)
theorem Bs.cons {x : Int} {L : List Int} (h1 : 0 ≤ x ∧ x < 256) (h : Bs L) : Bs (x :: L) := fun y hy => by
  rcases List.mem_cons.1 hy with rfl | hy
  · exact h1
  · exact h y hy

theorem frame (H : Heap) (m : Int) (p : List Int) (hl : p.length ≤ 200) (hB : Bs p) :
    ICalls Try.prog 11 [frow 1 m (p.map (Value.int .u8))] H fun v H' => v = byts (frameB p) ∧ H' = H := by
  refine ICalls.ans (by simp [go_sem]) fun H => IBody.calls (by kernel_rfl) ?_
  have w1 := IntWalk.u8_in (p.length : Int) (by omega)
  have hb0 : Bld 1 ((H.alloc [.int .u8 85, .int .u8 170]).alloc [.int .u8 p.length]) (H.next + 1) (.slice (some ⟨H.next + 1, 0, some 1⟩) 1 1) ([(p.length : Int)].map (Value.int .u8)) :=
    ⟨map_sz .u8 _, .inr ⟨H.next + 1, Nat.le_refl _, rfl, by rw [map_flat]; simp [get_alloc, next_alloc]⟩⟩
  obtain ⟨v1, H1, e1, b1, s1, n1, f1, _⟩ := app_own (P := Try.prog) (t := 26) (e := 5) (sz := 1) (by_ := 1) (z := .int .u8 0) (ws := p.map (Value.int .u8)) (x := frow 1 m (p.map (Value.int .u8))) (by kernel_rfl) (by kernel_rfl) (by kernel_rfl) (by kernel_rfl) rfl hb0 (map_sz .u8 _) (by simp [irow_frow]) (by rw [map_flat]; exact map_one .u8 _) (by simp [next_alloc]) (by simp; omega) (by simp; omega)
  refine IBody.of Try.func11 rfl (by rw [Try.ntmps11]; simp) ?_
  rw [Try.ntmps11]
  refine IWp.seq ?_
  refine IWp.run [0] ?_
  simp [go_sem, -getElem?_pos, -List.map_take, -List.map_drop, List.getElem?_cons_zero, List.getElem?_cons_succ, Go.IntWalk.iteOmega, Go.IntWalk.toNatUp, w1, e1]
  refine IWp.seq ?_
  refine IWp.run [2] ?_
  simp [go_sem, -getElem?_pos, -List.map_take, -List.map_drop, List.getElem?_cons_zero, List.getElem?_cons_succ, Go.IntWalk.iteOmega, Go.IntWalk.toNatUp, w1, e1]
  have hcl := close (H1.only fun j => !decide (H.next + 1 ≤ j)) 0 ((p.length : Int) :: p) (by simp; omega) (hB.cons (by omega))
  refine ICalls.freeze (fun j => decide (H.next + 1 ≤ j)) (.cons (b1.frzS fun b hb => by simpa using hb) .nil) (ICalls.mono hcl ?_)
  rintro v _ ⟨rfl, rfl⟩
  have hgl : (H1.only fun j => !decide (H.next + 1 ≤ j)).get H.next = some ⟨[.int .u8 85, .int .u8 170], true⟩ := by
    show (if (!decide (H.next + 1 ≤ H.next)) = true then H1.get H.next else none) = _
    rw [if_pos (by simp), s1 H.next (by omega)]; simp [get_alloc, next_alloc]
  have hb2 : Bld 1 (H1.only fun j => !decide (H.next + 1 ≤ j)) H.next (.slice (some ⟨H.next, 0, some 1⟩) 2 1) ([(85 : Int), 170].map (Value.int .u8)) :=
    ⟨map_sz .u8 _, .inr ⟨H.next, Nat.le_refl _, rfl, by rw [map_flat]; exact hgl⟩⟩
  have hlc : (closed ((p.length : Int) :: p)).length = p.length + 3 := by simp [closed]
  obtain ⟨v2, H2, e2, b2, _⟩ := app_own (P := Try.prog) (t := 26) (e := 5) (sz := 1) (by_ := 1) (z := .int .u8 0) (ws := (closed ((p.length : Int) :: p)).map (Value.int .u8)) (x := frow 1 0 ((closed ((p.length : Int) :: p)).map (Value.int .u8))) (by kernel_rfl) (by kernel_rfl) (by kernel_rfl) (by kernel_rfl) rfl hb2 (map_sz .u8 _) (by simp [irow_frow]) (by rw [map_flat]; exact map_one .u8 _) (by simp only [next_alloc] at n1; show H.next ≤ H1.next; omega) (by simp [hlc]; omega) (by simp [hlc]; omega)
  simp [go_sem, e2]
  refine IWp.ret ?_
  simp [go_sem, -getElem?_pos, -List.map_take, -List.map_drop, List.getElem?_cons_zero, List.getElem?_cons_succ, Go.IntWalk.iteOmega, Go.IntWalk.toNatUp, Try.results11]
  rw [← List.map_append] at b2
  exact b2.frz

theorem refFrame_own (H : Heap) (m : Int) (p : List Int) (hl : p.length ≤ 200) (hB : Bs p) :
    ICalls Try.prog 13 [frow 1 m (p.map (Value.int .u8))] H fun v H' => Bld 1 H' H.next v ((frameB p).map (Value.int .u8)) ∧ Old H H' := by
  refine IBody.calls (by kernel_rfl) ?_
  have w1 := IntWalk.u8_in (p.length : Int) (by omega)
  refine IBody.of Try.func13 rfl (by rw [Try.ntmps13]; simp) ?_
  rw [Try.ntmps13]
  refine IWp.seq ?_
  refine IWp.run [0] ?_
  simp [go_sem, -getElem?_pos, -List.map_take, -List.map_drop, List.getElem?_cons_zero, List.getElem?_cons_succ, Go.IntWalk.iteOmega, Go.IntWalk.toNatUp, w1]
  refine IWp.seq ?_
  refine IWp.run [2] ?_
  simp [go_sem, -getElem?_pos, -List.map_take, -List.map_drop, List.getElem?_cons_zero, List.getElem?_cons_succ, Go.IntWalk.iteOmega, Go.IntWalk.toNatUp, w1]
  refine ICalls.freeze1 (H.next + 1) (.cons (frz_lit ([(p.length : Int)].map (Value.int .u8)) (by simp [go_sem]) rfl (map_sz .u8 _) rfl (by simp)) (.cons (.same _) .nil)) (ICalls.mono (join _ 0 m [(p.length : Int)] p (by simp) (by omega)) ?_)
  rintro v _ ⟨rfl, rfl⟩
  simp [go_sem]
  refine ICalls.mono (refClose _ 0 ((p.length : Int) :: p) (by simp; omega) (hB.cons (by omega))) ?_
  rintro v _ ⟨rfl, rfl⟩
  have hlc : (closed ((p.length : Int) :: p)).length = p.length + 3 := by simp [closed]
  simp [go_sem]
  refine ICalls.freeze1 H.next (.cons (frz_lit ([(85 : Int), 170].map (Value.int .u8)) (by simp [go_sem, get_kill]) rfl (map_sz .u8 _) rfl (by simp)) (.cons (.same _) .nil)) (ICalls.mono (join_own _ 0 0 [85, 170] (closed ((p.length : Int) :: p)) (by simp) (by omega)) ?_)
  rintro v H2 ⟨h1, h2⟩
  simp [go_sem]
  refine IWp.ret ?_
  simp [go_sem, -getElem?_pos, -List.map_take, -List.map_drop, List.getElem?_cons_zero, List.getElem?_cons_succ, Go.IntWalk.iteOmega, Go.IntWalk.toNatUp, Try.results13]
  refine ⟨h1.le (by simp only [next_kill, next_alloc]; omega), fun b hb => ?_, by have := h2.2; simp only [next_kill, next_alloc] at this; omega⟩
  rw [h2.1 b (by simp only [next_kill, next_alloc]; omega)]
  simp only [get_kill, get_alloc, next_alloc, next_kill]
  rw [if_neg (by omega), if_neg (by omega), if_neg (by omega), if_neg (by omega)]

theorem refFrame (H : Heap) (m : Int) (p : List Int) (hl : p.length ≤ 200) (hB : Bs p) :
    ICalls Try.prog 13 [frow 1 m (p.map (Value.int .u8))] H fun v H' => v = byts (frameB p) ∧ H' = H :=
  ICalls.ans (by simp [go_sem]) fun H => (refFrame_own H m p hl hB).mono fun v H' h => h.1.frz

def lookS (P : List Int) : Int × Int :=
  if P.length ≤ 0 then (0, 0) else if ¬ P.getD 0 0 = 85 then (1, 0)
  else if P.length ≤ 1 then (0, 0) else if ¬ P.getD 1 0 = 170 then (1, 0)
  else if P.length ≤ 2 then (0, 0) else if ¬ (1 ≤ P.getD 2 0 ∧ P.getD 2 0 ≤ 32) then (1, 0)
  else if (P.length : Int) < 5 + P.getD 2 0 then (0, 0)
  else if (opened ((P.take (5 + P.getD 2 0).toNat).drop 2)).2 = 0 then (2, 5 + P.getD 2 0) else (1, 0)

theorem look1 (H : Heap) (x : Int) : ICalls Try.prog 29 [.int .u8 x] H fun v H' => v = .bool (decide (x = 85)) ∧ H' = H := by
  refine ICalls.ans (by simp [go_sem]) fun H => IBody.calls (by kernel_rfl) ?_
  refine IBody.of Try.func29 rfl (by rw [Try.ntmps29]; simp) ?_
  rw [Try.ntmps29]
  refine IWp.seq ?_
  refine IWp.run [0] ?_
  simp [go_sem, -getElem?_pos, -List.map_take, -List.map_drop, List.getElem?_cons_zero, List.getElem?_cons_succ, Go.IntWalk.iteOmega, Go.IntWalk.toNatUp]
  refine IWp.seq ?_
  refine IWp.run [2] ?_
  simp [go_sem, -getElem?_pos, -List.map_take, -List.map_drop, List.getElem?_cons_zero, List.getElem?_cons_succ, Go.IntWalk.iteOmega, Go.IntWalk.toNatUp]
  refine IWp.ret ?_
  simp [go_sem, -getElem?_pos, -List.map_take, -List.map_drop, List.getElem?_cons_zero, List.getElem?_cons_succ, Go.IntWalk.iteOmega, Go.IntWalk.toNatUp, Try.results29]
theorem look2 (H : Heap) (x : Int) : ICalls Try.prog 30 [.int .u8 x] H fun v H' => v = .bool (decide (x = 170)) ∧ H' = H := by
  refine ICalls.ans (by simp [go_sem]) fun H => IBody.calls (by kernel_rfl) ?_
  refine IBody.of Try.func30 rfl (by rw [Try.ntmps30]; simp) ?_
  rw [Try.ntmps30]
  refine IWp.seq ?_
  refine IWp.run [0] ?_
  simp [go_sem, -getElem?_pos, -List.map_take, -List.map_drop, List.getElem?_cons_zero, List.getElem?_cons_succ, Go.IntWalk.iteOmega, Go.IntWalk.toNatUp]
  refine IWp.seq ?_
  refine IWp.run [2] ?_
  simp [go_sem, -getElem?_pos, -List.map_take, -List.map_drop, List.getElem?_cons_zero, List.getElem?_cons_succ, Go.IntWalk.iteOmega, Go.IntWalk.toNatUp]
  refine IWp.ret ?_
  simp [go_sem, -getElem?_pos, -List.map_take, -List.map_drop, List.getElem?_cons_zero, List.getElem?_cons_succ, Go.IntWalk.iteOmega, Go.IntWalk.toNatUp, Try.results30]
theorem look3 (H : Heap) (x : Int) : ICalls Try.prog 31 [.int .u8 x] H fun v H' => v = .bool (decide (1 ≤ x ∧ x ≤ 32)) ∧ H' = H := by
  refine ICalls.ans (by simp [go_sem]) fun H => IBody.calls (by kernel_rfl) ?_
  by_cases h : 1 ≤ x
  · skip
    refine IBody.of Try.func31 rfl (by rw [Try.ntmps31]; simp) ?_
    rw [Try.ntmps31]
    refine IWp.seq ?_
    refine IWp.run [0] ?_
    simp [go_sem, -getElem?_pos, -List.map_take, -List.map_drop, List.getElem?_cons_zero, List.getElem?_cons_succ, Go.IntWalk.iteOmega, Go.IntWalk.toNatUp, h, show decide (1 ≤ x) = true by simpa using h]
    refine IWp.seq ?_
    refine IWp.run [2] ?_
    simp [go_sem, -getElem?_pos, -List.map_take, -List.map_drop, List.getElem?_cons_zero, List.getElem?_cons_succ, Go.IntWalk.iteOmega, Go.IntWalk.toNatUp, h, show decide (1 ≤ x) = true by simpa using h]
    refine IWp.ret ?_
    simp [go_sem, -getElem?_pos, -List.map_take, -List.map_drop, List.getElem?_cons_zero, List.getElem?_cons_succ, Go.IntWalk.iteOmega, Go.IntWalk.toNatUp, h, show decide (1 ≤ x) = true by simpa using h, Try.results31]
  · skip
    refine IBody.of Try.func31 rfl (by rw [Try.ntmps31]; simp) ?_
    rw [Try.ntmps31]
    refine IWp.seq ?_
    refine IWp.run [0] ?_
    simp [go_sem, -getElem?_pos, -List.map_take, -List.map_drop, List.getElem?_cons_zero, List.getElem?_cons_succ, Go.IntWalk.iteOmega, Go.IntWalk.toNatUp, h, show decide (1 ≤ x) = false by simpa using h]
    refine IWp.seq ?_
    refine IWp.run [2] ?_
    simp [go_sem, -getElem?_pos, -List.map_take, -List.map_drop, List.getElem?_cons_zero, List.getElem?_cons_succ, Go.IntWalk.iteOmega, Go.IntWalk.toNatUp, h, show decide (1 ≤ x) = false by simpa using h]
    refine IWp.ret ?_
    simp [go_sem, -getElem?_pos, -List.map_take, -List.map_drop, List.getElem?_cons_zero, List.getElem?_cons_succ, Go.IntWalk.iteOmega, Go.IntWalk.toNatUp, h, show decide (1 ≤ x) = false by simpa using h, Try.results31]

theorem look (H : Heap) (m : Int) (P : List Int) (hl : P.length ≤ 100000) (hB : Bs P) :
    ICalls Try.prog 24 [frow 1 m (P.map (Value.int .u8))] H fun v H' => v = .tuple #[.int .i64 (lookS P).1, .int .i64 (lookS P).2] ∧ H' = H := by
  refine ICalls.ans (by simp [go_sem]) fun H => IBody.calls (by kernel_rfl) ?_
  have gs : ∀ i : Nat, i < P.length → (P.map (Value.int .u8))[i]? = some (.int .u8 (P.getD i 0)) := fun i hi => by simp [hi]
  refine IBody.of Try.func24 rfl (by rw [Try.ntmps24]; simp) ?_
  rw [Try.ntmps24]
  refine IWp.seq ?_
  refine IWp.run [0] ?_
  simp [go_sem, -getElem?_pos, -List.map_take, -List.map_drop, List.getElem?_cons_zero, List.getElem?_cons_succ, Go.IntWalk.iteOmega, Go.IntWalk.toNatUp]
  refine IWp.seq ?_
  refine IWp.seq ?_
  refine IWp.run [0, 9, 10] ?_
  simp [go_sem, -getElem?_pos, -List.map_take, -List.map_drop, List.getElem?_cons_zero, List.getElem?_cons_succ, Go.IntWalk.iteOmega, Go.IntWalk.toNatUp]
  refine IWp.block ?_
  -- LOOP live [0, 9, 10]
  refine IWp.loop (fun j e K => ∃ i : Nat, j = 3 - i ∧ i ≤ 3 ∧ e = [(0, frow 1 m (P.map (Value.int .u8))), (9, .agg #[.func (.func 29) #[] #[], .func (.func 30) #[] #[], .func (.func 31) #[] #[]]), (10, .int .i64 (i : Int))] ∧ K = H ∧ (0 < i → 0 < P.length ∧ P.getD 0 0 = 85) ∧ (1 < i → 1 < P.length ∧ P.getD 1 0 = 170) ∧ (2 < i → 2 < P.length ∧ 1 ≤ P.getD 2 0 ∧ P.getD 2 0 ≤ 32)) 3 ⟨0, rfl, by omega, rfl, rfl, by omega, by omega, by omega⟩ ?_
  rintro j e K ⟨i, rfl, hi, rfl, rfl, c0, c1, c2⟩
  have hi2 : i = 0 ∨ i = 1 ∨ i = 2 ∨ i = 3 := by omega
  rcases hi2 with rfl | rfl | rfl | rfl
  · skip
    by_cases h : P.length ≤ 0
    · have hr : lookS P = (0, 0) := by unfold lookS; rw [if_pos h]
      rw [hr]
      refine IWp.seq ?_
      refine IWp.run [0, 9, 10, 11] ?_
      simp [go_sem, -getElem?_pos, -List.map_take, -List.map_drop, List.getElem?_cons_zero, List.getElem?_cons_succ, Go.IntWalk.iteOmega, Go.IntWalk.toNatUp, show (P.length : Int) ≤ 0 by omega, show P.length ≤ 0 by omega, show P = [] from List.length_eq_zero_iff.1 (by omega)]
      refine IWp.seq ?_
      refine IWp.cond ?_
      simp [go_sem, -getElem?_pos, -List.map_take, -List.map_drop, List.getElem?_cons_zero, List.getElem?_cons_succ, Go.IntWalk.iteOmega, Go.IntWalk.toNatUp, show (P.length : Int) ≤ 0 by omega, show P.length ≤ 0 by omega, show P = [] from List.length_eq_zero_iff.1 (by omega)]
      refine IWp.trim [0, 9, 10] (IWp.skip ?_)
      simp [go_sem, -getElem?_pos, -List.map_take, -List.map_drop, List.getElem?_cons_zero, List.getElem?_cons_succ, Go.IntWalk.iteOmega, Go.IntWalk.toNatUp, show (P.length : Int) ≤ 0 by omega, show P.length ≤ 0 by omega, show P = [] from List.length_eq_zero_iff.1 (by omega)]
      refine IWp.seq ?_
      refine IWp.block ?_
      refine IWp.seq ?_
      refine IWp.run [0, 4, 5, 9, 10] ?_
      simp [go_sem, -getElem?_pos, -List.map_take, -List.map_drop, List.getElem?_cons_zero, List.getElem?_cons_succ, Go.IntWalk.iteOmega, Go.IntWalk.toNatUp, show (P.length : Int) ≤ 0 by omega, show P.length ≤ 0 by omega, show P = [] from List.length_eq_zero_iff.1 (by omega)]
      refine IWp.block ?_
      refine IWp.seq ?_
      refine IWp.run [0, 4, 5, 9, 10, 14] ?_
      simp [go_sem, -getElem?_pos, -List.map_take, -List.map_drop, List.getElem?_cons_zero, List.getElem?_cons_succ, Go.IntWalk.iteOmega, Go.IntWalk.toNatUp, show (P.length : Int) ≤ 0 by omega, show P.length ≤ 0 by omega, show P = [] from List.length_eq_zero_iff.1 (by omega)]
      refine IWp.cond ?_
      simp [go_sem, -getElem?_pos, -List.map_take, -List.map_drop, List.getElem?_cons_zero, List.getElem?_cons_succ, Go.IntWalk.iteOmega, Go.IntWalk.toNatUp, show (P.length : Int) ≤ 0 by omega, show P.length ≤ 0 by omega, show P = [] from List.length_eq_zero_iff.1 (by omega)]
      refine IWp.seq ?_
      refine IWp.run [2, 3] ?_
      simp [go_sem, -getElem?_pos, -List.map_take, -List.map_drop, List.getElem?_cons_zero, List.getElem?_cons_succ, Go.IntWalk.iteOmega, Go.IntWalk.toNatUp, show (P.length : Int) ≤ 0 by omega, show P.length ≤ 0 by omega, show P = [] from List.length_eq_zero_iff.1 (by omega)]
      refine IWp.ret ?_
      simp [go_sem, -getElem?_pos, -List.map_take, -List.map_drop, List.getElem?_cons_zero, List.getElem?_cons_succ, Go.IntWalk.iteOmega, Go.IntWalk.toNatUp, show (P.length : Int) ≤ 0 by omega, show P.length ≤ 0 by omega, show P = [] from List.length_eq_zero_iff.1 (by omega), Try.results24]
    · have g := gs 0 (by omega)
      have hne : ¬ P = [] := by rintro rfl; simp at h
      by_cases a : P.getD 0 0 = 85
      · rw [a] at g
        refine IWp.seq ?_
        refine IWp.run [0, 9, 10, 11] ?_
        simp [go_sem, -getElem?_pos, -List.map_take, -List.map_drop, List.getElem?_cons_zero, List.getElem?_cons_succ, Go.IntWalk.iteOmega, Go.IntWalk.toNatUp, g, hne, show ¬ (P.length : Int) ≤ 0 by omega, show ¬ P.length ≤ 0 by omega, show 0 < P.length by omega, show (0 : Int) < P.length by omega]
        refine IWp.seq ?_
        refine IWp.cond ?_
        simp [go_sem, -getElem?_pos, -List.map_take, -List.map_drop, List.getElem?_cons_zero, List.getElem?_cons_succ, Go.IntWalk.iteOmega, Go.IntWalk.toNatUp, g, hne, show ¬ (P.length : Int) ≤ 0 by omega, show ¬ P.length ≤ 0 by omega, show 0 < P.length by omega, show (0 : Int) < P.length by omega]
        refine IWp.trim [0, 9, 10] (IWp.skip ?_)
        simp [go_sem, -getElem?_pos, -List.map_take, -List.map_drop, List.getElem?_cons_zero, List.getElem?_cons_succ, Go.IntWalk.iteOmega, Go.IntWalk.toNatUp, g, hne, show ¬ (P.length : Int) ≤ 0 by omega, show ¬ P.length ≤ 0 by omega, show 0 < P.length by omega, show (0 : Int) < P.length by omega]
        refine IWp.seq ?_
        refine IWp.block ?_
        refine IWp.seq ?_
        refine IWp.run [0, 4, 5, 9, 10] ?_
        simp [go_sem, -getElem?_pos, -List.map_take, -List.map_drop, List.getElem?_cons_zero, List.getElem?_cons_succ, Go.IntWalk.iteOmega, Go.IntWalk.toNatUp, g, hne, show ¬ (P.length : Int) ≤ 0 by omega, show ¬ P.length ≤ 0 by omega, show 0 < P.length by omega, show (0 : Int) < P.length by omega]
        refine IWp.block ?_
        refine IWp.seq ?_
        refine IWp.run [0, 4, 5, 9, 10, 14] ?_
        simp [go_sem, -getElem?_pos, -List.map_take, -List.map_drop, List.getElem?_cons_zero, List.getElem?_cons_succ, Go.IntWalk.iteOmega, Go.IntWalk.toNatUp, g, hne, show ¬ (P.length : Int) ≤ 0 by omega, show ¬ P.length ≤ 0 by omega, show 0 < P.length by omega, show (0 : Int) < P.length by omega]
        refine IWp.cond ?_
        simp [go_sem, -getElem?_pos, -List.map_take, -List.map_drop, List.getElem?_cons_zero, List.getElem?_cons_succ, Go.IntWalk.iteOmega, Go.IntWalk.toNatUp, g, hne, show ¬ (P.length : Int) ≤ 0 by omega, show ¬ P.length ≤ 0 by omega, show 0 < P.length by omega, show (0 : Int) < P.length by omega]
        refine IWp.seq ?_
        refine IWp.run [0, 9, 10, 19] ?_
        simp [go_sem, -getElem?_pos, -List.map_take, -List.map_drop, List.getElem?_cons_zero, List.getElem?_cons_succ, Go.IntWalk.iteOmega, Go.IntWalk.toNatUp, g, hne, show ¬ (P.length : Int) ≤ 0 by omega, show ¬ P.length ≤ 0 by omega, show 0 < P.length by omega, show (0 : Int) < P.length by omega]
        refine ICalls.mono (look1 _ 85) ?_
        rintro v _ ⟨rfl, rfl⟩
        try simp [go_sem, -getElem?_pos, -List.map_take, -List.map_drop, List.getElem?_cons_zero, List.getElem?_cons_succ, Go.IntWalk.iteOmega, Go.IntWalk.toNatUp, g, hne, show ¬ (P.length : Int) ≤ 0 by omega, show ¬ P.length ≤ 0 by omega, show 0 < P.length by omega, show (0 : Int) < P.length by omega]
        refine IWp.cond ?_
        simp [go_sem, -getElem?_pos, -List.map_take, -List.map_drop, List.getElem?_cons_zero, List.getElem?_cons_succ, Go.IntWalk.iteOmega, Go.IntWalk.toNatUp, g, hne, show ¬ (P.length : Int) ≤ 0 by omega, show ¬ P.length ≤ 0 by omega, show 0 < P.length by omega, show (0 : Int) < P.length by omega]
        refine IWp.trim [0, 9, 10] (IWp.skip ?_)
        simp [go_sem, -getElem?_pos, -List.map_take, -List.map_drop, List.getElem?_cons_zero, List.getElem?_cons_succ, Go.IntWalk.iteOmega, Go.IntWalk.toNatUp, g, hne, show ¬ (P.length : Int) ≤ 0 by omega, show ¬ P.length ≤ 0 by omega, show 0 < P.length by omega, show (0 : Int) < P.length by omega]
        refine IWp.run [0, 9, 10] ?_
        simp [go_sem, -getElem?_pos, -List.map_take, -List.map_drop, List.getElem?_cons_zero, List.getElem?_cons_succ, Go.IntWalk.iteOmega, Go.IntWalk.toNatUp, g, hne, show ¬ (P.length : Int) ≤ 0 by omega, show ¬ P.length ≤ 0 by omega, show 0 < P.length by omega, show (0 : Int) < P.length by omega]
        first | refine ⟨2, by omega, 1, by omega, by omega, ?_⟩ | refine ⟨1, by omega, by omega, ?_⟩
        have b0 : P[0]'(by omega) = 85 := by simpa [show 0 < P.length by omega] using a
        simp [go_sem, IntWalk.i64_in 1 (by omega), IntWalk.i64_in 2 (by omega), IntWalk.i64_in 3 (by omega), b0, show 0 < P.length by omega]
      · have hr : lookS P = (1, 0) := by unfold lookS; rw [if_neg h, if_pos a]
        rw [hr]
        generalize P.getD 0 0 = x at a g
        refine IWp.seq ?_
        refine IWp.run [0, 9, 10, 11] ?_
        simp [go_sem, -getElem?_pos, -List.map_take, -List.map_drop, List.getElem?_cons_zero, List.getElem?_cons_succ, Go.IntWalk.iteOmega, Go.IntWalk.toNatUp, g, a, hne, show ¬ (P.length : Int) ≤ 0 by omega, show ¬ P.length ≤ 0 by omega, show 0 < P.length by omega, show (0 : Int) < P.length by omega]
        refine IWp.seq ?_
        refine IWp.cond ?_
        simp [go_sem, -getElem?_pos, -List.map_take, -List.map_drop, List.getElem?_cons_zero, List.getElem?_cons_succ, Go.IntWalk.iteOmega, Go.IntWalk.toNatUp, g, a, hne, show ¬ (P.length : Int) ≤ 0 by omega, show ¬ P.length ≤ 0 by omega, show 0 < P.length by omega, show (0 : Int) < P.length by omega]
        refine IWp.trim [0, 9, 10] (IWp.skip ?_)
        simp [go_sem, -getElem?_pos, -List.map_take, -List.map_drop, List.getElem?_cons_zero, List.getElem?_cons_succ, Go.IntWalk.iteOmega, Go.IntWalk.toNatUp, g, a, hne, show ¬ (P.length : Int) ≤ 0 by omega, show ¬ P.length ≤ 0 by omega, show 0 < P.length by omega, show (0 : Int) < P.length by omega]
        refine IWp.seq ?_
        refine IWp.block ?_
        refine IWp.seq ?_
        refine IWp.run [0, 4, 5, 9, 10] ?_
        simp [go_sem, -getElem?_pos, -List.map_take, -List.map_drop, List.getElem?_cons_zero, List.getElem?_cons_succ, Go.IntWalk.iteOmega, Go.IntWalk.toNatUp, g, a, hne, show ¬ (P.length : Int) ≤ 0 by omega, show ¬ P.length ≤ 0 by omega, show 0 < P.length by omega, show (0 : Int) < P.length by omega]
        refine IWp.block ?_
        refine IWp.seq ?_
        refine IWp.run [0, 4, 5, 9, 10, 14] ?_
        simp [go_sem, -getElem?_pos, -List.map_take, -List.map_drop, List.getElem?_cons_zero, List.getElem?_cons_succ, Go.IntWalk.iteOmega, Go.IntWalk.toNatUp, g, a, hne, show ¬ (P.length : Int) ≤ 0 by omega, show ¬ P.length ≤ 0 by omega, show 0 < P.length by omega, show (0 : Int) < P.length by omega]
        refine IWp.cond ?_
        simp [go_sem, -getElem?_pos, -List.map_take, -List.map_drop, List.getElem?_cons_zero, List.getElem?_cons_succ, Go.IntWalk.iteOmega, Go.IntWalk.toNatUp, g, a, hne, show ¬ (P.length : Int) ≤ 0 by omega, show ¬ P.length ≤ 0 by omega, show 0 < P.length by omega, show (0 : Int) < P.length by omega]
        refine IWp.seq ?_
        refine IWp.run [0, 9, 10, 19] ?_
        simp [go_sem, -getElem?_pos, -List.map_take, -List.map_drop, List.getElem?_cons_zero, List.getElem?_cons_succ, Go.IntWalk.iteOmega, Go.IntWalk.toNatUp, g, a, hne, show ¬ (P.length : Int) ≤ 0 by omega, show ¬ P.length ≤ 0 by omega, show 0 < P.length by omega, show (0 : Int) < P.length by omega]
        refine ICalls.mono (look1 _ x) ?_
        rintro v _ ⟨rfl, rfl⟩
        try simp [go_sem, -getElem?_pos, -List.map_take, -List.map_drop, List.getElem?_cons_zero, List.getElem?_cons_succ, Go.IntWalk.iteOmega, Go.IntWalk.toNatUp, g, a, hne, show ¬ (P.length : Int) ≤ 0 by omega, show ¬ P.length ≤ 0 by omega, show 0 < P.length by omega, show (0 : Int) < P.length by omega]
        refine IWp.cond ?_
        simp [go_sem, -getElem?_pos, -List.map_take, -List.map_drop, List.getElem?_cons_zero, List.getElem?_cons_succ, Go.IntWalk.iteOmega, Go.IntWalk.toNatUp, g, a, hne, show ¬ (P.length : Int) ≤ 0 by omega, show ¬ P.length ≤ 0 by omega, show 0 < P.length by omega, show (0 : Int) < P.length by omega]
        refine IWp.seq ?_
        refine IWp.run [2, 3] ?_
        simp [go_sem, -getElem?_pos, -List.map_take, -List.map_drop, List.getElem?_cons_zero, List.getElem?_cons_succ, Go.IntWalk.iteOmega, Go.IntWalk.toNatUp, g, a, hne, show ¬ (P.length : Int) ≤ 0 by omega, show ¬ P.length ≤ 0 by omega, show 0 < P.length by omega, show (0 : Int) < P.length by omega]
        refine IWp.ret ?_
        simp [go_sem, -getElem?_pos, -List.map_take, -List.map_drop, List.getElem?_cons_zero, List.getElem?_cons_succ, Go.IntWalk.iteOmega, Go.IntWalk.toNatUp, g, a, hne, show ¬ (P.length : Int) ≤ 0 by omega, show ¬ P.length ≤ 0 by omega, show 0 < P.length by omega, show (0 : Int) < P.length by omega, Try.results24]
  · skip
    obtain ⟨e0, d0⟩ := c0 (by omega)
    by_cases h : P.length ≤ 1
    · have hr : lookS P = (0, 0) := by unfold lookS; rw [if_neg (show ¬ P.length ≤ 0 by omega), if_neg (by simpa using d0), if_pos h]
      rw [hr]
      refine IWp.seq ?_
      refine IWp.run [0, 9, 10, 11] ?_
      simp [go_sem, -getElem?_pos, -List.map_take, -List.map_drop, List.getElem?_cons_zero, List.getElem?_cons_succ, Go.IntWalk.iteOmega, Go.IntWalk.toNatUp, show (P.length : Int) ≤ 1 by omega, show P.length ≤ 1 by omega]
      refine IWp.seq ?_
      refine IWp.cond ?_
      simp [go_sem, -getElem?_pos, -List.map_take, -List.map_drop, List.getElem?_cons_zero, List.getElem?_cons_succ, Go.IntWalk.iteOmega, Go.IntWalk.toNatUp, show (P.length : Int) ≤ 1 by omega, show P.length ≤ 1 by omega]
      refine IWp.trim [0, 9, 10] (IWp.skip ?_)
      simp [go_sem, -getElem?_pos, -List.map_take, -List.map_drop, List.getElem?_cons_zero, List.getElem?_cons_succ, Go.IntWalk.iteOmega, Go.IntWalk.toNatUp, show (P.length : Int) ≤ 1 by omega, show P.length ≤ 1 by omega]
      refine IWp.seq ?_
      refine IWp.block ?_
      refine IWp.seq ?_
      refine IWp.run [0, 4, 5, 9, 10] ?_
      simp [go_sem, -getElem?_pos, -List.map_take, -List.map_drop, List.getElem?_cons_zero, List.getElem?_cons_succ, Go.IntWalk.iteOmega, Go.IntWalk.toNatUp, show (P.length : Int) ≤ 1 by omega, show P.length ≤ 1 by omega]
      refine IWp.block ?_
      refine IWp.seq ?_
      refine IWp.run [0, 4, 5, 9, 10, 14] ?_
      simp [go_sem, -getElem?_pos, -List.map_take, -List.map_drop, List.getElem?_cons_zero, List.getElem?_cons_succ, Go.IntWalk.iteOmega, Go.IntWalk.toNatUp, show (P.length : Int) ≤ 1 by omega, show P.length ≤ 1 by omega]
      refine IWp.cond ?_
      simp [go_sem, -getElem?_pos, -List.map_take, -List.map_drop, List.getElem?_cons_zero, List.getElem?_cons_succ, Go.IntWalk.iteOmega, Go.IntWalk.toNatUp, show (P.length : Int) ≤ 1 by omega, show P.length ≤ 1 by omega]
      refine IWp.seq ?_
      refine IWp.run [2, 3] ?_
      simp [go_sem, -getElem?_pos, -List.map_take, -List.map_drop, List.getElem?_cons_zero, List.getElem?_cons_succ, Go.IntWalk.iteOmega, Go.IntWalk.toNatUp, show (P.length : Int) ≤ 1 by omega, show P.length ≤ 1 by omega]
      refine IWp.ret ?_
      simp [go_sem, -getElem?_pos, -List.map_take, -List.map_drop, List.getElem?_cons_zero, List.getElem?_cons_succ, Go.IntWalk.iteOmega, Go.IntWalk.toNatUp, show (P.length : Int) ≤ 1 by omega, show P.length ≤ 1 by omega, Try.results24]
    · have g := gs 1 (by omega)
      have hne : ¬ P = [] := by rintro rfl; simp at h
      by_cases a : P.getD 1 0 = 170
      · rw [a] at g
        refine IWp.seq ?_
        refine IWp.run [0, 9, 10, 11] ?_
        simp [go_sem, -getElem?_pos, -List.map_take, -List.map_drop, List.getElem?_cons_zero, List.getElem?_cons_succ, Go.IntWalk.iteOmega, Go.IntWalk.toNatUp, g, hne, show ¬ (P.length : Int) ≤ 1 by omega, show ¬ P.length ≤ 1 by omega, show 1 < P.length by omega, show (1 : Int) < P.length by omega]
        refine IWp.seq ?_
        refine IWp.cond ?_
        simp [go_sem, -getElem?_pos, -List.map_take, -List.map_drop, List.getElem?_cons_zero, List.getElem?_cons_succ, Go.IntWalk.iteOmega, Go.IntWalk.toNatUp, g, hne, show ¬ (P.length : Int) ≤ 1 by omega, show ¬ P.length ≤ 1 by omega, show 1 < P.length by omega, show (1 : Int) < P.length by omega]
        refine IWp.trim [0, 9, 10] (IWp.skip ?_)
        simp [go_sem, -getElem?_pos, -List.map_take, -List.map_drop, List.getElem?_cons_zero, List.getElem?_cons_succ, Go.IntWalk.iteOmega, Go.IntWalk.toNatUp, g, hne, show ¬ (P.length : Int) ≤ 1 by omega, show ¬ P.length ≤ 1 by omega, show 1 < P.length by omega, show (1 : Int) < P.length by omega]
        refine IWp.seq ?_
        refine IWp.block ?_
        refine IWp.seq ?_
        refine IWp.run [0, 4, 5, 9, 10] ?_
        simp [go_sem, -getElem?_pos, -List.map_take, -List.map_drop, List.getElem?_cons_zero, List.getElem?_cons_succ, Go.IntWalk.iteOmega, Go.IntWalk.toNatUp, g, hne, show ¬ (P.length : Int) ≤ 1 by omega, show ¬ P.length ≤ 1 by omega, show 1 < P.length by omega, show (1 : Int) < P.length by omega]
        refine IWp.block ?_
        refine IWp.seq ?_
        refine IWp.run [0, 4, 5, 9, 10, 14] ?_
        simp [go_sem, -getElem?_pos, -List.map_take, -List.map_drop, List.getElem?_cons_zero, List.getElem?_cons_succ, Go.IntWalk.iteOmega, Go.IntWalk.toNatUp, g, hne, show ¬ (P.length : Int) ≤ 1 by omega, show ¬ P.length ≤ 1 by omega, show 1 < P.length by omega, show (1 : Int) < P.length by omega]
        refine IWp.cond ?_
        simp [go_sem, -getElem?_pos, -List.map_take, -List.map_drop, List.getElem?_cons_zero, List.getElem?_cons_succ, Go.IntWalk.iteOmega, Go.IntWalk.toNatUp, g, hne, show ¬ (P.length : Int) ≤ 1 by omega, show ¬ P.length ≤ 1 by omega, show 1 < P.length by omega, show (1 : Int) < P.length by omega]
        refine IWp.seq ?_
        refine IWp.run [0, 9, 10, 19] ?_
        simp [go_sem, -getElem?_pos, -List.map_take, -List.map_drop, List.getElem?_cons_zero, List.getElem?_cons_succ, Go.IntWalk.iteOmega, Go.IntWalk.toNatUp, g, hne, show ¬ (P.length : Int) ≤ 1 by omega, show ¬ P.length ≤ 1 by omega, show 1 < P.length by omega, show (1 : Int) < P.length by omega]
        refine ICalls.mono (look2 _ 170) ?_
        rintro v _ ⟨rfl, rfl⟩
        try simp [go_sem, -getElem?_pos, -List.map_take, -List.map_drop, List.getElem?_cons_zero, List.getElem?_cons_succ, Go.IntWalk.iteOmega, Go.IntWalk.toNatUp, g, hne, show ¬ (P.length : Int) ≤ 1 by omega, show ¬ P.length ≤ 1 by omega, show 1 < P.length by omega, show (1 : Int) < P.length by omega]
        refine IWp.cond ?_
        simp [go_sem, -getElem?_pos, -List.map_take, -List.map_drop, List.getElem?_cons_zero, List.getElem?_cons_succ, Go.IntWalk.iteOmega, Go.IntWalk.toNatUp, g, hne, show ¬ (P.length : Int) ≤ 1 by omega, show ¬ P.length ≤ 1 by omega, show 1 < P.length by omega, show (1 : Int) < P.length by omega]
        refine IWp.trim [0, 9, 10] (IWp.skip ?_)
        simp [go_sem, -getElem?_pos, -List.map_take, -List.map_drop, List.getElem?_cons_zero, List.getElem?_cons_succ, Go.IntWalk.iteOmega, Go.IntWalk.toNatUp, g, hne, show ¬ (P.length : Int) ≤ 1 by omega, show ¬ P.length ≤ 1 by omega, show 1 < P.length by omega, show (1 : Int) < P.length by omega]
        refine IWp.run [0, 9, 10] ?_
        simp [go_sem, -getElem?_pos, -List.map_take, -List.map_drop, List.getElem?_cons_zero, List.getElem?_cons_succ, Go.IntWalk.iteOmega, Go.IntWalk.toNatUp, g, hne, show ¬ (P.length : Int) ≤ 1 by omega, show ¬ P.length ≤ 1 by omega, show 1 < P.length by omega, show (1 : Int) < P.length by omega]
        first | refine ⟨1, by omega, 2, by omega, by omega, ?_⟩ | refine ⟨2, by omega, by omega, ?_⟩
        have b0 : P[0]'(by omega) = 85 := by simpa [show 0 < P.length by omega] using d0
        have b1 : P[1]'(by omega) = 170 := by simpa [show 1 < P.length by omega] using a
        simp [go_sem, IntWalk.i64_in 1 (by omega), IntWalk.i64_in 2 (by omega), IntWalk.i64_in 3 (by omega), b0, b1, show 0 < P.length by omega, show 1 < P.length by omega]
      · have hr : lookS P = (1, 0) := by unfold lookS; rw [if_neg (show ¬ P.length ≤ 0 by omega), if_neg (by simpa using d0), if_neg h, if_pos a]
        rw [hr]
        generalize P.getD 1 0 = x at a g
        refine IWp.seq ?_
        refine IWp.run [0, 9, 10, 11] ?_
        simp [go_sem, -getElem?_pos, -List.map_take, -List.map_drop, List.getElem?_cons_zero, List.getElem?_cons_succ, Go.IntWalk.iteOmega, Go.IntWalk.toNatUp, g, a, hne, show ¬ (P.length : Int) ≤ 1 by omega, show ¬ P.length ≤ 1 by omega, show 1 < P.length by omega, show (1 : Int) < P.length by omega]
        refine IWp.seq ?_
        refine IWp.cond ?_
        simp [go_sem, -getElem?_pos, -List.map_take, -List.map_drop, List.getElem?_cons_zero, List.getElem?_cons_succ, Go.IntWalk.iteOmega, Go.IntWalk.toNatUp, g, a, hne, show ¬ (P.length : Int) ≤ 1 by omega, show ¬ P.length ≤ 1 by omega, show 1 < P.length by omega, show (1 : Int) < P.length by omega]
        refine IWp.trim [0, 9, 10] (IWp.skip ?_)
        simp [go_sem, -getElem?_pos, -List.map_take, -List.map_drop, List.getElem?_cons_zero, List.getElem?_cons_succ, Go.IntWalk.iteOmega, Go.IntWalk.toNatUp, g, a, hne, show ¬ (P.length : Int) ≤ 1 by omega, show ¬ P.length ≤ 1 by omega, show 1 < P.length by omega, show (1 : Int) < P.length by omega]
        refine IWp.seq ?_
        refine IWp.block ?_
        refine IWp.seq ?_
        refine IWp.run [0, 4, 5, 9, 10] ?_
        simp [go_sem, -getElem?_pos, -List.map_take, -List.map_drop, List.getElem?_cons_zero, List.getElem?_cons_succ, Go.IntWalk.iteOmega, Go.IntWalk.toNatUp, g, a, hne, show ¬ (P.length : Int) ≤ 1 by omega, show ¬ P.length ≤ 1 by omega, show 1 < P.length by omega, show (1 : Int) < P.length by omega]
        refine IWp.block ?_
        refine IWp.seq ?_
        refine IWp.run [0, 4, 5, 9, 10, 14] ?_
        simp [go_sem, -getElem?_pos, -List.map_take, -List.map_drop, List.getElem?_cons_zero, List.getElem?_cons_succ, Go.IntWalk.iteOmega, Go.IntWalk.toNatUp, g, a, hne, show ¬ (P.length : Int) ≤ 1 by omega, show ¬ P.length ≤ 1 by omega, show 1 < P.length by omega, show (1 : Int) < P.length by omega]
        refine IWp.cond ?_
        simp [go_sem, -getElem?_pos, -List.map_take, -List.map_drop, List.getElem?_cons_zero, List.getElem?_cons_succ, Go.IntWalk.iteOmega, Go.IntWalk.toNatUp, g, a, hne, show ¬ (P.length : Int) ≤ 1 by omega, show ¬ P.length ≤ 1 by omega, show 1 < P.length by omega, show (1 : Int) < P.length by omega]
        refine IWp.seq ?_
        refine IWp.run [0, 9, 10, 19] ?_
        simp [go_sem, -getElem?_pos, -List.map_take, -List.map_drop, List.getElem?_cons_zero, List.getElem?_cons_succ, Go.IntWalk.iteOmega, Go.IntWalk.toNatUp, g, a, hne, show ¬ (P.length : Int) ≤ 1 by omega, show ¬ P.length ≤ 1 by omega, show 1 < P.length by omega, show (1 : Int) < P.length by omega]
        refine ICalls.mono (look2 _ x) ?_
        rintro v _ ⟨rfl, rfl⟩
        try simp [go_sem, -getElem?_pos, -List.map_take, -List.map_drop, List.getElem?_cons_zero, List.getElem?_cons_succ, Go.IntWalk.iteOmega, Go.IntWalk.toNatUp, g, a, hne, show ¬ (P.length : Int) ≤ 1 by omega, show ¬ P.length ≤ 1 by omega, show 1 < P.length by omega, show (1 : Int) < P.length by omega]
        refine IWp.cond ?_
        simp [go_sem, -getElem?_pos, -List.map_take, -List.map_drop, List.getElem?_cons_zero, List.getElem?_cons_succ, Go.IntWalk.iteOmega, Go.IntWalk.toNatUp, g, a, hne, show ¬ (P.length : Int) ≤ 1 by omega, show ¬ P.length ≤ 1 by omega, show 1 < P.length by omega, show (1 : Int) < P.length by omega]
        refine IWp.seq ?_
        refine IWp.run [2, 3] ?_
        simp [go_sem, -getElem?_pos, -List.map_take, -List.map_drop, List.getElem?_cons_zero, List.getElem?_cons_succ, Go.IntWalk.iteOmega, Go.IntWalk.toNatUp, g, a, hne, show ¬ (P.length : Int) ≤ 1 by omega, show ¬ P.length ≤ 1 by omega, show 1 < P.length by omega, show (1 : Int) < P.length by omega]
        refine IWp.ret ?_
        simp [go_sem, -getElem?_pos, -List.map_take, -List.map_drop, List.getElem?_cons_zero, List.getElem?_cons_succ, Go.IntWalk.iteOmega, Go.IntWalk.toNatUp, g, a, hne, show ¬ (P.length : Int) ≤ 1 by omega, show ¬ P.length ≤ 1 by omega, show 1 < P.length by omega, show (1 : Int) < P.length by omega, Try.results24]
  · skip
    obtain ⟨e0, d0⟩ := c0 (by omega)
    obtain ⟨e1, d1⟩ := c1 (by omega)
    by_cases h : P.length ≤ 2
    · have hr : lookS P = (0, 0) := by unfold lookS; rw [if_neg (show ¬ P.length ≤ 0 by omega), if_neg (by simpa using d0), if_neg (show ¬ P.length ≤ 1 by omega), if_neg (by simpa using d1), if_pos h]
      rw [hr]
      refine IWp.seq ?_
      refine IWp.run [0, 9, 10, 11] ?_
      simp [go_sem, -getElem?_pos, -List.map_take, -List.map_drop, List.getElem?_cons_zero, List.getElem?_cons_succ, Go.IntWalk.iteOmega, Go.IntWalk.toNatUp, show (P.length : Int) ≤ 2 by omega, show P.length ≤ 2 by omega]
      refine IWp.seq ?_
      refine IWp.cond ?_
      simp [go_sem, -getElem?_pos, -List.map_take, -List.map_drop, List.getElem?_cons_zero, List.getElem?_cons_succ, Go.IntWalk.iteOmega, Go.IntWalk.toNatUp, show (P.length : Int) ≤ 2 by omega, show P.length ≤ 2 by omega]
      refine IWp.trim [0, 9, 10] (IWp.skip ?_)
      simp [go_sem, -getElem?_pos, -List.map_take, -List.map_drop, List.getElem?_cons_zero, List.getElem?_cons_succ, Go.IntWalk.iteOmega, Go.IntWalk.toNatUp, show (P.length : Int) ≤ 2 by omega, show P.length ≤ 2 by omega]
      refine IWp.seq ?_
      refine IWp.block ?_
      refine IWp.seq ?_
      refine IWp.run [0, 4, 5, 9, 10] ?_
      simp [go_sem, -getElem?_pos, -List.map_take, -List.map_drop, List.getElem?_cons_zero, List.getElem?_cons_succ, Go.IntWalk.iteOmega, Go.IntWalk.toNatUp, show (P.length : Int) ≤ 2 by omega, show P.length ≤ 2 by omega]
      refine IWp.block ?_
      refine IWp.seq ?_
      refine IWp.run [0, 4, 5, 9, 10, 14] ?_
      simp [go_sem, -getElem?_pos, -List.map_take, -List.map_drop, List.getElem?_cons_zero, List.getElem?_cons_succ, Go.IntWalk.iteOmega, Go.IntWalk.toNatUp, show (P.length : Int) ≤ 2 by omega, show P.length ≤ 2 by omega]
      refine IWp.cond ?_
      simp [go_sem, -getElem?_pos, -List.map_take, -List.map_drop, List.getElem?_cons_zero, List.getElem?_cons_succ, Go.IntWalk.iteOmega, Go.IntWalk.toNatUp, show (P.length : Int) ≤ 2 by omega, show P.length ≤ 2 by omega]
      refine IWp.seq ?_
      refine IWp.run [2, 3] ?_
      simp [go_sem, -getElem?_pos, -List.map_take, -List.map_drop, List.getElem?_cons_zero, List.getElem?_cons_succ, Go.IntWalk.iteOmega, Go.IntWalk.toNatUp, show (P.length : Int) ≤ 2 by omega, show P.length ≤ 2 by omega]
      refine IWp.ret ?_
      simp [go_sem, -getElem?_pos, -List.map_take, -List.map_drop, List.getElem?_cons_zero, List.getElem?_cons_succ, Go.IntWalk.iteOmega, Go.IntWalk.toNatUp, show (P.length : Int) ≤ 2 by omega, show P.length ≤ 2 by omega, Try.results24]
    · have g := gs 2 (by omega)
      have hne : ¬ P = [] := by rintro rfl; simp at h
      by_cases a : 1 ≤ P.getD 2 0 ∧ P.getD 2 0 ≤ 32
      · obtain ⟨x, hx⟩ : ∃ x, P.getD 2 0 = x := ⟨_, rfl⟩
        rw [hx] at g
        have a' := a
        rw [hx] at a'
        refine IWp.seq ?_
        refine IWp.run [0, 9, 10, 11] ?_
        simp [go_sem, -getElem?_pos, -List.map_take, -List.map_drop, List.getElem?_cons_zero, List.getElem?_cons_succ, Go.IntWalk.iteOmega, Go.IntWalk.toNatUp, g, a', hne, show ¬ (P.length : Int) ≤ 2 by omega, show ¬ P.length ≤ 2 by omega, show 2 < P.length by omega, show (2 : Int) < P.length by omega]
        refine IWp.seq ?_
        refine IWp.cond ?_
        simp [go_sem, -getElem?_pos, -List.map_take, -List.map_drop, List.getElem?_cons_zero, List.getElem?_cons_succ, Go.IntWalk.iteOmega, Go.IntWalk.toNatUp, g, a', hne, show ¬ (P.length : Int) ≤ 2 by omega, show ¬ P.length ≤ 2 by omega, show 2 < P.length by omega, show (2 : Int) < P.length by omega]
        refine IWp.trim [0, 9, 10] (IWp.skip ?_)
        simp [go_sem, -getElem?_pos, -List.map_take, -List.map_drop, List.getElem?_cons_zero, List.getElem?_cons_succ, Go.IntWalk.iteOmega, Go.IntWalk.toNatUp, g, a', hne, show ¬ (P.length : Int) ≤ 2 by omega, show ¬ P.length ≤ 2 by omega, show 2 < P.length by omega, show (2 : Int) < P.length by omega]
        refine IWp.seq ?_
        refine IWp.block ?_
        refine IWp.seq ?_
        refine IWp.run [0, 4, 5, 9, 10] ?_
        simp [go_sem, -getElem?_pos, -List.map_take, -List.map_drop, List.getElem?_cons_zero, List.getElem?_cons_succ, Go.IntWalk.iteOmega, Go.IntWalk.toNatUp, g, a', hne, show ¬ (P.length : Int) ≤ 2 by omega, show ¬ P.length ≤ 2 by omega, show 2 < P.length by omega, show (2 : Int) < P.length by omega]
        refine IWp.block ?_
        refine IWp.seq ?_
        refine IWp.run [0, 4, 5, 9, 10, 14] ?_
        simp [go_sem, -getElem?_pos, -List.map_take, -List.map_drop, List.getElem?_cons_zero, List.getElem?_cons_succ, Go.IntWalk.iteOmega, Go.IntWalk.toNatUp, g, a', hne, show ¬ (P.length : Int) ≤ 2 by omega, show ¬ P.length ≤ 2 by omega, show 2 < P.length by omega, show (2 : Int) < P.length by omega]
        refine IWp.cond ?_
        simp [go_sem, -getElem?_pos, -List.map_take, -List.map_drop, List.getElem?_cons_zero, List.getElem?_cons_succ, Go.IntWalk.iteOmega, Go.IntWalk.toNatUp, g, a', hne, show ¬ (P.length : Int) ≤ 2 by omega, show ¬ P.length ≤ 2 by omega, show 2 < P.length by omega, show (2 : Int) < P.length by omega]
        refine IWp.seq ?_
        refine IWp.run [0, 9, 10, 19] ?_
        simp [go_sem, -getElem?_pos, -List.map_take, -List.map_drop, List.getElem?_cons_zero, List.getElem?_cons_succ, Go.IntWalk.iteOmega, Go.IntWalk.toNatUp, g, a', hne, show ¬ (P.length : Int) ≤ 2 by omega, show ¬ P.length ≤ 2 by omega, show 2 < P.length by omega, show (2 : Int) < P.length by omega]
        refine ICalls.mono (look3 _ x) ?_
        rintro v _ ⟨rfl, rfl⟩
        try simp [go_sem, -getElem?_pos, -List.map_take, -List.map_drop, List.getElem?_cons_zero, List.getElem?_cons_succ, Go.IntWalk.iteOmega, Go.IntWalk.toNatUp, g, a', hne, show ¬ (P.length : Int) ≤ 2 by omega, show ¬ P.length ≤ 2 by omega, show 2 < P.length by omega, show (2 : Int) < P.length by omega]
        refine IWp.cond ?_
        simp [go_sem, -getElem?_pos, -List.map_take, -List.map_drop, List.getElem?_cons_zero, List.getElem?_cons_succ, Go.IntWalk.iteOmega, Go.IntWalk.toNatUp, g, a', hne, show ¬ (P.length : Int) ≤ 2 by omega, show ¬ P.length ≤ 2 by omega, show 2 < P.length by omega, show (2 : Int) < P.length by omega]
        refine IWp.trim [0, 9, 10] (IWp.skip ?_)
        simp [go_sem, -getElem?_pos, -List.map_take, -List.map_drop, List.getElem?_cons_zero, List.getElem?_cons_succ, Go.IntWalk.iteOmega, Go.IntWalk.toNatUp, g, a', hne, show ¬ (P.length : Int) ≤ 2 by omega, show ¬ P.length ≤ 2 by omega, show 2 < P.length by omega, show (2 : Int) < P.length by omega]
        refine IWp.run [0, 9, 10] ?_
        simp [go_sem, -getElem?_pos, -List.map_take, -List.map_drop, List.getElem?_cons_zero, List.getElem?_cons_succ, Go.IntWalk.iteOmega, Go.IntWalk.toNatUp, g, a', hne, show ¬ (P.length : Int) ≤ 2 by omega, show ¬ P.length ≤ 2 by omega, show 2 < P.length by omega, show (2 : Int) < P.length by omega]
        first | refine ⟨0, by omega, 3, by omega, by omega, ?_⟩ | refine ⟨3, by omega, by omega, ?_⟩
        have b0 : P[0]'(by omega) = 85 := by simpa [show 0 < P.length by omega] using d0
        have b1 : P[1]'(by omega) = 170 := by simpa [show 1 < P.length by omega] using d1
        have b2 : P[2]'(by omega) = x := by simpa [show 2 < P.length by omega] using hx
        simp [go_sem, IntWalk.i64_in 1 (by omega), IntWalk.i64_in 2 (by omega), IntWalk.i64_in 3 (by omega), b0, b1, b2, a', show 0 < P.length by omega, show 1 < P.length by omega, show 2 < P.length by omega]
      · have hr : lookS P = (1, 0) := by unfold lookS; rw [if_neg (show ¬ P.length ≤ 0 by omega), if_neg (by simpa using d0), if_neg (show ¬ P.length ≤ 1 by omega), if_neg (by simpa using d1), if_neg h, if_pos a]
        rw [hr]
        generalize P.getD 2 0 = x at a g
        have ad : decide (1 ≤ x ∧ x ≤ 32) = false := by simpa using a
        refine IWp.seq ?_
        refine IWp.run [0, 9, 10, 11] ?_
        simp [go_sem, -getElem?_pos, -List.map_take, -List.map_drop, List.getElem?_cons_zero, List.getElem?_cons_succ, Go.IntWalk.iteOmega, Go.IntWalk.toNatUp, g, hne, show ¬ (P.length : Int) ≤ 2 by omega, show ¬ P.length ≤ 2 by omega, show 2 < P.length by omega, show (2 : Int) < P.length by omega]
        refine IWp.seq ?_
        refine IWp.cond ?_
        simp [go_sem, -getElem?_pos, -List.map_take, -List.map_drop, List.getElem?_cons_zero, List.getElem?_cons_succ, Go.IntWalk.iteOmega, Go.IntWalk.toNatUp, g, hne, show ¬ (P.length : Int) ≤ 2 by omega, show ¬ P.length ≤ 2 by omega, show 2 < P.length by omega, show (2 : Int) < P.length by omega]
        refine IWp.trim [0, 9, 10] (IWp.skip ?_)
        simp [go_sem, -getElem?_pos, -List.map_take, -List.map_drop, List.getElem?_cons_zero, List.getElem?_cons_succ, Go.IntWalk.iteOmega, Go.IntWalk.toNatUp, g, hne, show ¬ (P.length : Int) ≤ 2 by omega, show ¬ P.length ≤ 2 by omega, show 2 < P.length by omega, show (2 : Int) < P.length by omega]
        refine IWp.seq ?_
        refine IWp.block ?_
        refine IWp.seq ?_
        refine IWp.run [0, 4, 5, 9, 10] ?_
        simp [go_sem, -getElem?_pos, -List.map_take, -List.map_drop, List.getElem?_cons_zero, List.getElem?_cons_succ, Go.IntWalk.iteOmega, Go.IntWalk.toNatUp, g, hne, show ¬ (P.length : Int) ≤ 2 by omega, show ¬ P.length ≤ 2 by omega, show 2 < P.length by omega, show (2 : Int) < P.length by omega]
        refine IWp.block ?_
        refine IWp.seq ?_
        refine IWp.run [0, 4, 5, 9, 10, 14] ?_
        simp [go_sem, -getElem?_pos, -List.map_take, -List.map_drop, List.getElem?_cons_zero, List.getElem?_cons_succ, Go.IntWalk.iteOmega, Go.IntWalk.toNatUp, g, hne, show ¬ (P.length : Int) ≤ 2 by omega, show ¬ P.length ≤ 2 by omega, show 2 < P.length by omega, show (2 : Int) < P.length by omega]
        refine IWp.cond ?_
        simp [go_sem, -getElem?_pos, -List.map_take, -List.map_drop, List.getElem?_cons_zero, List.getElem?_cons_succ, Go.IntWalk.iteOmega, Go.IntWalk.toNatUp, g, hne, show ¬ (P.length : Int) ≤ 2 by omega, show ¬ P.length ≤ 2 by omega, show 2 < P.length by omega, show (2 : Int) < P.length by omega]
        refine IWp.seq ?_
        refine IWp.run [0, 9, 10, 19] ?_
        simp [go_sem, -getElem?_pos, -List.map_take, -List.map_drop, List.getElem?_cons_zero, List.getElem?_cons_succ, Go.IntWalk.iteOmega, Go.IntWalk.toNatUp, g, hne, show ¬ (P.length : Int) ≤ 2 by omega, show ¬ P.length ≤ 2 by omega, show 2 < P.length by omega, show (2 : Int) < P.length by omega]
        refine ICalls.mono (look3 _ x) ?_
        rintro v _ ⟨rfl, rfl⟩
        try simp [go_sem, -getElem?_pos, -List.map_take, -List.map_drop, List.getElem?_cons_zero, List.getElem?_cons_succ, Go.IntWalk.iteOmega, Go.IntWalk.toNatUp, g, hne, show ¬ (P.length : Int) ≤ 2 by omega, show ¬ P.length ≤ 2 by omega, show 2 < P.length by omega, show (2 : Int) < P.length by omega, ad]
        refine IWp.cond ?_
        simp [go_sem, -getElem?_pos, -List.map_take, -List.map_drop, List.getElem?_cons_zero, List.getElem?_cons_succ, Go.IntWalk.iteOmega, Go.IntWalk.toNatUp, g, hne, show ¬ (P.length : Int) ≤ 2 by omega, show ¬ P.length ≤ 2 by omega, show 2 < P.length by omega, show (2 : Int) < P.length by omega, ad]
        refine IWp.seq ?_
        refine IWp.run [2, 3] ?_
        simp [go_sem, -getElem?_pos, -List.map_take, -List.map_drop, List.getElem?_cons_zero, List.getElem?_cons_succ, Go.IntWalk.iteOmega, Go.IntWalk.toNatUp, g, hne, show ¬ (P.length : Int) ≤ 2 by omega, show ¬ P.length ≤ 2 by omega, show 2 < P.length by omega, show (2 : Int) < P.length by omega, ad]
        refine IWp.ret ?_
        simp [go_sem, -getElem?_pos, -List.map_take, -List.map_drop, List.getElem?_cons_zero, List.getElem?_cons_succ, Go.IntWalk.iteOmega, Go.IntWalk.toNatUp, g, hne, show ¬ (P.length : Int) ≤ 2 by omega, show ¬ P.length ≤ 2 by omega, show 2 < P.length by omega, show (2 : Int) < P.length by omega, ad, Try.results24]
  · obtain ⟨e0, d0⟩ := c0 (by omega)
    obtain ⟨e1, d1⟩ := c1 (by omega)
    obtain ⟨e2, d2⟩ := c2 (by omega)
    have g2 := gs 2 (by omega)
    have w1 := IntWalk.i64_in (P.getD 2 0) (by omega)
    have w2 := IntWalk.i64_in (5 + P.getD 2 0) (by omega)
    have w3 := IntWalk.i64_in (3 + P.getD 2 0) (by omega)
    have w4 := IntWalk.i64_in (3 + P.getD 2 0 + 2) (by omega)
    have hP : lookS P = if (P.length : Int) < 5 + P.getD 2 0 then (0, 0) else if (opened ((P.take (5 + P.getD 2 0).toNat).drop 2)).2 = 0 then (2, 5 + P.getD 2 0) else (1, 0) := by
      unfold lookS
      rw [if_neg (show ¬ P.length ≤ 0 by omega), if_neg (by simpa using d0), if_neg (show ¬ P.length ≤ 1 by omega), if_neg (by simpa using d1), if_neg (show ¬ P.length ≤ 2 by omega), if_neg (by simpa using d2)]
    rw [hP]
    have hro := fun K k => openSum K k ((P.take (5 + P.getD 2 0).toNat).drop 2) (by simp; omega) (fun x hx => hB x (List.mem_of_mem_take (List.mem_of_mem_drop hx)))
    rw [List.drop_take] at hro ⊢
    generalize P.getD 2 0 = x at d2 g2 w1 w2 w3 w4 hro ⊢
    have hx5 : 3 + x + 2 = 5 + x := by omega
    rw [hx5] at w4
    by_cases h3 : (P.length : Int) < 5 + x
    · rw [if_pos h3]
      refine IWp.seq ?_
      refine IWp.run [0, 9, 10, 11] ?_
      simp [go_sem, -getElem?_pos, -List.map_take, -List.map_drop, List.getElem?_cons_zero, List.getElem?_cons_succ, Go.IntWalk.iteOmega, Go.IntWalk.toNatUp, g2, w1, w3, w4, hx5, h3, show 2 < P.length by omega, show (2 : Int) < P.length by omega]
      refine IWp.seq ?_
      refine IWp.cond ?_
      simp [go_sem, -getElem?_pos, -List.map_take, -List.map_drop, List.getElem?_cons_zero, List.getElem?_cons_succ, Go.IntWalk.iteOmega, Go.IntWalk.toNatUp, g2, w1, w3, w4, hx5, h3, show 2 < P.length by omega, show (2 : Int) < P.length by omega]
      refine IWp.trim [0] (IWp.exit ?_)
      simp [go_sem, -getElem?_pos, -List.map_take, -List.map_drop, List.getElem?_cons_zero, List.getElem?_cons_succ, Go.IntWalk.iteOmega, Go.IntWalk.toNatUp, g2, w1, w3, w4, hx5, h3, show 2 < P.length by omega, show (2 : Int) < P.length by omega]
      refine IWp.seq ?_
      refine IWp.run [0, 6] ?_
      simp [go_sem, -getElem?_pos, -List.map_take, -List.map_drop, List.getElem?_cons_zero, List.getElem?_cons_succ, Go.IntWalk.iteOmega, Go.IntWalk.toNatUp, g2, w1, w3, w4, hx5, h3, show 2 < P.length by omega, show (2 : Int) < P.length by omega]
      refine IWp.seq ?_
      refine IWp.seq ?_
      refine IWp.run [0, 6, 37] ?_
      simp [go_sem, -getElem?_pos, -List.map_take, -List.map_drop, List.getElem?_cons_zero, List.getElem?_cons_succ, Go.IntWalk.iteOmega, Go.IntWalk.toNatUp, g2, w1, w3, w4, hx5, h3, show 2 < P.length by omega, show (2 : Int) < P.length by omega]
      refine IWp.cond ?_
      simp [go_sem, -getElem?_pos, -List.map_take, -List.map_drop, List.getElem?_cons_zero, List.getElem?_cons_succ, Go.IntWalk.iteOmega, Go.IntWalk.toNatUp, g2, w1, w3, w4, hx5, h3, show 2 < P.length by omega, show (2 : Int) < P.length by omega]
      refine IWp.seq ?_
      refine IWp.run [2, 3] ?_
      simp [go_sem, -getElem?_pos, -List.map_take, -List.map_drop, List.getElem?_cons_zero, List.getElem?_cons_succ, Go.IntWalk.iteOmega, Go.IntWalk.toNatUp, g2, w1, w3, w4, hx5, h3, show 2 < P.length by omega, show (2 : Int) < P.length by omega]
      refine IWp.ret ?_
      simp [go_sem, -getElem?_pos, -List.map_take, -List.map_drop, List.getElem?_cons_zero, List.getElem?_cons_succ, Go.IntWalk.iteOmega, Go.IntWalk.toNatUp, g2, w1, w3, w4, hx5, h3, show 2 < P.length by omega, show (2 : Int) < P.length by omega, Try.results24]
    · rw [if_neg h3]
      by_cases ho : (opened ((P.drop 2).take ((5 + x).toNat - 2))).2 = 0
      · rw [if_pos ho]
        refine IWp.seq ?_
        refine IWp.run [0, 9, 10, 11] ?_
        simp [go_sem, -getElem?_pos, -List.map_take, -List.map_drop, List.getElem?_cons_zero, List.getElem?_cons_succ, Go.IntWalk.iteOmega, Go.IntWalk.toNatUp, g2, w1, w3, w4, hx5, h3, ho, show 2 < P.length by omega, show (2 : Int) < P.length by omega, show ¬ 5 + x < 2 by omega, show 2 ≤ 5 + x by omega, show 5 + x ≤ P.length by omega]
        refine IWp.seq ?_
        refine IWp.cond ?_
        simp [go_sem, -getElem?_pos, -List.map_take, -List.map_drop, List.getElem?_cons_zero, List.getElem?_cons_succ, Go.IntWalk.iteOmega, Go.IntWalk.toNatUp, g2, w1, w3, w4, hx5, h3, ho, show 2 < P.length by omega, show (2 : Int) < P.length by omega, show ¬ 5 + x < 2 by omega, show 2 ≤ 5 + x by omega, show 5 + x ≤ P.length by omega]
        refine IWp.trim [0] (IWp.exit ?_)
        simp [go_sem, -getElem?_pos, -List.map_take, -List.map_drop, List.getElem?_cons_zero, List.getElem?_cons_succ, Go.IntWalk.iteOmega, Go.IntWalk.toNatUp, g2, w1, w3, w4, hx5, h3, ho, show 2 < P.length by omega, show (2 : Int) < P.length by omega, show ¬ 5 + x < 2 by omega, show 2 ≤ 5 + x by omega, show 5 + x ≤ P.length by omega]
        refine IWp.seq ?_
        refine IWp.run [0, 6] ?_
        simp [go_sem, -getElem?_pos, -List.map_take, -List.map_drop, List.getElem?_cons_zero, List.getElem?_cons_succ, Go.IntWalk.iteOmega, Go.IntWalk.toNatUp, g2, w1, w3, w4, hx5, h3, ho, show 2 < P.length by omega, show (2 : Int) < P.length by omega, show ¬ 5 + x < 2 by omega, show 2 ≤ 5 + x by omega, show 5 + x ≤ P.length by omega]
        refine IWp.seq ?_
        refine IWp.seq ?_
        refine IWp.run [0, 6, 37] ?_
        simp [go_sem, -getElem?_pos, -List.map_take, -List.map_drop, List.getElem?_cons_zero, List.getElem?_cons_succ, Go.IntWalk.iteOmega, Go.IntWalk.toNatUp, g2, w1, w3, w4, hx5, h3, ho, show 2 < P.length by omega, show (2 : Int) < P.length by omega, show ¬ 5 + x < 2 by omega, show 2 ≤ 5 + x by omega, show 5 + x ≤ P.length by omega]
        refine IWp.cond ?_
        simp [go_sem, -getElem?_pos, -List.map_take, -List.map_drop, List.getElem?_cons_zero, List.getElem?_cons_succ, Go.IntWalk.iteOmega, Go.IntWalk.toNatUp, g2, w1, w3, w4, hx5, h3, ho, show 2 < P.length by omega, show (2 : Int) < P.length by omega, show ¬ 5 + x < 2 by omega, show 2 ≤ 5 + x by omega, show 5 + x ≤ P.length by omega]
        refine IWp.trim [0, 6] (IWp.skip ?_)
        simp [go_sem, -getElem?_pos, -List.map_take, -List.map_drop, List.getElem?_cons_zero, List.getElem?_cons_succ, Go.IntWalk.iteOmega, Go.IntWalk.toNatUp, g2, w1, w3, w4, hx5, h3, ho, show 2 < P.length by omega, show (2 : Int) < P.length by omega, show ¬ 5 + x < 2 by omega, show 2 ≤ 5 + x by omega, show 5 + x ≤ P.length by omega]
        refine IWp.seq ?_
        refine IWp.seq ?_
        refine IWp.run [6, 8] ?_
        simp [go_sem, -getElem?_pos, -List.map_take, -List.map_drop, List.getElem?_cons_zero, List.getElem?_cons_succ, Go.IntWalk.iteOmega, Go.IntWalk.toNatUp, g2, w1, w3, w4, hx5, h3, ho, show 2 < P.length by omega, show (2 : Int) < P.length by omega, show ¬ 5 + x < 2 by omega, show 2 ≤ 5 + x by omega, show 5 + x ≤ P.length by omega]
        refine ICalls.mono (hro _ _) ?_
        rintro v _ ⟨rfl, rfl⟩
        try simp [go_sem, -getElem?_pos, -List.map_take, -List.map_drop, List.getElem?_cons_zero, List.getElem?_cons_succ, Go.IntWalk.iteOmega, Go.IntWalk.toNatUp, g2, w1, w3, w4, hx5, h3, ho, show 2 < P.length by omega, show (2 : Int) < P.length by omega, show ¬ 5 + x < 2 by omega, show 2 ≤ 5 + x by omega, show 5 + x ≤ P.length by omega]
        refine IWp.seq ?_
        refine IWp.run [6, 46] ?_
        simp [go_sem, -getElem?_pos, -List.map_take, -List.map_drop, List.getElem?_cons_zero, List.getElem?_cons_succ, Go.IntWalk.iteOmega, Go.IntWalk.toNatUp, g2, w1, w3, w4, hx5, h3, ho, show 2 < P.length by omega, show (2 : Int) < P.length by omega, show ¬ 5 + x < 2 by omega, show 2 ≤ 5 + x by omega, show 5 + x ≤ P.length by omega]
        refine IWp.cond ?_
        simp [go_sem, -getElem?_pos, -List.map_take, -List.map_drop, List.getElem?_cons_zero, List.getElem?_cons_succ, Go.IntWalk.iteOmega, Go.IntWalk.toNatUp, g2, w1, w3, w4, hx5, h3, ho, show 2 < P.length by omega, show (2 : Int) < P.length by omega, show ¬ 5 + x < 2 by omega, show 2 ≤ 5 + x by omega, show 5 + x ≤ P.length by omega]
        refine IWp.trim [6] (IWp.skip ?_)
        simp [go_sem, -getElem?_pos, -List.map_take, -List.map_drop, List.getElem?_cons_zero, List.getElem?_cons_succ, Go.IntWalk.iteOmega, Go.IntWalk.toNatUp, g2, w1, w3, w4, hx5, h3, ho, show 2 < P.length by omega, show (2 : Int) < P.length by omega, show ¬ 5 + x < 2 by omega, show 2 ≤ 5 + x by omega, show 5 + x ≤ P.length by omega]
        refine IWp.seq ?_
        refine IWp.run [2, 3] ?_
        simp [go_sem, -getElem?_pos, -List.map_take, -List.map_drop, List.getElem?_cons_zero, List.getElem?_cons_succ, Go.IntWalk.iteOmega, Go.IntWalk.toNatUp, g2, w1, w3, w4, hx5, h3, ho, show 2 < P.length by omega, show (2 : Int) < P.length by omega, show ¬ 5 + x < 2 by omega, show 2 ≤ 5 + x by omega, show 5 + x ≤ P.length by omega]
        refine IWp.ret ?_
        simp [go_sem, -getElem?_pos, -List.map_take, -List.map_drop, List.getElem?_cons_zero, List.getElem?_cons_succ, Go.IntWalk.iteOmega, Go.IntWalk.toNatUp, g2, w1, w3, w4, hx5, h3, ho, show 2 < P.length by omega, show (2 : Int) < P.length by omega, show ¬ 5 + x < 2 by omega, show 2 ≤ 5 + x by omega, show 5 + x ≤ P.length by omega, Try.results24]
      · rw [if_neg ho]
        refine IWp.seq ?_
        refine IWp.run [0, 9, 10, 11] ?_
        simp [go_sem, -getElem?_pos, -List.map_take, -List.map_drop, List.getElem?_cons_zero, List.getElem?_cons_succ, Go.IntWalk.iteOmega, Go.IntWalk.toNatUp, g2, w1, w3, w4, hx5, h3, ho, show 2 < P.length by omega, show (2 : Int) < P.length by omega, show ¬ 5 + x < 2 by omega, show 2 ≤ 5 + x by omega, show 5 + x ≤ P.length by omega]
        refine IWp.seq ?_
        refine IWp.cond ?_
        simp [go_sem, -getElem?_pos, -List.map_take, -List.map_drop, List.getElem?_cons_zero, List.getElem?_cons_succ, Go.IntWalk.iteOmega, Go.IntWalk.toNatUp, g2, w1, w3, w4, hx5, h3, ho, show 2 < P.length by omega, show (2 : Int) < P.length by omega, show ¬ 5 + x < 2 by omega, show 2 ≤ 5 + x by omega, show 5 + x ≤ P.length by omega]
        refine IWp.trim [0] (IWp.exit ?_)
        simp [go_sem, -getElem?_pos, -List.map_take, -List.map_drop, List.getElem?_cons_zero, List.getElem?_cons_succ, Go.IntWalk.iteOmega, Go.IntWalk.toNatUp, g2, w1, w3, w4, hx5, h3, ho, show 2 < P.length by omega, show (2 : Int) < P.length by omega, show ¬ 5 + x < 2 by omega, show 2 ≤ 5 + x by omega, show 5 + x ≤ P.length by omega]
        refine IWp.seq ?_
        refine IWp.run [0, 6] ?_
        simp [go_sem, -getElem?_pos, -List.map_take, -List.map_drop, List.getElem?_cons_zero, List.getElem?_cons_succ, Go.IntWalk.iteOmega, Go.IntWalk.toNatUp, g2, w1, w3, w4, hx5, h3, ho, show 2 < P.length by omega, show (2 : Int) < P.length by omega, show ¬ 5 + x < 2 by omega, show 2 ≤ 5 + x by omega, show 5 + x ≤ P.length by omega]
        refine IWp.seq ?_
        refine IWp.seq ?_
        refine IWp.run [0, 6, 37] ?_
        simp [go_sem, -getElem?_pos, -List.map_take, -List.map_drop, List.getElem?_cons_zero, List.getElem?_cons_succ, Go.IntWalk.iteOmega, Go.IntWalk.toNatUp, g2, w1, w3, w4, hx5, h3, ho, show 2 < P.length by omega, show (2 : Int) < P.length by omega, show ¬ 5 + x < 2 by omega, show 2 ≤ 5 + x by omega, show 5 + x ≤ P.length by omega]
        refine IWp.cond ?_
        simp [go_sem, -getElem?_pos, -List.map_take, -List.map_drop, List.getElem?_cons_zero, List.getElem?_cons_succ, Go.IntWalk.iteOmega, Go.IntWalk.toNatUp, g2, w1, w3, w4, hx5, h3, ho, show 2 < P.length by omega, show (2 : Int) < P.length by omega, show ¬ 5 + x < 2 by omega, show 2 ≤ 5 + x by omega, show 5 + x ≤ P.length by omega]
        refine IWp.trim [0, 6] (IWp.skip ?_)
        simp [go_sem, -getElem?_pos, -List.map_take, -List.map_drop, List.getElem?_cons_zero, List.getElem?_cons_succ, Go.IntWalk.iteOmega, Go.IntWalk.toNatUp, g2, w1, w3, w4, hx5, h3, ho, show 2 < P.length by omega, show (2 : Int) < P.length by omega, show ¬ 5 + x < 2 by omega, show 2 ≤ 5 + x by omega, show 5 + x ≤ P.length by omega]
        refine IWp.seq ?_
        refine IWp.seq ?_
        refine IWp.run [6, 8] ?_
        simp [go_sem, -getElem?_pos, -List.map_take, -List.map_drop, List.getElem?_cons_zero, List.getElem?_cons_succ, Go.IntWalk.iteOmega, Go.IntWalk.toNatUp, g2, w1, w3, w4, hx5, h3, ho, show 2 < P.length by omega, show (2 : Int) < P.length by omega, show ¬ 5 + x < 2 by omega, show 2 ≤ 5 + x by omega, show 5 + x ≤ P.length by omega]
        refine ICalls.mono (hro _ _) ?_
        rintro v _ ⟨rfl, rfl⟩
        try simp [go_sem, -getElem?_pos, -List.map_take, -List.map_drop, List.getElem?_cons_zero, List.getElem?_cons_succ, Go.IntWalk.iteOmega, Go.IntWalk.toNatUp, g2, w1, w3, w4, hx5, h3, ho, show 2 < P.length by omega, show (2 : Int) < P.length by omega, show ¬ 5 + x < 2 by omega, show 2 ≤ 5 + x by omega, show 5 + x ≤ P.length by omega]
        refine IWp.seq ?_
        refine IWp.run [6, 46] ?_
        simp [go_sem, -getElem?_pos, -List.map_take, -List.map_drop, List.getElem?_cons_zero, List.getElem?_cons_succ, Go.IntWalk.iteOmega, Go.IntWalk.toNatUp, g2, w1, w3, w4, hx5, h3, ho, show 2 < P.length by omega, show (2 : Int) < P.length by omega, show ¬ 5 + x < 2 by omega, show 2 ≤ 5 + x by omega, show 5 + x ≤ P.length by omega]
        refine IWp.cond ?_
        simp [go_sem, -getElem?_pos, -List.map_take, -List.map_drop, List.getElem?_cons_zero, List.getElem?_cons_succ, Go.IntWalk.iteOmega, Go.IntWalk.toNatUp, g2, w1, w3, w4, hx5, h3, ho, show 2 < P.length by omega, show (2 : Int) < P.length by omega, show ¬ 5 + x < 2 by omega, show 2 ≤ 5 + x by omega, show 5 + x ≤ P.length by omega]
        refine IWp.seq ?_
        refine IWp.run [2, 3] ?_
        simp [go_sem, -getElem?_pos, -List.map_take, -List.map_drop, List.getElem?_cons_zero, List.getElem?_cons_succ, Go.IntWalk.iteOmega, Go.IntWalk.toNatUp, g2, w1, w3, w4, hx5, h3, ho, show 2 < P.length by omega, show (2 : Int) < P.length by omega, show ¬ 5 + x < 2 by omega, show 2 ≤ 5 + x by omega, show 5 + x ≤ P.length by omega]
        refine IWp.ret ?_
        simp [go_sem, -getElem?_pos, -List.map_take, -List.map_drop, List.getElem?_cons_zero, List.getElem?_cons_succ, Go.IntWalk.iteOmega, Go.IntWalk.toNatUp, g2, w1, w3, w4, hx5, h3, ho, show 2 < P.length by omega, show (2 : Int) < P.length by omega, show ¬ 5 + x < 2 by omega, show 2 ≤ 5 + x by omega, show 5 + x ≤ P.length by omega, Try.results24]

set_option maxRecDepth 20000 in
set_option maxHeartbeats 2000000 in
theorem refAt (H : Heap) (m : Int) (P : List Int) (hl : P.length ≤ 100000) (hB : Bs P) :
    ICalls Try.prog 26 [frow 1 m (P.map (Value.int .u8))] H fun v H' => v = .tuple #[.int .i64 (lookS P).1, .int .i64 (lookS P).2] ∧ H' = H := by
  refine ICalls.ans (by simp [go_sem]) fun H => IBody.calls (by kernel_rfl) ?_
  have gs : ∀ i : Nat, i < P.length → (P.map (Value.int .u8))[i]? = some (.int .u8 (P.getD i 0)) := fun i hi => by simp [hi]
  by_cases h0 : P.length ≤ 0
  · have hr : lookS P = (0, 0) := by unfold lookS; rw [if_pos h0]
    rw [hr]
    have hn : P = [] := List.length_eq_zero_iff.1 (by omega)
    subst hn
    refine IBody.of Try.func26 rfl (by rw [Try.ntmps26]; simp) ?_
    rw [Try.ntmps26]
    refine IWp.seq ?_
    refine IWp.run [0] ?_
    simp [go_sem, -getElem?_pos, -List.map_take, -List.map_drop, List.getElem?_cons_zero, List.getElem?_cons_succ, Go.IntWalk.iteOmega, Go.IntWalk.toNatUp]
    refine IWp.seq ?_
    refine IWp.seq ?_
    refine IWp.run [0, 43] ?_
    simp [go_sem, -getElem?_pos, -List.map_take, -List.map_drop, List.getElem?_cons_zero, List.getElem?_cons_succ, Go.IntWalk.iteOmega, Go.IntWalk.toNatUp]
    refine IWp.cond ?_
    simp [go_sem, -getElem?_pos, -List.map_take, -List.map_drop, List.getElem?_cons_zero, List.getElem?_cons_succ, Go.IntWalk.iteOmega, Go.IntWalk.toNatUp]
    refine IWp.trim [0] (IWp.skip ?_)
    simp [go_sem, -getElem?_pos, -List.map_take, -List.map_drop, List.getElem?_cons_zero, List.getElem?_cons_succ, Go.IntWalk.iteOmega, Go.IntWalk.toNatUp]
    refine IWp.seq ?_
    refine IWp.seq ?_
    refine IWp.run [0, 56] ?_
    simp [go_sem, -getElem?_pos, -List.map_take, -List.map_drop, List.getElem?_cons_zero, List.getElem?_cons_succ, Go.IntWalk.iteOmega, Go.IntWalk.toNatUp]
    refine IWp.cond ?_
    simp [go_sem, -getElem?_pos, -List.map_take, -List.map_drop, List.getElem?_cons_zero, List.getElem?_cons_succ, Go.IntWalk.iteOmega, Go.IntWalk.toNatUp]
    refine IWp.seq ?_
    refine IWp.run [2, 3] ?_
    simp [go_sem, -getElem?_pos, -List.map_take, -List.map_drop, List.getElem?_cons_zero, List.getElem?_cons_succ, Go.IntWalk.iteOmega, Go.IntWalk.toNatUp]
    refine IWp.ret ?_
    simp [go_sem, -getElem?_pos, -List.map_take, -List.map_drop, List.getElem?_cons_zero, List.getElem?_cons_succ, Go.IntWalk.iteOmega, Go.IntWalk.toNatUp, Try.results26]
  by_cases a0 : P.getD 0 0 = 85
  case neg =>
    have hr : lookS P = (1, 0) := by unfold lookS; rw [if_neg h0, if_pos a0]
    rw [hr]
    have g0 := gs 0 (by omega)
    generalize P.getD 0 0 = x at a0 g0
    refine IBody.of Try.func26 rfl (by rw [Try.ntmps26]; simp) ?_
    rw [Try.ntmps26]
    refine IWp.seq ?_
    refine IWp.run [0] ?_
    simp [go_sem, -getElem?_pos, -List.map_take, -List.map_drop, List.getElem?_cons_zero, List.getElem?_cons_succ, Go.IntWalk.iteOmega, Go.IntWalk.toNatUp, g0, show (x != 85) = true by simpa using a0, show (0 : Int) < P.length by omega, show 0 < P.length by omega]
    refine IWp.seq ?_
    refine IWp.seq ?_
    refine IWp.run [0, 43] ?_
    simp [go_sem, -getElem?_pos, -List.map_take, -List.map_drop, List.getElem?_cons_zero, List.getElem?_cons_succ, Go.IntWalk.iteOmega, Go.IntWalk.toNatUp, g0, show (x != 85) = true by simpa using a0, show (0 : Int) < P.length by omega, show 0 < P.length by omega]
    refine IWp.cond ?_
    simp [go_sem, -getElem?_pos, -List.map_take, -List.map_drop, List.getElem?_cons_zero, List.getElem?_cons_succ, Go.IntWalk.iteOmega, Go.IntWalk.toNatUp, g0, show (x != 85) = true by simpa using a0, show (0 : Int) < P.length by omega, show 0 < P.length by omega]
    refine IWp.seq ?_
    refine IWp.run [2, 3] ?_
    simp [go_sem, -getElem?_pos, -List.map_take, -List.map_drop, List.getElem?_cons_zero, List.getElem?_cons_succ, Go.IntWalk.iteOmega, Go.IntWalk.toNatUp, g0, show (x != 85) = true by simpa using a0, show (0 : Int) < P.length by omega, show 0 < P.length by omega]
    refine IWp.ret ?_
    simp [go_sem, -getElem?_pos, -List.map_take, -List.map_drop, List.getElem?_cons_zero, List.getElem?_cons_succ, Go.IntWalk.iteOmega, Go.IntWalk.toNatUp, g0, show (x != 85) = true by simpa using a0, show (0 : Int) < P.length by omega, show 0 < P.length by omega, Try.results26]
  have g0 := gs 0 (by omega)
  rw [a0] at g0
  by_cases h1 : P.length ≤ 1
  · have hr : lookS P = (0, 0) := by unfold lookS; rw [if_neg h0, if_neg (by simpa using a0), if_pos h1]
    rw [hr]
    refine IBody.of Try.func26 rfl (by rw [Try.ntmps26]; simp) ?_
    rw [Try.ntmps26]
    refine IWp.seq ?_
    refine IWp.run [0] ?_
    simp [go_sem, -getElem?_pos, -List.map_take, -List.map_drop, List.getElem?_cons_zero, List.getElem?_cons_succ, Go.IntWalk.iteOmega, Go.IntWalk.toNatUp, g0, show (0 : Int) < P.length by omega, show 0 < P.length by omega, show ¬ (1 : Int) < P.length by omega, show ¬ (2 : Int) < P.length by omega, show (P.length : Int) < 3 by omega]
    refine IWp.seq ?_
    refine IWp.seq ?_
    refine IWp.run [0, 43] ?_
    simp [go_sem, -getElem?_pos, -List.map_take, -List.map_drop, List.getElem?_cons_zero, List.getElem?_cons_succ, Go.IntWalk.iteOmega, Go.IntWalk.toNatUp, g0, show (0 : Int) < P.length by omega, show 0 < P.length by omega, show ¬ (1 : Int) < P.length by omega, show ¬ (2 : Int) < P.length by omega, show (P.length : Int) < 3 by omega]
    refine IWp.cond ?_
    simp [go_sem, -getElem?_pos, -List.map_take, -List.map_drop, List.getElem?_cons_zero, List.getElem?_cons_succ, Go.IntWalk.iteOmega, Go.IntWalk.toNatUp, g0, show (0 : Int) < P.length by omega, show 0 < P.length by omega, show ¬ (1 : Int) < P.length by omega, show ¬ (2 : Int) < P.length by omega, show (P.length : Int) < 3 by omega]
    refine IWp.trim [0] (IWp.skip ?_)
    simp [go_sem, -getElem?_pos, -List.map_take, -List.map_drop, List.getElem?_cons_zero, List.getElem?_cons_succ, Go.IntWalk.iteOmega, Go.IntWalk.toNatUp, g0, show (0 : Int) < P.length by omega, show 0 < P.length by omega, show ¬ (1 : Int) < P.length by omega, show ¬ (2 : Int) < P.length by omega, show (P.length : Int) < 3 by omega]
    refine IWp.seq ?_
    refine IWp.seq ?_
    refine IWp.run [0, 56] ?_
    simp [go_sem, -getElem?_pos, -List.map_take, -List.map_drop, List.getElem?_cons_zero, List.getElem?_cons_succ, Go.IntWalk.iteOmega, Go.IntWalk.toNatUp, g0, show (0 : Int) < P.length by omega, show 0 < P.length by omega, show ¬ (1 : Int) < P.length by omega, show ¬ (2 : Int) < P.length by omega, show (P.length : Int) < 3 by omega]
    refine IWp.cond ?_
    simp [go_sem, -getElem?_pos, -List.map_take, -List.map_drop, List.getElem?_cons_zero, List.getElem?_cons_succ, Go.IntWalk.iteOmega, Go.IntWalk.toNatUp, g0, show (0 : Int) < P.length by omega, show 0 < P.length by omega, show ¬ (1 : Int) < P.length by omega, show ¬ (2 : Int) < P.length by omega, show (P.length : Int) < 3 by omega]
    refine IWp.seq ?_
    refine IWp.run [2, 3] ?_
    simp [go_sem, -getElem?_pos, -List.map_take, -List.map_drop, List.getElem?_cons_zero, List.getElem?_cons_succ, Go.IntWalk.iteOmega, Go.IntWalk.toNatUp, g0, show (0 : Int) < P.length by omega, show 0 < P.length by omega, show ¬ (1 : Int) < P.length by omega, show ¬ (2 : Int) < P.length by omega, show (P.length : Int) < 3 by omega]
    refine IWp.ret ?_
    simp [go_sem, -getElem?_pos, -List.map_take, -List.map_drop, List.getElem?_cons_zero, List.getElem?_cons_succ, Go.IntWalk.iteOmega, Go.IntWalk.toNatUp, g0, show (0 : Int) < P.length by omega, show 0 < P.length by omega, show ¬ (1 : Int) < P.length by omega, show ¬ (2 : Int) < P.length by omega, show (P.length : Int) < 3 by omega, Try.results26]
  by_cases a1 : P.getD 1 0 = 170
  case neg =>
    have hr : lookS P = (1, 0) := by unfold lookS; rw [if_neg h0, if_neg (by simpa using a0), if_neg h1, if_pos a1]
    rw [hr]
    have g1 := gs 1 (by omega)
    generalize P.getD 1 0 = x at a1 g1
    refine IBody.of Try.func26 rfl (by rw [Try.ntmps26]; simp) ?_
    rw [Try.ntmps26]
    refine IWp.seq ?_
    refine IWp.run [0] ?_
    simp [go_sem, -getElem?_pos, -List.map_take, -List.map_drop, List.getElem?_cons_zero, List.getElem?_cons_succ, Go.IntWalk.iteOmega, Go.IntWalk.toNatUp, g0, g1, show (x != 170) = true by simpa using a1, show (0 : Int) < P.length by omega, show 0 < P.length by omega, show (1 : Int) < P.length by omega, show 1 < P.length by omega]
    refine IWp.seq ?_
    refine IWp.seq ?_
    refine IWp.run [0, 43] ?_
    simp [go_sem, -getElem?_pos, -List.map_take, -List.map_drop, List.getElem?_cons_zero, List.getElem?_cons_succ, Go.IntWalk.iteOmega, Go.IntWalk.toNatUp, g0, g1, show (x != 170) = true by simpa using a1, show (0 : Int) < P.length by omega, show 0 < P.length by omega, show (1 : Int) < P.length by omega, show 1 < P.length by omega]
    refine IWp.cond ?_
    simp [go_sem, -getElem?_pos, -List.map_take, -List.map_drop, List.getElem?_cons_zero, List.getElem?_cons_succ, Go.IntWalk.iteOmega, Go.IntWalk.toNatUp, g0, g1, show (x != 170) = true by simpa using a1, show (0 : Int) < P.length by omega, show 0 < P.length by omega, show (1 : Int) < P.length by omega, show 1 < P.length by omega]
    refine IWp.seq ?_
    refine IWp.run [2, 3] ?_
    simp [go_sem, -getElem?_pos, -List.map_take, -List.map_drop, List.getElem?_cons_zero, List.getElem?_cons_succ, Go.IntWalk.iteOmega, Go.IntWalk.toNatUp, g0, g1, show (x != 170) = true by simpa using a1, show (0 : Int) < P.length by omega, show 0 < P.length by omega, show (1 : Int) < P.length by omega, show 1 < P.length by omega]
    refine IWp.ret ?_
    simp [go_sem, -getElem?_pos, -List.map_take, -List.map_drop, List.getElem?_cons_zero, List.getElem?_cons_succ, Go.IntWalk.iteOmega, Go.IntWalk.toNatUp, g0, g1, show (x != 170) = true by simpa using a1, show (0 : Int) < P.length by omega, show 0 < P.length by omega, show (1 : Int) < P.length by omega, show 1 < P.length by omega, Try.results26]
  have g1 := gs 1 (by omega)
  rw [a1] at g1
  by_cases h2 : P.length ≤ 2
  · have hr : lookS P = (0, 0) := by unfold lookS; rw [if_neg h0, if_neg (by simpa using a0), if_neg h1, if_neg (by simpa using a1), if_pos h2]
    rw [hr]
    refine IBody.of Try.func26 rfl (by rw [Try.ntmps26]; simp) ?_
    rw [Try.ntmps26]
    refine IWp.seq ?_
    refine IWp.run [0] ?_
    simp [go_sem, -getElem?_pos, -List.map_take, -List.map_drop, List.getElem?_cons_zero, List.getElem?_cons_succ, Go.IntWalk.iteOmega, Go.IntWalk.toNatUp, g0, g1, show (0 : Int) < P.length by omega, show 0 < P.length by omega, show (1 : Int) < P.length by omega, show 1 < P.length by omega, show ¬ (2 : Int) < P.length by omega, show (P.length : Int) < 3 by omega]
    refine IWp.seq ?_
    refine IWp.seq ?_
    refine IWp.run [0, 43] ?_
    simp [go_sem, -getElem?_pos, -List.map_take, -List.map_drop, List.getElem?_cons_zero, List.getElem?_cons_succ, Go.IntWalk.iteOmega, Go.IntWalk.toNatUp, g0, g1, show (0 : Int) < P.length by omega, show 0 < P.length by omega, show (1 : Int) < P.length by omega, show 1 < P.length by omega, show ¬ (2 : Int) < P.length by omega, show (P.length : Int) < 3 by omega]
    refine IWp.cond ?_
    simp [go_sem, -getElem?_pos, -List.map_take, -List.map_drop, List.getElem?_cons_zero, List.getElem?_cons_succ, Go.IntWalk.iteOmega, Go.IntWalk.toNatUp, g0, g1, show (0 : Int) < P.length by omega, show 0 < P.length by omega, show (1 : Int) < P.length by omega, show 1 < P.length by omega, show ¬ (2 : Int) < P.length by omega, show (P.length : Int) < 3 by omega]
    refine IWp.trim [0] (IWp.skip ?_)
    simp [go_sem, -getElem?_pos, -List.map_take, -List.map_drop, List.getElem?_cons_zero, List.getElem?_cons_succ, Go.IntWalk.iteOmega, Go.IntWalk.toNatUp, g0, g1, show (0 : Int) < P.length by omega, show 0 < P.length by omega, show (1 : Int) < P.length by omega, show 1 < P.length by omega, show ¬ (2 : Int) < P.length by omega, show (P.length : Int) < 3 by omega]
    refine IWp.seq ?_
    refine IWp.seq ?_
    refine IWp.run [0, 56] ?_
    simp [go_sem, -getElem?_pos, -List.map_take, -List.map_drop, List.getElem?_cons_zero, List.getElem?_cons_succ, Go.IntWalk.iteOmega, Go.IntWalk.toNatUp, g0, g1, show (0 : Int) < P.length by omega, show 0 < P.length by omega, show (1 : Int) < P.length by omega, show 1 < P.length by omega, show ¬ (2 : Int) < P.length by omega, show (P.length : Int) < 3 by omega]
    refine IWp.cond ?_
    simp [go_sem, -getElem?_pos, -List.map_take, -List.map_drop, List.getElem?_cons_zero, List.getElem?_cons_succ, Go.IntWalk.iteOmega, Go.IntWalk.toNatUp, g0, g1, show (0 : Int) < P.length by omega, show 0 < P.length by omega, show (1 : Int) < P.length by omega, show 1 < P.length by omega, show ¬ (2 : Int) < P.length by omega, show (P.length : Int) < 3 by omega]
    refine IWp.seq ?_
    refine IWp.run [2, 3] ?_
    simp [go_sem, -getElem?_pos, -List.map_take, -List.map_drop, List.getElem?_cons_zero, List.getElem?_cons_succ, Go.IntWalk.iteOmega, Go.IntWalk.toNatUp, g0, g1, show (0 : Int) < P.length by omega, show 0 < P.length by omega, show (1 : Int) < P.length by omega, show 1 < P.length by omega, show ¬ (2 : Int) < P.length by omega, show (P.length : Int) < 3 by omega]
    refine IWp.ret ?_
    simp [go_sem, -getElem?_pos, -List.map_take, -List.map_drop, List.getElem?_cons_zero, List.getElem?_cons_succ, Go.IntWalk.iteOmega, Go.IntWalk.toNatUp, g0, g1, show (0 : Int) < P.length by omega, show 0 < P.length by omega, show (1 : Int) < P.length by omega, show 1 < P.length by omega, show ¬ (2 : Int) < P.length by omega, show (P.length : Int) < 3 by omega, Try.results26]
  have g2 := gs 2 (by omega)
  have hx2 : 0 ≤ P.getD 2 0 ∧ P.getD 2 0 < 256 := by
    have : P.getD 2 0 = P[2]'(by omega) := by simp [List.getD_eq_getElem?_getD, show 2 < P.length by omega]
    rw [this]; exact hB _ (List.getElem_mem _)
  by_cases a2 : 1 ≤ P.getD 2 0 ∧ P.getD 2 0 ≤ 32
  case neg =>
    have hr : lookS P = (1, 0) := by unfold lookS; rw [if_neg h0, if_neg (by simpa using a0), if_neg h1, if_neg (by simpa using a1), if_neg h2, if_pos a2]
    rw [hr]
    generalize P.getD 2 0 = x at a2 g2 hx2
    by_cases a3 : x < 1
    · skip
      refine IBody.of Try.func26 rfl (by rw [Try.ntmps26]; simp) ?_
      rw [Try.ntmps26]
      refine IWp.seq ?_
      refine IWp.run [0] ?_
      simp [go_sem, -getElem?_pos, -List.map_take, -List.map_drop, List.getElem?_cons_zero, List.getElem?_cons_succ, Go.IntWalk.iteOmega, Go.IntWalk.toNatUp, g0, g1, g2, a3, show (0 : Int) < P.length by omega, show 0 < P.length by omega, show (1 : Int) < P.length by omega, show 1 < P.length by omega, show (2 : Int) < P.length by omega, show 2 < P.length by omega]
      refine IWp.seq ?_
      refine IWp.seq ?_
      refine IWp.run [0, 43] ?_
      simp [go_sem, -getElem?_pos, -List.map_take, -List.map_drop, List.getElem?_cons_zero, List.getElem?_cons_succ, Go.IntWalk.iteOmega, Go.IntWalk.toNatUp, g0, g1, g2, a3, show (0 : Int) < P.length by omega, show 0 < P.length by omega, show (1 : Int) < P.length by omega, show 1 < P.length by omega, show (2 : Int) < P.length by omega, show 2 < P.length by omega]
      refine IWp.cond ?_
      simp [go_sem, -getElem?_pos, -List.map_take, -List.map_drop, List.getElem?_cons_zero, List.getElem?_cons_succ, Go.IntWalk.iteOmega, Go.IntWalk.toNatUp, g0, g1, g2, a3, show (0 : Int) < P.length by omega, show 0 < P.length by omega, show (1 : Int) < P.length by omega, show 1 < P.length by omega, show (2 : Int) < P.length by omega, show 2 < P.length by omega]
      refine IWp.seq ?_
      refine IWp.run [2, 3] ?_
      simp [go_sem, -getElem?_pos, -List.map_take, -List.map_drop, List.getElem?_cons_zero, List.getElem?_cons_succ, Go.IntWalk.iteOmega, Go.IntWalk.toNatUp, g0, g1, g2, a3, show (0 : Int) < P.length by omega, show 0 < P.length by omega, show (1 : Int) < P.length by omega, show 1 < P.length by omega, show (2 : Int) < P.length by omega, show 2 < P.length by omega]
      refine IWp.ret ?_
      simp [go_sem, -getElem?_pos, -List.map_take, -List.map_drop, List.getElem?_cons_zero, List.getElem?_cons_succ, Go.IntWalk.iteOmega, Go.IntWalk.toNatUp, g0, g1, g2, a3, show (0 : Int) < P.length by omega, show 0 < P.length by omega, show (1 : Int) < P.length by omega, show 1 < P.length by omega, show (2 : Int) < P.length by omega, show 2 < P.length by omega, Try.results26]
    · skip
      refine IBody.of Try.func26 rfl (by rw [Try.ntmps26]; simp) ?_
      rw [Try.ntmps26]
      refine IWp.seq ?_
      refine IWp.run [0] ?_
      simp [go_sem, -getElem?_pos, -List.map_take, -List.map_drop, List.getElem?_cons_zero, List.getElem?_cons_succ, Go.IntWalk.iteOmega, Go.IntWalk.toNatUp, g0, g1, g2, a3, show 1 ≤ x by omega, show 32 < x by omega, show (0 : Int) < P.length by omega, show 0 < P.length by omega, show (1 : Int) < P.length by omega, show 1 < P.length by omega, show (2 : Int) < P.length by omega, show 2 < P.length by omega]
      refine IWp.seq ?_
      refine IWp.seq ?_
      refine IWp.run [0, 43] ?_
      simp [go_sem, -getElem?_pos, -List.map_take, -List.map_drop, List.getElem?_cons_zero, List.getElem?_cons_succ, Go.IntWalk.iteOmega, Go.IntWalk.toNatUp, g0, g1, g2, a3, show 1 ≤ x by omega, show 32 < x by omega, show (0 : Int) < P.length by omega, show 0 < P.length by omega, show (1 : Int) < P.length by omega, show 1 < P.length by omega, show (2 : Int) < P.length by omega, show 2 < P.length by omega]
      refine IWp.cond ?_
      simp [go_sem, -getElem?_pos, -List.map_take, -List.map_drop, List.getElem?_cons_zero, List.getElem?_cons_succ, Go.IntWalk.iteOmega, Go.IntWalk.toNatUp, g0, g1, g2, a3, show 1 ≤ x by omega, show 32 < x by omega, show (0 : Int) < P.length by omega, show 0 < P.length by omega, show (1 : Int) < P.length by omega, show 1 < P.length by omega, show (2 : Int) < P.length by omega, show 2 < P.length by omega]
      refine IWp.seq ?_
      refine IWp.run [2, 3] ?_
      simp [go_sem, -getElem?_pos, -List.map_take, -List.map_drop, List.getElem?_cons_zero, List.getElem?_cons_succ, Go.IntWalk.iteOmega, Go.IntWalk.toNatUp, g0, g1, g2, a3, show 1 ≤ x by omega, show 32 < x by omega, show (0 : Int) < P.length by omega, show 0 < P.length by omega, show (1 : Int) < P.length by omega, show 1 < P.length by omega, show (2 : Int) < P.length by omega, show 2 < P.length by omega]
      refine IWp.ret ?_
      simp [go_sem, -getElem?_pos, -List.map_take, -List.map_drop, List.getElem?_cons_zero, List.getElem?_cons_succ, Go.IntWalk.iteOmega, Go.IntWalk.toNatUp, g0, g1, g2, a3, show 1 ≤ x by omega, show 32 < x by omega, show (0 : Int) < P.length by omega, show 0 < P.length by omega, show (1 : Int) < P.length by omega, show 1 < P.length by omega, show (2 : Int) < P.length by omega, show 2 < P.length by omega, Try.results26]
  have w1 := IntWalk.i64_in (P.getD 2 0) (by omega)
  have w2 := IntWalk.i64_in (5 + P.getD 2 0) (by omega)
  by_cases h3 : (P.length : Int) < 5 + P.getD 2 0
  · have hr : lookS P = (0, 0) := by unfold lookS; rw [if_neg h0, if_neg (by simpa using a0), if_neg h1, if_neg (by simpa using a1), if_neg h2, if_neg (by simpa using a2), if_pos h3]
    rw [hr]
    generalize P.getD 2 0 = x at a2 g2 hx2 w1 w2 h3
    refine IBody.of Try.func26 rfl (by rw [Try.ntmps26]; simp) ?_
    rw [Try.ntmps26]
    refine IWp.seq ?_
    refine IWp.run [0] ?_
    simp [go_sem, -getElem?_pos, -List.map_take, -List.map_drop, List.getElem?_cons_zero, List.getElem?_cons_succ, Go.IntWalk.iteOmega, Go.IntWalk.toNatUp, g0, g1, g2, w1, w2, h3, show ¬ x < 1 by omega, show 1 ≤ x by omega, show ¬ 32 < x by omega, show ¬ (P.length : Int) < 3 by omega, show (0 : Int) < P.length by omega, show 0 < P.length by omega, show (1 : Int) < P.length by omega, show 1 < P.length by omega, show (2 : Int) < P.length by omega, show 2 < P.length by omega]
    refine IWp.seq ?_
    refine IWp.seq ?_
    refine IWp.run [0, 43] ?_
    simp [go_sem, -getElem?_pos, -List.map_take, -List.map_drop, List.getElem?_cons_zero, List.getElem?_cons_succ, Go.IntWalk.iteOmega, Go.IntWalk.toNatUp, g0, g1, g2, w1, w2, h3, show ¬ x < 1 by omega, show 1 ≤ x by omega, show ¬ 32 < x by omega, show ¬ (P.length : Int) < 3 by omega, show (0 : Int) < P.length by omega, show 0 < P.length by omega, show (1 : Int) < P.length by omega, show 1 < P.length by omega, show (2 : Int) < P.length by omega, show 2 < P.length by omega]
    refine IWp.cond ?_
    simp [go_sem, -getElem?_pos, -List.map_take, -List.map_drop, List.getElem?_cons_zero, List.getElem?_cons_succ, Go.IntWalk.iteOmega, Go.IntWalk.toNatUp, g0, g1, g2, w1, w2, h3, show ¬ x < 1 by omega, show 1 ≤ x by omega, show ¬ 32 < x by omega, show ¬ (P.length : Int) < 3 by omega, show (0 : Int) < P.length by omega, show 0 < P.length by omega, show (1 : Int) < P.length by omega, show 1 < P.length by omega, show (2 : Int) < P.length by omega, show 2 < P.length by omega]
    refine IWp.trim [0] (IWp.skip ?_)
    simp [go_sem, -getElem?_pos, -List.map_take, -List.map_drop, List.getElem?_cons_zero, List.getElem?_cons_succ, Go.IntWalk.iteOmega, Go.IntWalk.toNatUp, g0, g1, g2, w1, w2, h3, show ¬ x < 1 by omega, show 1 ≤ x by omega, show ¬ 32 < x by omega, show ¬ (P.length : Int) < 3 by omega, show (0 : Int) < P.length by omega, show 0 < P.length by omega, show (1 : Int) < P.length by omega, show 1 < P.length by omega, show (2 : Int) < P.length by omega, show 2 < P.length by omega]
    refine IWp.seq ?_
    refine IWp.seq ?_
    refine IWp.run [0, 56] ?_
    simp [go_sem, -getElem?_pos, -List.map_take, -List.map_drop, List.getElem?_cons_zero, List.getElem?_cons_succ, Go.IntWalk.iteOmega, Go.IntWalk.toNatUp, g0, g1, g2, w1, w2, h3, show ¬ x < 1 by omega, show 1 ≤ x by omega, show ¬ 32 < x by omega, show ¬ (P.length : Int) < 3 by omega, show (0 : Int) < P.length by omega, show 0 < P.length by omega, show (1 : Int) < P.length by omega, show 1 < P.length by omega, show (2 : Int) < P.length by omega, show 2 < P.length by omega]
    refine IWp.cond ?_
    simp [go_sem, -getElem?_pos, -List.map_take, -List.map_drop, List.getElem?_cons_zero, List.getElem?_cons_succ, Go.IntWalk.iteOmega, Go.IntWalk.toNatUp, g0, g1, g2, w1, w2, h3, show ¬ x < 1 by omega, show 1 ≤ x by omega, show ¬ 32 < x by omega, show ¬ (P.length : Int) < 3 by omega, show (0 : Int) < P.length by omega, show 0 < P.length by omega, show (1 : Int) < P.length by omega, show 1 < P.length by omega, show (2 : Int) < P.length by omega, show 2 < P.length by omega]
    refine IWp.seq ?_
    refine IWp.run [2, 3] ?_
    simp [go_sem, -getElem?_pos, -List.map_take, -List.map_drop, List.getElem?_cons_zero, List.getElem?_cons_succ, Go.IntWalk.iteOmega, Go.IntWalk.toNatUp, g0, g1, g2, w1, w2, h3, show ¬ x < 1 by omega, show 1 ≤ x by omega, show ¬ 32 < x by omega, show ¬ (P.length : Int) < 3 by omega, show (0 : Int) < P.length by omega, show 0 < P.length by omega, show (1 : Int) < P.length by omega, show 1 < P.length by omega, show (2 : Int) < P.length by omega, show 2 < P.length by omega]
    refine IWp.ret ?_
    simp [go_sem, -getElem?_pos, -List.map_take, -List.map_drop, List.getElem?_cons_zero, List.getElem?_cons_succ, Go.IntWalk.iteOmega, Go.IntWalk.toNatUp, g0, g1, g2, w1, w2, h3, show ¬ x < 1 by omega, show 1 ≤ x by omega, show ¬ 32 < x by omega, show ¬ (P.length : Int) < 3 by omega, show (0 : Int) < P.length by omega, show 0 < P.length by omega, show (1 : Int) < P.length by omega, show 1 < P.length by omega, show (2 : Int) < P.length by omega, show 2 < P.length by omega, Try.results26]
  have hr : lookS P = if (opened ((P.take (5 + P.getD 2 0).toNat).drop 2)).2 = 0 then (2, 5 + P.getD 2 0) else (1, 0) := by unfold lookS; rw [if_neg h0, if_neg (by simpa using a0), if_neg h1, if_neg (by simpa using a1), if_neg h2, if_neg (by simpa using a2), if_neg h3]
  rw [hr]
  have hro := fun K k => refOpen K k ((P.take (5 + P.getD 2 0).toNat).drop 2) (by simp; omega) (fun x hx => hB x (List.mem_of_mem_take (List.mem_of_mem_drop hx)))
  rw [List.drop_take] at hro ⊢
  generalize P.getD 2 0 = x at a2 g2 hx2 w1 w2 h3 hro ⊢
  by_cases ho : (opened ((P.drop 2).take ((5 + x).toNat - 2))).2 = 0
  · rw [if_pos ho]
    refine IBody.of Try.func26 rfl (by rw [Try.ntmps26]; simp) ?_
    rw [Try.ntmps26]
    refine IWp.seq ?_
    refine IWp.run [0] ?_
    simp [go_sem, -getElem?_pos, -List.map_take, -List.map_drop, List.getElem?_cons_zero, List.getElem?_cons_succ, Go.IntWalk.iteOmega, Go.IntWalk.toNatUp, g0, g1, g2, w1, w2, h3, ho, show ¬ x < 1 by omega, show 1 ≤ x by omega, show ¬ 32 < x by omega, show ¬ (P.length : Int) < 3 by omega, show ¬ 5 + x < 2 by omega, show 2 ≤ 5 + x by omega, show 5 + x ≤ P.length by omega, show (0 : Int) < P.length by omega, show 0 < P.length by omega, show (1 : Int) < P.length by omega, show 1 < P.length by omega, show (2 : Int) < P.length by omega, show 2 < P.length by omega]
    refine IWp.seq ?_
    refine IWp.seq ?_
    refine IWp.run [0, 43] ?_
    simp [go_sem, -getElem?_pos, -List.map_take, -List.map_drop, List.getElem?_cons_zero, List.getElem?_cons_succ, Go.IntWalk.iteOmega, Go.IntWalk.toNatUp, g0, g1, g2, w1, w2, h3, ho, show ¬ x < 1 by omega, show 1 ≤ x by omega, show ¬ 32 < x by omega, show ¬ (P.length : Int) < 3 by omega, show ¬ 5 + x < 2 by omega, show 2 ≤ 5 + x by omega, show 5 + x ≤ P.length by omega, show (0 : Int) < P.length by omega, show 0 < P.length by omega, show (1 : Int) < P.length by omega, show 1 < P.length by omega, show (2 : Int) < P.length by omega, show 2 < P.length by omega]
    refine IWp.cond ?_
    simp [go_sem, -getElem?_pos, -List.map_take, -List.map_drop, List.getElem?_cons_zero, List.getElem?_cons_succ, Go.IntWalk.iteOmega, Go.IntWalk.toNatUp, g0, g1, g2, w1, w2, h3, ho, show ¬ x < 1 by omega, show 1 ≤ x by omega, show ¬ 32 < x by omega, show ¬ (P.length : Int) < 3 by omega, show ¬ 5 + x < 2 by omega, show 2 ≤ 5 + x by omega, show 5 + x ≤ P.length by omega, show (0 : Int) < P.length by omega, show 0 < P.length by omega, show (1 : Int) < P.length by omega, show 1 < P.length by omega, show (2 : Int) < P.length by omega, show 2 < P.length by omega]
    refine IWp.trim [0] (IWp.skip ?_)
    simp [go_sem, -getElem?_pos, -List.map_take, -List.map_drop, List.getElem?_cons_zero, List.getElem?_cons_succ, Go.IntWalk.iteOmega, Go.IntWalk.toNatUp, g0, g1, g2, w1, w2, h3, ho, show ¬ x < 1 by omega, show 1 ≤ x by omega, show ¬ 32 < x by omega, show ¬ (P.length : Int) < 3 by omega, show ¬ 5 + x < 2 by omega, show 2 ≤ 5 + x by omega, show 5 + x ≤ P.length by omega, show (0 : Int) < P.length by omega, show 0 < P.length by omega, show (1 : Int) < P.length by omega, show 1 < P.length by omega, show (2 : Int) < P.length by omega, show 2 < P.length by omega]
    refine IWp.seq ?_
    refine IWp.seq ?_
    refine IWp.run [0, 56] ?_
    simp [go_sem, -getElem?_pos, -List.map_take, -List.map_drop, List.getElem?_cons_zero, List.getElem?_cons_succ, Go.IntWalk.iteOmega, Go.IntWalk.toNatUp, g0, g1, g2, w1, w2, h3, ho, show ¬ x < 1 by omega, show 1 ≤ x by omega, show ¬ 32 < x by omega, show ¬ (P.length : Int) < 3 by omega, show ¬ 5 + x < 2 by omega, show 2 ≤ 5 + x by omega, show 5 + x ≤ P.length by omega, show (0 : Int) < P.length by omega, show 0 < P.length by omega, show (1 : Int) < P.length by omega, show 1 < P.length by omega, show (2 : Int) < P.length by omega, show 2 < P.length by omega]
    refine IWp.cond ?_
    simp [go_sem, -getElem?_pos, -List.map_take, -List.map_drop, List.getElem?_cons_zero, List.getElem?_cons_succ, Go.IntWalk.iteOmega, Go.IntWalk.toNatUp, g0, g1, g2, w1, w2, h3, ho, show ¬ x < 1 by omega, show 1 ≤ x by omega, show ¬ 32 < x by omega, show ¬ (P.length : Int) < 3 by omega, show ¬ 5 + x < 2 by omega, show 2 ≤ 5 + x by omega, show 5 + x ≤ P.length by omega, show (0 : Int) < P.length by omega, show 0 < P.length by omega, show (1 : Int) < P.length by omega, show 1 < P.length by omega, show (2 : Int) < P.length by omega, show 2 < P.length by omega]
    refine IWp.trim [0] (IWp.skip ?_)
    simp [go_sem, -getElem?_pos, -List.map_take, -List.map_drop, List.getElem?_cons_zero, List.getElem?_cons_succ, Go.IntWalk.iteOmega, Go.IntWalk.toNatUp, g0, g1, g2, w1, w2, h3, ho, show ¬ x < 1 by omega, show 1 ≤ x by omega, show ¬ 32 < x by omega, show ¬ (P.length : Int) < 3 by omega, show ¬ 5 + x < 2 by omega, show 2 ≤ 5 + x by omega, show 5 + x ≤ P.length by omega, show (0 : Int) < P.length by omega, show 0 < P.length by omega, show (1 : Int) < P.length by omega, show 1 < P.length by omega, show (2 : Int) < P.length by omega, show 2 < P.length by omega]
    refine IWp.seq ?_
    refine IWp.run [0, 4] ?_
    simp [go_sem, -getElem?_pos, -List.map_take, -List.map_drop, List.getElem?_cons_zero, List.getElem?_cons_succ, Go.IntWalk.iteOmega, Go.IntWalk.toNatUp, g0, g1, g2, w1, w2, h3, ho, show ¬ x < 1 by omega, show 1 ≤ x by omega, show ¬ 32 < x by omega, show ¬ (P.length : Int) < 3 by omega, show ¬ 5 + x < 2 by omega, show 2 ≤ 5 + x by omega, show 5 + x ≤ P.length by omega, show (0 : Int) < P.length by omega, show 0 < P.length by omega, show (1 : Int) < P.length by omega, show 1 < P.length by omega, show (2 : Int) < P.length by omega, show 2 < P.length by omega]
    refine IWp.seq ?_
    refine IWp.run [4, 6] ?_
    simp [go_sem, -getElem?_pos, -List.map_take, -List.map_drop, List.getElem?_cons_zero, List.getElem?_cons_succ, Go.IntWalk.iteOmega, Go.IntWalk.toNatUp, g0, g1, g2, w1, w2, h3, ho, show ¬ x < 1 by omega, show 1 ≤ x by omega, show ¬ 32 < x by omega, show ¬ (P.length : Int) < 3 by omega, show ¬ 5 + x < 2 by omega, show 2 ≤ 5 + x by omega, show 5 + x ≤ P.length by omega, show (0 : Int) < P.length by omega, show 0 < P.length by omega, show (1 : Int) < P.length by omega, show 1 < P.length by omega, show (2 : Int) < P.length by omega, show 2 < P.length by omega]
    refine ICalls.mono (hro _ _) ?_
    rintro v _ ⟨rfl, rfl⟩
    try simp [go_sem, -getElem?_pos, -List.map_take, -List.map_drop, List.getElem?_cons_zero, List.getElem?_cons_succ, Go.IntWalk.iteOmega, Go.IntWalk.toNatUp, g0, g1, g2, w1, w2, h3, ho, show ¬ x < 1 by omega, show 1 ≤ x by omega, show ¬ 32 < x by omega, show ¬ (P.length : Int) < 3 by omega, show ¬ 5 + x < 2 by omega, show 2 ≤ 5 + x by omega, show 5 + x ≤ P.length by omega, show (0 : Int) < P.length by omega, show 0 < P.length by omega, show (1 : Int) < P.length by omega, show 1 < P.length by omega, show (2 : Int) < P.length by omega, show 2 < P.length by omega]
    refine IWp.seq ?_
    refine IWp.seq ?_
    refine IWp.run [4, 70] ?_
    simp [go_sem, -getElem?_pos, -List.map_take, -List.map_drop, List.getElem?_cons_zero, List.getElem?_cons_succ, Go.IntWalk.iteOmega, Go.IntWalk.toNatUp, g0, g1, g2, w1, w2, h3, ho, show ¬ x < 1 by omega, show 1 ≤ x by omega, show ¬ 32 < x by omega, show ¬ (P.length : Int) < 3 by omega, show ¬ 5 + x < 2 by omega, show 2 ≤ 5 + x by omega, show 5 + x ≤ P.length by omega, show (0 : Int) < P.length by omega, show 0 < P.length by omega, show (1 : Int) < P.length by omega, show 1 < P.length by omega, show (2 : Int) < P.length by omega, show 2 < P.length by omega]
    refine IWp.cond ?_
    simp [go_sem, -getElem?_pos, -List.map_take, -List.map_drop, List.getElem?_cons_zero, List.getElem?_cons_succ, Go.IntWalk.iteOmega, Go.IntWalk.toNatUp, g0, g1, g2, w1, w2, h3, ho, show ¬ x < 1 by omega, show 1 ≤ x by omega, show ¬ 32 < x by omega, show ¬ (P.length : Int) < 3 by omega, show ¬ 5 + x < 2 by omega, show 2 ≤ 5 + x by omega, show 5 + x ≤ P.length by omega, show (0 : Int) < P.length by omega, show 0 < P.length by omega, show (1 : Int) < P.length by omega, show 1 < P.length by omega, show (2 : Int) < P.length by omega, show 2 < P.length by omega]
    refine IWp.trim [4] (IWp.skip ?_)
    simp [go_sem, -getElem?_pos, -List.map_take, -List.map_drop, List.getElem?_cons_zero, List.getElem?_cons_succ, Go.IntWalk.iteOmega, Go.IntWalk.toNatUp, g0, g1, g2, w1, w2, h3, ho, show ¬ x < 1 by omega, show 1 ≤ x by omega, show ¬ 32 < x by omega, show ¬ (P.length : Int) < 3 by omega, show ¬ 5 + x < 2 by omega, show 2 ≤ 5 + x by omega, show 5 + x ≤ P.length by omega, show (0 : Int) < P.length by omega, show 0 < P.length by omega, show (1 : Int) < P.length by omega, show 1 < P.length by omega, show (2 : Int) < P.length by omega, show 2 < P.length by omega]
    refine IWp.seq ?_
    refine IWp.run [2, 3] ?_
    simp [go_sem, -getElem?_pos, -List.map_take, -List.map_drop, List.getElem?_cons_zero, List.getElem?_cons_succ, Go.IntWalk.iteOmega, Go.IntWalk.toNatUp, g0, g1, g2, w1, w2, h3, ho, show ¬ x < 1 by omega, show 1 ≤ x by omega, show ¬ 32 < x by omega, show ¬ (P.length : Int) < 3 by omega, show ¬ 5 + x < 2 by omega, show 2 ≤ 5 + x by omega, show 5 + x ≤ P.length by omega, show (0 : Int) < P.length by omega, show 0 < P.length by omega, show (1 : Int) < P.length by omega, show 1 < P.length by omega, show (2 : Int) < P.length by omega, show 2 < P.length by omega]
    refine IWp.ret ?_
    simp [go_sem, -getElem?_pos, -List.map_take, -List.map_drop, List.getElem?_cons_zero, List.getElem?_cons_succ, Go.IntWalk.iteOmega, Go.IntWalk.toNatUp, g0, g1, g2, w1, w2, h3, ho, show ¬ x < 1 by omega, show 1 ≤ x by omega, show ¬ 32 < x by omega, show ¬ (P.length : Int) < 3 by omega, show ¬ 5 + x < 2 by omega, show 2 ≤ 5 + x by omega, show 5 + x ≤ P.length by omega, show (0 : Int) < P.length by omega, show 0 < P.length by omega, show (1 : Int) < P.length by omega, show 1 < P.length by omega, show (2 : Int) < P.length by omega, show 2 < P.length by omega, Try.results26]
  · rw [if_neg ho]
    refine IBody.of Try.func26 rfl (by rw [Try.ntmps26]; simp) ?_
    rw [Try.ntmps26]
    refine IWp.seq ?_
    refine IWp.run [0] ?_
    simp [go_sem, -getElem?_pos, -List.map_take, -List.map_drop, List.getElem?_cons_zero, List.getElem?_cons_succ, Go.IntWalk.iteOmega, Go.IntWalk.toNatUp, g0, g1, g2, w1, w2, h3, ho, show ¬ x < 1 by omega, show 1 ≤ x by omega, show ¬ 32 < x by omega, show ¬ (P.length : Int) < 3 by omega, show ¬ 5 + x < 2 by omega, show 2 ≤ 5 + x by omega, show 5 + x ≤ P.length by omega, show (0 : Int) < P.length by omega, show 0 < P.length by omega, show (1 : Int) < P.length by omega, show 1 < P.length by omega, show (2 : Int) < P.length by omega, show 2 < P.length by omega]
    refine IWp.seq ?_
    refine IWp.seq ?_
    refine IWp.run [0, 43] ?_
    simp [go_sem, -getElem?_pos, -List.map_take, -List.map_drop, List.getElem?_cons_zero, List.getElem?_cons_succ, Go.IntWalk.iteOmega, Go.IntWalk.toNatUp, g0, g1, g2, w1, w2, h3, ho, show ¬ x < 1 by omega, show 1 ≤ x by omega, show ¬ 32 < x by omega, show ¬ (P.length : Int) < 3 by omega, show ¬ 5 + x < 2 by omega, show 2 ≤ 5 + x by omega, show 5 + x ≤ P.length by omega, show (0 : Int) < P.length by omega, show 0 < P.length by omega, show (1 : Int) < P.length by omega, show 1 < P.length by omega, show (2 : Int) < P.length by omega, show 2 < P.length by omega]
    refine IWp.cond ?_
    simp [go_sem, -getElem?_pos, -List.map_take, -List.map_drop, List.getElem?_cons_zero, List.getElem?_cons_succ, Go.IntWalk.iteOmega, Go.IntWalk.toNatUp, g0, g1, g2, w1, w2, h3, ho, show ¬ x < 1 by omega, show 1 ≤ x by omega, show ¬ 32 < x by omega, show ¬ (P.length : Int) < 3 by omega, show ¬ 5 + x < 2 by omega, show 2 ≤ 5 + x by omega, show 5 + x ≤ P.length by omega, show (0 : Int) < P.length by omega, show 0 < P.length by omega, show (1 : Int) < P.length by omega, show 1 < P.length by omega, show (2 : Int) < P.length by omega, show 2 < P.length by omega]
    refine IWp.trim [0] (IWp.skip ?_)
    simp [go_sem, -getElem?_pos, -List.map_take, -List.map_drop, List.getElem?_cons_zero, List.getElem?_cons_succ, Go.IntWalk.iteOmega, Go.IntWalk.toNatUp, g0, g1, g2, w1, w2, h3, ho, show ¬ x < 1 by omega, show 1 ≤ x by omega, show ¬ 32 < x by omega, show ¬ (P.length : Int) < 3 by omega, show ¬ 5 + x < 2 by omega, show 2 ≤ 5 + x by omega, show 5 + x ≤ P.length by omega, show (0 : Int) < P.length by omega, show 0 < P.length by omega, show (1 : Int) < P.length by omega, show 1 < P.length by omega, show (2 : Int) < P.length by omega, show 2 < P.length by omega]
    refine IWp.seq ?_
    refine IWp.seq ?_
    refine IWp.run [0, 56] ?_
    simp [go_sem, -getElem?_pos, -List.map_take, -List.map_drop, List.getElem?_cons_zero, List.getElem?_cons_succ, Go.IntWalk.iteOmega, Go.IntWalk.toNatUp, g0, g1, g2, w1, w2, h3, ho, show ¬ x < 1 by omega, show 1 ≤ x by omega, show ¬ 32 < x by omega, show ¬ (P.length : Int) < 3 by omega, show ¬ 5 + x < 2 by omega, show 2 ≤ 5 + x by omega, show 5 + x ≤ P.length by omega, show (0 : Int) < P.length by omega, show 0 < P.length by omega, show (1 : Int) < P.length by omega, show 1 < P.length by omega, show (2 : Int) < P.length by omega, show 2 < P.length by omega]
    refine IWp.cond ?_
    simp [go_sem, -getElem?_pos, -List.map_take, -List.map_drop, List.getElem?_cons_zero, List.getElem?_cons_succ, Go.IntWalk.iteOmega, Go.IntWalk.toNatUp, g0, g1, g2, w1, w2, h3, ho, show ¬ x < 1 by omega, show 1 ≤ x by omega, show ¬ 32 < x by omega, show ¬ (P.length : Int) < 3 by omega, show ¬ 5 + x < 2 by omega, show 2 ≤ 5 + x by omega, show 5 + x ≤ P.length by omega, show (0 : Int) < P.length by omega, show 0 < P.length by omega, show (1 : Int) < P.length by omega, show 1 < P.length by omega, show (2 : Int) < P.length by omega, show 2 < P.length by omega]
    refine IWp.trim [0] (IWp.skip ?_)
    simp [go_sem, -getElem?_pos, -List.map_take, -List.map_drop, List.getElem?_cons_zero, List.getElem?_cons_succ, Go.IntWalk.iteOmega, Go.IntWalk.toNatUp, g0, g1, g2, w1, w2, h3, ho, show ¬ x < 1 by omega, show 1 ≤ x by omega, show ¬ 32 < x by omega, show ¬ (P.length : Int) < 3 by omega, show ¬ 5 + x < 2 by omega, show 2 ≤ 5 + x by omega, show 5 + x ≤ P.length by omega, show (0 : Int) < P.length by omega, show 0 < P.length by omega, show (1 : Int) < P.length by omega, show 1 < P.length by omega, show (2 : Int) < P.length by omega, show 2 < P.length by omega]
    refine IWp.seq ?_
    refine IWp.run [0, 4] ?_
    simp [go_sem, -getElem?_pos, -List.map_take, -List.map_drop, List.getElem?_cons_zero, List.getElem?_cons_succ, Go.IntWalk.iteOmega, Go.IntWalk.toNatUp, g0, g1, g2, w1, w2, h3, ho, show ¬ x < 1 by omega, show 1 ≤ x by omega, show ¬ 32 < x by omega, show ¬ (P.length : Int) < 3 by omega, show ¬ 5 + x < 2 by omega, show 2 ≤ 5 + x by omega, show 5 + x ≤ P.length by omega, show (0 : Int) < P.length by omega, show 0 < P.length by omega, show (1 : Int) < P.length by omega, show 1 < P.length by omega, show (2 : Int) < P.length by omega, show 2 < P.length by omega]
    refine IWp.seq ?_
    refine IWp.run [4, 6] ?_
    simp [go_sem, -getElem?_pos, -List.map_take, -List.map_drop, List.getElem?_cons_zero, List.getElem?_cons_succ, Go.IntWalk.iteOmega, Go.IntWalk.toNatUp, g0, g1, g2, w1, w2, h3, ho, show ¬ x < 1 by omega, show 1 ≤ x by omega, show ¬ 32 < x by omega, show ¬ (P.length : Int) < 3 by omega, show ¬ 5 + x < 2 by omega, show 2 ≤ 5 + x by omega, show 5 + x ≤ P.length by omega, show (0 : Int) < P.length by omega, show 0 < P.length by omega, show (1 : Int) < P.length by omega, show 1 < P.length by omega, show (2 : Int) < P.length by omega, show 2 < P.length by omega]
    refine ICalls.mono (hro _ _) ?_
    rintro v _ ⟨rfl, rfl⟩
    try simp [go_sem, -getElem?_pos, -List.map_take, -List.map_drop, List.getElem?_cons_zero, List.getElem?_cons_succ, Go.IntWalk.iteOmega, Go.IntWalk.toNatUp, g0, g1, g2, w1, w2, h3, ho, show ¬ x < 1 by omega, show 1 ≤ x by omega, show ¬ 32 < x by omega, show ¬ (P.length : Int) < 3 by omega, show ¬ 5 + x < 2 by omega, show 2 ≤ 5 + x by omega, show 5 + x ≤ P.length by omega, show (0 : Int) < P.length by omega, show 0 < P.length by omega, show (1 : Int) < P.length by omega, show 1 < P.length by omega, show (2 : Int) < P.length by omega, show 2 < P.length by omega]
    refine IWp.seq ?_
    refine IWp.seq ?_
    refine IWp.run [4, 70] ?_
    simp [go_sem, -getElem?_pos, -List.map_take, -List.map_drop, List.getElem?_cons_zero, List.getElem?_cons_succ, Go.IntWalk.iteOmega, Go.IntWalk.toNatUp, g0, g1, g2, w1, w2, h3, ho, show ¬ x < 1 by omega, show 1 ≤ x by omega, show ¬ 32 < x by omega, show ¬ (P.length : Int) < 3 by omega, show ¬ 5 + x < 2 by omega, show 2 ≤ 5 + x by omega, show 5 + x ≤ P.length by omega, show (0 : Int) < P.length by omega, show 0 < P.length by omega, show (1 : Int) < P.length by omega, show 1 < P.length by omega, show (2 : Int) < P.length by omega, show 2 < P.length by omega]
    refine IWp.cond ?_
    simp [go_sem, -getElem?_pos, -List.map_take, -List.map_drop, List.getElem?_cons_zero, List.getElem?_cons_succ, Go.IntWalk.iteOmega, Go.IntWalk.toNatUp, g0, g1, g2, w1, w2, h3, ho, show ¬ x < 1 by omega, show 1 ≤ x by omega, show ¬ 32 < x by omega, show ¬ (P.length : Int) < 3 by omega, show ¬ 5 + x < 2 by omega, show 2 ≤ 5 + x by omega, show 5 + x ≤ P.length by omega, show (0 : Int) < P.length by omega, show 0 < P.length by omega, show (1 : Int) < P.length by omega, show 1 < P.length by omega, show (2 : Int) < P.length by omega, show 2 < P.length by omega]
    refine IWp.seq ?_
    refine IWp.run [2, 3] ?_
    simp [go_sem, -getElem?_pos, -List.map_take, -List.map_drop, List.getElem?_cons_zero, List.getElem?_cons_succ, Go.IntWalk.iteOmega, Go.IntWalk.toNatUp, g0, g1, g2, w1, w2, h3, ho, show ¬ x < 1 by omega, show 1 ≤ x by omega, show ¬ 32 < x by omega, show ¬ (P.length : Int) < 3 by omega, show ¬ 5 + x < 2 by omega, show 2 ≤ 5 + x by omega, show 5 + x ≤ P.length by omega, show (0 : Int) < P.length by omega, show 0 < P.length by omega, show (1 : Int) < P.length by omega, show 1 < P.length by omega, show (2 : Int) < P.length by omega, show 2 < P.length by omega]
    refine IWp.ret ?_
    simp [go_sem, -getElem?_pos, -List.map_take, -List.map_drop, List.getElem?_cons_zero, List.getElem?_cons_succ, Go.IntWalk.iteOmega, Go.IntWalk.toNatUp, g0, g1, g2, w1, w2, h3, ho, show ¬ x < 1 by omega, show 1 ≤ x by omega, show ¬ 32 < x by omega, show ¬ (P.length : Int) < 3 by omega, show ¬ 5 + x < 2 by omega, show 2 ≤ 5 + x by omega, show 5 + x ≤ P.length by omega, show (0 : Int) < P.length by omega, show 0 < P.length by omega, show (1 : Int) < P.length by omega, show 1 < P.length by omega, show (2 : Int) < P.length by omega, show 2 < P.length by omega, Try.results26]

end Go.Proofs.Ytgmpjbifbnaijaa.I
