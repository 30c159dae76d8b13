/- A hush silences sound alone: the law's body. No condition. -/
import Derived.Test.YtdimnoeldnfikaaLPanelB
namespace Go.Proofs.Ytdimnoeldnfikaa.I
open Go Go.RowKit
set_option linter.unusedVariables false
set_option linter.unusedSimpArgs false

def outL (now : Int) (L : List Lamp) (au : Int) (so pa of : Bool) : List Value := [.int .i64 now, frow 5 0 (L.map Lamp.val), .int .u8 au, .bool so, .bool pa, .bool of]
theorem newShow (H : Heap) (now : Int) (L : List Light) (h : Hush) (hL : L.length ≤ 100000) (hn : (L.map Light.cond).Nodup) :
    ICalls Try.prog 41 [ptrTo H.next 0, .int .i64 now, frow 7 0 (L.map Light.val), h.val] (H.alloc [.int .u8 0, .int .i64 0]) fun v H' => v = (outS 0 0 now L h).val ∧ H.next < H'.next ∧ ∀ j, j < H.next → H'.get j = H.get j :=
  (showC _ H.next 0 0 now L h hL hn (Heap.get_alloc_new _ _)).mono fun v H' ⟨h1, h2, h3, h4⟩ => ⟨h1, by rw [next_alloc] at h3; omega, fun j hj => by rw [h4 j (by rw [next_alloc]; omega) (by omega), Heap.get_alloc_lt _ _ _ hj]⟩

set_option maxRecDepth 100000 in
set_option maxHeartbeats 4000000 in
theorem panelSilent_law (H : Heap) (l : List One) (til off now : Int) (hw : ∀ x ∈ l, x.ok) (w1 : 0 ≤ til ∧ til < 65536) (w2 : 0 ≤ off ∧ off < 65536) (w3 : 0 ≤ now ∧ now < 65536) : IBody Try.prog 13 [frow 4 0 (l.map One.val), .int .u16 til, .int .u16 off, .int .u16 now] H fun v _ => v = .bool true := by
  by_cases hl : 20 < l.length
  · skip
    refine IBody.of Try.func13 rfl (by rw [Try.ntmps13]; simp) ?_
    rw [Try.ntmps13]
    refine IWp.seq ?_
    refine IWp.run [0, 1, 2, 3] ?_
    simp [go_sem, -getElem?_pos, -List.map_take, -List.map_drop, List.getElem?_cons_zero, List.getElem?_cons_succ, Go.IntWalk.iteOmega, Go.IntWalk.toNatUp, hl]
    refine IWp.seq ?_
    refine IWp.seq ?_
    refine IWp.run [0, 1, 2, 3, 20] ?_
    simp [go_sem, -getElem?_pos, -List.map_take, -List.map_drop, List.getElem?_cons_zero, List.getElem?_cons_succ, Go.IntWalk.iteOmega, Go.IntWalk.toNatUp, hl]
    refine ICalls.then (darkC _) ?_
    try simp [go_sem, -getElem?_pos, -List.map_take, -List.map_drop, List.getElem?_cons_zero, List.getElem?_cons_succ, Go.IntWalk.iteOmega, Go.IntWalk.toNatUp, hl]
    refine IWp.cond ?_
    simp [go_sem, -getElem?_pos, -List.map_take, -List.map_drop, List.getElem?_cons_zero, List.getElem?_cons_succ, Go.IntWalk.iteOmega, Go.IntWalk.toNatUp, hl]
    refine IWp.seq ?_
    refine IWp.run [8] ?_
    simp [go_sem, -getElem?_pos, -List.map_take, -List.map_drop, List.getElem?_cons_zero, List.getElem?_cons_succ, Go.IntWalk.iteOmega, Go.IntWalk.toNatUp, hl]
    refine ICalls.then (darkC _) ?_
    try simp [go_sem, -getElem?_pos, -List.map_take, -List.map_drop, List.getElem?_cons_zero, List.getElem?_cons_succ, Go.IntWalk.iteOmega, Go.IntWalk.toNatUp, hl]
    refine IWp.ret ?_
    simp [go_sem, -getElem?_pos, -List.map_take, -List.map_drop, List.getElem?_cons_zero, List.getElem?_cons_succ, Go.IntWalk.iteOmega, Go.IntWalk.toNatUp, hl, Try.results13]
    try rfl
  have c1 := fun K => ofC K l false (by omega) hw
  have hL := ofL_len false l
  have hn := ofL_nodup false l
  generalize ofL false l = a at *
  have i1 := IntWalk.i64_in til (by omega)
  have i2 := IntWalk.i64_in off (by omega)
  have i3 := IntWalk.i64_in now (by omega)
  have c4 := fun K => sameC K (lampsO (lampsS a)) (by have := lampsS_len a; simp only [lampsO]; omega)
  simp only [lampsO, Outp.val, Outp.cells] at c4
  have ex : (outS 0 0 now a ⟨0, 0, 0⟩) = ⟨now, lampsS a, topS loudB a, soundS (topS loudB a) (sinceS now (if topS loudB a = 0 then 0 else now)), false, false⟩ := by
    have e : audioS now a ⟨0, 0, 0⟩ = topS loudB a := by unfold audioS; rw [if_neg (by simp; omega)]
    unfold outS beganS
    rw [e]
    simp only [Outp.mk.injEq, true_and, decide_eq_false_iff_not]
    omega
  have key : ((now < til ∨ now < off) ∧ (outS 0 0 now a ⟨til, off, 0⟩) = ⟨now, lampsS a, 0, false, decide (now < til), decide (now < off)⟩) ∨ (¬ now < til ∧ ¬ now < off ∧ (outS 0 0 now a ⟨til, off, 0⟩) = ⟨now, lampsS a, topS loudB a, soundS (topS loudB a) (sinceS now (if topS loudB a = 0 then 0 else now)), false, false⟩) := by
    by_cases h : now < til ∨ now < off
    · refine .inl ⟨h, ?_⟩
      have e : audioS now a ⟨til, off, 0⟩ = 0 := by unfold audioS; rw [if_pos h]
      unfold outS
      rw [e, show ∀ x, soundS 0 x = false from fun x => rfl]
    · refine .inr ⟨fun h1 => h (.inl h1), fun h1 => h (.inr h1), ?_⟩
      have e : audioS now a ⟨til, off, 0⟩ = topS loudB a := by unfold audioS; rw [if_neg h]
      unfold outS beganS
      rw [e]
      simp only [Outp.mk.injEq, true_and, decide_eq_false_iff_not]
      exact ⟨fun h1 => h (.inl h1), fun h1 => h (.inr h1)⟩
  have c2 := fun K => newShow K now a ⟨0, 0, 0⟩ (by omega) hn
  have c3 := fun K => newShow K now a ⟨til, off, 0⟩ (by omega) hn
  have c5 := fun K => sameC K (outS 0 0 now a ⟨0, 0, 0⟩) (by have := lampsS_len a; simp only [outS]; omega)
  simp only [Hush.val, Hush.cells] at c2 c3
  rw [ex] at c2 c5
  generalize soundS (topS loudB a) (sinceS now (if topS loudB a = 0 then 0 else now)) = sx at *
  simp only [Outp.val, Outp.cells] at c2 c5
  rcases key with ⟨hq, ey⟩ | ⟨hq1, hq2, ey⟩
  · rw [ey] at c3
    simp only [Outp.val, Outp.cells] at c3
    by_cases hq1 : now < til
    · skip
      refine IBody.of Try.func13 rfl (by rw [Try.ntmps13]; simp) ?_
      rw [Try.ntmps13]
      refine IWp.seq ?_
      refine IWp.run [0, 1, 2, 3] ?_
      simp [go_sem, -getElem?_pos, -List.map_take, -List.map_drop, List.getElem?_cons_zero, List.getElem?_cons_succ, Go.IntWalk.iteOmega, Go.IntWalk.toNatUp, hl, i1, i2, i3, hq1, get_alloc, next_alloc]
      refine IWp.seq ?_
      refine IWp.seq ?_
      refine IWp.run [0, 1, 2, 3, 20] ?_
      simp [go_sem, -getElem?_pos, -List.map_take, -List.map_drop, List.getElem?_cons_zero, List.getElem?_cons_succ, Go.IntWalk.iteOmega, Go.IntWalk.toNatUp, hl, i1, i2, i3, hq1, get_alloc, next_alloc]
      refine ICalls.then (darkC _) ?_
      try simp [go_sem, -getElem?_pos, -List.map_take, -List.map_drop, List.getElem?_cons_zero, List.getElem?_cons_succ, Go.IntWalk.iteOmega, Go.IntWalk.toNatUp, hl, i1, i2, i3, hq1, get_alloc, next_alloc]
      refine IWp.cond ?_
      simp [go_sem, -getElem?_pos, -List.map_take, -List.map_drop, List.getElem?_cons_zero, List.getElem?_cons_succ, Go.IntWalk.iteOmega, Go.IntWalk.toNatUp, hl, i1, i2, i3, hq1, get_alloc, next_alloc]
      refine IWp.trim [0, 1, 2, 3] (IWp.skip ?_)
      simp [go_sem, -getElem?_pos, -List.map_take, -List.map_drop, List.getElem?_cons_zero, List.getElem?_cons_succ, Go.IntWalk.iteOmega, Go.IntWalk.toNatUp, hl, i1, i2, i3, hq1, get_alloc, next_alloc]
      refine IWp.seq ?_
      refine IWp.run [1, 2, 3, 9] ?_
      simp [go_sem, -getElem?_pos, -List.map_take, -List.map_drop, List.getElem?_cons_zero, List.getElem?_cons_succ, Go.IntWalk.iteOmega, Go.IntWalk.toNatUp, hl, i1, i2, i3, hq1, get_alloc, next_alloc]
      refine ICalls.then (c1 _) ?_
      try simp [go_sem, -getElem?_pos, -List.map_take, -List.map_drop, List.getElem?_cons_zero, List.getElem?_cons_succ, Go.IntWalk.iteOmega, Go.IntWalk.toNatUp, hl, i1, i2, i3, hq1, get_alloc, next_alloc]
      refine IWp.seq ?_
      refine IWp.run [1, 2, 3, 9, 11] ?_
      simp [go_sem, -getElem?_pos, -List.map_take, -List.map_drop, List.getElem?_cons_zero, List.getElem?_cons_succ, Go.IntWalk.iteOmega, Go.IntWalk.toNatUp, hl, i1, i2, i3, hq1, get_alloc, next_alloc]
      refine ICalls.mono (newC _) ?_
      rintro v K1 ⟨hv, hK1⟩
      subst hv; subst hK1
      try simp [go_sem, -getElem?_pos, -List.map_take, -List.map_drop, List.getElem?_cons_zero, List.getElem?_cons_succ, Go.IntWalk.iteOmega, Go.IntWalk.toNatUp, hl, i1, i2, i3, hq1, get_alloc, next_alloc]
      refine ICalls.mono (c2 _) ?_
      rintro v K2 ⟨hv, hn2, ho2⟩
      subst hv
      try simp [go_sem, -getElem?_pos, -List.map_take, -List.map_drop, List.getElem?_cons_zero, List.getElem?_cons_succ, Go.IntWalk.iteOmega, Go.IntWalk.toNatUp, hl, i1, i2, i3, hq1, get_alloc, next_alloc]
      refine IWp.seq ?_
      refine IWp.run [1, 2, 3, 11, 12] ?_
      simp [go_sem, -getElem?_pos, -List.map_take, -List.map_drop, List.getElem?_cons_zero, List.getElem?_cons_succ, Go.IntWalk.iteOmega, Go.IntWalk.toNatUp, hl, i1, i2, i3, hq1, get_alloc, next_alloc]
      refine ICalls.mono (newC _) ?_
      rintro v K3 ⟨hv, hK3⟩
      subst hv; subst hK3
      try simp [go_sem, -getElem?_pos, -List.map_take, -List.map_drop, List.getElem?_cons_zero, List.getElem?_cons_succ, Go.IntWalk.iteOmega, Go.IntWalk.toNatUp, hl, i1, i2, i3, hq1, get_alloc, next_alloc]
      refine ICalls.mono (c3 (K2.alloc _)) ?_
      rintro v K4 ⟨hv, hn4, ho4⟩
      subst hv; have gx := (ho4 K2.next (by rw [next_alloc]; omega)).trans (Heap.get_alloc_new K2 _); have hne : ¬ K2.next = K4.next := by { rw [next_alloc] at hn4; omega }
      try simp [go_sem, -getElem?_pos, -List.map_take, -List.map_drop, List.getElem?_cons_zero, List.getElem?_cons_succ, Go.IntWalk.iteOmega, Go.IntWalk.toNatUp, hl, i1, i2, i3, hq1, get_alloc, next_alloc, gx, hne]
      refine IWp.seq ?_
      refine IWp.run [1, 2, 3, 11, 12, 13] ?_
      simp [go_sem, -getElem?_pos, -List.map_take, -List.map_drop, List.getElem?_cons_zero, List.getElem?_cons_succ, Go.IntWalk.iteOmega, Go.IntWalk.toNatUp, hl, i1, i2, i3, hq1, get_alloc, next_alloc, gx, hne]
      refine IWp.seq ?_
      refine IWp.run [8] ?_
      simp [go_sem, -getElem?_pos, -List.map_take, -List.map_drop, List.getElem?_cons_zero, List.getElem?_cons_succ, Go.IntWalk.iteOmega, Go.IntWalk.toNatUp, hl, i1, i2, i3, hq1, get_alloc, next_alloc, gx, hne]
      refine ICalls.then (c4 _) ?_
      try simp [go_sem, -getElem?_pos, -List.map_take, -List.map_drop, List.getElem?_cons_zero, List.getElem?_cons_succ, Go.IntWalk.iteOmega, Go.IntWalk.toNatUp, hl, i1, i2, i3, hq1, get_alloc, next_alloc, gx, hne]
      refine IWp.ret ?_
      simp [go_sem, -getElem?_pos, -List.map_take, -List.map_drop, List.getElem?_cons_zero, List.getElem?_cons_succ, Go.IntWalk.iteOmega, Go.IntWalk.toNatUp, hl, i1, i2, i3, hq1, get_alloc, next_alloc, gx, hne, Try.results13]
      try rfl
    · have hq2 : now < off := hq.elim (fun h => absurd h hq1) id
      refine IBody.of Try.func13 rfl (by rw [Try.ntmps13]; simp) ?_
      rw [Try.ntmps13]
      refine IWp.seq ?_
      refine IWp.run [0, 1, 2, 3] ?_
      simp [go_sem, -getElem?_pos, -List.map_take, -List.map_drop, List.getElem?_cons_zero, List.getElem?_cons_succ, Go.IntWalk.iteOmega, Go.IntWalk.toNatUp, hl, i1, i2, i3, hq1, hq2, get_alloc, next_alloc]
      refine IWp.seq ?_
      refine IWp.seq ?_
      refine IWp.run [0, 1, 2, 3, 20] ?_
      simp [go_sem, -getElem?_pos, -List.map_take, -List.map_drop, List.getElem?_cons_zero, List.getElem?_cons_succ, Go.IntWalk.iteOmega, Go.IntWalk.toNatUp, hl, i1, i2, i3, hq1, hq2, get_alloc, next_alloc]
      refine ICalls.then (darkC _) ?_
      try simp [go_sem, -getElem?_pos, -List.map_take, -List.map_drop, List.getElem?_cons_zero, List.getElem?_cons_succ, Go.IntWalk.iteOmega, Go.IntWalk.toNatUp, hl, i1, i2, i3, hq1, hq2, get_alloc, next_alloc]
      refine IWp.cond ?_
      simp [go_sem, -getElem?_pos, -List.map_take, -List.map_drop, List.getElem?_cons_zero, List.getElem?_cons_succ, Go.IntWalk.iteOmega, Go.IntWalk.toNatUp, hl, i1, i2, i3, hq1, hq2, get_alloc, next_alloc]
      refine IWp.trim [0, 1, 2, 3] (IWp.skip ?_)
      simp [go_sem, -getElem?_pos, -List.map_take, -List.map_drop, List.getElem?_cons_zero, List.getElem?_cons_succ, Go.IntWalk.iteOmega, Go.IntWalk.toNatUp, hl, i1, i2, i3, hq1, hq2, get_alloc, next_alloc]
      refine IWp.seq ?_
      refine IWp.run [1, 2, 3, 9] ?_
      simp [go_sem, -getElem?_pos, -List.map_take, -List.map_drop, List.getElem?_cons_zero, List.getElem?_cons_succ, Go.IntWalk.iteOmega, Go.IntWalk.toNatUp, hl, i1, i2, i3, hq1, hq2, get_alloc, next_alloc]
      refine ICalls.then (c1 _) ?_
      try simp [go_sem, -getElem?_pos, -List.map_take, -List.map_drop, List.getElem?_cons_zero, List.getElem?_cons_succ, Go.IntWalk.iteOmega, Go.IntWalk.toNatUp, hl, i1, i2, i3, hq1, hq2, get_alloc, next_alloc]
      refine IWp.seq ?_
      refine IWp.run [1, 2, 3, 9, 11] ?_
      simp [go_sem, -getElem?_pos, -List.map_take, -List.map_drop, List.getElem?_cons_zero, List.getElem?_cons_succ, Go.IntWalk.iteOmega, Go.IntWalk.toNatUp, hl, i1, i2, i3, hq1, hq2, get_alloc, next_alloc]
      refine ICalls.mono (newC _) ?_
      rintro v K1 ⟨hv, hK1⟩
      subst hv; subst hK1
      try simp [go_sem, -getElem?_pos, -List.map_take, -List.map_drop, List.getElem?_cons_zero, List.getElem?_cons_succ, Go.IntWalk.iteOmega, Go.IntWalk.toNatUp, hl, i1, i2, i3, hq1, hq2, get_alloc, next_alloc]
      refine ICalls.mono (c2 _) ?_
      rintro v K2 ⟨hv, hn2, ho2⟩
      subst hv
      try simp [go_sem, -getElem?_pos, -List.map_take, -List.map_drop, List.getElem?_cons_zero, List.getElem?_cons_succ, Go.IntWalk.iteOmega, Go.IntWalk.toNatUp, hl, i1, i2, i3, hq1, hq2, get_alloc, next_alloc]
      refine IWp.seq ?_
      refine IWp.run [1, 2, 3, 11, 12] ?_
      simp [go_sem, -getElem?_pos, -List.map_take, -List.map_drop, List.getElem?_cons_zero, List.getElem?_cons_succ, Go.IntWalk.iteOmega, Go.IntWalk.toNatUp, hl, i1, i2, i3, hq1, hq2, get_alloc, next_alloc]
      refine ICalls.mono (newC _) ?_
      rintro v K3 ⟨hv, hK3⟩
      subst hv; subst hK3
      try simp [go_sem, -getElem?_pos, -List.map_take, -List.map_drop, List.getElem?_cons_zero, List.getElem?_cons_succ, Go.IntWalk.iteOmega, Go.IntWalk.toNatUp, hl, i1, i2, i3, hq1, hq2, get_alloc, next_alloc]
      refine ICalls.mono (c3 (K2.alloc _)) ?_
      rintro v K4 ⟨hv, hn4, ho4⟩
      subst hv; have gx := (ho4 K2.next (by rw [next_alloc]; omega)).trans (Heap.get_alloc_new K2 _); have hne : ¬ K2.next = K4.next := by { rw [next_alloc] at hn4; omega }
      try simp [go_sem, -getElem?_pos, -List.map_take, -List.map_drop, List.getElem?_cons_zero, List.getElem?_cons_succ, Go.IntWalk.iteOmega, Go.IntWalk.toNatUp, hl, i1, i2, i3, hq1, hq2, get_alloc, next_alloc, gx, hne]
      refine IWp.seq ?_
      refine IWp.run [1, 2, 3, 11, 12, 13] ?_
      simp [go_sem, -getElem?_pos, -List.map_take, -List.map_drop, List.getElem?_cons_zero, List.getElem?_cons_succ, Go.IntWalk.iteOmega, Go.IntWalk.toNatUp, hl, i1, i2, i3, hq1, hq2, get_alloc, next_alloc, gx, hne]
      refine IWp.seq ?_
      refine IWp.run [8] ?_
      simp [go_sem, -getElem?_pos, -List.map_take, -List.map_drop, List.getElem?_cons_zero, List.getElem?_cons_succ, Go.IntWalk.iteOmega, Go.IntWalk.toNatUp, hl, i1, i2, i3, hq1, hq2, get_alloc, next_alloc, gx, hne]
      refine ICalls.then (c4 _) ?_
      try simp [go_sem, -getElem?_pos, -List.map_take, -List.map_drop, List.getElem?_cons_zero, List.getElem?_cons_succ, Go.IntWalk.iteOmega, Go.IntWalk.toNatUp, hl, i1, i2, i3, hq1, hq2, get_alloc, next_alloc, gx, hne]
      refine IWp.ret ?_
      simp [go_sem, -getElem?_pos, -List.map_take, -List.map_drop, List.getElem?_cons_zero, List.getElem?_cons_succ, Go.IntWalk.iteOmega, Go.IntWalk.toNatUp, hl, i1, i2, i3, hq1, hq2, get_alloc, next_alloc, gx, hne, Try.results13]
      try rfl
  · rw [ey] at c3
    simp only [Outp.val, Outp.cells] at c3
    refine IBody.of Try.func13 rfl (by rw [Try.ntmps13]; simp) ?_
    rw [Try.ntmps13]
    refine IWp.seq ?_
    refine IWp.run [0, 1, 2, 3] ?_
    simp [go_sem, -getElem?_pos, -List.map_take, -List.map_drop, List.getElem?_cons_zero, List.getElem?_cons_succ, Go.IntWalk.iteOmega, Go.IntWalk.toNatUp, hl, i1, i2, i3, hq1, hq2, get_alloc, next_alloc]
    refine IWp.seq ?_
    refine IWp.seq ?_
    refine IWp.run [0, 1, 2, 3, 20] ?_
    simp [go_sem, -getElem?_pos, -List.map_take, -List.map_drop, List.getElem?_cons_zero, List.getElem?_cons_succ, Go.IntWalk.iteOmega, Go.IntWalk.toNatUp, hl, i1, i2, i3, hq1, hq2, get_alloc, next_alloc]
    refine ICalls.then (darkC _) ?_
    try simp [go_sem, -getElem?_pos, -List.map_take, -List.map_drop, List.getElem?_cons_zero, List.getElem?_cons_succ, Go.IntWalk.iteOmega, Go.IntWalk.toNatUp, hl, i1, i2, i3, hq1, hq2, get_alloc, next_alloc]
    refine IWp.cond ?_
    simp [go_sem, -getElem?_pos, -List.map_take, -List.map_drop, List.getElem?_cons_zero, List.getElem?_cons_succ, Go.IntWalk.iteOmega, Go.IntWalk.toNatUp, hl, i1, i2, i3, hq1, hq2, get_alloc, next_alloc]
    refine IWp.trim [0, 1, 2, 3] (IWp.skip ?_)
    simp [go_sem, -getElem?_pos, -List.map_take, -List.map_drop, List.getElem?_cons_zero, List.getElem?_cons_succ, Go.IntWalk.iteOmega, Go.IntWalk.toNatUp, hl, i1, i2, i3, hq1, hq2, get_alloc, next_alloc]
    refine IWp.seq ?_
    refine IWp.run [1, 2, 3, 9] ?_
    simp [go_sem, -getElem?_pos, -List.map_take, -List.map_drop, List.getElem?_cons_zero, List.getElem?_cons_succ, Go.IntWalk.iteOmega, Go.IntWalk.toNatUp, hl, i1, i2, i3, hq1, hq2, get_alloc, next_alloc]
    refine ICalls.then (c1 _) ?_
    try simp [go_sem, -getElem?_pos, -List.map_take, -List.map_drop, List.getElem?_cons_zero, List.getElem?_cons_succ, Go.IntWalk.iteOmega, Go.IntWalk.toNatUp, hl, i1, i2, i3, hq1, hq2, get_alloc, next_alloc]
    refine IWp.seq ?_
    refine IWp.run [1, 2, 3, 9, 11] ?_
    simp [go_sem, -getElem?_pos, -List.map_take, -List.map_drop, List.getElem?_cons_zero, List.getElem?_cons_succ, Go.IntWalk.iteOmega, Go.IntWalk.toNatUp, hl, i1, i2, i3, hq1, hq2, get_alloc, next_alloc]
    refine ICalls.mono (newC _) ?_
    rintro v K1 ⟨hv, hK1⟩
    subst hv; subst hK1
    try simp [go_sem, -getElem?_pos, -List.map_take, -List.map_drop, List.getElem?_cons_zero, List.getElem?_cons_succ, Go.IntWalk.iteOmega, Go.IntWalk.toNatUp, hl, i1, i2, i3, hq1, hq2, get_alloc, next_alloc]
    refine ICalls.mono (c2 _) ?_
    rintro v K2 ⟨hv, hn2, ho2⟩
    subst hv
    try simp [go_sem, -getElem?_pos, -List.map_take, -List.map_drop, List.getElem?_cons_zero, List.getElem?_cons_succ, Go.IntWalk.iteOmega, Go.IntWalk.toNatUp, hl, i1, i2, i3, hq1, hq2, get_alloc, next_alloc]
    refine IWp.seq ?_
    refine IWp.run [1, 2, 3, 11, 12] ?_
    simp [go_sem, -getElem?_pos, -List.map_take, -List.map_drop, List.getElem?_cons_zero, List.getElem?_cons_succ, Go.IntWalk.iteOmega, Go.IntWalk.toNatUp, hl, i1, i2, i3, hq1, hq2, get_alloc, next_alloc]
    refine ICalls.mono (newC _) ?_
    rintro v K3 ⟨hv, hK3⟩
    subst hv; subst hK3
    try simp [go_sem, -getElem?_pos, -List.map_take, -List.map_drop, List.getElem?_cons_zero, List.getElem?_cons_succ, Go.IntWalk.iteOmega, Go.IntWalk.toNatUp, hl, i1, i2, i3, hq1, hq2, get_alloc, next_alloc]
    refine ICalls.mono (c3 (K2.alloc _)) ?_
    rintro v K4 ⟨hv, hn4, ho4⟩
    subst hv; have gx := (ho4 K2.next (by rw [next_alloc]; omega)).trans (Heap.get_alloc_new K2 _); have hne : ¬ K2.next = K4.next := by { rw [next_alloc] at hn4; omega }
    try simp [go_sem, -getElem?_pos, -List.map_take, -List.map_drop, List.getElem?_cons_zero, List.getElem?_cons_succ, Go.IntWalk.iteOmega, Go.IntWalk.toNatUp, hl, i1, i2, i3, hq1, hq2, get_alloc, next_alloc, gx, hne]
    refine IWp.seq ?_
    refine IWp.run [1, 2, 3, 11, 12, 13] ?_
    simp [go_sem, -getElem?_pos, -List.map_take, -List.map_drop, List.getElem?_cons_zero, List.getElem?_cons_succ, Go.IntWalk.iteOmega, Go.IntWalk.toNatUp, hl, i1, i2, i3, hq1, hq2, get_alloc, next_alloc, gx, hne]
    refine IWp.seq ?_
    refine IWp.run [8] ?_
    simp [go_sem, -getElem?_pos, -List.map_take, -List.map_drop, List.getElem?_cons_zero, List.getElem?_cons_succ, Go.IntWalk.iteOmega, Go.IntWalk.toNatUp, hl, i1, i2, i3, hq1, hq2, get_alloc, next_alloc, gx, hne]
    refine ICalls.then (c4 _) ?_
    try simp [go_sem, -getElem?_pos, -List.map_take, -List.map_drop, List.getElem?_cons_zero, List.getElem?_cons_succ, Go.IntWalk.iteOmega, Go.IntWalk.toNatUp, hl, i1, i2, i3, hq1, hq2, get_alloc, next_alloc, gx, hne]
    refine ICalls.then (c5 _) ?_
    try simp [go_sem, -getElem?_pos, -List.map_take, -List.map_drop, List.getElem?_cons_zero, List.getElem?_cons_succ, Go.IntWalk.iteOmega, Go.IntWalk.toNatUp, hl, i1, i2, i3, hq1, hq2, get_alloc, next_alloc, gx, hne]
    refine IWp.ret ?_
    simp [go_sem, -getElem?_pos, -List.map_take, -List.map_drop, List.getElem?_cons_zero, List.getElem?_cons_succ, Go.IntWalk.iteOmega, Go.IntWalk.toNatUp, hl, i1, i2, i3, hq1, hq2, get_alloc, next_alloc, gx, hne, Try.results13]
    try rfl

end Go.Proofs.Ytdimnoeldnfikaa.I
