/- Judges: the example, and a law's body. No condition. -/
import Derived.Test.YtoecebibhcadoaaGJudgeB
import Derived.Test.YtoecebibhcadoaaGMakeB
import Derived.Test.YtoecebibhcadoaaILaw
namespace Go.Proofs.Ytoecebibhcadoaa.I
open Go Go.RowKit
set_option linter.unusedVariables false
set_option linter.unusedSimpArgs false


def outN : Outp := ⟨0, [], 0, false, false, false⟩
def outX : Outp := ⟨0, [⟨1, 2, 0, false, false⟩], 0, false, false, false⟩
theorem hears (H : Heap) : ICalls Try.prog 5 [] H fun v H' => v = .bool true ∧ H' = H := by
  refine ICalls.ans (by simp [go_sem]) fun H => IBody.calls (by kernel_rfl) ?_
  refine IBody.of Try.func5 rfl (by rw [Try.ntmps5]; simp) ?_
  rw [Try.ntmps5]
  refine IWp.seq ?_
  refine IWp.run [] ?_
  simp [go_sem, -getElem?_pos, -List.map_take, -List.map_drop, List.getElem?_cons_zero, List.getElem?_cons_succ, Go.IntWalk.iteOmega, Go.IntWalk.toNatUp]
  refine IWp.seq ?_
  refine IWp.run [1] ?_
  simp [go_sem, -getElem?_pos, -List.map_take, -List.map_drop, List.getElem?_cons_zero, List.getElem?_cons_succ, Go.IntWalk.iteOmega, Go.IntWalk.toNatUp]
  refine IWp.seq ?_
  refine IWp.run [1, 2] ?_
  simp [go_sem, -getElem?_pos, -List.map_take, -List.map_drop, List.getElem?_cons_zero, List.getElem?_cons_succ, Go.IntWalk.iteOmega, Go.IntWalk.toNatUp]
  refine IWp.seq ?_
  have n1 : ∀ n : Nat, ¬ n = n + 1 := by omega
  have n2 : ∀ n : Nat, ¬ n = n + 1 + 1 := by omega
  obtain ⟨H3, hH3⟩ : ∃ H3, H3 = (((H.alloc [.int .i64 0, .slice none 0 0, .int .u8 0, .bool false, .bool false, .bool false]).alloc [.int .i64 1, .int .u8 2, .int .i64 0, .bool false, .bool false]).alloc [.int .i64 0, .slice (some ⟨H.next + 1, 0, some 5⟩) 1 1, .int .u8 0, .bool false, .bool false, .bool false]) := ⟨_, rfl⟩
  have g0 : H3.get H.next = some ⟨[.int .i64 0, .slice none 0 0, .int .u8 0, .bool false, .bool false, .bool false], true⟩ := by rw [hH3]; simp [get_alloc, next_alloc, n1, n2]
  have g1 : H3.get (H.next + 1) = some ⟨[.int .i64 1, .int .u8 2, .int .i64 0, .bool false, .bool false], true⟩ := by rw [hH3]; simp [get_alloc, next_alloc, n1, n2]
  have g2 : H3.get (H.next + 1 + 1) = some ⟨[.int .i64 0, .slice (some ⟨H.next + 1, 0, some 5⟩) 1 1, .int .u8 0, .bool false, .bool false, .bool false], true⟩ := by rw [hH3]; simp [get_alloc, next_alloc, n1, n2]
  have hn : H3.next = H.next + 1 + 1 + 1 := by rw [hH3]; rfl
  rw [← hH3]
  generalize H.next = b at *
  have hf := FrzH.ofL (H := H3) (S := fun j => j == b + 1) [(b, outN.cells), (b + 1 + 1, outX.cells)] (by
    intro q cs hm
    simp only [List.mem_cons, Prod.mk.injEq, List.not_mem_nil, or_false] at hm
    rcases hm with ⟨rfl, rfl⟩ | ⟨rfl, rfl⟩
    · exact ⟨by simp, _, g0, .cons (.same _) (.cons (.nil 5) (FrzL.same _))⟩
    · exact ⟨by simp, _, g2, .cons (.same _) (.cons (frz_lit (outX.lamps.map Lamp.val) g1 rfl (fun u hu => by obtain ⟨r, _, rfl⟩ := List.mem_map.1 hu; rfl) rfl (by simp)) (FrzL.same _))⟩)
  refine IWp.freezeH _ _ (.cons (.same _) (.cons (.same _) .nil)) hf ?_
  have k0 : (H3.ofL [(b, outN.cells), (b + 1 + 1, outX.cells)]).get b = some ⟨outN.cells, true⟩ := by rw [Heap.ofL_get, if_pos (by omega)]; simp
  have k2 : (H3.ofL [(b, outN.cells), (b + 1 + 1, outX.cells)]).get (b + 1 + 1) = some ⟨outX.cells, true⟩ := by rw [Heap.ofL_get, if_pos (by omega)]; simp [List.lookup, show (b + 1 + 1 == b) = false from beq_eq_false_iff_ne.2 (by omega)]
  generalize H3.ofL _ = K at *
  have c1 := fun K => audible K outN (by decide)
  have c2 := fun K => ordered1 K outN (by decide) (by decide)
  have c3 := fun K => audible K outX (by decide)
  have c4 := fun K => ordered1 K outX (by decide) (by decide)
  rw [show audS outN = true by decide] at c1
  rw [show audS outX = false by decide] at c3
  simp only [Outp.val, Outp.cells, outN, outX] at c1 c2 c3 c4 k0 k2
  clear hf hH3 g0 g1 g2
  refine IWp.run [0] ?_
  simp [go_sem, -getElem?_pos, -List.map_take, -List.map_drop, List.getElem?_cons_zero, List.getElem?_cons_succ, Go.IntWalk.iteOmega, Go.IntWalk.toNatUp, k0, k2]
  refine ICalls.then (c1 _) ?_
  try simp [go_sem, -getElem?_pos, -List.map_take, -List.map_drop, List.getElem?_cons_zero, List.getElem?_cons_succ, Go.IntWalk.iteOmega, Go.IntWalk.toNatUp, k0, k2]
  refine ICalls.then (c2 _) ?_
  try simp [go_sem, -getElem?_pos, -List.map_take, -List.map_drop, List.getElem?_cons_zero, List.getElem?_cons_succ, Go.IntWalk.iteOmega, Go.IntWalk.toNatUp, k0, k2]
  refine ICalls.then (c3 _) ?_
  try simp [go_sem, -getElem?_pos, -List.map_take, -List.map_drop, List.getElem?_cons_zero, List.getElem?_cons_succ, Go.IntWalk.iteOmega, Go.IntWalk.toNatUp, k0, k2]
  refine ICalls.then (c4 _) ?_
  try simp [go_sem, -getElem?_pos, -List.map_take, -List.map_drop, List.getElem?_cons_zero, List.getElem?_cons_succ, Go.IntWalk.iteOmega, Go.IntWalk.toNatUp, k0, k2]
  refine IWp.ret ?_
  simp [go_sem, -getElem?_pos, -List.map_take, -List.map_drop, List.getElem?_cons_zero, List.getElem?_cons_succ, Go.IntWalk.iteOmega, Go.IntWalk.toNatUp, k0, k2, Try.results5]
  try exact .same _

def draftL (latch : Bool) : Draft := ⟨[⟨0, 0, 0, 0, 0, 0, 0, latch, []⟩], [], 0, 0, 0, 0, false, 0⟩
theorem draftL_wf (latch : Bool) : (draftL latch).wf := by simp [draftL, Draft.wf, Line.wf, maxLen]

set_option maxHeartbeats 4000000 in
theorem judgeLatched_law (H : Heap) (cause latch : Bool) (kind n : Int) (w1 : 0 ≤ kind ∧ kind < 256) (w2 : 0 ≤ n ∧ n < 256) :
    IBody Try.prog 3 [.bool cause, .bool latch, .int .u8 kind, .int .u8 n] H fun v _ => v = .bool true := by
  have hmk := fun K => make K (draftL latch) (draftL_wf latch)
  have hrl : (makeS (draftL latch)).rules = [ruleS ⟨0, 0, 0, 0, 0, 0, 0, latch, []⟩] := rfl
  generalize hc : makeS (draftL latch) = c at *
  simp only [Config.val, Config.cells] at hmk
  refine IBody.of Try.func3 rfl (by rw [Try.ntmps3]; simp) ?_
  rw [Try.ntmps3]
  refine IWp.seq ?_
  refine IWp.run [0, 1, 2, 3] ?_
  simp [go_sem, -getElem?_pos, -List.map_take, -List.map_drop, List.getElem?_cons_zero, List.getElem?_cons_succ, Go.IntWalk.iteOmega, Go.IntWalk.toNatUp]
  refine IWp.seq ?_
  refine IWp.run [0, 1, 2, 3, 9] ?_
  simp [go_sem, -getElem?_pos, -List.map_take, -List.map_drop, List.getElem?_cons_zero, List.getElem?_cons_succ, Go.IntWalk.iteOmega, Go.IntWalk.toNatUp]
  refine ICalls.freeze1 H.next (us := [(draftL latch).val]) (.cons (.agg (.cons ?_ (.cons (.nil 1) (FrzL.same _)))) .nil) (ICalls.then (hmk _) ?_)
  · have := Frz.row (H := H.alloc [.int .u8 0, .int .u8 0, .int .u8 0, .int .u8 0, .int .u8 0, .int .u8 0, .int .u8 0, .bool latch, .slice none 0 0]) (S := fun j => j == H.next) (b := H.next) (o := 0) (sz := 9) (c := 1) (us := (draftL latch).rules.map Line.val) (Heap.get_alloc_new _ _) (by simp) (by
      rw [List.drop_zero]
      exact FrzE.cons (l := [_, _, _, _, _, _, _, _, _]) (cs := []) rfl (.cons (.same _) (.cons (.same _) (.cons (.same _) (.cons (.same _) (.cons (.same _) (.cons (.same _) (.cons (.same _) (.cons (.same _) (.cons (.nil 1) .nil))))))))) .nil)
    exact this
  simp [go_sem]
  refine IWp.seq ?_
  obtain ⟨H1, hH1⟩ : ∃ H1, H1 = ((H.alloc [.int .u8 0, .int .u8 0, .int .u8 0, .int .u8 0, .int .u8 0, .int .u8 0, .int .u8 0, .bool latch, .slice none 0 0]).kill H.next).alloc c.cells := ⟨_, rfl⟩
  have g1 : H1.get (H.next + 1) = some ⟨c.cells, true⟩ := by rw [hH1]; exact Heap.get_alloc_new _ _
  have hn1 : H1.next = H.next + 1 + 1 := by rw [hH1]; rfl
  simp only [Config.cells] at hH1
  rw [← hH1]
  clear hH1
  generalize H.next + 1 = cb at *
  have tk : kind.tmod 9 = kind % 9 := Int.tmod_eq_emod_of_nonneg w1.1
  have tn : n.tmod 3 = n % 3 := Int.tmod_eq_emod_of_nonneg w2.1
  have uk := IntWalk.u8_in (kind % 9) (by omega)
  have un := IntWalk.u8_in (n % 3) (by omega)
  have un2 := IntWalk.i64_in (n % 3) (by omega)
  refine IWp.run [0, 1, 2, 3, 9, 10] ?_
  simp [go_sem, -getElem?_pos, -List.map_take, -List.map_drop, List.getElem?_cons_zero, List.getElem?_cons_succ, Go.IntWalk.iteOmega, Go.IntWalk.toNatUp, tk, tn, uk, un, un2]
  refine IWp.seq ?_
  refine IWp.run [0, 1, 2, 3, 9, 10, 11] ?_
  simp [go_sem, -getElem?_pos, -List.map_take, -List.map_drop, List.getElem?_cons_zero, List.getElem?_cons_succ, Go.IntWalk.iteOmega, Go.IntWalk.toNatUp, tk, tn, uk, un, un2]
  refine IWp.seq ?_
  refine IWp.run [0, 1, 9, 10, 11, 12] ?_
  simp [go_sem, -getElem?_pos, -List.map_take, -List.map_drop, List.getElem?_cons_zero, List.getElem?_cons_succ, Go.IntWalk.iteOmega, Go.IntWalk.toNatUp, tk, tn, uk, un, un2]
  refine IWp.seq ?_
  obtain ⟨aO, haO⟩ : ∃ aO : Outp, aO = ⟨1, [⟨0, 1, 0, cause, false⟩], 0, false, false, false⟩ := ⟨_, rfl⟩
  obtain ⟨bO, hbO⟩ : ∃ bO : Outp, bO = ⟨2, [], 0, false, false, false⟩ := ⟨_, rfl⟩
  obtain ⟨xC, hxC⟩ : ∃ xC : Cmd, xC = ⟨kind % 9, n % 3, 0⟩ := ⟨_, rfl⟩
  have n1 : ∀ n : Nat, ¬ n = n + 1 := by omega
  have n2 : ∀ n : Nat, ¬ n = n + 1 + 1 := by omega
  have n3 : ∀ n : Nat, ¬ n = n + 1 + 1 + 1 := by omega
  obtain ⟨H5, hH5⟩ : ∃ H5, H5 = (((H1.alloc [.int .i64 0, .int .u8 1, .int .i64 0, .bool cause, .bool false]).alloc [.int .i64 1, .slice (some ⟨H1.next, 0, some 5⟩) 1 1, .int .u8 0, .bool false, .bool false, .bool false]).alloc [.int .i64 2, .slice none 0 0, .int .u8 0, .bool false, .bool false, .bool false]).alloc [.int .u8 (kind % 9), .int .i64 (n % 3), .int .i64 0] := ⟨_, rfl⟩
  have q0 : H5.get cb = some ⟨c.cells, true⟩ := by rw [hH5]; simp [get_alloc, next_alloc, g1, show ¬ cb = H1.next by omega, show ¬ cb = H1.next + 1 by omega, show ¬ cb = H1.next + 1 + 1 by omega, show ¬ cb = H1.next + 1 + 1 + 1 by omega]
  have q1 : H5.get H1.next = some ⟨[.int .i64 0, .int .u8 1, .int .i64 0, .bool cause, .bool false], true⟩ := by rw [hH5]; simp [get_alloc, next_alloc, n1, n2, n3]
  have q2 : H5.get (H1.next + 1) = some ⟨[.int .i64 1, .slice (some ⟨H1.next, 0, some 5⟩) 1 1, .int .u8 0, .bool false, .bool false, .bool false], true⟩ := by rw [hH5]; simp [get_alloc, next_alloc, n1, n2, n3]
  have q3 : H5.get (H1.next + 1 + 1) = some ⟨[.int .i64 2, .slice none 0 0, .int .u8 0, .bool false, .bool false, .bool false], true⟩ := by rw [hH5]; simp [get_alloc, next_alloc, n1, n2, n3]
  have q4 : H5.get (H1.next + 1 + 1 + 1) = some ⟨[.int .u8 (kind % 9), .int .i64 (n % 3), .int .i64 0], true⟩ := by rw [hH5]; simp [get_alloc, next_alloc, n1, n2, n3]
  have hn5 : H5.next = H1.next + 1 + 1 + 1 + 1 := by rw [hH5]; rfl
  rw [← hH5]
  clear hH5
  have hcb1 : cb < H1.next := by omega
  generalize H1.next = m at *
  have hf := FrzH.ofL (H := H5) (S := fun j => j == m) [(cb, c.cells), (m + 1, aO.cells), (m + 1 + 1, bO.cells), (m + 1 + 1 + 1, xC.cells)] (by
    intro q cs hm
    simp only [List.mem_cons, Prod.mk.injEq, List.not_mem_nil, or_false] at hm
    rcases hm with ⟨rfl, rfl⟩ | ⟨rfl, rfl⟩ | ⟨rfl, rfl⟩ | ⟨rfl, rfl⟩
    · exact ⟨beq_eq_false_iff_ne.2 (by omega), _, q0, FrzL.same _⟩
    · exact ⟨beq_eq_false_iff_ne.2 (by omega), _, q2, by
        rw [haO]
        exact .cons (.same _) (.cons (frz_lit ([(⟨0, 1, 0, cause, false⟩ : Lamp)].map Lamp.val) q1 rfl (fun u hu => by obtain ⟨r, _, rfl⟩ := List.mem_map.1 hu; rfl) rfl (by simp)) (FrzL.same _))⟩
    · exact ⟨beq_eq_false_iff_ne.2 (by omega), _, q3, by rw [hbO]; exact .cons (.same _) (.cons (.nil 5) (FrzL.same _))⟩
    · exact ⟨beq_eq_false_iff_ne.2 (by omega), _, q4, by rw [hxC]; exact FrzL.same _⟩)
  refine IWp.freezeH _ _ (.cons (.same _) (.cons (.same _) (.cons (.same _) (.cons (.same _) (.cons (.same _) (.cons (.same _) .nil)))))) hf ?_
  have k0 : (H5.ofL [(cb, c.cells), (m + 1, aO.cells), (m + 1 + 1, bO.cells), (m + 1 + 1 + 1, xC.cells)]).get cb = some ⟨c.cells, true⟩ := by rw [Heap.ofL_get, if_pos (by omega)]; simp
  have k1 : (H5.ofL [(cb, c.cells), (m + 1, aO.cells), (m + 1 + 1, bO.cells), (m + 1 + 1 + 1, xC.cells)]).get (m + 1) = some ⟨aO.cells, true⟩ := by rw [Heap.ofL_get, if_pos (by omega)]; simp [List.lookup, show (m + 1 == cb) = false from beq_eq_false_iff_ne.2 (by omega)]
  have k2 : (H5.ofL [(cb, c.cells), (m + 1, aO.cells), (m + 1 + 1, bO.cells), (m + 1 + 1 + 1, xC.cells)]).get (m + 1 + 1) = some ⟨bO.cells, true⟩ := by rw [Heap.ofL_get, if_pos (by omega)]; simp [List.lookup, show (m + 1 + 1 == cb) = false from beq_eq_false_iff_ne.2 (by omega), show (m + 1 + 1 == m + 1) = false from beq_eq_false_iff_ne.2 (by omega)]
  have k3 : (H5.ofL [(cb, c.cells), (m + 1, aO.cells), (m + 1 + 1, bO.cells), (m + 1 + 1 + 1, xC.cells)]).get (m + 1 + 1 + 1) = some ⟨xC.cells, true⟩ := by rw [Heap.ofL_get, if_pos (by omega)]; simp [List.lookup, show (m + 1 + 1 + 1 == cb) = false from beq_eq_false_iff_ne.2 (by omega), show (m + 1 + 1 + 1 == m + 1) = false from beq_eq_false_iff_ne.2 (by omega), show (m + 1 + 1 + 1 == m + 1 + 1) = false from beq_eq_false_iff_ne.2 (by omega)]
  have hnK : (H5.ofL [(cb, c.cells), (m + 1, aO.cells), (m + 1 + 1, bO.cells), (m + 1 + 1 + 1, xC.cells)]).next = H5.next := rfl
  generalize H5.ofL _ = K at *
  clear hf q0 q1 q2 q3 q4
  have hla : ∀ L, lostB c bO L ⟨0, 1, 0, cause, false⟩ = (latch && (cause || !(L.any (resetB 0)))) := fun L => by
    have h1 : ruleIn c 0 = true := by unfold ruleIn; rw [hrl]; rfl
    have h2 : latchAt c 0 = latch := by unfold latchAt; rw [hrl]; rfl
    have h3 : findS bO.lamps 0 = none := by rw [hbO]; rfl
    unfold lostB
    simp only [h1, h2, h3]; simp
  have e1 : ∀ L, (aO.lamps.any (lostB c bO L)) = (latch && (cause || !(L.any (resetB 0)))) := fun L => by rw [haO]; simp only [List.any_cons, List.any_nil, Bool.or_false]; exact hla L
  have e2 : (aO.lamps.any (lostB c aO [])) = false := by
    have h3 : (findS aO.lamps 0).isSome = true := by rw [haO]; rfl
    rw [haO] at h3
    rw [haO]; simp only [List.any_cons, List.any_nil, Bool.or_false]
    unfold lostB
    simp only [h3]; simp
  have e3 : (bO.lamps.any (lostB c aO [])) = false := by rw [hbO]; rfl
  have c1 := fun K => kept K c aO bO [xC] (by rw [haO]; simp) (by rw [hbO]; simp) (by simp)
  have c2 := fun K => kept K c aO aO [] (by rw [haO]; simp) (by rw [haO]; simp) (by simp)
  have c3 := fun K => kept K c bO aO [] (by rw [hbO]; simp) (by rw [haO]; simp) (by simp)
  rw [e1] at c1
  rw [e2] at c2
  rw [e3] at c3
  obtain ⟨r, hr⟩ : ∃ r, r = [xC].any (resetB 0) := ⟨_, rfl⟩
  rw [← hr] at c1
  have hr2 : r = (decide (kind % 9 = 7) || (decide (kind % 9 = 6) && decide (n % 3 = 0))) := by rw [hr, hxC]; simp [resetB]
  clear e1 e2 e3 hla hrl hmk hr hc
  simp only [Config.val, Config.cells, Outp.val, Outp.cells, haO, hbO] at c1 c2 c3 k0 k1 k2
  simp only [hxC, Cmd.cells] at k3
  simp only [hxC, List.map_cons, List.map_nil, Cmd.val, Cmd.cells] at c1 c2 c3
  have frzC : Frz (K.alloc [.int .u8 (kind % 9), .int .i64 (n % 3), .int .i64 0]) (fun j => j == K.next) (.slice (some ⟨K.next, 0, some 3⟩) 1 1) (frow 3 0 [Value.agg ⟨[.int .u8 (kind % 9), .int .i64 (n % 3), .int .i64 0]⟩]) := frz_lit (H := K.alloc [.int .u8 (kind % 9), .int .i64 (n % 3), .int .i64 0]) (S := fun j => j == K.next) (sz := 3) (b := K.next) (n := 1) (c := 1) [Value.agg ⟨[.int .u8 (kind % 9), .int .i64 (n % 3), .int .i64 0]⟩] (Heap.get_alloc_new _ _) rfl (fun u hu => by simp only [List.mem_cons, List.not_mem_nil, or_false] at hu; subst hu; rfl) rfl (by simp)
  have hk1 : ¬ cb = K.next := by omega
  have hk2 : ¬ m + 1 = K.next := by omega
  have hk3 : ¬ m + 1 + 1 = K.next := by omega
  by_cases h7 : kind % 9 = 7
  · skip
    rw [show r = true by rw [hr2]; simp [h7]] at c1
    clear hr2
    simp only [h7] at frzC c1
    cases latch
    · cases cause
      · skip
        refine IWp.run [0, 1, 9, 10, 11, 12, 13] ?_
        simp [go_sem, -getElem?_pos, -List.map_take, -List.map_drop, List.getElem?_cons_zero, List.getElem?_cons_succ, Go.IntWalk.iteOmega, Go.IntWalk.toNatUp, h7, k0, k1, k2, k3]
        refine IWp.seq ?_
        refine IWp.run [8] ?_
        simp [go_sem, -getElem?_pos, -List.map_take, -List.map_drop, List.getElem?_cons_zero, List.getElem?_cons_succ, Go.IntWalk.iteOmega, Go.IntWalk.toNatUp, h7, k0, k1, k2, k3]
        refine ICalls.then (hears _) ?_
        try simp [go_sem, -getElem?_pos, -List.map_take, -List.map_drop, List.getElem?_cons_zero, List.getElem?_cons_succ, Go.IntWalk.iteOmega, Go.IntWalk.toNatUp, h7, k0, k1, k2, k3]
        refine ICalls.freeze1 K.next (.cons (.same _) (.cons (.same _) (.cons (.same _) (.cons frzC .nil)))) (ICalls.then (c1 _) ?_)
        simp [go_sem, h7, k0, k1, k2, k3, hk1, hk2, hk3, get_kill]
        refine ICalls.as (.cons (.same _) (.cons (.same _) (.cons (.same _) (.cons (.nil 3) .nil)))) (ICalls.then (c2 _) ?_)
        simp [go_sem, h7, k0, k1, k2, k3, hk1, hk2, hk3, get_kill]
        refine ICalls.as (.cons (.same _) (.cons (.same _) (.cons (.same _) (.cons (.nil 3) .nil)))) (ICalls.then (c3 _) ?_)
        simp [go_sem, h7, k0, k1, k2, k3, hk1, hk2, hk3, get_kill]
        refine IWp.ret ?_
        simp [go_sem, -getElem?_pos, -List.map_take, -List.map_drop, List.getElem?_cons_zero, List.getElem?_cons_succ, Go.IntWalk.iteOmega, Go.IntWalk.toNatUp, Try.results3]
      · skip
        refine IWp.run [0, 1, 9, 10, 11, 12, 13] ?_
        simp [go_sem, -getElem?_pos, -List.map_take, -List.map_drop, List.getElem?_cons_zero, List.getElem?_cons_succ, Go.IntWalk.iteOmega, Go.IntWalk.toNatUp, h7, k0, k1, k2, k3]
        refine IWp.seq ?_
        refine IWp.run [8] ?_
        simp [go_sem, -getElem?_pos, -List.map_take, -List.map_drop, List.getElem?_cons_zero, List.getElem?_cons_succ, Go.IntWalk.iteOmega, Go.IntWalk.toNatUp, h7, k0, k1, k2, k3]
        refine ICalls.then (hears _) ?_
        try simp [go_sem, -getElem?_pos, -List.map_take, -List.map_drop, List.getElem?_cons_zero, List.getElem?_cons_succ, Go.IntWalk.iteOmega, Go.IntWalk.toNatUp, h7, k0, k1, k2, k3]
        refine ICalls.freeze1 K.next (.cons (.same _) (.cons (.same _) (.cons (.same _) (.cons frzC .nil)))) (ICalls.then (c1 _) ?_)
        simp [go_sem, h7, k0, k1, k2, k3, hk1, hk2, hk3, get_kill]
        refine ICalls.as (.cons (.same _) (.cons (.same _) (.cons (.same _) (.cons (.nil 3) .nil)))) (ICalls.then (c2 _) ?_)
        simp [go_sem, h7, k0, k1, k2, k3, hk1, hk2, hk3, get_kill]
        refine ICalls.as (.cons (.same _) (.cons (.same _) (.cons (.same _) (.cons (.nil 3) .nil)))) (ICalls.then (c3 _) ?_)
        simp [go_sem, h7, k0, k1, k2, k3, hk1, hk2, hk3, get_kill]
        refine IWp.ret ?_
        simp [go_sem, -getElem?_pos, -List.map_take, -List.map_drop, List.getElem?_cons_zero, List.getElem?_cons_succ, Go.IntWalk.iteOmega, Go.IntWalk.toNatUp, Try.results3]
    · cases cause
      · skip
        refine IWp.run [0, 1, 9, 10, 11, 12, 13] ?_
        simp [go_sem, -getElem?_pos, -List.map_take, -List.map_drop, List.getElem?_cons_zero, List.getElem?_cons_succ, Go.IntWalk.iteOmega, Go.IntWalk.toNatUp, h7, k0, k1, k2, k3]
        refine IWp.seq ?_
        refine IWp.run [8] ?_
        simp [go_sem, -getElem?_pos, -List.map_take, -List.map_drop, List.getElem?_cons_zero, List.getElem?_cons_succ, Go.IntWalk.iteOmega, Go.IntWalk.toNatUp, h7, k0, k1, k2, k3]
        refine ICalls.then (hears _) ?_
        try simp [go_sem, -getElem?_pos, -List.map_take, -List.map_drop, List.getElem?_cons_zero, List.getElem?_cons_succ, Go.IntWalk.iteOmega, Go.IntWalk.toNatUp, h7, k0, k1, k2, k3]
        refine ICalls.freeze1 K.next (.cons (.same _) (.cons (.same _) (.cons (.same _) (.cons frzC .nil)))) (ICalls.then (c1 _) ?_)
        simp [go_sem, h7, k0, k1, k2, k3, hk1, hk2, hk3, get_kill]
        refine ICalls.as (.cons (.same _) (.cons (.same _) (.cons (.same _) (.cons (.nil 3) .nil)))) (ICalls.then (c2 _) ?_)
        simp [go_sem, h7, k0, k1, k2, k3, hk1, hk2, hk3, get_kill]
        refine ICalls.as (.cons (.same _) (.cons (.same _) (.cons (.same _) (.cons (.nil 3) .nil)))) (ICalls.then (c3 _) ?_)
        simp [go_sem, h7, k0, k1, k2, k3, hk1, hk2, hk3, get_kill]
        refine IWp.ret ?_
        simp [go_sem, -getElem?_pos, -List.map_take, -List.map_drop, List.getElem?_cons_zero, List.getElem?_cons_succ, Go.IntWalk.iteOmega, Go.IntWalk.toNatUp, Try.results3]
      · skip
        refine IWp.run [0, 1, 9, 10, 11, 12, 13] ?_
        simp [go_sem, -getElem?_pos, -List.map_take, -List.map_drop, List.getElem?_cons_zero, List.getElem?_cons_succ, Go.IntWalk.iteOmega, Go.IntWalk.toNatUp, h7, k0, k1, k2, k3]
        refine IWp.seq ?_
        refine IWp.run [8] ?_
        simp [go_sem, -getElem?_pos, -List.map_take, -List.map_drop, List.getElem?_cons_zero, List.getElem?_cons_succ, Go.IntWalk.iteOmega, Go.IntWalk.toNatUp, h7, k0, k1, k2, k3]
        refine ICalls.then (hears _) ?_
        try simp [go_sem, -getElem?_pos, -List.map_take, -List.map_drop, List.getElem?_cons_zero, List.getElem?_cons_succ, Go.IntWalk.iteOmega, Go.IntWalk.toNatUp, h7, k0, k1, k2, k3]
        refine ICalls.freeze1 K.next (.cons (.same _) (.cons (.same _) (.cons (.same _) (.cons frzC .nil)))) (ICalls.then (c1 _) ?_)
        simp [go_sem, h7, k0, k1, k2, k3, hk1, hk2, hk3, get_kill]
        refine ICalls.as (.cons (.same _) (.cons (.same _) (.cons (.same _) (.cons (.nil 3) .nil)))) (ICalls.then (c2 _) ?_)
        simp [go_sem, h7, k0, k1, k2, k3, hk1, hk2, hk3, get_kill]
        refine ICalls.as (.cons (.same _) (.cons (.same _) (.cons (.same _) (.cons (.nil 3) .nil)))) (ICalls.then (c3 _) ?_)
        simp [go_sem, h7, k0, k1, k2, k3, hk1, hk2, hk3, get_kill]
        refine IWp.ret ?_
        simp [go_sem, -getElem?_pos, -List.map_take, -List.map_drop, List.getElem?_cons_zero, List.getElem?_cons_succ, Go.IntWalk.iteOmega, Go.IntWalk.toNatUp, Try.results3]
  by_cases h6 : kind % 9 = 6
  · by_cases h0 : n % 3 = 0
    · skip
      rw [show r = true by rw [hr2]; simp [h6, h0]] at c1
      clear hr2
      simp only [h6, h0] at frzC c1
      cases latch
      · cases cause
        · skip
          refine IWp.run [0, 1, 9, 10, 11, 12, 13] ?_
          simp [go_sem, -getElem?_pos, -List.map_take, -List.map_drop, List.getElem?_cons_zero, List.getElem?_cons_succ, Go.IntWalk.iteOmega, Go.IntWalk.toNatUp, h6, h0, k0, k1, k2, k3]
          refine IWp.seq ?_
          refine IWp.run [8] ?_
          simp [go_sem, -getElem?_pos, -List.map_take, -List.map_drop, List.getElem?_cons_zero, List.getElem?_cons_succ, Go.IntWalk.iteOmega, Go.IntWalk.toNatUp, h6, h0, k0, k1, k2, k3]
          refine ICalls.then (hears _) ?_
          try simp [go_sem, -getElem?_pos, -List.map_take, -List.map_drop, List.getElem?_cons_zero, List.getElem?_cons_succ, Go.IntWalk.iteOmega, Go.IntWalk.toNatUp, h6, h0, k0, k1, k2, k3]
          refine ICalls.freeze1 K.next (.cons (.same _) (.cons (.same _) (.cons (.same _) (.cons frzC .nil)))) (ICalls.then (c1 _) ?_)
          simp [go_sem, h6, h0, k0, k1, k2, k3, hk1, hk2, hk3, get_kill]
          refine ICalls.as (.cons (.same _) (.cons (.same _) (.cons (.same _) (.cons (.nil 3) .nil)))) (ICalls.then (c2 _) ?_)
          simp [go_sem, h6, h0, k0, k1, k2, k3, hk1, hk2, hk3, get_kill]
          refine ICalls.as (.cons (.same _) (.cons (.same _) (.cons (.same _) (.cons (.nil 3) .nil)))) (ICalls.then (c3 _) ?_)
          simp [go_sem, h6, h0, k0, k1, k2, k3, hk1, hk2, hk3, get_kill]
          refine IWp.ret ?_
          simp [go_sem, -getElem?_pos, -List.map_take, -List.map_drop, List.getElem?_cons_zero, List.getElem?_cons_succ, Go.IntWalk.iteOmega, Go.IntWalk.toNatUp, Try.results3]
        · skip
          refine IWp.run [0, 1, 9, 10, 11, 12, 13] ?_
          simp [go_sem, -getElem?_pos, -List.map_take, -List.map_drop, List.getElem?_cons_zero, List.getElem?_cons_succ, Go.IntWalk.iteOmega, Go.IntWalk.toNatUp, h6, h0, k0, k1, k2, k3]
          refine IWp.seq ?_
          refine IWp.run [8] ?_
          simp [go_sem, -getElem?_pos, -List.map_take, -List.map_drop, List.getElem?_cons_zero, List.getElem?_cons_succ, Go.IntWalk.iteOmega, Go.IntWalk.toNatUp, h6, h0, k0, k1, k2, k3]
          refine ICalls.then (hears _) ?_
          try simp [go_sem, -getElem?_pos, -List.map_take, -List.map_drop, List.getElem?_cons_zero, List.getElem?_cons_succ, Go.IntWalk.iteOmega, Go.IntWalk.toNatUp, h6, h0, k0, k1, k2, k3]
          refine ICalls.freeze1 K.next (.cons (.same _) (.cons (.same _) (.cons (.same _) (.cons frzC .nil)))) (ICalls.then (c1 _) ?_)
          simp [go_sem, h6, h0, k0, k1, k2, k3, hk1, hk2, hk3, get_kill]
          refine ICalls.as (.cons (.same _) (.cons (.same _) (.cons (.same _) (.cons (.nil 3) .nil)))) (ICalls.then (c2 _) ?_)
          simp [go_sem, h6, h0, k0, k1, k2, k3, hk1, hk2, hk3, get_kill]
          refine ICalls.as (.cons (.same _) (.cons (.same _) (.cons (.same _) (.cons (.nil 3) .nil)))) (ICalls.then (c3 _) ?_)
          simp [go_sem, h6, h0, k0, k1, k2, k3, hk1, hk2, hk3, get_kill]
          refine IWp.ret ?_
          simp [go_sem, -getElem?_pos, -List.map_take, -List.map_drop, List.getElem?_cons_zero, List.getElem?_cons_succ, Go.IntWalk.iteOmega, Go.IntWalk.toNatUp, Try.results3]
      · cases cause
        · skip
          refine IWp.run [0, 1, 9, 10, 11, 12, 13] ?_
          simp [go_sem, -getElem?_pos, -List.map_take, -List.map_drop, List.getElem?_cons_zero, List.getElem?_cons_succ, Go.IntWalk.iteOmega, Go.IntWalk.toNatUp, h6, h0, k0, k1, k2, k3]
          refine IWp.seq ?_
          refine IWp.run [8] ?_
          simp [go_sem, -getElem?_pos, -List.map_take, -List.map_drop, List.getElem?_cons_zero, List.getElem?_cons_succ, Go.IntWalk.iteOmega, Go.IntWalk.toNatUp, h6, h0, k0, k1, k2, k3]
          refine ICalls.then (hears _) ?_
          try simp [go_sem, -getElem?_pos, -List.map_take, -List.map_drop, List.getElem?_cons_zero, List.getElem?_cons_succ, Go.IntWalk.iteOmega, Go.IntWalk.toNatUp, h6, h0, k0, k1, k2, k3]
          refine ICalls.freeze1 K.next (.cons (.same _) (.cons (.same _) (.cons (.same _) (.cons frzC .nil)))) (ICalls.then (c1 _) ?_)
          simp [go_sem, h6, h0, k0, k1, k2, k3, hk1, hk2, hk3, get_kill]
          refine ICalls.as (.cons (.same _) (.cons (.same _) (.cons (.same _) (.cons (.nil 3) .nil)))) (ICalls.then (c2 _) ?_)
          simp [go_sem, h6, h0, k0, k1, k2, k3, hk1, hk2, hk3, get_kill]
          refine ICalls.as (.cons (.same _) (.cons (.same _) (.cons (.same _) (.cons (.nil 3) .nil)))) (ICalls.then (c3 _) ?_)
          simp [go_sem, h6, h0, k0, k1, k2, k3, hk1, hk2, hk3, get_kill]
          refine IWp.ret ?_
          simp [go_sem, -getElem?_pos, -List.map_take, -List.map_drop, List.getElem?_cons_zero, List.getElem?_cons_succ, Go.IntWalk.iteOmega, Go.IntWalk.toNatUp, Try.results3]
        · skip
          refine IWp.run [0, 1, 9, 10, 11, 12, 13] ?_
          simp [go_sem, -getElem?_pos, -List.map_take, -List.map_drop, List.getElem?_cons_zero, List.getElem?_cons_succ, Go.IntWalk.iteOmega, Go.IntWalk.toNatUp, h6, h0, k0, k1, k2, k3]
          refine IWp.seq ?_
          refine IWp.run [8] ?_
          simp [go_sem, -getElem?_pos, -List.map_take, -List.map_drop, List.getElem?_cons_zero, List.getElem?_cons_succ, Go.IntWalk.iteOmega, Go.IntWalk.toNatUp, h6, h0, k0, k1, k2, k3]
          refine ICalls.then (hears _) ?_
          try simp [go_sem, -getElem?_pos, -List.map_take, -List.map_drop, List.getElem?_cons_zero, List.getElem?_cons_succ, Go.IntWalk.iteOmega, Go.IntWalk.toNatUp, h6, h0, k0, k1, k2, k3]
          refine ICalls.freeze1 K.next (.cons (.same _) (.cons (.same _) (.cons (.same _) (.cons frzC .nil)))) (ICalls.then (c1 _) ?_)
          simp [go_sem, h6, h0, k0, k1, k2, k3, hk1, hk2, hk3, get_kill]
          refine ICalls.as (.cons (.same _) (.cons (.same _) (.cons (.same _) (.cons (.nil 3) .nil)))) (ICalls.then (c2 _) ?_)
          simp [go_sem, h6, h0, k0, k1, k2, k3, hk1, hk2, hk3, get_kill]
          refine ICalls.as (.cons (.same _) (.cons (.same _) (.cons (.same _) (.cons (.nil 3) .nil)))) (ICalls.then (c3 _) ?_)
          simp [go_sem, h6, h0, k0, k1, k2, k3, hk1, hk2, hk3, get_kill]
          refine IWp.ret ?_
          simp [go_sem, -getElem?_pos, -List.map_take, -List.map_drop, List.getElem?_cons_zero, List.getElem?_cons_succ, Go.IntWalk.iteOmega, Go.IntWalk.toNatUp, Try.results3]
    · skip
      rw [show r = false by rw [hr2]; simp [h6, h0]] at c1
      clear hr2
      simp only [h6] at frzC c1
      cases latch
      · cases cause
        · skip
          refine IWp.run [0, 1, 9, 10, 11, 12, 13] ?_
          simp [go_sem, -getElem?_pos, -List.map_take, -List.map_drop, List.getElem?_cons_zero, List.getElem?_cons_succ, Go.IntWalk.iteOmega, Go.IntWalk.toNatUp, h6, h0, k0, k1, k2, k3]
          refine IWp.seq ?_
          refine IWp.run [8] ?_
          simp [go_sem, -getElem?_pos, -List.map_take, -List.map_drop, List.getElem?_cons_zero, List.getElem?_cons_succ, Go.IntWalk.iteOmega, Go.IntWalk.toNatUp, h6, h0, k0, k1, k2, k3]
          refine ICalls.then (hears _) ?_
          try simp [go_sem, -getElem?_pos, -List.map_take, -List.map_drop, List.getElem?_cons_zero, List.getElem?_cons_succ, Go.IntWalk.iteOmega, Go.IntWalk.toNatUp, h6, h0, k0, k1, k2, k3]
          refine ICalls.freeze1 K.next (.cons (.same _) (.cons (.same _) (.cons (.same _) (.cons frzC .nil)))) (ICalls.then (c1 _) ?_)
          simp [go_sem, h6, h0, k0, k1, k2, k3, hk1, hk2, hk3, get_kill]
          refine ICalls.as (.cons (.same _) (.cons (.same _) (.cons (.same _) (.cons (.nil 3) .nil)))) (ICalls.then (c2 _) ?_)
          simp [go_sem, h6, h0, k0, k1, k2, k3, hk1, hk2, hk3, get_kill]
          refine ICalls.as (.cons (.same _) (.cons (.same _) (.cons (.same _) (.cons (.nil 3) .nil)))) (ICalls.then (c3 _) ?_)
          simp [go_sem, h6, h0, k0, k1, k2, k3, hk1, hk2, hk3, get_kill]
          refine IWp.ret ?_
          simp [go_sem, -getElem?_pos, -List.map_take, -List.map_drop, List.getElem?_cons_zero, List.getElem?_cons_succ, Go.IntWalk.iteOmega, Go.IntWalk.toNatUp, Try.results3]
        · skip
          refine IWp.run [0, 1, 9, 10, 11, 12, 13] ?_
          simp [go_sem, -getElem?_pos, -List.map_take, -List.map_drop, List.getElem?_cons_zero, List.getElem?_cons_succ, Go.IntWalk.iteOmega, Go.IntWalk.toNatUp, h6, h0, k0, k1, k2, k3]
          refine IWp.seq ?_
          refine IWp.run [8] ?_
          simp [go_sem, -getElem?_pos, -List.map_take, -List.map_drop, List.getElem?_cons_zero, List.getElem?_cons_succ, Go.IntWalk.iteOmega, Go.IntWalk.toNatUp, h6, h0, k0, k1, k2, k3]
          refine ICalls.then (hears _) ?_
          try simp [go_sem, -getElem?_pos, -List.map_take, -List.map_drop, List.getElem?_cons_zero, List.getElem?_cons_succ, Go.IntWalk.iteOmega, Go.IntWalk.toNatUp, h6, h0, k0, k1, k2, k3]
          refine ICalls.freeze1 K.next (.cons (.same _) (.cons (.same _) (.cons (.same _) (.cons frzC .nil)))) (ICalls.then (c1 _) ?_)
          simp [go_sem, h6, h0, k0, k1, k2, k3, hk1, hk2, hk3, get_kill]
          refine ICalls.as (.cons (.same _) (.cons (.same _) (.cons (.same _) (.cons (.nil 3) .nil)))) (ICalls.then (c2 _) ?_)
          simp [go_sem, h6, h0, k0, k1, k2, k3, hk1, hk2, hk3, get_kill]
          refine ICalls.as (.cons (.same _) (.cons (.same _) (.cons (.same _) (.cons (.nil 3) .nil)))) (ICalls.then (c3 _) ?_)
          simp [go_sem, h6, h0, k0, k1, k2, k3, hk1, hk2, hk3, get_kill]
          refine IWp.ret ?_
          simp [go_sem, -getElem?_pos, -List.map_take, -List.map_drop, List.getElem?_cons_zero, List.getElem?_cons_succ, Go.IntWalk.iteOmega, Go.IntWalk.toNatUp, Try.results3]
      · cases cause
        · skip
          refine IWp.run [0, 1, 9, 10, 11, 12, 13] ?_
          simp [go_sem, -getElem?_pos, -List.map_take, -List.map_drop, List.getElem?_cons_zero, List.getElem?_cons_succ, Go.IntWalk.iteOmega, Go.IntWalk.toNatUp, h6, h0, k0, k1, k2, k3]
          refine IWp.seq ?_
          refine IWp.run [8] ?_
          simp [go_sem, -getElem?_pos, -List.map_take, -List.map_drop, List.getElem?_cons_zero, List.getElem?_cons_succ, Go.IntWalk.iteOmega, Go.IntWalk.toNatUp, h6, h0, k0, k1, k2, k3]
          refine ICalls.then (hears _) ?_
          try simp [go_sem, -getElem?_pos, -List.map_take, -List.map_drop, List.getElem?_cons_zero, List.getElem?_cons_succ, Go.IntWalk.iteOmega, Go.IntWalk.toNatUp, h6, h0, k0, k1, k2, k3]
          refine ICalls.freeze1 K.next (.cons (.same _) (.cons (.same _) (.cons (.same _) (.cons frzC .nil)))) (ICalls.then (c1 _) ?_)
          simp [go_sem, h6, h0, k0, k1, k2, k3, hk1, hk2, hk3, get_kill]
          refine ICalls.as (.cons (.same _) (.cons (.same _) (.cons (.same _) (.cons (.nil 3) .nil)))) (ICalls.then (c2 _) ?_)
          simp [go_sem, h6, h0, k0, k1, k2, k3, hk1, hk2, hk3, get_kill]
          refine ICalls.as (.cons (.same _) (.cons (.same _) (.cons (.same _) (.cons (.nil 3) .nil)))) (ICalls.then (c3 _) ?_)
          simp [go_sem, h6, h0, k0, k1, k2, k3, hk1, hk2, hk3, get_kill]
          refine IWp.ret ?_
          simp [go_sem, -getElem?_pos, -List.map_take, -List.map_drop, List.getElem?_cons_zero, List.getElem?_cons_succ, Go.IntWalk.iteOmega, Go.IntWalk.toNatUp, Try.results3]
        · skip
          refine IWp.run [0, 1, 9, 10, 11, 12, 13] ?_
          simp [go_sem, -getElem?_pos, -List.map_take, -List.map_drop, List.getElem?_cons_zero, List.getElem?_cons_succ, Go.IntWalk.iteOmega, Go.IntWalk.toNatUp, h6, h0, k0, k1, k2, k3]
          refine IWp.seq ?_
          refine IWp.run [8] ?_
          simp [go_sem, -getElem?_pos, -List.map_take, -List.map_drop, List.getElem?_cons_zero, List.getElem?_cons_succ, Go.IntWalk.iteOmega, Go.IntWalk.toNatUp, h6, h0, k0, k1, k2, k3]
          refine ICalls.then (hears _) ?_
          try simp [go_sem, -getElem?_pos, -List.map_take, -List.map_drop, List.getElem?_cons_zero, List.getElem?_cons_succ, Go.IntWalk.iteOmega, Go.IntWalk.toNatUp, h6, h0, k0, k1, k2, k3]
          refine ICalls.freeze1 K.next (.cons (.same _) (.cons (.same _) (.cons (.same _) (.cons frzC .nil)))) (ICalls.then (c1 _) ?_)
          simp [go_sem, h6, h0, k0, k1, k2, k3, hk1, hk2, hk3, get_kill]
          refine ICalls.as (.cons (.same _) (.cons (.same _) (.cons (.same _) (.cons (.nil 3) .nil)))) (ICalls.then (c2 _) ?_)
          simp [go_sem, h6, h0, k0, k1, k2, k3, hk1, hk2, hk3, get_kill]
          refine ICalls.as (.cons (.same _) (.cons (.same _) (.cons (.same _) (.cons (.nil 3) .nil)))) (ICalls.then (c3 _) ?_)
          simp [go_sem, h6, h0, k0, k1, k2, k3, hk1, hk2, hk3, get_kill]
          refine IWp.ret ?_
          simp [go_sem, -getElem?_pos, -List.map_take, -List.map_drop, List.getElem?_cons_zero, List.getElem?_cons_succ, Go.IntWalk.iteOmega, Go.IntWalk.toNatUp, Try.results3]
  · skip
    rw [show r = false by rw [hr2]; simp [h7, h6]] at c1
    clear hr2
    cases latch
    · cases cause
      · skip
        refine IWp.run [0, 1, 9, 10, 11, 12, 13] ?_
        simp [go_sem, -getElem?_pos, -List.map_take, -List.map_drop, List.getElem?_cons_zero, List.getElem?_cons_succ, Go.IntWalk.iteOmega, Go.IntWalk.toNatUp, h7, h6, k0, k1, k2, k3]
        refine IWp.seq ?_
        refine IWp.run [8] ?_
        simp [go_sem, -getElem?_pos, -List.map_take, -List.map_drop, List.getElem?_cons_zero, List.getElem?_cons_succ, Go.IntWalk.iteOmega, Go.IntWalk.toNatUp, h7, h6, k0, k1, k2, k3]
        refine ICalls.then (hears _) ?_
        try simp [go_sem, -getElem?_pos, -List.map_take, -List.map_drop, List.getElem?_cons_zero, List.getElem?_cons_succ, Go.IntWalk.iteOmega, Go.IntWalk.toNatUp, h7, h6, k0, k1, k2, k3]
        refine ICalls.freeze1 K.next (.cons (.same _) (.cons (.same _) (.cons (.same _) (.cons frzC .nil)))) (ICalls.then (c1 _) ?_)
        simp [go_sem, h7, h6, k0, k1, k2, k3, hk1, hk2, hk3, get_kill]
        refine ICalls.as (.cons (.same _) (.cons (.same _) (.cons (.same _) (.cons (.nil 3) .nil)))) (ICalls.then (c2 _) ?_)
        simp [go_sem, h7, h6, k0, k1, k2, k3, hk1, hk2, hk3, get_kill]
        refine ICalls.as (.cons (.same _) (.cons (.same _) (.cons (.same _) (.cons (.nil 3) .nil)))) (ICalls.then (c3 _) ?_)
        simp [go_sem, h7, h6, k0, k1, k2, k3, hk1, hk2, hk3, get_kill]
        refine IWp.ret ?_
        simp [go_sem, -getElem?_pos, -List.map_take, -List.map_drop, List.getElem?_cons_zero, List.getElem?_cons_succ, Go.IntWalk.iteOmega, Go.IntWalk.toNatUp, Try.results3]
      · skip
        refine IWp.run [0, 1, 9, 10, 11, 12, 13] ?_
        simp [go_sem, -getElem?_pos, -List.map_take, -List.map_drop, List.getElem?_cons_zero, List.getElem?_cons_succ, Go.IntWalk.iteOmega, Go.IntWalk.toNatUp, h7, h6, k0, k1, k2, k3]
        refine IWp.seq ?_
        refine IWp.run [8] ?_
        simp [go_sem, -getElem?_pos, -List.map_take, -List.map_drop, List.getElem?_cons_zero, List.getElem?_cons_succ, Go.IntWalk.iteOmega, Go.IntWalk.toNatUp, h7, h6, k0, k1, k2, k3]
        refine ICalls.then (hears _) ?_
        try simp [go_sem, -getElem?_pos, -List.map_take, -List.map_drop, List.getElem?_cons_zero, List.getElem?_cons_succ, Go.IntWalk.iteOmega, Go.IntWalk.toNatUp, h7, h6, k0, k1, k2, k3]
        refine ICalls.freeze1 K.next (.cons (.same _) (.cons (.same _) (.cons (.same _) (.cons frzC .nil)))) (ICalls.then (c1 _) ?_)
        simp [go_sem, h7, h6, k0, k1, k2, k3, hk1, hk2, hk3, get_kill]
        refine ICalls.as (.cons (.same _) (.cons (.same _) (.cons (.same _) (.cons (.nil 3) .nil)))) (ICalls.then (c2 _) ?_)
        simp [go_sem, h7, h6, k0, k1, k2, k3, hk1, hk2, hk3, get_kill]
        refine ICalls.as (.cons (.same _) (.cons (.same _) (.cons (.same _) (.cons (.nil 3) .nil)))) (ICalls.then (c3 _) ?_)
        simp [go_sem, h7, h6, k0, k1, k2, k3, hk1, hk2, hk3, get_kill]
        refine IWp.ret ?_
        simp [go_sem, -getElem?_pos, -List.map_take, -List.map_drop, List.getElem?_cons_zero, List.getElem?_cons_succ, Go.IntWalk.iteOmega, Go.IntWalk.toNatUp, Try.results3]
    · cases cause
      · skip
        refine IWp.run [0, 1, 9, 10, 11, 12, 13] ?_
        simp [go_sem, -getElem?_pos, -List.map_take, -List.map_drop, List.getElem?_cons_zero, List.getElem?_cons_succ, Go.IntWalk.iteOmega, Go.IntWalk.toNatUp, h7, h6, k0, k1, k2, k3]
        refine IWp.seq ?_
        refine IWp.run [8] ?_
        simp [go_sem, -getElem?_pos, -List.map_take, -List.map_drop, List.getElem?_cons_zero, List.getElem?_cons_succ, Go.IntWalk.iteOmega, Go.IntWalk.toNatUp, h7, h6, k0, k1, k2, k3]
        refine ICalls.then (hears _) ?_
        try simp [go_sem, -getElem?_pos, -List.map_take, -List.map_drop, List.getElem?_cons_zero, List.getElem?_cons_succ, Go.IntWalk.iteOmega, Go.IntWalk.toNatUp, h7, h6, k0, k1, k2, k3]
        refine ICalls.freeze1 K.next (.cons (.same _) (.cons (.same _) (.cons (.same _) (.cons frzC .nil)))) (ICalls.then (c1 _) ?_)
        simp [go_sem, h7, h6, k0, k1, k2, k3, hk1, hk2, hk3, get_kill]
        refine ICalls.as (.cons (.same _) (.cons (.same _) (.cons (.same _) (.cons (.nil 3) .nil)))) (ICalls.then (c2 _) ?_)
        simp [go_sem, h7, h6, k0, k1, k2, k3, hk1, hk2, hk3, get_kill]
        refine ICalls.as (.cons (.same _) (.cons (.same _) (.cons (.same _) (.cons (.nil 3) .nil)))) (ICalls.then (c3 _) ?_)
        simp [go_sem, h7, h6, k0, k1, k2, k3, hk1, hk2, hk3, get_kill]
        refine IWp.ret ?_
        simp [go_sem, -getElem?_pos, -List.map_take, -List.map_drop, List.getElem?_cons_zero, List.getElem?_cons_succ, Go.IntWalk.iteOmega, Go.IntWalk.toNatUp, Try.results3]
      · skip
        refine IWp.run [0, 1, 9, 10, 11, 12, 13] ?_
        simp [go_sem, -getElem?_pos, -List.map_take, -List.map_drop, List.getElem?_cons_zero, List.getElem?_cons_succ, Go.IntWalk.iteOmega, Go.IntWalk.toNatUp, h7, h6, k0, k1, k2, k3]
        refine IWp.seq ?_
        refine IWp.run [8] ?_
        simp [go_sem, -getElem?_pos, -List.map_take, -List.map_drop, List.getElem?_cons_zero, List.getElem?_cons_succ, Go.IntWalk.iteOmega, Go.IntWalk.toNatUp, h7, h6, k0, k1, k2, k3]
        refine ICalls.then (hears _) ?_
        try simp [go_sem, -getElem?_pos, -List.map_take, -List.map_drop, List.getElem?_cons_zero, List.getElem?_cons_succ, Go.IntWalk.iteOmega, Go.IntWalk.toNatUp, h7, h6, k0, k1, k2, k3]
        refine ICalls.freeze1 K.next (.cons (.same _) (.cons (.same _) (.cons (.same _) (.cons frzC .nil)))) (ICalls.then (c1 _) ?_)
        simp [go_sem, h7, h6, k0, k1, k2, k3, hk1, hk2, hk3, get_kill]
        refine ICalls.as (.cons (.same _) (.cons (.same _) (.cons (.same _) (.cons (.nil 3) .nil)))) (ICalls.then (c2 _) ?_)
        simp [go_sem, h7, h6, k0, k1, k2, k3, hk1, hk2, hk3, get_kill]
        refine ICalls.as (.cons (.same _) (.cons (.same _) (.cons (.same _) (.cons (.nil 3) .nil)))) (ICalls.then (c3 _) ?_)
        simp [go_sem, h7, h6, k0, k1, k2, k3, hk1, hk2, hk3, get_kill]
        refine IWp.ret ?_
        simp [go_sem, -getElem?_pos, -List.map_take, -List.map_drop, List.getElem?_cons_zero, List.getElem?_cons_succ, Go.IntWalk.iteOmega, Go.IntWalk.toNatUp, Try.results3]

end Go.Proofs.Ytoecebibhcadoaa.I
