/- Which lamps are told: the program's, sorted by the library; no condition but that no condition stands twice. No condition. -/
import Derived.Test.YtdimnoeldnfikaaGSort1
import Derived.Test.YtdimnoeldnfikaaPLamp
namespace Go.Proofs.Ytdimnoeldnfikaa.I
open Go Go.RowKit
set_option linter.unusedVariables false
set_option linter.unusedSimpArgs false

theorem lampSz (L : List Lamp) : ∀ u ∈ L.map Lamp.val, u.cells.toList.length = 5 := by
  intro u hu
  obtain ⟨x, _, rfl⟩ := List.mem_map.1 hu
  rfl
theorem lampFlat (L : List Lamp) : ((L.map Lamp.val).flatMap fun u => u.cells.toList) = L.flatMap Lamp.cells := by
  rw [List.flatMap_map]; rfl

/-- What is asked of the library's sort. -/
def SortsL : Prop := ∀ (H : Heap) (b c : Nat) (d : List Lamp), H.get b = some ⟨d.flatMap Lamp.cells, true⟩ → d ≠ [] → d.length < 4611686018427387904 →
  ICalls Try.prog 49 [.slice (some ⟨b, 0, some 5⟩) d.length c, .func (.func 50) ⟨[]⟩ ⟨[]⟩] H fun v H' => v = .tuple ⟨[]⟩ ∧ ∃ d' : List Lamp, d'.Perm d ∧ ordL d' ∧ H' = H.set b (d'.flatMap Lamp.cells)

set_option maxRecDepth 100000 in
theorem lampsC_of (hS : SortsL) (H : Heap) (L : List Light) (hL : L.length ≤ 100000) (hn : (L.map Light.cond).Nodup) : ICalls Try.prog 34 [frow 7 0 (L.map Light.val)] H fun v H' => v = frow 5 0 ((lampsS L).map Lamp.val) ∧ H' = H := by
  refine ICalls.ans (by simp [go_sem]; exact fun y _ => Lamp.cl y) fun H => IBody.calls (by kernel_rfl) ?_
  refine IBody.of Try.func34 rfl (by rw [Try.ntmps34]; simp) ?_
  rw [Try.ntmps34]
  refine IWp.seq ?_
  refine IWp.run [0] ?_
  simp [go_sem, -getElem?_pos, -List.map_take, -List.map_drop, List.getElem?_cons_zero, List.getElem?_cons_succ, Go.IntWalk.iteOmega, Go.IntWalk.toNatUp]
  refine IWp.seq ?_
  refine IWp.run [0, 3] ?_
  simp [go_sem, -getElem?_pos, -List.map_take, -List.map_drop, List.getElem?_cons_zero, List.getElem?_cons_succ, Go.IntWalk.iteOmega, Go.IntWalk.toNatUp]
  refine IWp.seq ?_
  refine IWp.seq ?_
  refine IWp.run [3, 6, 7, 8] ?_
  simp [go_sem, -getElem?_pos, -List.map_take, -List.map_drop, List.getElem?_cons_zero, List.getElem?_cons_succ, Go.IntWalk.iteOmega, Go.IntWalk.toNatUp]
  refine IWp.block ?_
  -- LOOP live [3, 6, 7, 8]
  refine IWp.loop (fun q e K => ∃ (i : Nat) (v : Value), q = L.length - i ∧ i ≤ L.length ∧ Bld 5 K H.next v ((litL (L.take i)).map Lamp.val) ∧ (litL (L.take i) = [] → v = .slice none 0 0) ∧ H.next ≤ K.next ∧ e = [(3, v), (6, frow 7 0 (L.map Light.val)), (7, .int .i64 L.length), (8, .int .i64 (i : Int))]) L.length ⟨0, .slice none 0 0, rfl, Nat.zero_le _, Bld.nil _ _ _, fun _ => rfl, Nat.le_refl _, by simp [go_sem]⟩ ?_
  rintro q e K ⟨i, v, rfl, hi, hv, hv0, hK, rfl⟩
  have wi := IntWalk.i64_in ((i : Int) + 1) (by omega)
  by_cases hlt : i < L.length
  · have gi : (L.map Light.val)[i]? = some (L[i]).val := by simp [hlt]
    have hs := litL_snoc L hlt
    have hlen := litL_len (L.take i)
    rw [List.length_take] at hlen
    generalize L[i] = x at *
    cases hp : x.life.lit with
    | true =>
      rw [hp] at hs
      simp only [if_true] at hs
      have hv2 : Bld 5 (K.alloc x.cells) H.next v ((litL (L.take i)).map Lamp.val) := hv.alloc _
      obtain ⟨v', H', e2, b2, s2, n2, _⟩ := app_one (P := Try.prog) (t := 58) (e := 104) (sz := 5) (by_ := 32) (z := .agg ⟨[.int .i64 0, .int .u8 0, .int .i64 0, .bool false, .bool false]⟩) (by kernel_rfl) (by kernel_rfl) (by kernel_rfl) (by kernel_rfl) rfl (lampOf x).val (lampOf x).cells hv2 rfl rfl rfl (by rw [next_alloc]; omega) (by simp; omega) (by simp; omega)
      rw [← List.map_singleton, ← List.map_append, ← hs] at b2
      simp only [Light.cells, Life.cells, lampOf, Lamp.cells, next_alloc, hp, List.cons_append, List.nil_append] at e2 n2
      refine IWp.seq ?_
      refine IWp.run [3, 6, 7, 8, 9] ?_
      simp [go_sem, -getElem?_pos, -List.map_take, -List.map_drop, List.getElem?_cons_zero, List.getElem?_cons_succ, Go.IntWalk.iteOmega, Go.IntWalk.toNatUp, hlt, gi, wi, hp, Light.val, Light.cells, Life.cells, e2]
      refine IWp.seq ?_
      refine IWp.cond ?_
      simp [go_sem, -getElem?_pos, -List.map_take, -List.map_drop, List.getElem?_cons_zero, List.getElem?_cons_succ, Go.IntWalk.iteOmega, Go.IntWalk.toNatUp, hlt, gi, wi, hp, Light.val, Light.cells, Life.cells, e2]
      refine IWp.trim [3, 6, 7, 8] (IWp.skip ?_)
      simp [go_sem, -getElem?_pos, -List.map_take, -List.map_drop, List.getElem?_cons_zero, List.getElem?_cons_succ, Go.IntWalk.iteOmega, Go.IntWalk.toNatUp, hlt, gi, wi, hp, Light.val, Light.cells, Life.cells, e2]
      refine IWp.seq ?_
      refine IWp.block ?_
      refine IWp.seq ?_
      refine IWp.run [3, 5, 6, 7, 8] ?_
      simp [go_sem, -getElem?_pos, -List.map_take, -List.map_drop, List.getElem?_cons_zero, List.getElem?_cons_succ, Go.IntWalk.iteOmega, Go.IntWalk.toNatUp, hlt, gi, wi, hp, Light.val, Light.cells, Life.cells, e2]
      refine IWp.seq ?_
      refine IWp.run [3, 5, 6, 7, 8, 14] ?_
      simp [go_sem, -getElem?_pos, -List.map_take, -List.map_drop, List.getElem?_cons_zero, List.getElem?_cons_succ, Go.IntWalk.iteOmega, Go.IntWalk.toNatUp, hlt, gi, wi, hp, Light.val, Light.cells, Life.cells, e2]
      refine IWp.cond ?_
      simp [go_sem, -getElem?_pos, -List.map_take, -List.map_drop, List.getElem?_cons_zero, List.getElem?_cons_succ, Go.IntWalk.iteOmega, Go.IntWalk.toNatUp, hlt, gi, wi, hp, Light.val, Light.cells, Life.cells, e2]
      refine IWp.run [3, 6, 7, 8] ?_
      simp [go_sem, -getElem?_pos, -List.map_take, -List.map_drop, List.getElem?_cons_zero, List.getElem?_cons_succ, Go.IntWalk.iteOmega, Go.IntWalk.toNatUp, hlt, gi, wi, hp, Light.val, Light.cells, Life.cells, e2]
      refine IWp.run [3, 6, 7, 8] ?_
      simp [go_sem, -getElem?_pos, -List.map_take, -List.map_drop, List.getElem?_cons_zero, List.getElem?_cons_succ, Go.IntWalk.iteOmega, Go.IntWalk.toNatUp, hlt, gi, wi, hp, Light.val, Light.cells, Life.cells, e2]
      exact ⟨L.length - (i + 1), by omega, i + 1, by omega, by omega, v', b2, fun h => absurd h (by rw [hs]; simp), by omega, rfl, by omega⟩
    | false =>
      rw [hp] at hs
      simp only [Bool.false_eq_true, if_false] at hs
      have hv2 : Bld 5 (K.alloc x.cells) H.next v ((litL (L.take i)).map Lamp.val) := hv.alloc _
      rw [← hs] at hv2
      simp only [Light.cells, Life.cells, hp, List.cons_append, List.nil_append] at hv2
      refine IWp.seq ?_
      refine IWp.run [3, 6, 7, 8, 9] ?_
      simp [go_sem, -getElem?_pos, -List.map_take, -List.map_drop, List.getElem?_cons_zero, List.getElem?_cons_succ, Go.IntWalk.iteOmega, Go.IntWalk.toNatUp, hlt, gi, wi, hp, Light.val, Light.cells, Life.cells]
      refine IWp.seq ?_
      refine IWp.cond ?_
      simp [go_sem, -getElem?_pos, -List.map_take, -List.map_drop, List.getElem?_cons_zero, List.getElem?_cons_succ, Go.IntWalk.iteOmega, Go.IntWalk.toNatUp, hlt, gi, wi, hp, Light.val, Light.cells, Life.cells]
      refine IWp.trim [3, 6, 7, 8] (IWp.skip ?_)
      simp [go_sem, -getElem?_pos, -List.map_take, -List.map_drop, List.getElem?_cons_zero, List.getElem?_cons_succ, Go.IntWalk.iteOmega, Go.IntWalk.toNatUp, hlt, gi, wi, hp, Light.val, Light.cells, Life.cells]
      refine IWp.seq ?_
      refine IWp.block ?_
      refine IWp.seq ?_
      refine IWp.run [3, 5, 6, 7, 8] ?_
      simp [go_sem, -getElem?_pos, -List.map_take, -List.map_drop, List.getElem?_cons_zero, List.getElem?_cons_succ, Go.IntWalk.iteOmega, Go.IntWalk.toNatUp, hlt, gi, wi, hp, Light.val, Light.cells, Life.cells]
      refine IWp.seq ?_
      refine IWp.run [3, 5, 6, 7, 8, 14] ?_
      simp [go_sem, -getElem?_pos, -List.map_take, -List.map_drop, List.getElem?_cons_zero, List.getElem?_cons_succ, Go.IntWalk.iteOmega, Go.IntWalk.toNatUp, hlt, gi, wi, hp, Light.val, Light.cells, Life.cells]
      refine IWp.cond ?_
      simp [go_sem, -getElem?_pos, -List.map_take, -List.map_drop, List.getElem?_cons_zero, List.getElem?_cons_succ, Go.IntWalk.iteOmega, Go.IntWalk.toNatUp, hlt, gi, wi, hp, Light.val, Light.cells, Life.cells]
      refine IWp.trim [3, 6, 7, 8] (IWp.skip ?_)
      simp [go_sem, -getElem?_pos, -List.map_take, -List.map_drop, List.getElem?_cons_zero, List.getElem?_cons_succ, Go.IntWalk.iteOmega, Go.IntWalk.toNatUp, hlt, gi, wi, hp, Light.val, Light.cells, Life.cells]
      refine IWp.run [3, 6, 7, 8] ?_
      simp [go_sem, -getElem?_pos, -List.map_take, -List.map_drop, List.getElem?_cons_zero, List.getElem?_cons_succ, Go.IntWalk.iteOmega, Go.IntWalk.toNatUp, hlt, gi, wi, hp, Light.val, Light.cells, Life.cells]
      exact ⟨L.length - (i + 1), by omega, i + 1, by omega, by omega, v, hv2, fun h => hv0 (by rw [← hs]; exact h), by omega, rfl, by omega⟩
  · rw [List.take_of_length_le (by omega)] at hv hv0
    have hlen := litL_len L
    rcases hv.2 with ⟨rfl, h0⟩ | ⟨b, hb, rfl, hg⟩
    · have h0' : litL L = [] := by simpa using h0
      have e0 : lampsS L = [] := by unfold lampsS; rw [h0']; rfl
      rw [e0]
      refine IWp.seq ?_
      refine IWp.run [3, 6, 7, 8, 9] ?_
      simp [go_sem, -getElem?_pos, -List.map_take, -List.map_drop, List.getElem?_cons_zero, List.getElem?_cons_succ, Go.IntWalk.iteOmega, Go.IntWalk.toNatUp, hlt]
      refine IWp.seq ?_
      refine IWp.cond ?_
      simp [go_sem, -getElem?_pos, -List.map_take, -List.map_drop, List.getElem?_cons_zero, List.getElem?_cons_succ, Go.IntWalk.iteOmega, Go.IntWalk.toNatUp, hlt]
      refine IWp.trim [3] (IWp.exit ?_)
      simp [go_sem, -getElem?_pos, -List.map_take, -List.map_drop, List.getElem?_cons_zero, List.getElem?_cons_succ, Go.IntWalk.iteOmega, Go.IntWalk.toNatUp, hlt]
      refine IWp.seq ?_
      refine IWp.run [3] ?_
      simp [go_sem, -getElem?_pos, -List.map_take, -List.map_drop, List.getElem?_cons_zero, List.getElem?_cons_succ, Go.IntWalk.iteOmega, Go.IntWalk.toNatUp, hlt]
      refine ICalls.then (sort_0 _ _) ?_
      try simp [go_sem, -getElem?_pos, -List.map_take, -List.map_drop, List.getElem?_cons_zero, List.getElem?_cons_succ, Go.IntWalk.iteOmega, Go.IntWalk.toNatUp, hlt]
      refine IWp.seq ?_
      refine IWp.run [2] ?_
      simp [go_sem, -getElem?_pos, -List.map_take, -List.map_drop, List.getElem?_cons_zero, List.getElem?_cons_succ, Go.IntWalk.iteOmega, Go.IntWalk.toNatUp, hlt]
      refine IWp.ret ?_
      simp [go_sem, -getElem?_pos, -List.map_take, -List.map_drop, List.getElem?_cons_zero, List.getElem?_cons_succ, Go.IntWalk.iteOmega, Go.IntWalk.toNatUp, hlt, Try.results34]
      try exact .nil 5
    · rw [lampFlat] at hg
      rw [List.length_map]
      by_cases h0 : litL L = []
      · exact absurd (hv0 h0) (by simp)
      · have c1 := hS K b 1 (litL L) hg h0 (by omega)
        refine IWp.seq ?_
        refine IWp.run [3, 6, 7, 8, 9] ?_
        simp [go_sem, -getElem?_pos, -List.map_take, -List.map_drop, List.getElem?_cons_zero, List.getElem?_cons_succ, Go.IntWalk.iteOmega, Go.IntWalk.toNatUp, hlt]
        refine IWp.seq ?_
        refine IWp.cond ?_
        simp [go_sem, -getElem?_pos, -List.map_take, -List.map_drop, List.getElem?_cons_zero, List.getElem?_cons_succ, Go.IntWalk.iteOmega, Go.IntWalk.toNatUp, hlt]
        refine IWp.trim [3] (IWp.exit ?_)
        simp [go_sem, -getElem?_pos, -List.map_take, -List.map_drop, List.getElem?_cons_zero, List.getElem?_cons_succ, Go.IntWalk.iteOmega, Go.IntWalk.toNatUp, hlt]
        refine IWp.seq ?_
        refine IWp.run [3] ?_
        simp [go_sem, -getElem?_pos, -List.map_take, -List.map_drop, List.getElem?_cons_zero, List.getElem?_cons_succ, Go.IntWalk.iteOmega, Go.IntWalk.toNatUp, hlt]
        refine ICalls.mono (c1) ?_
        rintro v1 H1 ⟨hv1, d', hd1, hd2, hH1⟩
        subst hv1; subst hH1
        try simp [go_sem, -getElem?_pos, -List.map_take, -List.map_drop, List.getElem?_cons_zero, List.getElem?_cons_succ, Go.IntWalk.iteOmega, Go.IntWalk.toNatUp, hlt]
        refine IWp.seq ?_
        refine IWp.run [2] ?_
        simp [go_sem, -getElem?_pos, -List.map_take, -List.map_drop, List.getElem?_cons_zero, List.getElem?_cons_succ, Go.IntWalk.iteOmega, Go.IntWalk.toNatUp, hlt]
        refine IWp.ret ?_
        simp [go_sem, -getElem?_pos, -List.map_take, -List.map_drop, List.getElem?_cons_zero, List.getElem?_cons_succ, Go.IntWalk.iteOmega, Go.IntWalk.toNatUp, hlt, Try.results34]
        have hd := lampsS_uniq hn hd1 hd2
        subst hd
        exact frz_lit ((lampsS L).map Lamp.val) (by rw [get_set, if_pos rfl, hg]; rfl) (lampFlat _) (lampSz _) (by rw [List.length_map]; exact hd1.length_eq) rfl

end Go.Proofs.Ytdimnoeldnfikaa.I
