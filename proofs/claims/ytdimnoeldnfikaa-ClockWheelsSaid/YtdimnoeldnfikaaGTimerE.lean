/- The document's timers: what is due, and what is left: the walk. No condition. -/
import Derived.Test.YtdimnoeldnfikaaGTimerD
namespace Go.Proofs.Ytdimnoeldnfikaa.I
open Go Go.RowKit Go.Maps
set_option linter.unusedVariables false
set_option linter.unusedSimpArgs false

set_option maxRecDepth 100000 in
set_option maxHeartbeats 4000000 in
theorem refDueC (H : Heap) (D : Dat) (m : List (Int × Int)) (now : Int) (hl : Like D m) (hm : m.length ≤ 100000) : ICalls Try.prog 27 [frow 2 0 (m.map tmV), .int .i64 now] H fun v H' => (∃ ks, v = .tuple ⟨[frow 2 0 ((withoutL m ks).map tmV), frow 1 0 (ks.map (Value.int .i64))]⟩ ∧ DueL D now ks) ∧ H' = H := by
  refine ICalls.pure (K := fun u => ∃ ks, u = .tuple ⟨[frow 2 0 ((withoutL m ks).map tmV), frow 1 0 (ks.map (Value.int .i64))]⟩ ∧ DueL D now ks) ?_
  generalize H.ro = G
  refine IBody.calls (by kernel_rfl) ?_
  refine IBody.of Try.func27 rfl (by rw [Try.ntmps27]; simp) ?_
  rw [Try.ntmps27]
  refine IWp.seq ?_
  refine IWp.run [0, 1] ?_
  simp [go_sem, -getElem?_pos, -List.map_take, -List.map_drop, List.getElem?_cons_zero, List.getElem?_cons_succ, Go.IntWalk.iteOmega, Go.IntWalk.toNatUp]
  refine IWp.seq ?_
  refine IWp.run [0, 1, 6] ?_
  simp [go_sem, -getElem?_pos, -List.map_take, -List.map_drop, List.getElem?_cons_zero, List.getElem?_cons_succ, Go.IntWalk.iteOmega, Go.IntWalk.toNatUp]
  refine IWp.block ?_
  -- LOOP live [0, 1, 6]
  refine IWp.loop (fun q e K => ∃ (out : List Int) (v : Value), q = (withoutL m out).length ∧ Bld 1 K 0 v (out.map (Value.int .i64)) ∧ Taken D m now out ∧ out.length + (withoutL m out).length ≤ m.length ∧ e = [(0, frow 2 0 ((withoutL m out).map tmV)), (1, .int .i64 now), (6, v)]) m.length ⟨[], .slice none 0 0, rfl, Bld.nil _ _ _, Taken.nil _ _ _, by simp [withoutL], by simp [go_sem, withoutL]⟩ ?_
  rintro q e K ⟨out, v, rfl, hv, ht, hle, rfl⟩
  have hw := withoutL_le m out
  refine IWp.block ?_
  refine IWp.seq ?_
  refine IWp.run [0, 1, 6, 7] ?_
  simp [go_sem, -getElem?_pos, -List.map_take, -List.map_drop, List.getElem?_cons_zero, List.getElem?_cons_succ, Go.IntWalk.iteOmega, Go.IntWalk.toNatUp]
  -- CUT live [0, 1, 6, 7]
  obtain ⟨L, hL⟩ : ∃ L, L = withoutL m out := ⟨_, rfl⟩
  rw [← hL] at hle hw ⊢
  refine IWp.cut (fun e' K' => ∃ b : Int, K' = K ∧ Best L now L.length b ∧ e' = [(0, frow 2 0 (L.map tmV)), (1, .int .i64 now), (6, v), (7, .int .i64 b)]) ?_ ?_
  case refine_2 =>
    rintro e' K' ⟨b, rfl, hb, rfl⟩
    rcases hb with ⟨rfl, hn⟩ | ⟨j, rfl, hj, p, hp, hpd, hbest⟩
    · rw [List.take_length] at hn
      refine IWp.seq ?_
      refine IWp.seq ?_
      refine IWp.run [0, 1, 6, 7, 67] ?_
      simp [go_sem, -getElem?_pos, -List.map_take, -List.map_drop, List.getElem?_cons_zero, List.getElem?_cons_succ, Go.IntWalk.iteOmega, Go.IntWalk.toNatUp]
      refine IWp.cond ?_
      simp [go_sem, -getElem?_pos, -List.map_take, -List.map_drop, List.getElem?_cons_zero, List.getElem?_cons_succ, Go.IntWalk.iteOmega, Go.IntWalk.toNatUp]
      refine IWp.seq ?_
      refine IWp.run [4, 5] ?_
      simp [go_sem, -getElem?_pos, -List.map_take, -List.map_drop, List.getElem?_cons_zero, List.getElem?_cons_succ, Go.IntWalk.iteOmega, Go.IntWalk.toNatUp]
      refine IWp.ret ?_
      simp [go_sem, -getElem?_pos, -List.map_take, -List.map_drop, List.getElem?_cons_zero, List.getElem?_cons_succ, Go.IntWalk.iteOmega, Go.IntWalk.toNatUp, Try.results27]
      refine ⟨.tuple ⟨[frow 2 0 (L.map tmV), frow 1 0 (out.map (Value.int .i64))]⟩, ?_, ?_, out, by rw [hL], ht.done hl (hL ▸ hn)⟩
      · show Frz _ _ (.tuple ⟨[_, _]⟩) _
        rw [Frz_tuple, FrzL_cons, FrzL_cons]
        exact ⟨.same _, hv.frz, .nil⟩
      · rw [Cl_tuple, ClL_cons, ClL_cons, ClL_nil]
        exact ⟨tmRow_cl _ _, by simp [go_sem], trivial⟩
    · rw [List.take_length] at hbest
      have gj : (L.map tmV)[j]? = some (tmV p) := by rw [List.getElem?_map, hp]; rfl
      obtain ⟨hjl, hpj⟩ := List.getElem?_eq_some_iff.mp hp
      have hpL : p ∈ L := hpj ▸ List.getElem_mem hjl
      have hmore := ht.more hl (hL ▸ hpL) hpd (hL ▸ hbest)
      have hsn := withoutL_snoc m out p.1
      rw [← hL] at hsn
      have hids : p.1 ∈ L.map (·.1) := List.mem_map.mpr ⟨p, hpL, rfl⟩
      have hLnd : (L.map (·.1)).Nodup := by rw [hL]; exact (hl.delL out).nd
      have hlen := without_len L p.1 hLnd
      rw [if_pos hids] at hlen
      obtain ⟨pi, pa⟩ := p
      simp only at hlen hsn hmore hpd
      have wj := IntWalk.i64_in (j : Int) (by omega)
      obtain ⟨v', H', e2, b2, s2, n2, _⟩ := app_one (P := Try.prog) (t := 27) (e := 3) (sz := 1) (by_ := 8) (z := .int .i64 0) (by kernel_rfl) (by kernel_rfl) (by kernel_rfl) (by kernel_rfl) rfl (.int .i64 pi) [.int .i64 pi] hv rfl rfl rfl (Nat.zero_le _) (by simp; omega) (by simp; omega)
      rw [← List.map_singleton, ← List.map_append] at b2
      refine IWp.seq ?_
      refine IWp.seq ?_
      refine IWp.run [0, 1, 6, 7, 67] ?_
      simp [go_sem, -getElem?_pos, -List.map_take, -List.map_drop, List.getElem?_cons_zero, List.getElem?_cons_succ, Go.IntWalk.iteOmega, Go.IntWalk.toNatUp, hjl, gj, tmV, wj, e2]
      refine IWp.cond ?_
      simp [go_sem, -getElem?_pos, -List.map_take, -List.map_drop, List.getElem?_cons_zero, List.getElem?_cons_succ, Go.IntWalk.iteOmega, Go.IntWalk.toNatUp, hjl, gj, tmV, wj, e2]
      refine IWp.trim [0, 1, 6, 7] (IWp.skip ?_)
      simp [go_sem, -getElem?_pos, -List.map_take, -List.map_drop, List.getElem?_cons_zero, List.getElem?_cons_succ, Go.IntWalk.iteOmega, Go.IntWalk.toNatUp, hjl, gj, tmV, wj, e2]
      refine IWp.seq ?_
      refine IWp.run [0, 1, 6, 7] ?_
      simp [go_sem, -getElem?_pos, -List.map_take, -List.map_drop, List.getElem?_cons_zero, List.getElem?_cons_succ, Go.IntWalk.iteOmega, Go.IntWalk.toNatUp, hjl, gj, tmV, wj, e2]
      refine IWp.run [0, 1, 6] ?_
      simp [go_sem, -getElem?_pos, -List.map_take, -List.map_drop, List.getElem?_cons_zero, List.getElem?_cons_succ, Go.IntWalk.iteOmega, Go.IntWalk.toNatUp, hjl, gj, tmV, wj, e2]
      refine ICalls.then (refStopC _ L pi (by omega)) ?_
      try simp [go_sem, -getElem?_pos, -List.map_take, -List.map_drop, List.getElem?_cons_zero, List.getElem?_cons_succ, Go.IntWalk.iteOmega, Go.IntWalk.toNatUp, hjl, gj, tmV, wj, e2]

      exact ⟨(without L pi).length, by omega, out ++ [pi], by rw [hsn], v', b2, hmore, by rw [hsn]; simp; omega, by rw [hsn], rfl⟩
  refine IWp.seq ?_
  refine IWp.run [0, 1, 6, 7, 8] ?_
  simp [go_sem, -getElem?_pos, -List.map_take, -List.map_drop, List.getElem?_cons_zero, List.getElem?_cons_succ, Go.IntWalk.iteOmega, Go.IntWalk.toNatUp]
  refine IWp.block ?_
  -- LOOP live [0, 1, 6, 7, 8]
  refine IWp.loop (fun q e K' => ∃ (k : Nat) (b : Int), q = L.length - k ∧ k ≤ L.length ∧ K' = K ∧ Best L now k b ∧ e = [(0, frow 2 0 (L.map tmV)), (1, .int .i64 now), (6, v), (7, .int .i64 b), (8, .int .i64 (k : Int))]) L.length ⟨0, -1, rfl, Nat.zero_le _, rfl, .inl ⟨rfl, by simp⟩, by simp [go_sem]⟩ ?_
  rintro q e K' ⟨k, b, rfl, hk, rfl, hb, rfl⟩
  have wk := IntWalk.i64_in ((k : Int) + 1) (by omega)
  by_cases hkl : k < L.length
  case neg =>
    obtain rfl : k = L.length := by omega
    refine IWp.seq ?_
    refine IWp.seq ?_
    refine IWp.run [0, 1, 6, 7, 8, 12] ?_
    simp [go_sem, -getElem?_pos, -List.map_take, -List.map_drop, List.getElem?_cons_zero, List.getElem?_cons_succ, Go.IntWalk.iteOmega, Go.IntWalk.toNatUp, hkl]
    refine IWp.cond ?_
    simp [go_sem, -getElem?_pos, -List.map_take, -List.map_drop, List.getElem?_cons_zero, List.getElem?_cons_succ, Go.IntWalk.iteOmega, Go.IntWalk.toNatUp, hkl]
    refine IWp.trim [0, 1, 6, 7] (IWp.exit ?_)
    simp [go_sem, -getElem?_pos, -List.map_take, -List.map_drop, List.getElem?_cons_zero, List.getElem?_cons_succ, Go.IntWalk.iteOmega, Go.IntWalk.toNatUp, hkl]
    exact hb
  have gk : (L.map tmV)[k]? = some (tmV L[k]) := by simp [hkl]
  have hxk : L[k]? = some L[k] := List.getElem?_eq_getElem hkl
  have hkp := fun hd hb' => Best.now hb hxk hd hb'
  have hkk := fun hn => Best.keep hb hxk hn
  obtain ⟨x, hx⟩ : ∃ x, x = L[k] := ⟨_, rfl⟩
  rw [← hx] at gk hxk hkp hkk
  obtain ⟨xi, xa⟩ := x
  simp only at hkp hkk
  by_cases hd : xa ≤ now
  case neg =>
    refine IWp.seq ?_
    refine IWp.seq ?_
    refine IWp.run [0, 1, 6, 7, 8, 12] ?_
    simp [go_sem, -getElem?_pos, -List.map_take, -List.map_drop, List.getElem?_cons_zero, List.getElem?_cons_succ, Go.IntWalk.iteOmega, Go.IntWalk.toNatUp, hkl, gk, wk, tmV, hd]
    refine IWp.cond ?_
    simp [go_sem, -getElem?_pos, -List.map_take, -List.map_drop, List.getElem?_cons_zero, List.getElem?_cons_succ, Go.IntWalk.iteOmega, Go.IntWalk.toNatUp, hkl, gk, wk, tmV, hd]
    refine IWp.trim [0, 1, 6, 7, 8] (IWp.skip ?_)
    simp [go_sem, -getElem?_pos, -List.map_take, -List.map_drop, List.getElem?_cons_zero, List.getElem?_cons_succ, Go.IntWalk.iteOmega, Go.IntWalk.toNatUp, hkl, gk, wk, tmV, hd]
    refine IWp.seq ?_
    refine IWp.block ?_
    refine IWp.seq ?_
    refine IWp.read [0, 1, 6, 7, 8, 64] follows (by kernel_rfl) ?_
    simp [go_sem, -getElem?_pos, -List.map_take, -List.map_drop, List.getElem?_cons_zero, List.getElem?_cons_succ, Go.IntWalk.iteOmega, Go.IntWalk.toNatUp, hkl, gk, wk, tmV, hd]
    refine IWp.cond ?_
    simp [go_sem, -getElem?_pos, -List.map_take, -List.map_drop, List.getElem?_cons_zero, List.getElem?_cons_succ, Go.IntWalk.iteOmega, Go.IntWalk.toNatUp, hkl, gk, wk, tmV, hd]
    refine IWp.trim [0, 1, 6, 7, 8] (IWp.skip ?_)
    simp [go_sem, -getElem?_pos, -List.map_take, -List.map_drop, List.getElem?_cons_zero, List.getElem?_cons_succ, Go.IntWalk.iteOmega, Go.IntWalk.toNatUp, hkl, gk, wk, tmV, hd]
    refine IWp.run [0, 1, 6, 7, 8] ?_
    simp [go_sem, -getElem?_pos, -List.map_take, -List.map_drop, List.getElem?_cons_zero, List.getElem?_cons_succ, Go.IntWalk.iteOmega, Go.IntWalk.toNatUp, hkl, gk, wk, tmV, hd]
    exact ⟨L.length - (k + 1), by omega, k + 1, rfl, by omega, b, hkk (.inl hd), rfl, by omega⟩
  rcases hb with ⟨rfl, hn⟩ | ⟨j, rfl, hj, p, hp, hpd, hbest⟩
  · skip
    refine IWp.seq ?_
    refine IWp.seq ?_
    refine IWp.run [0, 1, 6, 7, 8, 12] ?_
    simp [go_sem, -getElem?_pos, -List.map_take, -List.map_drop, List.getElem?_cons_zero, List.getElem?_cons_succ, Go.IntWalk.iteOmega, Go.IntWalk.toNatUp, hkl, gk, wk, tmV, hd]
    refine IWp.cond ?_
    simp [go_sem, -getElem?_pos, -List.map_take, -List.map_drop, List.getElem?_cons_zero, List.getElem?_cons_succ, Go.IntWalk.iteOmega, Go.IntWalk.toNatUp, hkl, gk, wk, tmV, hd]
    refine IWp.trim [0, 1, 6, 7, 8] (IWp.skip ?_)
    simp [go_sem, -getElem?_pos, -List.map_take, -List.map_drop, List.getElem?_cons_zero, List.getElem?_cons_succ, Go.IntWalk.iteOmega, Go.IntWalk.toNatUp, hkl, gk, wk, tmV, hd]
    refine IWp.seq ?_
    refine IWp.block ?_
    refine IWp.seq ?_
    refine IWp.read [0, 1, 6, 7, 8, 64] follows (by kernel_rfl) ?_
    simp [go_sem, -getElem?_pos, -List.map_take, -List.map_drop, List.getElem?_cons_zero, List.getElem?_cons_succ, Go.IntWalk.iteOmega, Go.IntWalk.toNatUp, hkl, gk, wk, tmV, hd]
    refine IWp.cond ?_
    simp [go_sem, -getElem?_pos, -List.map_take, -List.map_drop, List.getElem?_cons_zero, List.getElem?_cons_succ, Go.IntWalk.iteOmega, Go.IntWalk.toNatUp, hkl, gk, wk, tmV, hd]
    refine IWp.run [0, 1, 6, 7, 8] ?_
    simp [go_sem, -getElem?_pos, -List.map_take, -List.map_drop, List.getElem?_cons_zero, List.getElem?_cons_succ, Go.IntWalk.iteOmega, Go.IntWalk.toNatUp, hkl, gk, wk, tmV, hd]
    refine IWp.run [0, 1, 6, 7, 8] ?_
    simp [go_sem, -getElem?_pos, -List.map_take, -List.map_drop, List.getElem?_cons_zero, List.getElem?_cons_succ, Go.IntWalk.iteOmega, Go.IntWalk.toNatUp, hkl, gk, wk, tmV, hd]
    exact ⟨L.length - (k + 1), by omega, k + 1, rfl, by omega, k, hkp hd (.inl rfl), rfl, by omega⟩
  · have gj : (L.map tmV)[j]? = some (tmV p) := by rw [List.getElem?_map, hp]; rfl
    have hjl : j < L.length := by omega
    obtain ⟨pi, pa⟩ := p
    by_cases h1 : xa < pa
    · skip
      refine IWp.seq ?_
      refine IWp.seq ?_
      refine IWp.run [0, 1, 6, 7, 8, 12] ?_
      simp [go_sem, -getElem?_pos, -List.map_take, -List.map_drop, List.getElem?_cons_zero, List.getElem?_cons_succ, Go.IntWalk.iteOmega, Go.IntWalk.toNatUp, hkl, gk, gj, hjl, wk, tmV, hd, h1]
      refine IWp.cond ?_
      simp [go_sem, -getElem?_pos, -List.map_take, -List.map_drop, List.getElem?_cons_zero, List.getElem?_cons_succ, Go.IntWalk.iteOmega, Go.IntWalk.toNatUp, hkl, gk, gj, hjl, wk, tmV, hd, h1]
      refine IWp.trim [0, 1, 6, 7, 8] (IWp.skip ?_)
      simp [go_sem, -getElem?_pos, -List.map_take, -List.map_drop, List.getElem?_cons_zero, List.getElem?_cons_succ, Go.IntWalk.iteOmega, Go.IntWalk.toNatUp, hkl, gk, gj, hjl, wk, tmV, hd, h1]
      refine IWp.seq ?_
      refine IWp.block ?_
      refine IWp.seq ?_
      refine IWp.read [0, 1, 6, 7, 8, 64] follows (by kernel_rfl) ?_
      simp [go_sem, -getElem?_pos, -List.map_take, -List.map_drop, List.getElem?_cons_zero, List.getElem?_cons_succ, Go.IntWalk.iteOmega, Go.IntWalk.toNatUp, hkl, gk, gj, hjl, wk, tmV, hd, h1]
      refine IWp.cond ?_
      simp [go_sem, -getElem?_pos, -List.map_take, -List.map_drop, List.getElem?_cons_zero, List.getElem?_cons_succ, Go.IntWalk.iteOmega, Go.IntWalk.toNatUp, hkl, gk, gj, hjl, wk, tmV, hd, h1]
      refine IWp.run [0, 1, 6, 7, 8] ?_
      simp [go_sem, -getElem?_pos, -List.map_take, -List.map_drop, List.getElem?_cons_zero, List.getElem?_cons_succ, Go.IntWalk.iteOmega, Go.IntWalk.toNatUp, hkl, gk, gj, hjl, wk, tmV, hd, h1]
      refine IWp.run [0, 1, 6, 7, 8] ?_
      simp [go_sem, -getElem?_pos, -List.map_take, -List.map_drop, List.getElem?_cons_zero, List.getElem?_cons_succ, Go.IntWalk.iteOmega, Go.IntWalk.toNatUp, hkl, gk, gj, hjl, wk, tmV, hd, h1]
      exact ⟨L.length - (k + 1), by omega, k + 1, rfl, by omega, k, hkp hd (.inr ⟨j, rfl, _, hp, by unfold pLt; simp [h1]⟩), rfl, by omega⟩
    · by_cases h2 : xa = pa
      · by_cases h3 : xi < pi
        · skip
          refine IWp.seq ?_
          refine IWp.seq ?_
          refine IWp.run [0, 1, 6, 7, 8, 12] ?_
          simp [go_sem, -getElem?_pos, -List.map_take, -List.map_drop, List.getElem?_cons_zero, List.getElem?_cons_succ, Go.IntWalk.iteOmega, Go.IntWalk.toNatUp, hkl, gk, gj, hjl, wk, tmV, hd, h1, eq_true h2, h3]
          refine IWp.cond ?_
          simp [go_sem, -getElem?_pos, -List.map_take, -List.map_drop, List.getElem?_cons_zero, List.getElem?_cons_succ, Go.IntWalk.iteOmega, Go.IntWalk.toNatUp, hkl, gk, gj, hjl, wk, tmV, hd, h1, eq_true h2, h3]
          refine IWp.trim [0, 1, 6, 7, 8] (IWp.skip ?_)
          simp [go_sem, -getElem?_pos, -List.map_take, -List.map_drop, List.getElem?_cons_zero, List.getElem?_cons_succ, Go.IntWalk.iteOmega, Go.IntWalk.toNatUp, hkl, gk, gj, hjl, wk, tmV, hd, h1, eq_true h2, h3]
          refine IWp.seq ?_
          refine IWp.block ?_
          refine IWp.seq ?_
          refine IWp.read [0, 1, 6, 7, 8, 64] follows (by kernel_rfl) ?_
          simp [go_sem, -getElem?_pos, -List.map_take, -List.map_drop, List.getElem?_cons_zero, List.getElem?_cons_succ, Go.IntWalk.iteOmega, Go.IntWalk.toNatUp, hkl, gk, gj, hjl, wk, tmV, hd, h1, eq_true h2, h3]
          refine IWp.cond ?_
          simp [go_sem, -getElem?_pos, -List.map_take, -List.map_drop, List.getElem?_cons_zero, List.getElem?_cons_succ, Go.IntWalk.iteOmega, Go.IntWalk.toNatUp, hkl, gk, gj, hjl, wk, tmV, hd, h1, eq_true h2, h3]
          refine IWp.run [0, 1, 6, 7, 8] ?_
          simp [go_sem, -getElem?_pos, -List.map_take, -List.map_drop, List.getElem?_cons_zero, List.getElem?_cons_succ, Go.IntWalk.iteOmega, Go.IntWalk.toNatUp, hkl, gk, gj, hjl, wk, tmV, hd, h1, eq_true h2, h3]
          refine IWp.run [0, 1, 6, 7, 8] ?_
          simp [go_sem, -getElem?_pos, -List.map_take, -List.map_drop, List.getElem?_cons_zero, List.getElem?_cons_succ, Go.IntWalk.iteOmega, Go.IntWalk.toNatUp, hkl, gk, gj, hjl, wk, tmV, hd, h1, eq_true h2, h3]
          exact ⟨L.length - (k + 1), by omega, k + 1, rfl, by omega, k, hkp hd (.inr ⟨j, rfl, _, hp, by unfold pLt; simp [h2, h3]⟩), rfl, by omega⟩
        · skip
          refine IWp.seq ?_
          refine IWp.seq ?_
          refine IWp.run [0, 1, 6, 7, 8, 12] ?_
          simp [go_sem, -getElem?_pos, -List.map_take, -List.map_drop, List.getElem?_cons_zero, List.getElem?_cons_succ, Go.IntWalk.iteOmega, Go.IntWalk.toNatUp, hkl, gk, gj, hjl, wk, tmV, hd, h1, eq_true h2, h3]
          refine IWp.cond ?_
          simp [go_sem, -getElem?_pos, -List.map_take, -List.map_drop, List.getElem?_cons_zero, List.getElem?_cons_succ, Go.IntWalk.iteOmega, Go.IntWalk.toNatUp, hkl, gk, gj, hjl, wk, tmV, hd, h1, eq_true h2, h3]
          refine IWp.trim [0, 1, 6, 7, 8] (IWp.skip ?_)
          simp [go_sem, -getElem?_pos, -List.map_take, -List.map_drop, List.getElem?_cons_zero, List.getElem?_cons_succ, Go.IntWalk.iteOmega, Go.IntWalk.toNatUp, hkl, gk, gj, hjl, wk, tmV, hd, h1, eq_true h2, h3]
          refine IWp.seq ?_
          refine IWp.block ?_
          refine IWp.seq ?_
          refine IWp.read [0, 1, 6, 7, 8, 64] follows (by kernel_rfl) ?_
          simp [go_sem, -getElem?_pos, -List.map_take, -List.map_drop, List.getElem?_cons_zero, List.getElem?_cons_succ, Go.IntWalk.iteOmega, Go.IntWalk.toNatUp, hkl, gk, gj, hjl, wk, tmV, hd, h1, eq_true h2, h3]
          refine IWp.cond ?_
          simp [go_sem, -getElem?_pos, -List.map_take, -List.map_drop, List.getElem?_cons_zero, List.getElem?_cons_succ, Go.IntWalk.iteOmega, Go.IntWalk.toNatUp, hkl, gk, gj, hjl, wk, tmV, hd, h1, eq_true h2, h3]
          refine IWp.trim [0, 1, 6, 7, 8] (IWp.skip ?_)
          simp [go_sem, -getElem?_pos, -List.map_take, -List.map_drop, List.getElem?_cons_zero, List.getElem?_cons_succ, Go.IntWalk.iteOmega, Go.IntWalk.toNatUp, hkl, gk, gj, hjl, wk, tmV, hd, h1, eq_true h2, h3]
          refine IWp.run [0, 1, 6, 7, 8] ?_
          simp [go_sem, -getElem?_pos, -List.map_take, -List.map_drop, List.getElem?_cons_zero, List.getElem?_cons_succ, Go.IntWalk.iteOmega, Go.IntWalk.toNatUp, hkl, gk, gj, hjl, wk, tmV, hd, h1, eq_true h2, h3]
          exact ⟨L.length - (k + 1), by omega, k + 1, rfl, by omega, j, hkk (.inr ⟨j, rfl, _, hp, by unfold pLt; simp [h2, h3]⟩), rfl, by omega⟩
      · skip
        refine IWp.seq ?_
        refine IWp.seq ?_
        refine IWp.run [0, 1, 6, 7, 8, 12] ?_
        simp [go_sem, -getElem?_pos, -List.map_take, -List.map_drop, List.getElem?_cons_zero, List.getElem?_cons_succ, Go.IntWalk.iteOmega, Go.IntWalk.toNatUp, hkl, gk, gj, hjl, wk, tmV, hd, h1, h2]
        refine IWp.cond ?_
        simp [go_sem, -getElem?_pos, -List.map_take, -List.map_drop, List.getElem?_cons_zero, List.getElem?_cons_succ, Go.IntWalk.iteOmega, Go.IntWalk.toNatUp, hkl, gk, gj, hjl, wk, tmV, hd, h1, h2]
        refine IWp.trim [0, 1, 6, 7, 8] (IWp.skip ?_)
        simp [go_sem, -getElem?_pos, -List.map_take, -List.map_drop, List.getElem?_cons_zero, List.getElem?_cons_succ, Go.IntWalk.iteOmega, Go.IntWalk.toNatUp, hkl, gk, gj, hjl, wk, tmV, hd, h1, h2]
        refine IWp.seq ?_
        refine IWp.block ?_
        refine IWp.seq ?_
        refine IWp.read [0, 1, 6, 7, 8, 64] follows (by kernel_rfl) ?_
        simp [go_sem, -getElem?_pos, -List.map_take, -List.map_drop, List.getElem?_cons_zero, List.getElem?_cons_succ, Go.IntWalk.iteOmega, Go.IntWalk.toNatUp, hkl, gk, gj, hjl, wk, tmV, hd, h1, h2]
        refine IWp.cond ?_
        simp [go_sem, -getElem?_pos, -List.map_take, -List.map_drop, List.getElem?_cons_zero, List.getElem?_cons_succ, Go.IntWalk.iteOmega, Go.IntWalk.toNatUp, hkl, gk, gj, hjl, wk, tmV, hd, h1, h2]
        refine IWp.trim [0, 1, 6, 7, 8] (IWp.skip ?_)
        simp [go_sem, -getElem?_pos, -List.map_take, -List.map_drop, List.getElem?_cons_zero, List.getElem?_cons_succ, Go.IntWalk.iteOmega, Go.IntWalk.toNatUp, hkl, gk, gj, hjl, wk, tmV, hd, h1, h2]
        refine IWp.run [0, 1, 6, 7, 8] ?_
        simp [go_sem, -getElem?_pos, -List.map_take, -List.map_drop, List.getElem?_cons_zero, List.getElem?_cons_succ, Go.IntWalk.iteOmega, Go.IntWalk.toNatUp, hkl, gk, gj, hjl, wk, tmV, hd, h1, h2]
        exact ⟨L.length - (k + 1), by omega, k + 1, rfl, by omega, j, hkk (.inr ⟨j, rfl, _, hp, by unfold pLt; simp [h1, h2]⟩), rfl, by omega⟩

end Go.Proofs.Ytdimnoeldnfikaa.I
