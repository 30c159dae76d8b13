/- Frames: they are told as they were made; what was fed may be written over. No condition. -/
import Derived.Test.YtgmpjbifbnaijaaLFrameC
namespace Go.Proofs.Ytgmpjbifbnaijaa.I
open Go Go.RowKit
set_option linter.unusedVariables false
set_option linter.unusedSimpArgs false

set_option maxHeartbeats 1000000 in
theorem frameThere_law (H : Heap) (l : List Part) (hw : ∀ x ∈ l, x.wf) :
    IBody Try.prog 3 [frow 4 0 (l.map Part.val)] H fun v _ => v = .bool true := by
  by_cases hl : l.length ≤ 12
  case neg =>
    refine IBody.of Try.func3 rfl (by rw [Try.ntmps3]; simp) ?_
    rw [Try.ntmps3]
    refine IWp.seq ?_
    refine IWp.run [0] ?_
    simp [go_sem, -getElem?_pos, -List.map_take, -List.map_drop, List.getElem?_cons_zero, List.getElem?_cons_succ, Go.IntWalk.iteOmega, Go.IntWalk.toNatUp, hl]
    refine IWp.seq ?_
    refine IWp.seq ?_
    refine IWp.run [0, 15] ?_
    simp [go_sem, -getElem?_pos, -List.map_take, -List.map_drop, List.getElem?_cons_zero, List.getElem?_cons_succ, Go.IntWalk.iteOmega, Go.IntWalk.toNatUp, hl]
    refine ICalls.then (told _) ?_
    try simp [go_sem, -getElem?_pos, -List.map_take, -List.map_drop, List.getElem?_cons_zero, List.getElem?_cons_succ, Go.IntWalk.iteOmega, Go.IntWalk.toNatUp, hl]
    refine ICalls.then (few _ 0 l) ?_
    try simp [go_sem, -getElem?_pos, -List.map_take, -List.map_drop, List.getElem?_cons_zero, List.getElem?_cons_succ, Go.IntWalk.iteOmega, Go.IntWalk.toNatUp, hl]
    refine IWp.cond ?_
    simp [go_sem, -getElem?_pos, -List.map_take, -List.map_drop, List.getElem?_cons_zero, List.getElem?_cons_succ, Go.IntWalk.iteOmega, Go.IntWalk.toNatUp, hl]
    refine IWp.seq ?_
    refine IWp.run [2] ?_
    simp [go_sem, -getElem?_pos, -List.map_take, -List.map_drop, List.getElem?_cons_zero, List.getElem?_cons_succ, Go.IntWalk.iteOmega, Go.IntWalk.toNatUp, hl]
    refine ICalls.then (told _) ?_
    try simp [go_sem, -getElem?_pos, -List.map_take, -List.map_drop, List.getElem?_cons_zero, List.getElem?_cons_succ, Go.IntWalk.iteOmega, Go.IntWalk.toNatUp, hl]
    refine IWp.ret ?_
    simp [go_sem, -getElem?_pos, -List.map_take, -List.map_drop, List.getElem?_cons_zero, List.getElem?_cons_succ, Go.IntWalk.iteOmega, Go.IntWalk.toNatUp, hl, Try.results3]
  refine IBody.of Try.func3 rfl (by rw [Try.ntmps3]; simp) ?_
  rw [Try.ntmps3]
  refine IWp.seq ?_
  refine IWp.run [0] ?_
  simp [go_sem, -getElem?_pos, -List.map_take, -List.map_drop, List.getElem?_cons_zero, List.getElem?_cons_succ, Go.IntWalk.iteOmega, Go.IntWalk.toNatUp, hl]
  refine IWp.seq ?_
  refine IWp.seq ?_
  refine IWp.run [0, 15] ?_
  simp [go_sem, -getElem?_pos, -List.map_take, -List.map_drop, List.getElem?_cons_zero, List.getElem?_cons_succ, Go.IntWalk.iteOmega, Go.IntWalk.toNatUp, hl]
  refine ICalls.then (told _) ?_
  try simp [go_sem, -getElem?_pos, -List.map_take, -List.map_drop, List.getElem?_cons_zero, List.getElem?_cons_succ, Go.IntWalk.iteOmega, Go.IntWalk.toNatUp, hl]
  refine ICalls.then (few _ 0 l) ?_
  try simp [go_sem, -getElem?_pos, -List.map_take, -List.map_drop, List.getElem?_cons_zero, List.getElem?_cons_succ, Go.IntWalk.iteOmega, Go.IntWalk.toNatUp, hl]
  refine IWp.cond ?_
  simp [go_sem, -getElem?_pos, -List.map_take, -List.map_drop, List.getElem?_cons_zero, List.getElem?_cons_succ, Go.IntWalk.iteOmega, Go.IntWalk.toNatUp, hl]
  refine IWp.trim [0] (IWp.skip ?_)
  simp [go_sem, -getElem?_pos, -List.map_take, -List.map_drop, List.getElem?_cons_zero, List.getElem?_cons_succ, Go.IntWalk.iteOmega, Go.IntWalk.toNatUp, hl]
  refine IWp.seq ?_
  refine IWp.run [0, 3] ?_
  simp [go_sem, -getElem?_pos, -List.map_take, -List.map_drop, List.getElem?_cons_zero, List.getElem?_cons_succ, Go.IntWalk.iteOmega, Go.IntWalk.toNatUp, hl]
  refine IWp.seq ?_
  refine IWp.run [0, 3, 4] ?_
  simp [go_sem, -getElem?_pos, -List.map_take, -List.map_drop, List.getElem?_cons_zero, List.getElem?_cons_succ, Go.IntWalk.iteOmega, Go.IntWalk.toNatUp, hl]
  refine IWp.seq ?_
  refine IWp.seq ?_
  refine IWp.run [0, 3, 4, 5] ?_
  simp [go_sem, -getElem?_pos, -List.map_take, -List.map_drop, List.getElem?_cons_zero, List.getElem?_cons_succ, Go.IntWalk.iteOmega, Go.IntWalk.toNatUp, hl]
  refine IWp.block ?_
  -- LOOP live [0, 3, 4, 5]
  refine IWp.loop (fun j e K => ∃ (i : Nat) (v w : Value), j = l.length - i ∧ i ≤ l.length ∧ Bld 1 K H.next v (((l.take i).map pieceS).map byts) ∧ Acc w (((l.take i).map pieceS).flatMap frameB) ∧ e = [(0, frow 4 0 (l.map Part.val)), (3, v), (4, w), (5, .int .i64 (i : Int))] ∧ H.next ≤ K.next) l.length ⟨0, .slice none 0 0, .slice none 0 0, rfl, Nat.zero_le _, Bld.nil _ _ _, .inl ⟨rfl, rfl⟩, by simp [go_sem], Nat.le_refl _⟩ ?_
  rintro j e K ⟨i, v, w, rfl, hi, hv, hacc, rfl, hn⟩
  have hfl := flat_len frameB
  by_cases hlt : i < l.length
  · have g : (l.map Part.val)[i]? = some l[i].val := by simp [hlt]
    have hx := hw l[i] (List.getElem_mem hlt)
    have hpn := pieceS_len l[i]
    have hst1 : ((l.take (i + 1)).map pieceS).map byts = ((l.take i).map pieceS).map byts ++ [byts (pieceS l[i])] := by
      rw [List.take_succ_eq_append_getElem hlt, List.map_append, List.map_append]; rfl
    have hst2 : ((l.take (i + 1)).map pieceS).flatMap frameB = ((l.take i).map pieceS).flatMap frameB ++ frameB (pieceS l[i]) := by
      rw [List.take_succ_eq_append_getElem hlt, List.map_append, List.flatMap_append, List.map_cons, List.map_nil, List.flatMap_cons, List.flatMap_nil, List.append_nil]
    have hml : ((l.take i).map pieceS).length = i := by rw [List.length_map, List.length_take]; omega
    have hal : (((l.take i).map pieceS).flatMap frameB).length ≤ 37 * i := by
      have : ∀ L : List (List Int), (∀ q ∈ L, q.length ≤ 32) → (L.flatMap frameB).length ≤ 37 * L.length := by
        intro L hL
        induction L with
        | nil => simp
        | cons q L ih =>
          have h1 := hL q (by simp)
          have h2 := ih fun x hx => hL x (by simp [hx])
          rw [List.flatMap_cons, List.length_append, frameB_length, List.length_cons]; omega
      have h2 := this ((l.take i).map pieceS) fun q hq => by
        obtain ⟨x, _, rfl⟩ := List.mem_map.1 hq
        exact (pieceS_len x).2
      rw [hml] at h2; exact h2
    generalize l[i] = x at g hx hpn hst1 hst2
    have hpb := pieceS_bs hx
    obtain ⟨hx1, ⟨hx2, hx2l⟩, hx3, hx4⟩ := hx
    obtain ⟨kind, p, at_, turn⟩ := x
    simp only at hx1 hx2 hx2l hx3 hx4
    have w1 := IntWalk.i64_in ((i : Int) + 1) (by omega)
    refine IWp.seq ?_
    refine IWp.seq ?_
    refine IWp.run [0, 3, 4, 5, 20] ?_
    simp [go_sem, -getElem?_pos, -List.map_take, -List.map_drop, List.getElem?_cons_zero, List.getElem?_cons_succ, Go.IntWalk.iteOmega, Go.IntWalk.toNatUp, g, hlt, Part.val, Part.cells]
    refine IWp.cond ?_
    simp [go_sem, -getElem?_pos, -List.map_take, -List.map_drop, List.getElem?_cons_zero, List.getElem?_cons_succ, Go.IntWalk.iteOmega, Go.IntWalk.toNatUp, g, hlt, Part.val, Part.cells]
    refine IWp.trim [0, 3, 4, 5] (IWp.skip ?_)
    simp [go_sem, -getElem?_pos, -List.map_take, -List.map_drop, List.getElem?_cons_zero, List.getElem?_cons_succ, Go.IntWalk.iteOmega, Go.IntWalk.toNatUp, g, hlt, Part.val, Part.cells]
    refine IWp.seq ?_
    refine IWp.block ?_
    refine IWp.seq ?_
    refine IWp.run [0, 3, 4, 5, 6] ?_
    simp [go_sem, -getElem?_pos, -List.map_take, -List.map_drop, List.getElem?_cons_zero, List.getElem?_cons_succ, Go.IntWalk.iteOmega, Go.IntWalk.toNatUp, g, hlt, Part.val, Part.cells]
    -- CUT live [0, 3, 4, 5, 6]
    refine IWp.cut (fun e' H' => H' = K ∧ e' = [(0, frow 4 0 (l.map Part.val)), (3, v), (4, w), (5, .int .i64 (i : Int)), (6, byts (cutP ⟨kind, p, at_, turn⟩))]) ?_ ?_
    · skip
      by_cases hc : 32 < p.length
      · have hcp : cutP ⟨kind, p, at_, turn⟩ = p.take 32 := if_pos (show 32 < p.length from hc)
        rw [hcp]
        refine IWp.seq ?_
        refine IWp.run [0, 3, 4, 5, 6, 30] ?_
        simp [go_sem, -getElem?_pos, -List.map_take, -List.map_drop, List.getElem?_cons_zero, List.getElem?_cons_succ, Go.IntWalk.iteOmega, Go.IntWalk.toNatUp, hc, show (32 : Int) < p.length by omega, show (32 : Int) ≤ p.length by omega]
        refine IWp.cond ?_
        simp [go_sem, -getElem?_pos, -List.map_take, -List.map_drop, List.getElem?_cons_zero, List.getElem?_cons_succ, Go.IntWalk.iteOmega, Go.IntWalk.toNatUp, hc, show (32 : Int) < p.length by omega, show (32 : Int) ≤ p.length by omega]
        refine IWp.run [0, 3, 4, 5, 6] ?_
        simp [go_sem, -getElem?_pos, -List.map_take, -List.map_drop, List.getElem?_cons_zero, List.getElem?_cons_succ, Go.IntWalk.iteOmega, Go.IntWalk.toNatUp, hc, show (32 : Int) < p.length by omega, show (32 : Int) ≤ p.length by omega]
      · have hcp : cutP ⟨kind, p, at_, turn⟩ = p := if_neg (show ¬ 32 < p.length from hc)
        rw [hcp]
        refine IWp.seq ?_
        refine IWp.run [0, 3, 4, 5, 6, 30] ?_
        simp [go_sem, -getElem?_pos, -List.map_take, -List.map_drop, List.getElem?_cons_zero, List.getElem?_cons_succ, Go.IntWalk.iteOmega, Go.IntWalk.toNatUp, hc, show ¬ (32 : Int) < p.length by omega]
        refine IWp.cond ?_
        simp [go_sem, -getElem?_pos, -List.map_take, -List.map_drop, List.getElem?_cons_zero, List.getElem?_cons_succ, Go.IntWalk.iteOmega, Go.IntWalk.toNatUp, hc, show ¬ (32 : Int) < p.length by omega]
        refine IWp.trim [0, 3, 4, 5, 6] (IWp.skip ?_)
        simp [go_sem, -getElem?_pos, -List.map_take, -List.map_drop, List.getElem?_cons_zero, List.getElem?_cons_succ, Go.IntWalk.iteOmega, Go.IntWalk.toNatUp, hc, show ¬ (32 : Int) < p.length by omega]
    rintro e' H' ⟨rfl, rfl⟩
    have hcl : (cutP ⟨kind, p, at_, turn⟩).length ≤ 32 := by unfold cutP; split <;> simp at * <;> omega
    have hpc := pieceS_cut ⟨kind, p, at_, turn⟩
    generalize cutP ⟨kind, p, at_, turn⟩ = c at hcl hpc
    generalize hps : pieceS ⟨kind, p, at_, turn⟩ = ps at *
    -- CUT live [0, 3, 4, 5, 6]
    refine IWp.cut (fun e' H2 => ∃ v6, Frz H2 (fun j => decide (H'.next ≤ j)) v6 (byts ps) ∧ (∀ j, j < H'.next → H2.get j = H'.get j) ∧ H'.next ≤ H2.next ∧ e' = [(0, frow 4 0 (l.map Part.val)), (3, v), (4, w), (5, .int .i64 (i : Int)), (6, v6)]) ?_ ?_
    · skip
      by_cases hc : c.length = 0
      · have hcn : c = [] := List.length_eq_zero_iff.1 hc
        rw [if_pos hc] at hpc
        subst hpc hcn
        refine IWp.seq ?_
        refine IWp.run [0, 3, 4, 5, 6, 35] ?_
        simp [go_sem, -getElem?_pos, -List.map_take, -List.map_drop, List.getElem?_cons_zero, List.getElem?_cons_succ, Go.IntWalk.iteOmega, Go.IntWalk.toNatUp, g, hlt, get_alloc, Part.val, Part.cells]
        refine IWp.cond ?_
        simp [go_sem, -getElem?_pos, -List.map_take, -List.map_drop, List.getElem?_cons_zero, List.getElem?_cons_succ, Go.IntWalk.iteOmega, Go.IntWalk.toNatUp, g, hlt, get_alloc, Part.val, Part.cells]
        refine IWp.run [0, 3, 4, 5, 6] ?_
        simp [go_sem, -getElem?_pos, -List.map_take, -List.map_drop, List.getElem?_cons_zero, List.getElem?_cons_succ, Go.IntWalk.iteOmega, Go.IntWalk.toNatUp, g, hlt, get_alloc, Part.val, Part.cells]
        exact ⟨frz_lit ([turn].map (Value.int .u8)) (by simp [go_sem]) rfl (map_sz .u8 _) rfl (by simp), fun j hj e => by omega⟩
      · rw [if_neg hc] at hpc
        subst hpc
        have hcn : ¬ ps = [] := fun e => hc (by rw [e]; rfl)
        refine IWp.seq ?_
        refine IWp.run [0, 3, 4, 5, 6, 35] ?_
        simp [go_sem, -getElem?_pos, -List.map_take, -List.map_drop, List.getElem?_cons_zero, List.getElem?_cons_succ, Go.IntWalk.iteOmega, Go.IntWalk.toNatUp, hc, hcn, show ¬ (ps.length : Int) = 0 by omega]
        refine IWp.cond ?_
        simp [go_sem, -getElem?_pos, -List.map_take, -List.map_drop, List.getElem?_cons_zero, List.getElem?_cons_succ, Go.IntWalk.iteOmega, Go.IntWalk.toNatUp, hc, hcn, show ¬ (ps.length : Int) = 0 by omega]
        refine IWp.trim [0, 3, 4, 5, 6] (IWp.skip ?_)
        simp [go_sem, -getElem?_pos, -List.map_take, -List.map_drop, List.getElem?_cons_zero, List.getElem?_cons_succ, Go.IntWalk.iteOmega, Go.IntWalk.toNatUp, hc, hcn, show ¬ (ps.length : Int) = 0 by omega]
    rintro e' H2 ⟨v6, hf6, hg5, hn2, rfl⟩
    refine IWp.freezeE (fun j => decide (H'.next ≤ j)) (.cons (.same _) (.cons (.same _) (.cons (.same _) (.cons (.same _) (.cons hf6 .nil))))) ?_
    have hv2 : Bld 1 (H2.only fun b => !decide (H'.next ≤ b)) H.next v (((l.take i).map pieceS).map byts) := hv.same fun b k _ hk => by
      have hb := Heap.lt_of_get hk
      show (if (!decide (H'.next ≤ b)) = true then H2.get b else none) = _
      rw [if_pos (by simp; omega), hg5 b hb, hk]
    have hn3 : H.next ≤ (H2.only fun b => !decide (H'.next ≤ b)).next := Nat.le_trans hn hn2
    generalize (H2.only fun b => !decide (H'.next ≤ b)) = H3 at hv2 hn3
    have hj : ∀ K, ICalls Try.prog 14 [w, byts (frameB ps)] K fun v H' => v = byts ((((l.take i).map pieceS).flatMap frameB) ++ frameB ps) ∧ H' = K := fun K => ICalls.as (.cons (hacc.frz _ _) (.cons (.same _) .nil)) (join K 0 0 _ (frameB ps) (by omega) (by rw [frameB_length]; omega))
    have hFl := frameB_length ps
    obtain ⟨v', K3, e3, b3, s3, n3, _⟩ := app_one (P := Try.prog) (t := 25) (e := 26) (sz := 1) (by_ := 24) (z := .slice none 0 0) (by kernel_rfl) (by kernel_rfl) (by kernel_rfl) (by kernel_rfl) rfl (byts ps) [byts ps] hv2 rfl rfl (by simp [one0, byts, frow]) hn3 (by rw [List.length_map, hml]; omega) (by rw [List.length_map, hml]; omega)
    refine IWp.seq ?_
    refine IWp.run [0, 3, 4, 5, 6, 7] ?_
    simp [go_sem, -getElem?_pos, -List.map_take, -List.map_drop, List.getElem?_cons_zero, List.getElem?_cons_succ, Go.IntWalk.iteOmega, Go.IntWalk.toNatUp, w1, e3]
    refine ICalls.then (frame _ 0 ps (by omega) hpb) ?_
    try simp [go_sem, -getElem?_pos, -List.map_take, -List.map_drop, List.getElem?_cons_zero, List.getElem?_cons_succ, Go.IntWalk.iteOmega, Go.IntWalk.toNatUp, w1, e3]
    refine IWp.seq ?_
    refine IWp.seq ?_
    refine IWp.run [0, 3, 4, 5, 6, 7, 48] ?_
    simp [go_sem, -getElem?_pos, -List.map_take, -List.map_drop, List.getElem?_cons_zero, List.getElem?_cons_succ, Go.IntWalk.iteOmega, Go.IntWalk.toNatUp, w1, e3]
    refine ICalls.then (refFrame _ 0 ps (by omega) hpb) ?_
    try simp [go_sem, -getElem?_pos, -List.map_take, -List.map_drop, List.getElem?_cons_zero, List.getElem?_cons_succ, Go.IntWalk.iteOmega, Go.IntWalk.toNatUp, w1, e3]
    refine ICalls.then (refBytes _ 0 0 (frameB ps) (frameB ps) (by omega)) ?_
    try simp [go_sem, -getElem?_pos, -List.map_take, -List.map_drop, List.getElem?_cons_zero, List.getElem?_cons_succ, Go.IntWalk.iteOmega, Go.IntWalk.toNatUp, w1, e3]
    refine IWp.cond ?_
    simp [go_sem, -getElem?_pos, -List.map_take, -List.map_drop, List.getElem?_cons_zero, List.getElem?_cons_succ, Go.IntWalk.iteOmega, Go.IntWalk.toNatUp, w1, e3]
    refine IWp.trim [0, 3, 4, 5, 6, 7] (IWp.skip ?_)
    simp [go_sem, -getElem?_pos, -List.map_take, -List.map_drop, List.getElem?_cons_zero, List.getElem?_cons_succ, Go.IntWalk.iteOmega, Go.IntWalk.toNatUp, w1, e3]
    refine IWp.seq ?_
    refine IWp.run [0, 3, 4, 5, 7] ?_
    simp [go_sem, -getElem?_pos, -List.map_take, -List.map_drop, List.getElem?_cons_zero, List.getElem?_cons_succ, Go.IntWalk.iteOmega, Go.IntWalk.toNatUp, w1, e3]
    refine IWp.run [0, 3, 4, 5] ?_
    simp [go_sem, -getElem?_pos, -List.map_take, -List.map_drop, List.getElem?_cons_zero, List.getElem?_cons_succ, Go.IntWalk.iteOmega, Go.IntWalk.toNatUp, w1, e3]
    refine ICalls.then (hj _) ?_
    try simp [go_sem, -getElem?_pos, -List.map_take, -List.map_drop, List.getElem?_cons_zero, List.getElem?_cons_succ, Go.IntWalk.iteOmega, Go.IntWalk.toNatUp, w1, e3]
    refine IWp.run [0, 3, 4, 5] ?_
    simp [go_sem, -getElem?_pos, -List.map_take, -List.map_drop, List.getElem?_cons_zero, List.getElem?_cons_succ, Go.IntWalk.iteOmega, Go.IntWalk.toNatUp, w1, e3]
    exact ⟨l.length - (i + 1), by omega, i + 1, rfl, by omega, v', by rw [← List.map_map, hst1]; exact b3, _, .inr (by rw [hst2, byts, List.map_append]), ⟨rfl, rfl, by omega⟩, by omega⟩
  · have ht : l.take i = l := List.take_of_length_le (by omega)
    rw [ht] at hv hacc
    have hml : ∀ q ∈ l.map pieceS, 1 ≤ q.length ∧ q.length ≤ 32 := fun q hq => by
      obtain ⟨x, _, rfl⟩ := List.mem_map.1 hq
      exact pieceS_len x
    have hsc := scanS_frames (l.map pieceS) hml
    have hB : Bs ((l.map pieceS).flatMap frameB) := fun y hy => by
      obtain ⟨q, hq, hy⟩ := List.mem_flatMap.1 hy
      obtain ⟨x, hx, rfl⟩ := List.mem_map.1 hq
      exact frameB_bs (pieceS_bs (hw x hx)) (by have := pieceS_len x; omega) y hy
    have hL : ((l.map pieceS).flatMap frameB).length ≤ 40000 := by
      have := (scanS_count ((l.map pieceS).flatMap frameB)).1
      rw [hsc] at this
      have h2 : ∀ L : List (List Int), (∀ q ∈ L, 1 ≤ q.length ∧ q.length ≤ 32) → (L.map fun f => f.length + 5).sum ≤ 37 * L.length := by
        intro L hL
        induction L with
        | nil => simp
        | cons q L ih =>
          have h1 := hL q (by simp)
          have h2 := ih fun x hx => hL x (by simp [hx])
          rw [List.map_cons, List.sum_cons, List.length_cons]; omega
      have h3 := h2 _ hml
      rw [List.length_map] at h3
      simp only [List.length_nil] at this
      omega
    have hss : ∀ x ∈ l.map pieceS, x.length ≤ 1000000 := fun x hx => by have := hml x hx; omega
    have hfd := fun K b r (h : ScAt K b r [] 0) => feed0 K b r _ 0 h hL hB
    rw [hsc] at hfd
    have hsm := fun K => same K 0 0 (l.map pieceS) (l.map pieceS) (by simp; omega) hss
    refine IWp.freezeE (fun _ => true) (.cons (.same _) (.cons hv.frz (.cons (hacc.frz _ _) (.cons (.same _) .nil)))) ?_
    generalize l.map pieceS = L at *
    generalize L.flatMap frameB = S at *
    refine IWp.seq ?_
    refine IWp.seq ?_
    refine IWp.run [0, 3, 4, 5, 20] ?_
    simp [go_sem, -getElem?_pos, -List.map_take, -List.map_drop, List.getElem?_cons_zero, List.getElem?_cons_succ, Go.IntWalk.iteOmega, Go.IntWalk.toNatUp, hlt]
    refine IWp.cond ?_
    simp [go_sem, -getElem?_pos, -List.map_take, -List.map_drop, List.getElem?_cons_zero, List.getElem?_cons_succ, Go.IntWalk.iteOmega, Go.IntWalk.toNatUp, hlt]
    refine IWp.trim [3, 4] (IWp.exit ?_)
    simp [go_sem, -getElem?_pos, -List.map_take, -List.map_drop, List.getElem?_cons_zero, List.getElem?_cons_succ, Go.IntWalk.iteOmega, Go.IntWalk.toNatUp, hlt]
    refine IWp.seq ?_
    refine IWp.run [3, 4, 8] ?_
    simp [go_sem, -getElem?_pos, -List.map_take, -List.map_drop, List.getElem?_cons_zero, List.getElem?_cons_succ, Go.IntWalk.iteOmega, Go.IntWalk.toNatUp, hlt]
    refine ICalls.mono (scNew _) ?_
    rintro v H1 ⟨rfl, h1, o1⟩
    try simp [go_sem, -getElem?_pos, -List.map_take, -List.map_drop, List.getElem?_cons_zero, List.getElem?_cons_succ, Go.IntWalk.iteOmega, Go.IntWalk.toNatUp, hlt]
    refine IWp.seq ?_
    refine IWp.run [2] ?_
    simp [go_sem, -getElem?_pos, -List.map_take, -List.map_drop, List.getElem?_cons_zero, List.getElem?_cons_succ, Go.IntWalk.iteOmega, Go.IntWalk.toNatUp, hlt]
    refine ICalls.mono (hfd _ _ _ h1) ?_
    rintro v H2 ⟨rfl, r2, h2, s2⟩
    try simp [go_sem, -getElem?_pos, -List.map_take, -List.map_drop, List.getElem?_cons_zero, List.getElem?_cons_succ, Go.IntWalk.iteOmega, Go.IntWalk.toNatUp, hlt]
    refine ICalls.then (hsm _) ?_
    try simp [go_sem, -getElem?_pos, -List.map_take, -List.map_drop, List.getElem?_cons_zero, List.getElem?_cons_succ, Go.IntWalk.iteOmega, Go.IntWalk.toNatUp, hlt]
    refine ICalls.then (scLost _ _ _ _ _ h2) ?_
    try simp [go_sem, -getElem?_pos, -List.map_take, -List.map_drop, List.getElem?_cons_zero, List.getElem?_cons_succ, Go.IntWalk.iteOmega, Go.IntWalk.toNatUp, hlt]
    refine ICalls.then (scHeld _ _ _ _ _ h2) ?_
    try simp [go_sem, -getElem?_pos, -List.map_take, -List.map_drop, List.getElem?_cons_zero, List.getElem?_cons_succ, Go.IntWalk.iteOmega, Go.IntWalk.toNatUp, hlt]
    refine IWp.ret ?_
    simp [go_sem, -getElem?_pos, -List.map_take, -List.map_drop, List.getElem?_cons_zero, List.getElem?_cons_succ, Go.IntWalk.iteOmega, Go.IntWalk.toNatUp, hlt, Try.results3]

set_option maxHeartbeats 1000000 in
theorem frameOwn_law (H : Heap) (q : List Int) (b0 : Int) (hq : Bs q) :
    IBody Try.prog 8 [byts q, .int .u8 b0] H fun v _ => v = .bool true := by
  by_cases hq0 : q = []
  · subst hq0
    refine IBody.of Try.func8 rfl (by rw [Try.ntmps8]; simp) ?_
    rw [Try.ntmps8]
    refine IWp.seq ?_
    refine IWp.run [0, 1] ?_
    simp [go_sem, -getElem?_pos, -List.map_take, -List.map_drop, List.getElem?_cons_zero, List.getElem?_cons_succ, Go.IntWalk.iteOmega, Go.IntWalk.toNatUp]
    refine IWp.seq ?_
    refine IWp.seq ?_
    refine IWp.run [0, 1, 24] ?_
    simp [go_sem, -getElem?_pos, -List.map_take, -List.map_drop, List.getElem?_cons_zero, List.getElem?_cons_succ, Go.IntWalk.iteOmega, Go.IntWalk.toNatUp]
    refine ICalls.then (told _) ?_
    try simp [go_sem, -getElem?_pos, -List.map_take, -List.map_drop, List.getElem?_cons_zero, List.getElem?_cons_succ, Go.IntWalk.iteOmega, Go.IntWalk.toNatUp]
    refine IWp.cond ?_
    simp [go_sem, -getElem?_pos, -List.map_take, -List.map_drop, List.getElem?_cons_zero, List.getElem?_cons_succ, Go.IntWalk.iteOmega, Go.IntWalk.toNatUp]
    refine IWp.seq ?_
    refine IWp.run [4] ?_
    simp [go_sem, -getElem?_pos, -List.map_take, -List.map_drop, List.getElem?_cons_zero, List.getElem?_cons_succ, Go.IntWalk.iteOmega, Go.IntWalk.toNatUp]
    refine ICalls.then (told _) ?_
    try simp [go_sem, -getElem?_pos, -List.map_take, -List.map_drop, List.getElem?_cons_zero, List.getElem?_cons_succ, Go.IntWalk.iteOmega, Go.IntWalk.toNatUp]
    refine IWp.ret ?_
    simp [go_sem, -getElem?_pos, -List.map_take, -List.map_drop, List.getElem?_cons_zero, List.getElem?_cons_succ, Go.IntWalk.iteOmega, Go.IntWalk.toNatUp, Try.results8]
  have hq1 : 1 ≤ q.length := List.length_pos_iff.2 hq0
  by_cases hq2 : 32 < q.length
  · skip
    refine IBody.of Try.func8 rfl (by rw [Try.ntmps8]; simp) ?_
    rw [Try.ntmps8]
    refine IWp.seq ?_
    refine IWp.run [0, 1] ?_
    simp [go_sem, -getElem?_pos, -List.map_take, -List.map_drop, List.getElem?_cons_zero, List.getElem?_cons_succ, Go.IntWalk.iteOmega, Go.IntWalk.toNatUp, hq0, show (32 : Int) < q.length by omega]
    refine IWp.seq ?_
    refine IWp.seq ?_
    refine IWp.run [0, 1, 24] ?_
    simp [go_sem, -getElem?_pos, -List.map_take, -List.map_drop, List.getElem?_cons_zero, List.getElem?_cons_succ, Go.IntWalk.iteOmega, Go.IntWalk.toNatUp, hq0, show (32 : Int) < q.length by omega]
    refine ICalls.then (told _) ?_
    try simp [go_sem, -getElem?_pos, -List.map_take, -List.map_drop, List.getElem?_cons_zero, List.getElem?_cons_succ, Go.IntWalk.iteOmega, Go.IntWalk.toNatUp, hq0, show (32 : Int) < q.length by omega]
    refine IWp.cond ?_
    simp [go_sem, -getElem?_pos, -List.map_take, -List.map_drop, List.getElem?_cons_zero, List.getElem?_cons_succ, Go.IntWalk.iteOmega, Go.IntWalk.toNatUp, hq0, show (32 : Int) < q.length by omega]
    refine IWp.seq ?_
    refine IWp.run [4] ?_
    simp [go_sem, -getElem?_pos, -List.map_take, -List.map_drop, List.getElem?_cons_zero, List.getElem?_cons_succ, Go.IntWalk.iteOmega, Go.IntWalk.toNatUp, hq0, show (32 : Int) < q.length by omega]
    refine ICalls.then (told _) ?_
    try simp [go_sem, -getElem?_pos, -List.map_take, -List.map_drop, List.getElem?_cons_zero, List.getElem?_cons_succ, Go.IntWalk.iteOmega, Go.IntWalk.toNatUp, hq0, show (32 : Int) < q.length by omega]
    refine IWp.ret ?_
    simp [go_sem, -getElem?_pos, -List.map_take, -List.map_drop, List.getElem?_cons_zero, List.getElem?_cons_succ, Go.IntWalk.iteOmega, Go.IntWalk.toNatUp, hq0, show (32 : Int) < q.length by omega, Try.results8]
  have hF := frameB_bs hq (by omega)
  have hFl := frameB_length q
  have hone := scanS_one q hq1 (by omega)
  have hpart := scanS_part q hq1 (by omega) (q.length + 4) (by omega)
  have hFr := fun K => refFrame K 0 q (by omega) hq
  generalize frameB q = F at *
  have w1 := IntWalk.i64_in ((F.length : Int) - 1) (by omega)
  have w2 : ((F.length : Int) - 1).toNat = q.length + 4 := by omega
  have w3 : F.length - 1 = q.length + 4 := by omega
  have hj := fun K => ICalls.as (H := K) (.cons (.same _) (.cons (.nil 1) .nil)) (join_own K 0 0 (F.take (q.length + 4)) [] (by simp; omega) (by simp))
  rw [List.append_nil] at hj
  refine IBody.of Try.func8 rfl (by rw [Try.ntmps8]; simp) ?_
  rw [Try.ntmps8]
  refine IWp.seq ?_
  refine IWp.run [0, 1] ?_
  simp [go_sem, -getElem?_pos, -List.map_take, -List.map_drop, List.getElem?_cons_zero, List.getElem?_cons_succ, Go.IntWalk.iteOmega, Go.IntWalk.toNatUp, hq0, w1, w2, w3, show ¬ (32 : Int) < q.length by omega, show (0 : Int) ≤ (F.length : Int) - 1 by omega, show (F.length : Int) - 1 ≤ F.length by omega]
  refine IWp.seq ?_
  refine IWp.seq ?_
  refine IWp.run [0, 1, 24] ?_
  simp [go_sem, -getElem?_pos, -List.map_take, -List.map_drop, List.getElem?_cons_zero, List.getElem?_cons_succ, Go.IntWalk.iteOmega, Go.IntWalk.toNatUp, hq0, w1, w2, w3, show ¬ (32 : Int) < q.length by omega, show (0 : Int) ≤ (F.length : Int) - 1 by omega, show (F.length : Int) - 1 ≤ F.length by omega]
  refine ICalls.then (told _) ?_
  try simp [go_sem, -getElem?_pos, -List.map_take, -List.map_drop, List.getElem?_cons_zero, List.getElem?_cons_succ, Go.IntWalk.iteOmega, Go.IntWalk.toNatUp, hq0, w1, w2, w3, show ¬ (32 : Int) < q.length by omega, show (0 : Int) ≤ (F.length : Int) - 1 by omega, show (F.length : Int) - 1 ≤ F.length by omega]
  refine IWp.cond ?_
  simp [go_sem, -getElem?_pos, -List.map_take, -List.map_drop, List.getElem?_cons_zero, List.getElem?_cons_succ, Go.IntWalk.iteOmega, Go.IntWalk.toNatUp, hq0, w1, w2, w3, show ¬ (32 : Int) < q.length by omega, show (0 : Int) ≤ (F.length : Int) - 1 by omega, show (F.length : Int) - 1 ≤ F.length by omega]
  refine IWp.trim [0, 1] (IWp.skip ?_)
  simp [go_sem, -getElem?_pos, -List.map_take, -List.map_drop, List.getElem?_cons_zero, List.getElem?_cons_succ, Go.IntWalk.iteOmega, Go.IntWalk.toNatUp, hq0, w1, w2, w3, show ¬ (32 : Int) < q.length by omega, show (0 : Int) ≤ (F.length : Int) - 1 by omega, show (F.length : Int) - 1 ≤ F.length by omega]
  refine IWp.seq ?_
  refine IWp.run [0, 1, 5] ?_
  simp [go_sem, -getElem?_pos, -List.map_take, -List.map_drop, List.getElem?_cons_zero, List.getElem?_cons_succ, Go.IntWalk.iteOmega, Go.IntWalk.toNatUp, hq0, w1, w2, w3, show ¬ (32 : Int) < q.length by omega, show (0 : Int) ≤ (F.length : Int) - 1 by omega, show (F.length : Int) - 1 ≤ F.length by omega]
  refine ICalls.mono (scNew _) ?_
  rintro v H1 ⟨rfl, h1, o1⟩
  try simp [go_sem, -getElem?_pos, -List.map_take, -List.map_drop, List.getElem?_cons_zero, List.getElem?_cons_succ, Go.IntWalk.iteOmega, Go.IntWalk.toNatUp, hq0, w1, w2, w3, show ¬ (32 : Int) < q.length by omega, show (0 : Int) ≤ (F.length : Int) - 1 by omega, show (F.length : Int) - 1 ≤ F.length by omega]
  refine IWp.seq ?_
  refine IWp.run [0, 1, 5, 6] ?_
  simp [go_sem, -getElem?_pos, -List.map_take, -List.map_drop, List.getElem?_cons_zero, List.getElem?_cons_succ, Go.IntWalk.iteOmega, Go.IntWalk.toNatUp, hq0, w1, w2, w3, show ¬ (32 : Int) < q.length by omega, show (0 : Int) ≤ (F.length : Int) - 1 by omega, show (F.length : Int) - 1 ≤ F.length by omega]
  refine ICalls.then (hFr _) ?_
  try simp [go_sem, -getElem?_pos, -List.map_take, -List.map_drop, List.getElem?_cons_zero, List.getElem?_cons_succ, Go.IntWalk.iteOmega, Go.IntWalk.toNatUp, hq0, w1, w2, w3, show ¬ (32 : Int) < q.length by omega, show (0 : Int) ≤ (F.length : Int) - 1 by omega, show (F.length : Int) - 1 ≤ F.length by omega]
  refine IWp.seq ?_
  refine IWp.run [0, 1, 5, 6, 7] ?_
  simp [go_sem, -getElem?_pos, -List.map_take, -List.map_drop, List.getElem?_cons_zero, List.getElem?_cons_succ, Go.IntWalk.iteOmega, Go.IntWalk.toNatUp, hq0, w1, w2, w3, show ¬ (32 : Int) < q.length by omega, show (0 : Int) ≤ (F.length : Int) - 1 by omega, show (F.length : Int) - 1 ≤ F.length by omega]
  refine ICalls.mono (hj _) ?_
  rintro v H2 ⟨h2, o2⟩
  try simp [go_sem, -getElem?_pos, -List.map_take, -List.map_drop, List.getElem?_cons_zero, List.getElem?_cons_succ, Go.IntWalk.iteOmega, Go.IntWalk.toNatUp, hq0, w1, w2, w3, show ¬ (32 : Int) < q.length by omega, show (0 : Int) ≤ (F.length : Int) - 1 by omega, show (F.length : Int) - 1 ≤ F.length by omega]
  refine IWp.seq ?_
  refine IWp.run [0, 1, 5, 6, 7] ?_
  simp [go_sem, -getElem?_pos, -List.map_take, -List.map_drop, List.getElem?_cons_zero, List.getElem?_cons_succ, Go.IntWalk.iteOmega, Go.IntWalk.toNatUp, hq0, w1, w2, w3, show ¬ (32 : Int) < q.length by omega, show (0 : Int) ≤ (F.length : Int) - 1 by omega, show (F.length : Int) - 1 ≤ F.length by omega]
  -- CALL (call {(value (func 17)), [t35, t36], [32, 26]})
  have hTl : (F.take (q.length + 4)).length = q.length + 4 := by simp; omega
  obtain ⟨_, ⟨rfl, h2⟩ | ⟨hb, hb1, rfl, hb2⟩⟩ := h2
  · have := congrArg List.length h2
    rw [List.length_map, hTl] at this; cases this
  rw [map_flat] at hb2
  rw [List.length_map]
  have h1' : ScAt H2 H.next none [] 0 := h1.same fun j hj => o2.1 j (hj.elim (fun e => e ▸ h1.lt.1) (fun e => by cases e))
  have hbl := h1.lt.1
  have hir := irow_blk (sz := 1) (H := H2) (b := hb) (c := 1) (ws := (F.take (q.length + 4)).map (Value.int .u8)) (own := true) (by rw [hb2, map_flat]) (map_sz .u8 _)
  rw [map_flat, List.length_map] at hir
  have hf := feedF H2 H.next none [] (F.take (q.length + 4)) 0 _ h1' hir (by simp; omega) (by omega) (by simpa using hF.take _)
  rw [List.nil_append, hpart] at hf
  refine ICalls.mono hf ?_
  rintro v H3 ⟨rfl, r3, h3, s3⟩
  have hb3 := s3.get hb (Heap.lt_of_get hb2) (by omega) (by simp)
  rw [hb2] at hb3
  have hr3 : r3 ≠ some hb := by
    rcases s3.row with e | ⟨q', e, hq'⟩
    · rw [e]; simp
    · rw [e]; have := Heap.lt_of_get hb2; intro e2; cases e2; omega
  have hbe : hb ≠ H.next := by omega
  clear hf hir hb1 hb2 s3 h1' o2 h1 o1
  generalize H.next = b at *
  simp only [hTl]
  simp [go_sem]
  refine IWp.seq ?_
  refine IWp.seq ?_
  refine IWp.run [0, 1, 5, 6, 7, 8] ?_
  simp [go_sem, -getElem?_pos, -List.map_take, -List.map_drop, List.getElem?_cons_zero, List.getElem?_cons_succ, Go.IntWalk.iteOmega, Go.IntWalk.toNatUp]
  refine IWp.block ?_
  -- LOOP live [0, 1, 5, 6, 7, 8]
  refine IWp.loop (fun j e K => ∃ (i : Nat) (cs : List Value), j = (q.length + 4) - i ∧ i ≤ q.length + 4 ∧ cs.length = q.length + 4 ∧ K.get hb = some ⟨cs, true⟩ ∧ ScAt K b r3 (F.take (q.length + 4)) 0 ∧ e = [(0, byts q), (1, .int .u8 b0), (5, ptrTo b 0), (6, byts F), (7, .slice (some ⟨hb, 0, some 1⟩) (q.length + 4) 1), (8, .int .i64 (i : Int))]) (q.length + 4) ⟨0, _, rfl, Nat.zero_le _, by rw [List.length_map, hTl], hb3, h3, by simp [go_sem]⟩ ?_
  rintro j e K ⟨i, cs, rfl, hi, hcs, hbK, hsK, rfl⟩
  by_cases hlt : i < q.length + 4
  · have w4 := IntWalk.i64_in ((i : Int) + 1) (by omega)
    refine IWp.seq ?_
    refine IWp.seq ?_
    refine IWp.run [0, 1, 5, 6, 7, 8, 41] ?_
    simp [go_sem, -getElem?_pos, -List.map_take, -List.map_drop, List.getElem?_cons_zero, List.getElem?_cons_succ, Go.IntWalk.iteOmega, Go.IntWalk.toNatUp, hlt, hbK, hcs, w4, show (i : Int) < (q.length : Int) + 4 by omega]
    refine IWp.cond ?_
    simp [go_sem, -getElem?_pos, -List.map_take, -List.map_drop, List.getElem?_cons_zero, List.getElem?_cons_succ, Go.IntWalk.iteOmega, Go.IntWalk.toNatUp, hlt, hbK, hcs, w4, show (i : Int) < (q.length : Int) + 4 by omega]
    refine IWp.trim [0, 1, 5, 6, 7, 8] (IWp.skip ?_)
    simp [go_sem, -getElem?_pos, -List.map_take, -List.map_drop, List.getElem?_cons_zero, List.getElem?_cons_succ, Go.IntWalk.iteOmega, Go.IntWalk.toNatUp, hlt, hbK, hcs, w4, show (i : Int) < (q.length : Int) + 4 by omega]
    refine IWp.seq ?_
    refine IWp.block ?_
    refine IWp.run [0, 1, 5, 6, 7, 8] ?_
    simp [go_sem, -getElem?_pos, -List.map_take, -List.map_drop, List.getElem?_cons_zero, List.getElem?_cons_succ, Go.IntWalk.iteOmega, Go.IntWalk.toNatUp, hlt, hbK, hcs, w4, show (i : Int) < (q.length : Int) + 4 by omega]
    refine IWp.run [0, 1, 5, 6, 7, 8] ?_
    simp [go_sem, -getElem?_pos, -List.map_take, -List.map_drop, List.getElem?_cons_zero, List.getElem?_cons_succ, Go.IntWalk.iteOmega, Go.IntWalk.toNatUp, hlt, hbK, hcs, w4, show (i : Int) < (q.length : Int) + 4 by omega]
    exact ⟨q.length + 4 - (i + 1), by omega, i + 1, rfl, by omega, _, by rw [splice_one _ _ _ (by omega), List.length_set, hcs], rfl, hsK.same fun j hj => by rw [get_set, if_neg]; rintro rfl; exact hj.elim hbe hr3, by omega⟩
  have hi4 : i = q.length + 4 := by omega
  subst hi4
  have hde : F.take (q.length + 4) ++ F.drop (q.length + 4) = F := List.take_append_drop _ _
  have hf := feed K b r3 (F.take (q.length + 4)) (F.drop (q.length + 4)) 0 _ hsK (irow_byts 0 _ _) (by simp; omega) (by omega) (by rw [hde]; exact hF)
  rw [hde, hone] at hf
  have htk : (F.drop (q.length + 4)).take (F.length - (q.length + 4)) = F.drop (q.length + 4) := List.take_of_length_le (by simp)
  refine IWp.seq ?_
  refine IWp.seq ?_
  refine IWp.run [0, 1, 5, 6, 7, 8, 41] ?_
  simp [go_sem, -getElem?_pos, -List.map_take, -List.map_drop, List.getElem?_cons_zero, List.getElem?_cons_succ, Go.IntWalk.iteOmega, Go.IntWalk.toNatUp, w1, w2, w3, htk, show ¬ (q.length : Int) + 4 < (q.length : Int) + 4 by omega, show (F.length : Int) - 1 ≤ F.length by omega, show (0 : Int) ≤ (F.length : Int) - 1 by omega]
  refine IWp.cond ?_
  simp [go_sem, -getElem?_pos, -List.map_take, -List.map_drop, List.getElem?_cons_zero, List.getElem?_cons_succ, Go.IntWalk.iteOmega, Go.IntWalk.toNatUp, w1, w2, w3, htk, show ¬ (q.length : Int) + 4 < (q.length : Int) + 4 by omega, show (F.length : Int) - 1 ≤ F.length by omega, show (0 : Int) ≤ (F.length : Int) - 1 by omega]
  refine IWp.trim [0, 1, 5, 6] (IWp.exit ?_)
  simp [go_sem, -getElem?_pos, -List.map_take, -List.map_drop, List.getElem?_cons_zero, List.getElem?_cons_succ, Go.IntWalk.iteOmega, Go.IntWalk.toNatUp, w1, w2, w3, htk, show ¬ (q.length : Int) + 4 < (q.length : Int) + 4 by omega, show (F.length : Int) - 1 ≤ F.length by omega, show (0 : Int) ≤ (F.length : Int) - 1 by omega]
  refine IWp.seq ?_
  refine IWp.run [0, 1, 5, 6, 9] ?_
  simp [go_sem, -getElem?_pos, -List.map_take, -List.map_drop, List.getElem?_cons_zero, List.getElem?_cons_succ, Go.IntWalk.iteOmega, Go.IntWalk.toNatUp, w1, w2, w3, htk, show ¬ (q.length : Int) + 4 < (q.length : Int) + 4 by omega, show (F.length : Int) - 1 ≤ F.length by omega, show (0 : Int) ≤ (F.length : Int) - 1 by omega]
  refine hf.mono ?_
  rintro v K2 ⟨mid, r4, s4, fo, st, hm1, hm2⟩
  rcases fo with ⟨rfl, h⟩ | ⟨ob, rs, f1, f2, rfl, f4, f5⟩
  · cases h
  cases f5 with
  | cons g1 g2 g3 g4 =>
  cases g4
  rename_i j
  have hoj : ob ≠ j := fun e => by rw [e, g3] at f4; cases q <;> simp at f4
  have hbj : b < K.next := hsK.lt.1
  have hs4 := s4.lt
  have hjr : ∀ k, r4 = some k → k ≠ j ∧ k ≠ ob := fun k hk => by have := hm1 k hk; omega
  simp only [List.length_cons, List.length_nil]
  have hview : ICalls Try.prog 12 [.slice (some ⟨j, 0, some 1⟩) q.length 1, byts q] K2 fun v H' => v = .bool (decide (q = q)) ∧ H' = K2 := by
    refine ICalls.view (.cons (frz_lit (q.map (Value.int .u8)) g3 (map_flat _ _) (map_sz .u8 _) (by simp) rfl) (.cons (.same _) .nil)) (by rw [ClL_cons, cl_ints, ClL_cons, cl_ints, ClL_nil]; exact ⟨trivial, trivial, trivial⟩) ((refBytes Heap.empty 0 0 q q (by omega)).mono ?_)
    rintro v _ ⟨rfl, rfl⟩
    exact ⟨rfl, rfl⟩
  clear htk hde hf
  simp [go_sem, -List.map_take, -List.map_drop, Go.IntWalk.iteOmega]
  refine IWp.seq ?_
  refine IWp.seq ?_
  refine IWp.run [0, 1, 5, 6, 9, 65] ?_
  simp [go_sem, -getElem?_pos, -List.map_take, -List.map_drop, List.getElem?_cons_zero, List.getElem?_cons_succ, Go.IntWalk.iteOmega, Go.IntWalk.toNatUp, f4]
  refine ICalls.then (hview) ?_
  try simp [go_sem, -getElem?_pos, -List.map_take, -List.map_drop, List.getElem?_cons_zero, List.getElem?_cons_succ, Go.IntWalk.iteOmega, Go.IntWalk.toNatUp, f4]
  refine IWp.cond ?_
  simp [go_sem, -getElem?_pos, -List.map_take, -List.map_drop, List.getElem?_cons_zero, List.getElem?_cons_succ, Go.IntWalk.iteOmega, Go.IntWalk.toNatUp, f4]
  refine IWp.trim [0, 1, 5, 6, 9] (IWp.skip ?_)
  simp [go_sem, -getElem?_pos, -List.map_take, -List.map_drop, List.getElem?_cons_zero, List.getElem?_cons_succ, Go.IntWalk.iteOmega, Go.IntWalk.toNatUp, f4]
  refine IWp.seq ?_
  refine IWp.seq ?_
  refine IWp.run [0, 1, 5, 6, 9, 10] ?_
  simp [go_sem, -getElem?_pos, -List.map_take, -List.map_drop, List.getElem?_cons_zero, List.getElem?_cons_succ, Go.IntWalk.iteOmega, Go.IntWalk.toNatUp, f4]
  refine IWp.block ?_
  -- LOOP live [0, 1, 5, 6, 9, 10]
  have w00 := IntWalk.i64_in 0 (by omega)
  refine IWp.loop (fun k e K' => ∃ (i : Nat) (cs : List Value), k = q.length - i ∧ i ≤ q.length ∧ cs.length = q.length ∧ K'.get j = some ⟨cs, true⟩ ∧ K'.get ob = some ⟨[.slice (some ⟨j, 0, some 1⟩) q.length 1], true⟩ ∧ ScAt K' b r4 [] 0 ∧ e = [(0, byts q), (1, .int .u8 b0), (5, ptrTo b 0), (6, byts F), (9, .slice (some ⟨ob, 0, some 1⟩) 1 1), (10, .int .i64 (i : Int))]) q.length ⟨0, _, rfl, Nat.zero_le _, by rw [List.length_map], g3, f4, s4, by simp [go_sem]; try exact w00⟩ ?_
  rintro k e K' ⟨i, cs, rfl, hi, hcs, hjK, hoK, hsK', rfl⟩
  by_cases hlt : i < q.length
  · have w4 := IntWalk.i64_in ((i : Int) + 1) (by omega)
    refine IWp.seq ?_
    refine IWp.seq ?_
    refine IWp.run [0, 1, 5, 6, 9, 10, 71] ?_
    simp [go_sem, -getElem?_pos, -List.map_take, -List.map_drop, List.getElem?_cons_zero, List.getElem?_cons_succ, Go.IntWalk.iteOmega, Go.IntWalk.toNatUp, hlt, hjK, hoK, hcs, w4, show (i : Int) < (q.length : Int) by omega]
    refine IWp.cond ?_
    simp [go_sem, -getElem?_pos, -List.map_take, -List.map_drop, List.getElem?_cons_zero, List.getElem?_cons_succ, Go.IntWalk.iteOmega, Go.IntWalk.toNatUp, hlt, hjK, hoK, hcs, w4, show (i : Int) < (q.length : Int) by omega]
    refine IWp.trim [0, 1, 5, 6, 9, 10] (IWp.skip ?_)
    simp [go_sem, -getElem?_pos, -List.map_take, -List.map_drop, List.getElem?_cons_zero, List.getElem?_cons_succ, Go.IntWalk.iteOmega, Go.IntWalk.toNatUp, hlt, hjK, hoK, hcs, w4, show (i : Int) < (q.length : Int) by omega]
    refine IWp.seq ?_
    refine IWp.block ?_
    refine IWp.run [0, 1, 5, 6, 9, 10] ?_
    simp [go_sem, -getElem?_pos, -List.map_take, -List.map_drop, List.getElem?_cons_zero, List.getElem?_cons_succ, Go.IntWalk.iteOmega, Go.IntWalk.toNatUp, hlt, hjK, hoK, hcs, w4, show (i : Int) < (q.length : Int) by omega]
    refine IWp.run [0, 1, 5, 6, 9, 10] ?_
    simp [go_sem, -getElem?_pos, -List.map_take, -List.map_drop, List.getElem?_cons_zero, List.getElem?_cons_succ, Go.IntWalk.iteOmega, Go.IntWalk.toNatUp, hlt, hjK, hoK, hcs, w4, show (i : Int) < (q.length : Int) by omega]
    exact ⟨q.length - (i + 1), by omega, i + 1, rfl, by omega, _, by rw [splice_one _ _ _ (by omega), List.length_set, hcs], rfl, hsK'.same fun k hk => by rw [get_set, if_neg]; exact hk.elim (fun e => by omega) (fun e => (hjr k e).1), by omega⟩
  have hi4 : i = q.length := by omega
  subst hi4
  have hf2 := feed0 K' b r4 F 0 hsK' (by omega) hF
  rw [hone] at hf2
  refine IWp.seq ?_
  refine IWp.seq ?_
  refine IWp.run [0, 1, 5, 6, 9, 10, 71] ?_
  simp [go_sem, -getElem?_pos, -List.map_take, -List.map_drop, List.getElem?_cons_zero, List.getElem?_cons_succ, Go.IntWalk.iteOmega, Go.IntWalk.toNatUp, w00, hjK, hoK]
  refine IWp.cond ?_
  simp [go_sem, -getElem?_pos, -List.map_take, -List.map_drop, List.getElem?_cons_zero, List.getElem?_cons_succ, Go.IntWalk.iteOmega, Go.IntWalk.toNatUp, w00, hjK, hoK]
  refine IWp.trim [0, 5, 6] (IWp.exit ?_)
  simp [go_sem, -getElem?_pos, -List.map_take, -List.map_drop, List.getElem?_cons_zero, List.getElem?_cons_succ, Go.IntWalk.iteOmega, Go.IntWalk.toNatUp, w00, hjK, hoK]
  refine IWp.seq ?_
  refine IWp.run [0, 6, 11] ?_
  simp [go_sem, -getElem?_pos, -List.map_take, -List.map_drop, List.getElem?_cons_zero, List.getElem?_cons_succ, Go.IntWalk.iteOmega, Go.IntWalk.toNatUp, w00, hjK, hoK]
  refine ICalls.mono (hf2) ?_
  rintro u K3 ⟨rfl, r5, s5, st5⟩
  try simp [go_sem, -getElem?_pos, -List.map_take, -List.map_drop, List.getElem?_cons_zero, List.getElem?_cons_succ, Go.IntWalk.iteOmega, Go.IntWalk.toNatUp, w00, hjK, hoK]
  refine IWp.seq ?_
  refine IWp.run [0, 6, 11, 12] ?_
  simp [go_sem, -getElem?_pos, -List.map_take, -List.map_drop, List.getElem?_cons_zero, List.getElem?_cons_succ, Go.IntWalk.iteOmega, Go.IntWalk.toNatUp, w00, hjK, hoK]
  refine IWp.seq ?_
  refine IWp.run [4] ?_
  simp [go_sem, -getElem?_pos, -List.map_take, -List.map_drop, List.getElem?_cons_zero, List.getElem?_cons_succ, Go.IntWalk.iteOmega, Go.IntWalk.toNatUp, w00, hjK, hoK]
  refine ICalls.then (refBytes _ 0 0 q q (by omega)) ?_
  try simp [go_sem, -getElem?_pos, -List.map_take, -List.map_drop, List.getElem?_cons_zero, List.getElem?_cons_succ, Go.IntWalk.iteOmega, Go.IntWalk.toNatUp, w00, hjK, hoK]
  refine ICalls.then (scNil _ _) ?_
  try simp [go_sem, -getElem?_pos, -List.map_take, -List.map_drop, List.getElem?_cons_zero, List.getElem?_cons_succ, Go.IntWalk.iteOmega, Go.IntWalk.toNatUp, w00, hjK, hoK]
  refine ICalls.then (scNilLost _) ?_
  try simp [go_sem, -getElem?_pos, -List.map_take, -List.map_drop, List.getElem?_cons_zero, List.getElem?_cons_succ, Go.IntWalk.iteOmega, Go.IntWalk.toNatUp, w00, hjK, hoK]
  refine ICalls.then (scNilHeld _) ?_
  try simp [go_sem, -getElem?_pos, -List.map_take, -List.map_drop, List.getElem?_cons_zero, List.getElem?_cons_succ, Go.IntWalk.iteOmega, Go.IntWalk.toNatUp, w00, hjK, hoK]
  refine IWp.ret ?_
  simp [go_sem, -getElem?_pos, -List.map_take, -List.map_drop, List.getElem?_cons_zero, List.getElem?_cons_succ, Go.IntWalk.iteOmega, Go.IntWalk.toNatUp, w00, hjK, hoK, Try.results8]

end Go.Proofs.Ytgmpjbifbnaijaa.I
