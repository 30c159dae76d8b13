/- Each timer is due once, and none ahead of its time: the law's body. No condition. -/
import Derived.Test.YtdimnoeldnfikaaLClock
import Derived.Test.YtdimnoeldnfikaaILaw
namespace Go.Proofs.Ytdimnoeldnfikaa.I
open Go Go.RowKit Go.Maps
set_option linter.unusedVariables false
set_option linter.unusedSimpArgs false

/-- The first timers, by their numbers. -/
def numM (T : List Int) (n : Nat) : List (Int × Int) := (List.range n).map fun k : Nat => ((k : Int), T.getD k 0)
theorem numM_len (T : List Int) (n : Nat) : (numM T n).length = n := by simp [numM]
theorem numM_mem {T : List Int} {n : Nat} {p : Int × Int} : p ∈ numM T n ↔ ∃ k : Nat, k < n ∧ p = ((k : Int), T.getD k 0) := by
  unfold numM
  simp only [List.mem_map, List.mem_range]
  exact ⟨fun ⟨k, h, e⟩ => ⟨k, h, e.symm⟩, fun ⟨k, h, e⟩ => ⟨k, h, e.symm⟩⟩
theorem numM_snoc (T : List Int) {n : Nat} (h : n < T.length) : numM T (n + 1) = without (numM T n) n ++ [((n : Int), T[n])] := by
  have e : without (numM T n) n = numM T n := by
    unfold without
    rw [List.filter_eq_self]
    intro p hp
    obtain ⟨k, hk, rfl⟩ := numM_mem.mp hp
    simp; omega
  rw [e]
  unfold numM
  rw [List.range_succ, List.map_append, List.map_singleton, List.getD_eq_getElem?_getD, List.getElem?_eq_getElem h]; rfl
/-- How many are due. -/
def lateN (T : List Int) (now : Int) (n : Nat) : Nat := ((numM T n).filter fun p => decide (p.2 ≤ now)).length
theorem lateN_snoc (T : List Int) (now : Int) {n : Nat} (h : n < T.length) : lateN T now (n + 1) = lateN T now n + if T[n] ≤ now then 1 else 0 := by
  unfold lateN
  have : numM T (n + 1) = numM T n ++ [((n : Int), T[n])] := by
    unfold numM
    rw [List.range_succ, List.map_append, List.map_singleton, List.getD_eq_getElem?_getD, List.getElem?_eq_getElem h]; rfl
  rw [this, List.filter_append, List.length_append]
  by_cases c : T[n] ≤ now <;> simp [c]
theorem lateN_le (T : List Int) (now : Int) (n : Nat) : lateN T now n ≤ n := by
  unfold lateN
  exact Nat.le_trans (List.length_filter_le _ _) (by rw [numM_len]; exact Nat.le_refl _)

theorem due_count {D : Dat} {m : List (Int × Int)} {now : Int} {ks : List Int} (hl : Like D m) (h : DueL D now ks) : ks.length = (m.filter fun p => decide (p.2 ≤ now)).length := by
  have hp : ks.Perm ((m.filter fun p => decide (p.2 ≤ now)).map (·.1)) := by
    refine (List.perm_ext_iff_of_nodup h.nd ((List.filter_sublist.map _).nodup hl.nd)).mpr fun x => ?_
    rw [h.mem]
    simp only [List.mem_map, List.mem_filter]
    constructor
    · rintro ⟨h1, h2⟩
      obtain ⟨p, hp, rfl⟩ := List.mem_map.mp ((hl.has x).mp h1)
      rw [hl.at_ p hp] at h2
      exact ⟨p, ⟨hp, by simpa using h2⟩, rfl⟩
    · rintro ⟨p, ⟨hp, h2⟩, rfl⟩
      exact ⟨(hl.has _).mpr (List.mem_map.mpr ⟨p, hp, rfl⟩), by rw [hl.at_ p hp]; simpa using h2⟩
  rw [hp.length_eq, List.length_map]
theorem withoutL_len : ∀ (ks : List Int) (m : List (Int × Int)), (m.map (·.1)).Nodup → ks.Nodup → (∀ x ∈ ks, x ∈ m.map (·.1)) → (withoutL m ks).length + ks.length = m.length := by
  unfold withoutL
  intro ks
  induction ks with
  | nil => intro m _ _ _; simp
  | cons x ks ih =>
    intro m hm hk hs
    rw [List.foldl_cons]
    rw [List.nodup_cons] at hk
    have h1 := without_len m x hm
    rw [if_pos (hs x (by simp))] at h1
    have := ih (without m x) (without_nd x hm) hk.2 (fun y hy => (without_ids m x y).mpr ⟨hs y (by simp [hy]), fun e => hk.1 (e ▸ hy)⟩)
    simp only [List.length_cons]
    omega
theorem due_again {D : Dat} {now : Int} {ks ls : List Int} {m : List (Int × Int)} (hl : Like D m) (h : DueL D now ks) (h2 : DueL (delL D ks) now ls) : ls = [] := by
  cases ls with
  | nil => rfl
  | cons x l =>
    exfalso
    have hd := hl.delL ks
    obtain ⟨h3, h4⟩ := (h2.mem x).mp (by simp)
    obtain ⟨p, hp, rfl⟩ := List.mem_map.mp ((hd.has x).mp h3)
    have h5 := (withoutL_ids ks m p.1).mp (List.mem_map.mpr ⟨p, hp, rfl⟩)
    rw [hd.at_ p hp] at h4
    have hpm : p ∈ m := by
      obtain ⟨q, hq, e⟩ := List.mem_map.mp h5.1
      have : ∀ (ks : List Int) (m : List (Int × Int)), p ∈ withoutL m ks → p ∈ m := by
        unfold withoutL
        intro ks
        induction ks with
        | nil => intro m h; exact h
        | cons x ks ih => intro m h; exact (without_mem (ih _ h)).1
      exact this ks m hp
    exact h5.2 ((h.mem p.1).mpr ⟨(hl.has _).mpr h5.1, by rw [hl.at_ p hpm]; exact h4⟩)

set_option maxRecDepth 100000 in
set_option maxHeartbeats 8000000 in
theorem clockOnce_law (H : Heap) (T : List Int) (now : Int) (hT : H.tab = none) (hw : ∀ x ∈ T, In64 x) (w1 : In64 now) : IBody Try.prog 3 [frow 1 0 (T.map (Value.int .i64)), .int .i64 now] H fun v _ => v = .bool true := by
  by_cases hl : 60 < T.length
  · skip
    refine IBody.of Try.func3 rfl (by rw [Try.ntmps3]; simp) ?_
    rw [Try.ntmps3]
    refine IWp.seq ?_
    refine IWp.run [0, 1] ?_
    simp [go_sem, -getElem?_pos, -List.map_take, -List.map_drop, List.getElem?_cons_zero, List.getElem?_cons_succ, Go.IntWalk.iteOmega, Go.IntWalk.toNatUp, hl]
    refine IWp.seq ?_
    refine IWp.seq ?_
    refine IWp.run [0, 1, 16] ?_
    simp [go_sem, -getElem?_pos, -List.map_take, -List.map_drop, List.getElem?_cons_zero, List.getElem?_cons_succ, Go.IntWalk.iteOmega, Go.IntWalk.toNatUp, hl]
    refine ICalls.then (duesC _) ?_
    try simp [go_sem, -getElem?_pos, -List.map_take, -List.map_drop, List.getElem?_cons_zero, List.getElem?_cons_succ, Go.IntWalk.iteOmega, Go.IntWalk.toNatUp, hl]
    refine IWp.cond ?_
    simp [go_sem, -getElem?_pos, -List.map_take, -List.map_drop, List.getElem?_cons_zero, List.getElem?_cons_succ, Go.IntWalk.iteOmega, Go.IntWalk.toNatUp, hl]
    refine IWp.seq ?_
    refine IWp.run [4] ?_
    simp [go_sem, -getElem?_pos, -List.map_take, -List.map_drop, List.getElem?_cons_zero, List.getElem?_cons_succ, Go.IntWalk.iteOmega, Go.IntWalk.toNatUp, hl]
    refine ICalls.then (duesC _) ?_
    try simp [go_sem, -getElem?_pos, -List.map_take, -List.map_drop, List.getElem?_cons_zero, List.getElem?_cons_succ, Go.IntWalk.iteOmega, Go.IntWalk.toNatUp, hl]
    refine IWp.ret ?_
    simp [go_sem, -getElem?_pos, -List.map_take, -List.map_drop, List.getElem?_cons_zero, List.getElem?_cons_succ, Go.IntWalk.iteOmega, Go.IntWalk.toNatUp, hl, Try.results3]
    try rfl
  refine IBody.of Try.func3 rfl (by rw [Try.ntmps3]; simp) ?_
  rw [Try.ntmps3]
  refine IWp.seq ?_
  refine IWp.run [0, 1] ?_
  simp [go_sem, -getElem?_pos, -List.map_take, -List.map_drop, List.getElem?_cons_zero, List.getElem?_cons_succ, Go.IntWalk.iteOmega, Go.IntWalk.toNatUp, hl]
  refine IWp.seq ?_
  refine IWp.seq ?_
  refine IWp.run [0, 1, 16] ?_
  simp [go_sem, -getElem?_pos, -List.map_take, -List.map_drop, List.getElem?_cons_zero, List.getElem?_cons_succ, Go.IntWalk.iteOmega, Go.IntWalk.toNatUp, hl]
  refine ICalls.then (duesC _) ?_
  try simp [go_sem, -getElem?_pos, -List.map_take, -List.map_drop, List.getElem?_cons_zero, List.getElem?_cons_succ, Go.IntWalk.iteOmega, Go.IntWalk.toNatUp, hl]
  refine IWp.cond ?_
  simp [go_sem, -getElem?_pos, -List.map_take, -List.map_drop, List.getElem?_cons_zero, List.getElem?_cons_succ, Go.IntWalk.iteOmega, Go.IntWalk.toNatUp, hl]
  refine IWp.trim [0, 1] (IWp.skip ?_)
  simp [go_sem, -getElem?_pos, -List.map_take, -List.map_drop, List.getElem?_cons_zero, List.getElem?_cons_succ, Go.IntWalk.iteOmega, Go.IntWalk.toNatUp, hl]
  refine IWp.seq ?_
  refine IWp.run [0, 1, 5] ?_
  simp [go_sem, -getElem?_pos, -List.map_take, -List.map_drop, List.getElem?_cons_zero, List.getElem?_cons_succ, Go.IntWalk.iteOmega, Go.IntWalk.toNatUp, hl]
  refine ICalls.mono (newW H hT) ?_
  rintro v K1 ⟨hv, hb1, ht1, hn1, ho1⟩
  subst hv
  try simp [go_sem, -getElem?_pos, -List.map_take, -List.map_drop, List.getElem?_cons_zero, List.getElem?_cons_succ, Go.IntWalk.iteOmega, Go.IntWalk.toNatUp, hl]
  refine IWp.seq ?_
  refine IWp.run [0, 1, 5, 6] ?_
  simp [go_sem, -getElem?_pos, -List.map_take, -List.map_drop, List.getElem?_cons_zero, List.getElem?_cons_succ, Go.IntWalk.iteOmega, Go.IntWalk.toNatUp, hl]
  refine IWp.seq ?_
  refine IWp.seq ?_
  refine IWp.run [0, 1, 5, 6, 7] ?_
  simp [go_sem, -getElem?_pos, -List.map_take, -List.map_drop, List.getElem?_cons_zero, List.getElem?_cons_succ, Go.IntWalk.iteOmega, Go.IntWalk.toNatUp, hl]
  refine IWp.block ?_
  -- LOOP live [0, 1, 5, 6, 7]
  generalize H.next = t at *
  obtain ⟨wb, hwb⟩ : ∃ wb, wb = t + 1 := ⟨_, rfl⟩
  rw [← hwb] at hb1 ⊢
  clear hwb hn1 ho1 hT
  refine IWp.loop (fun q e K => ∃ (i : Nat) (D : Dat), q = T.length - i ∧ i ≤ T.length ∧ K.get wb = some ⟨[.map (some t)], true⟩ ∧ K.tab = some (wTab t i D) ∧ Like D (numM T i) ∧ e = [(0, frow 1 0 (T.map (Value.int .i64))), (1, .int .i64 now), (5, ptrTo wb 0), (6, .int .i64 (lateN T now i : Nat)), (7, .int .i64 (i : Int))]) T.length ⟨0, .map [], rfl, Nat.zero_le _, hb1, ht1, Like.nil, by simp [go_sem, lateN, numM]⟩ ?_
  rintro q e K ⟨i, D, rfl, hi, hb, ht, hlike, rfl⟩
  have wi := IntWalk.i64_in ((i : Int) + 1) (by omega)
  have hla := lateN_le T now i
  by_cases hlt : i < T.length
  · have gi : (T.map (Value.int .i64))[i]? = some (.int .i64 T[i]) := by simp [hlt]
    have hx := hw T[i] (List.getElem_mem hlt)
    have hs := numM_snoc T hlt
    have hlat := lateN_snoc T now hlt
    generalize T[i] = x at *
    have hput := hlike.put (i : Int) x (i64wf ⟨by omega, by omega⟩)
    rw [← hs] at hput
    have wl := IntWalk.i64_in ((lateN T now i : Int) + 1) (by omega)
    by_cases hd : x ≤ now
    · rw [if_pos hd] at hlat
      refine IWp.seq ?_
      refine IWp.seq ?_
      refine IWp.run [0, 1, 5, 6, 7, 22] ?_
      simp [go_sem, -getElem?_pos, -List.map_take, -List.map_drop, List.getElem?_cons_zero, List.getElem?_cons_succ, Go.IntWalk.iteOmega, Go.IntWalk.toNatUp, hlt, gi, wi, wl, hd]
      refine IWp.cond ?_
      simp [go_sem, -getElem?_pos, -List.map_take, -List.map_drop, List.getElem?_cons_zero, List.getElem?_cons_succ, Go.IntWalk.iteOmega, Go.IntWalk.toNatUp, hlt, gi, wi, wl, hd]
      refine IWp.trim [0, 1, 5, 6, 7] (IWp.skip ?_)
      simp [go_sem, -getElem?_pos, -List.map_take, -List.map_drop, List.getElem?_cons_zero, List.getElem?_cons_succ, Go.IntWalk.iteOmega, Go.IntWalk.toNatUp, hlt, gi, wi, wl, hd]
      refine IWp.seq ?_
      refine IWp.block ?_
      refine IWp.seq ?_
      refine IWp.run [0, 1, 5, 6, 7] ?_
      simp [go_sem, -getElem?_pos, -List.map_take, -List.map_drop, List.getElem?_cons_zero, List.getElem?_cons_succ, Go.IntWalk.iteOmega, Go.IntWalk.toNatUp, hlt, gi, wi, wl, hd]
      refine ICalls.mono (setW K wb t i D i x hb ht (by unfold maxLen; omega) (i64wf ⟨by omega, by omega⟩) (i64wf hx)) ?_
      rintro v K2 ⟨hv, hK2⟩
      subst hv; subst hK2
      try simp [go_sem, -getElem?_pos, -List.map_take, -List.map_drop, List.getElem?_cons_zero, List.getElem?_cons_succ, Go.IntWalk.iteOmega, Go.IntWalk.toNatUp, hlt, gi, wi, wl, hd]
      refine IWp.seq ?_
      refine IWp.run [0, 1, 5, 6, 7, 37] ?_
      simp [go_sem, -getElem?_pos, -List.map_take, -List.map_drop, List.getElem?_cons_zero, List.getElem?_cons_succ, Go.IntWalk.iteOmega, Go.IntWalk.toNatUp, hlt, gi, wi, wl, hd]
      refine IWp.cond ?_
      simp [go_sem, -getElem?_pos, -List.map_take, -List.map_drop, List.getElem?_cons_zero, List.getElem?_cons_succ, Go.IntWalk.iteOmega, Go.IntWalk.toNatUp, hlt, gi, wi, wl, hd]
      refine IWp.run [0, 1, 5, 6, 7] ?_
      simp [go_sem, -getElem?_pos, -List.map_take, -List.map_drop, List.getElem?_cons_zero, List.getElem?_cons_succ, Go.IntWalk.iteOmega, Go.IntWalk.toNatUp, hlt, gi, wi, wl, hd]
      refine IWp.run [0, 1, 5, 6, 7] ?_
      simp [go_sem, -getElem?_pos, -List.map_take, -List.map_drop, List.getElem?_cons_zero, List.getElem?_cons_succ, Go.IntWalk.iteOmega, Go.IntWalk.toNatUp, hlt, gi, wi, wl, hd]
      exact ⟨T.length - (i + 1), by omega, i + 1, rfl, by omega, hb, _, rfl, hput, by rw [hlat]; omega, by omega⟩
    · rw [if_neg hd] at hlat
      refine IWp.seq ?_
      refine IWp.seq ?_
      refine IWp.run [0, 1, 5, 6, 7, 22] ?_
      simp [go_sem, -getElem?_pos, -List.map_take, -List.map_drop, List.getElem?_cons_zero, List.getElem?_cons_succ, Go.IntWalk.iteOmega, Go.IntWalk.toNatUp, hlt, gi, wi, wl, hd]
      refine IWp.cond ?_
      simp [go_sem, -getElem?_pos, -List.map_take, -List.map_drop, List.getElem?_cons_zero, List.getElem?_cons_succ, Go.IntWalk.iteOmega, Go.IntWalk.toNatUp, hlt, gi, wi, wl, hd]
      refine IWp.trim [0, 1, 5, 6, 7] (IWp.skip ?_)
      simp [go_sem, -getElem?_pos, -List.map_take, -List.map_drop, List.getElem?_cons_zero, List.getElem?_cons_succ, Go.IntWalk.iteOmega, Go.IntWalk.toNatUp, hlt, gi, wi, wl, hd]
      refine IWp.seq ?_
      refine IWp.block ?_
      refine IWp.seq ?_
      refine IWp.run [0, 1, 5, 6, 7] ?_
      simp [go_sem, -getElem?_pos, -List.map_take, -List.map_drop, List.getElem?_cons_zero, List.getElem?_cons_succ, Go.IntWalk.iteOmega, Go.IntWalk.toNatUp, hlt, gi, wi, wl, hd]
      refine ICalls.mono (setW K wb t i D i x hb ht (by unfold maxLen; omega) (i64wf ⟨by omega, by omega⟩) (i64wf hx)) ?_
      rintro v K2 ⟨hv, hK2⟩
      subst hv; subst hK2
      try simp [go_sem, -getElem?_pos, -List.map_take, -List.map_drop, List.getElem?_cons_zero, List.getElem?_cons_succ, Go.IntWalk.iteOmega, Go.IntWalk.toNatUp, hlt, gi, wi, wl, hd]
      refine IWp.seq ?_
      refine IWp.run [0, 1, 5, 6, 7, 37] ?_
      simp [go_sem, -getElem?_pos, -List.map_take, -List.map_drop, List.getElem?_cons_zero, List.getElem?_cons_succ, Go.IntWalk.iteOmega, Go.IntWalk.toNatUp, hlt, gi, wi, wl, hd]
      refine IWp.cond ?_
      simp [go_sem, -getElem?_pos, -List.map_take, -List.map_drop, List.getElem?_cons_zero, List.getElem?_cons_succ, Go.IntWalk.iteOmega, Go.IntWalk.toNatUp, hlt, gi, wi, wl, hd]
      refine IWp.trim [0, 1, 5, 6, 7] (IWp.skip ?_)
      simp [go_sem, -getElem?_pos, -List.map_take, -List.map_drop, List.getElem?_cons_zero, List.getElem?_cons_succ, Go.IntWalk.iteOmega, Go.IntWalk.toNatUp, hlt, gi, wi, wl, hd]
      refine IWp.run [0, 1, 5, 6, 7] ?_
      simp [go_sem, -getElem?_pos, -List.map_take, -List.map_drop, List.getElem?_cons_zero, List.getElem?_cons_succ, Go.IntWalk.iteOmega, Go.IntWalk.toNatUp, hlt, gi, wi, wl, hd]
      exact ⟨T.length - (i + 1), by omega, i + 1, rfl, by omega, hb, _, rfl, hput, by rw [hlat]; omega, by omega⟩
  obtain rfl : i = T.length := by omega
  refine IWp.seq ?_
  refine IWp.seq ?_
  refine IWp.run [0, 1, 5, 6, 7, 22] ?_
  simp [go_sem, -getElem?_pos, -List.map_take, -List.map_drop, List.getElem?_cons_zero, List.getElem?_cons_succ, Go.IntWalk.iteOmega, Go.IntWalk.toNatUp, hlt]
  refine IWp.cond ?_
  simp [go_sem, -getElem?_pos, -List.map_take, -List.map_drop, List.getElem?_cons_zero, List.getElem?_cons_succ, Go.IntWalk.iteOmega, Go.IntWalk.toNatUp, hlt]
  refine IWp.trim [0, 1, 5, 6] (IWp.exit ?_)
  simp [go_sem, -getElem?_pos, -List.map_take, -List.map_drop, List.getElem?_cons_zero, List.getElem?_cons_succ, Go.IntWalk.iteOmega, Go.IntWalk.toNatUp, hlt]
  refine IWp.seq ?_
  refine IWp.run [0, 1, 5, 6, 8] ?_
  simp [go_sem, -getElem?_pos, -List.map_take, -List.map_drop, List.getElem?_cons_zero, List.getElem?_cons_succ, Go.IntWalk.iteOmega, Go.IntWalk.toNatUp, hlt]
  refine ICalls.mono (dueW K wb t T.length D now hb ht (by omega)) ?_
  rintro v K2 ⟨ks, hv, hdue, hkl, hK2⟩
  subst hv; subst hK2
  try simp [go_sem, -getElem?_pos, -List.map_take, -List.map_drop, List.getElem?_cons_zero, List.getElem?_cons_succ, Go.IntWalk.iteOmega, Go.IntWalk.toNatUp, hlt]
  refine IWp.seq ?_
  refine IWp.seq ?_
  refine IWp.run [0, 1, 5, 6, 8, 9] ?_
  simp [go_sem, -getElem?_pos, -List.map_take, -List.map_drop, List.getElem?_cons_zero, List.getElem?_cons_succ, Go.IntWalk.iteOmega, Go.IntWalk.toNatUp, hlt]
  refine IWp.block ?_
  -- LOOP live [0, 1, 5, 6, 8, 9]
  have hcnt := due_count hlike hdue
  have hlen := withoutL_len ks (numM T T.length) hlike.nd hdue.nd (fun x hx => (hlike.has x).mp ((hdue.mem x).mp hx).1)
  rw [numM_len] at hlen
  have hlate : (lateN T now T.length) = ks.length := hcnt.symm
  rw [hlate]
  have hsz := (hlike.delL ks).size
  obtain ⟨K3, hK3⟩ : ∃ K3, K3 = K.setTab (some (wTab t T.length (delL D ks))) := ⟨_, rfl⟩
  have hb3 : K3.get wb = some ⟨[.map (some t)], true⟩ := by rw [hK3]; exact hb
  have ht3 : K3.tab = some (wTab t T.length (delL D ks)) := by rw [hK3]; rfl
  rw [← hK3]
  clear hK3
  -- where a key stands
  have key : ∀ x ∈ ks, ∃ j : Nat, x = j ∧ j < T.length ∧ ∃ a, T[j]? = some a ∧ a ≤ now ∧ atI D x = a := fun x hx => by
    obtain ⟨h1, h2⟩ := (hdue.mem x).mp hx
    obtain ⟨p, hp, rfl⟩ := List.mem_map.mp ((hlike.has x).mp h1)
    obtain ⟨j, hj, rfl⟩ := numM_mem.mp hp
    have ha := hlike.at_ _ hp
    simp only at ha h2 ⊢
    rw [ha] at h2
    have hg : T[j]? = some (T.getD j 0) := by rw [List.getD_eq_getElem?_getD, List.getElem?_eq_getElem hj]; rfl
    exact ⟨j, rfl, hj, _, hg, h2, ha⟩
  refine IWp.loop (fun q e K => ∃ (i : Nat), q = ks.length - i ∧ i ≤ ks.length ∧ K = K3 ∧ e = [(0, frow 1 0 (T.map (Value.int .i64))), (1, .int .i64 now), (5, ptrTo wb 0), (6, .int .i64 (ks.length : Nat)), (8, frow 1 0 (ks.map (Value.int .i64))), (9, .int .i64 (i : Int))]) ks.length ⟨0, rfl, Nat.zero_le _, rfl, by simp [go_sem]⟩ ?_
  rintro q e K' ⟨i, rfl, hi2, rfl, rfl⟩
  have wi2 := IntWalk.i64_in ((i : Int) + 1) (by omega)
  by_cases hik : i < ks.length
  · obtain ⟨j, hj, hjl, a, hga, han, hat⟩ := key ks[i] (List.getElem_mem hik)
    have gk : (ks.map (Value.int .i64))[i]? = some (.int .i64 (j : Int)) := by rw [List.getElem?_map, List.getElem?_eq_getElem hik, hj]; rfl
    have gt : (T.map (Value.int .i64))[j]? = some (.int .i64 a) := by rw [List.getElem?_map, hga]; rfl
    by_cases h0 : i = 0
    · subst h0
      refine IWp.seq ?_
      refine IWp.seq ?_
      refine IWp.run [0, 1, 5, 6, 8, 9, 46] ?_
      simp [go_sem, -getElem?_pos, -List.map_take, -List.map_drop, List.getElem?_cons_zero, List.getElem?_cons_succ, Go.IntWalk.iteOmega, Go.IntWalk.toNatUp, hik, gk, gt, hjl, wi2, show ¬ (j : Int) < 0 by omega, show ¬ (T.length : Int) ≤ j by omega, show ¬ T.length ≤ j by omega, show ¬ now < a by omega, IntWalk.i64_in 1 (by omega)]
      refine IWp.cond ?_
      simp [go_sem, -getElem?_pos, -List.map_take, -List.map_drop, List.getElem?_cons_zero, List.getElem?_cons_succ, Go.IntWalk.iteOmega, Go.IntWalk.toNatUp, hik, gk, gt, hjl, wi2, show ¬ (j : Int) < 0 by omega, show ¬ (T.length : Int) ≤ j by omega, show ¬ T.length ≤ j by omega, show ¬ now < a by omega, IntWalk.i64_in 1 (by omega)]
      refine IWp.trim [0, 1, 5, 6, 8, 9] (IWp.skip ?_)
      simp [go_sem, -getElem?_pos, -List.map_take, -List.map_drop, List.getElem?_cons_zero, List.getElem?_cons_succ, Go.IntWalk.iteOmega, Go.IntWalk.toNatUp, hik, gk, gt, hjl, wi2, show ¬ (j : Int) < 0 by omega, show ¬ (T.length : Int) ≤ j by omega, show ¬ T.length ≤ j by omega, show ¬ now < a by omega, IntWalk.i64_in 1 (by omega)]
      refine IWp.seq ?_
      refine IWp.block ?_
      refine IWp.seq ?_
      refine IWp.read [0, 1, 5, 6, 8, 9, 125] follows (by kernel_rfl) ?_
      simp [go_sem, -getElem?_pos, -List.map_take, -List.map_drop, List.getElem?_cons_zero, List.getElem?_cons_succ, Go.IntWalk.iteOmega, Go.IntWalk.toNatUp, hik, gk, gt, hjl, wi2, show ¬ (j : Int) < 0 by omega, show ¬ (T.length : Int) ≤ j by omega, show ¬ T.length ≤ j by omega, show ¬ now < a by omega, IntWalk.i64_in 1 (by omega)]
      refine IWp.cond ?_
      simp [go_sem, -getElem?_pos, -List.map_take, -List.map_drop, List.getElem?_cons_zero, List.getElem?_cons_succ, Go.IntWalk.iteOmega, Go.IntWalk.toNatUp, hik, gk, gt, hjl, wi2, show ¬ (j : Int) < 0 by omega, show ¬ (T.length : Int) ≤ j by omega, show ¬ T.length ≤ j by omega, show ¬ now < a by omega, IntWalk.i64_in 1 (by omega)]
      refine IWp.trim [0, 1, 5, 6, 8, 9] (IWp.skip ?_)
      simp [go_sem, -getElem?_pos, -List.map_take, -List.map_drop, List.getElem?_cons_zero, List.getElem?_cons_succ, Go.IntWalk.iteOmega, Go.IntWalk.toNatUp, hik, gk, gt, hjl, wi2, show ¬ (j : Int) < 0 by omega, show ¬ (T.length : Int) ≤ j by omega, show ¬ T.length ≤ j by omega, show ¬ now < a by omega, IntWalk.i64_in 1 (by omega)]
      refine IWp.run [0, 1, 5, 6, 8, 9] ?_
      simp [go_sem, -getElem?_pos, -List.map_take, -List.map_drop, List.getElem?_cons_zero, List.getElem?_cons_succ, Go.IntWalk.iteOmega, Go.IntWalk.toNatUp, hik, gk, gt, hjl, wi2, show ¬ (j : Int) < 0 by omega, show ¬ (T.length : Int) ≤ j by omega, show ¬ T.length ≤ j by omega, show ¬ now < a by omega, IntWalk.i64_in 1 (by omega)]
      exact ⟨ks.length - 1, by omega, 1, rfl, by omega, by omega⟩
    · obtain ⟨j', hj', hjl', a', hga', han', hat'⟩ := key ks[i - 1] (List.getElem_mem (by omega))
      have gk' : (ks.map (Value.int .i64))[i - 1]? = some (.int .i64 (j' : Int)) := by rw [List.getElem?_map, List.getElem?_eq_getElem (by omega), hj']; rfl
      have gt' : (T.map (Value.int .i64))[j']? = some (.int .i64 a') := by rw [List.getElem?_map, hga']; rfl
      have wm := IntWalk.i64_in ((i : Int) - 1) (by omega)
      have hm1 : ((i : Int) - 1).toNat = i - 1 := by omega
      have hord : a' < a ∨ (a' = a ∧ j' < j) := by
        have h1 := (List.pairwise_iff_getElem.mp hdue.ord) (i - 1) i (by omega) hik (by omega)
        have h2 : ks[i - 1] ≠ ks[i] := fun e => by
          have := (List.pairwise_iff_getElem.mp hdue.nd) (i - 1) i (by omega) hik (by omega)
          exact this e
        unfold dueLt at h1
        rw [hat, hat', hj, hj'] at h1
        rw [hj, hj'] at h2
        simp only [decide_eq_false_iff_not] at h1
        omega
      by_cases hae : a' = a
      · have hjj : j' < j := by omega
        refine IWp.seq ?_
        refine IWp.seq ?_
        refine IWp.run [0, 1, 5, 6, 8, 9, 46] ?_
        simp [go_sem, -getElem?_pos, -List.map_take, -List.map_drop, List.getElem?_cons_zero, List.getElem?_cons_succ, Go.IntWalk.iteOmega, Go.IntWalk.toNatUp, hik, gk, gt, gk', gt', hjl, hjl', wi2, wm, hm1, show ¬ (j : Int) < 0 by omega, show ¬ (T.length : Int) ≤ j by omega, show ¬ T.length ≤ j by omega, show ¬ now < a by omega, show 0 < i by omega, show ¬ a < a' by omega, eq_true hae, show ¬ (j : Int) ≤ j' by omega, show ¬ j ≤ j' by omega, show i - 1 < ks.length by omega, show ¬ (i : Int) - 1 < 0 by omega, show 0 ≤ (i : Int) - 1 by omega, show (i : Int) - 1 < ks.length by omega]
        refine IWp.cond ?_
        simp [go_sem, -getElem?_pos, -List.map_take, -List.map_drop, List.getElem?_cons_zero, List.getElem?_cons_succ, Go.IntWalk.iteOmega, Go.IntWalk.toNatUp, hik, gk, gt, gk', gt', hjl, hjl', wi2, wm, hm1, show ¬ (j : Int) < 0 by omega, show ¬ (T.length : Int) ≤ j by omega, show ¬ T.length ≤ j by omega, show ¬ now < a by omega, show 0 < i by omega, show ¬ a < a' by omega, eq_true hae, show ¬ (j : Int) ≤ j' by omega, show ¬ j ≤ j' by omega, show i - 1 < ks.length by omega, show ¬ (i : Int) - 1 < 0 by omega, show 0 ≤ (i : Int) - 1 by omega, show (i : Int) - 1 < ks.length by omega]
        refine IWp.trim [0, 1, 5, 6, 8, 9] (IWp.skip ?_)
        simp [go_sem, -getElem?_pos, -List.map_take, -List.map_drop, List.getElem?_cons_zero, List.getElem?_cons_succ, Go.IntWalk.iteOmega, Go.IntWalk.toNatUp, hik, gk, gt, gk', gt', hjl, hjl', wi2, wm, hm1, show ¬ (j : Int) < 0 by omega, show ¬ (T.length : Int) ≤ j by omega, show ¬ T.length ≤ j by omega, show ¬ now < a by omega, show 0 < i by omega, show ¬ a < a' by omega, eq_true hae, show ¬ (j : Int) ≤ j' by omega, show ¬ j ≤ j' by omega, show i - 1 < ks.length by omega, show ¬ (i : Int) - 1 < 0 by omega, show 0 ≤ (i : Int) - 1 by omega, show (i : Int) - 1 < ks.length by omega]
        refine IWp.seq ?_
        refine IWp.block ?_
        refine IWp.seq ?_
        refine IWp.read [0, 1, 5, 6, 8, 9, 125] follows (by kernel_rfl) ?_
        simp [go_sem, -getElem?_pos, -List.map_take, -List.map_drop, List.getElem?_cons_zero, List.getElem?_cons_succ, Go.IntWalk.iteOmega, Go.IntWalk.toNatUp, hik, gk, gt, gk', gt', hjl, hjl', wi2, wm, hm1, show ¬ (j : Int) < 0 by omega, show ¬ (T.length : Int) ≤ j by omega, show ¬ T.length ≤ j by omega, show ¬ now < a by omega, show 0 < i by omega, show ¬ a < a' by omega, eq_true hae, show ¬ (j : Int) ≤ j' by omega, show ¬ j ≤ j' by omega, show i - 1 < ks.length by omega, show ¬ (i : Int) - 1 < 0 by omega, show 0 ≤ (i : Int) - 1 by omega, show (i : Int) - 1 < ks.length by omega]
        refine IWp.cond ?_
        simp [go_sem, -getElem?_pos, -List.map_take, -List.map_drop, List.getElem?_cons_zero, List.getElem?_cons_succ, Go.IntWalk.iteOmega, Go.IntWalk.toNatUp, hik, gk, gt, gk', gt', hjl, hjl', wi2, wm, hm1, show ¬ (j : Int) < 0 by omega, show ¬ (T.length : Int) ≤ j by omega, show ¬ T.length ≤ j by omega, show ¬ now < a by omega, show 0 < i by omega, show ¬ a < a' by omega, eq_true hae, show ¬ (j : Int) ≤ j' by omega, show ¬ j ≤ j' by omega, show i - 1 < ks.length by omega, show ¬ (i : Int) - 1 < 0 by omega, show 0 ≤ (i : Int) - 1 by omega, show (i : Int) - 1 < ks.length by omega]
        refine IWp.trim [0, 1, 5, 6, 8, 9] (IWp.skip ?_)
        simp [go_sem, -getElem?_pos, -List.map_take, -List.map_drop, List.getElem?_cons_zero, List.getElem?_cons_succ, Go.IntWalk.iteOmega, Go.IntWalk.toNatUp, hik, gk, gt, gk', gt', hjl, hjl', wi2, wm, hm1, show ¬ (j : Int) < 0 by omega, show ¬ (T.length : Int) ≤ j by omega, show ¬ T.length ≤ j by omega, show ¬ now < a by omega, show 0 < i by omega, show ¬ a < a' by omega, eq_true hae, show ¬ (j : Int) ≤ j' by omega, show ¬ j ≤ j' by omega, show i - 1 < ks.length by omega, show ¬ (i : Int) - 1 < 0 by omega, show 0 ≤ (i : Int) - 1 by omega, show (i : Int) - 1 < ks.length by omega]
        refine IWp.run [0, 1, 5, 6, 8, 9] ?_
        simp [go_sem, -getElem?_pos, -List.map_take, -List.map_drop, List.getElem?_cons_zero, List.getElem?_cons_succ, Go.IntWalk.iteOmega, Go.IntWalk.toNatUp, hik, gk, gt, gk', gt', hjl, hjl', wi2, wm, hm1, show ¬ (j : Int) < 0 by omega, show ¬ (T.length : Int) ≤ j by omega, show ¬ T.length ≤ j by omega, show ¬ now < a by omega, show 0 < i by omega, show ¬ a < a' by omega, eq_true hae, show ¬ (j : Int) ≤ j' by omega, show ¬ j ≤ j' by omega, show i - 1 < ks.length by omega, show ¬ (i : Int) - 1 < 0 by omega, show 0 ≤ (i : Int) - 1 by omega, show (i : Int) - 1 < ks.length by omega]
        exact ⟨ks.length - (i + 1), by omega, i + 1, rfl, by omega, by omega⟩
      · skip
        refine IWp.seq ?_
        refine IWp.seq ?_
        refine IWp.run [0, 1, 5, 6, 8, 9, 46] ?_
        simp [go_sem, -getElem?_pos, -List.map_take, -List.map_drop, List.getElem?_cons_zero, List.getElem?_cons_succ, Go.IntWalk.iteOmega, Go.IntWalk.toNatUp, hik, gk, gt, gk', gt', hjl, hjl', wi2, wm, hm1, show ¬ (j : Int) < 0 by omega, show ¬ (T.length : Int) ≤ j by omega, show ¬ T.length ≤ j by omega, show ¬ now < a by omega, show 0 < i by omega, show ¬ a < a' by omega, hae, show i - 1 < ks.length by omega, show ¬ (i : Int) - 1 < 0 by omega, show 0 ≤ (i : Int) - 1 by omega, show (i : Int) - 1 < ks.length by omega]
        refine IWp.cond ?_
        simp [go_sem, -getElem?_pos, -List.map_take, -List.map_drop, List.getElem?_cons_zero, List.getElem?_cons_succ, Go.IntWalk.iteOmega, Go.IntWalk.toNatUp, hik, gk, gt, gk', gt', hjl, hjl', wi2, wm, hm1, show ¬ (j : Int) < 0 by omega, show ¬ (T.length : Int) ≤ j by omega, show ¬ T.length ≤ j by omega, show ¬ now < a by omega, show 0 < i by omega, show ¬ a < a' by omega, hae, show i - 1 < ks.length by omega, show ¬ (i : Int) - 1 < 0 by omega, show 0 ≤ (i : Int) - 1 by omega, show (i : Int) - 1 < ks.length by omega]
        refine IWp.trim [0, 1, 5, 6, 8, 9] (IWp.skip ?_)
        simp [go_sem, -getElem?_pos, -List.map_take, -List.map_drop, List.getElem?_cons_zero, List.getElem?_cons_succ, Go.IntWalk.iteOmega, Go.IntWalk.toNatUp, hik, gk, gt, gk', gt', hjl, hjl', wi2, wm, hm1, show ¬ (j : Int) < 0 by omega, show ¬ (T.length : Int) ≤ j by omega, show ¬ T.length ≤ j by omega, show ¬ now < a by omega, show 0 < i by omega, show ¬ a < a' by omega, hae, show i - 1 < ks.length by omega, show ¬ (i : Int) - 1 < 0 by omega, show 0 ≤ (i : Int) - 1 by omega, show (i : Int) - 1 < ks.length by omega]
        refine IWp.seq ?_
        refine IWp.block ?_
        refine IWp.seq ?_
        refine IWp.read [0, 1, 5, 6, 8, 9, 125] follows (by kernel_rfl) ?_
        simp [go_sem, -getElem?_pos, -List.map_take, -List.map_drop, List.getElem?_cons_zero, List.getElem?_cons_succ, Go.IntWalk.iteOmega, Go.IntWalk.toNatUp, hik, gk, gt, gk', gt', hjl, hjl', wi2, wm, hm1, show ¬ (j : Int) < 0 by omega, show ¬ (T.length : Int) ≤ j by omega, show ¬ T.length ≤ j by omega, show ¬ now < a by omega, show 0 < i by omega, show ¬ a < a' by omega, hae, show i - 1 < ks.length by omega, show ¬ (i : Int) - 1 < 0 by omega, show 0 ≤ (i : Int) - 1 by omega, show (i : Int) - 1 < ks.length by omega]
        refine IWp.cond ?_
        simp [go_sem, -getElem?_pos, -List.map_take, -List.map_drop, List.getElem?_cons_zero, List.getElem?_cons_succ, Go.IntWalk.iteOmega, Go.IntWalk.toNatUp, hik, gk, gt, gk', gt', hjl, hjl', wi2, wm, hm1, show ¬ (j : Int) < 0 by omega, show ¬ (T.length : Int) ≤ j by omega, show ¬ T.length ≤ j by omega, show ¬ now < a by omega, show 0 < i by omega, show ¬ a < a' by omega, hae, show i - 1 < ks.length by omega, show ¬ (i : Int) - 1 < 0 by omega, show 0 ≤ (i : Int) - 1 by omega, show (i : Int) - 1 < ks.length by omega]
        refine IWp.trim [0, 1, 5, 6, 8, 9] (IWp.skip ?_)
        simp [go_sem, -getElem?_pos, -List.map_take, -List.map_drop, List.getElem?_cons_zero, List.getElem?_cons_succ, Go.IntWalk.iteOmega, Go.IntWalk.toNatUp, hik, gk, gt, gk', gt', hjl, hjl', wi2, wm, hm1, show ¬ (j : Int) < 0 by omega, show ¬ (T.length : Int) ≤ j by omega, show ¬ T.length ≤ j by omega, show ¬ now < a by omega, show 0 < i by omega, show ¬ a < a' by omega, hae, show i - 1 < ks.length by omega, show ¬ (i : Int) - 1 < 0 by omega, show 0 ≤ (i : Int) - 1 by omega, show (i : Int) - 1 < ks.length by omega]
        refine IWp.run [0, 1, 5, 6, 8, 9] ?_
        simp [go_sem, -getElem?_pos, -List.map_take, -List.map_drop, List.getElem?_cons_zero, List.getElem?_cons_succ, Go.IntWalk.iteOmega, Go.IntWalk.toNatUp, hik, gk, gt, gk', gt', hjl, hjl', wi2, wm, hm1, show ¬ (j : Int) < 0 by omega, show ¬ (T.length : Int) ≤ j by omega, show ¬ T.length ≤ j by omega, show ¬ now < a by omega, show 0 < i by omega, show ¬ a < a' by omega, hae, show i - 1 < ks.length by omega, show ¬ (i : Int) - 1 < 0 by omega, show 0 ≤ (i : Int) - 1 by omega, show (i : Int) - 1 < ks.length by omega]
        exact ⟨ks.length - (i + 1), by omega, i + 1, rfl, by omega, by omega⟩
  · have wd := IntWalk.i64_in ((T.length : Int) - ks.length) (by omega)
    refine IWp.seq ?_
    refine IWp.seq ?_
    refine IWp.run [0, 1, 5, 6, 8, 9, 46] ?_
    simp [go_sem, -getElem?_pos, -List.map_take, -List.map_drop, List.getElem?_cons_zero, List.getElem?_cons_succ, Go.IntWalk.iteOmega, Go.IntWalk.toNatUp, hik, wd]
    refine IWp.cond ?_
    simp [go_sem, -getElem?_pos, -List.map_take, -List.map_drop, List.getElem?_cons_zero, List.getElem?_cons_succ, Go.IntWalk.iteOmega, Go.IntWalk.toNatUp, hik, wd]
    refine IWp.trim [0, 1, 5, 6, 8] (IWp.exit ?_)
    simp [go_sem, -getElem?_pos, -List.map_take, -List.map_drop, List.getElem?_cons_zero, List.getElem?_cons_succ, Go.IntWalk.iteOmega, Go.IntWalk.toNatUp, hik, wd]
    refine IWp.seq ?_
    refine IWp.run [4] ?_
    simp [go_sem, -getElem?_pos, -List.map_take, -List.map_drop, List.getElem?_cons_zero, List.getElem?_cons_succ, Go.IntWalk.iteOmega, Go.IntWalk.toNatUp, hik, wd]
    refine ICalls.mono (dueW K' wb t T.length (delL D ks) now hb3 ht3 (by omega)) ?_
    rintro v K5 ⟨ls, hv, hdue2, -, hK5⟩
    have el := due_again hlike hdue hdue2; subst el; subst hv; subst hK5
    try simp [go_sem, -getElem?_pos, -List.map_take, -List.map_drop, List.getElem?_cons_zero, List.getElem?_cons_succ, Go.IntWalk.iteOmega, Go.IntWalk.toNatUp, hik, wd]
    refine ICalls.then (lenW _ wb t T.length (delL (delL D ks) []) hb3 rfl) ?_
    try simp [go_sem, -getElem?_pos, -List.map_take, -List.map_drop, List.getElem?_cons_zero, List.getElem?_cons_succ, Go.IntWalk.iteOmega, Go.IntWalk.toNatUp, hik, wd]
    refine IWp.ret ?_
    simp [go_sem, -getElem?_pos, -List.map_take, -List.map_drop, List.getElem?_cons_zero, List.getElem?_cons_succ, Go.IntWalk.iteOmega, Go.IntWalk.toNatUp, hik, wd, Try.results3]
    show ((Maps.size (delL D ks) : Nat) : Int) = _
    rw [hsz]; omega

end Go.Proofs.Ytdimnoeldnfikaa.I
