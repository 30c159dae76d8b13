/- Numbers that the document's reader reads. No condition. -/
import Derived.Test.YtoecebibhcadoaaDoorGRead
namespace Go.Proofs.YtoecebibhcadoaaDoor.I
open Go Go.RowKit
set_option linter.unusedVariables false
set_option linter.unusedSimpArgs false
section prog
variable (H : Heap) (b : Nat) (s : Rd) (hs : s.ok) (hg : H.get b = some ⟨s.cells, true⟩)
include hs hg
theorem mReady (n : Nat) (hn : n ≤ 100) : ICalls Tryd.prog 82 [ptrTo b 0, .int .i64 n] H fun v H' => v = .bool (decide ((s.ready n).e = 0)) ∧ H' = H.set b (s.ready n).cells := by
  obtain ⟨h1, h2, h3⟩ := hs
  unfold Rd.cells at hg
  by_cases he : s.e = 0
  · have w1 := IntWalk.i64_in ((s.L.length : Int) - s.pos) (by omega)
    by_cases hl : s.pos + n ≤ s.L.length
    · rw [Rd.ready_ok he hl]
      unfold Rd.cells
      rw [set_self hg]
      refine IBody.calls (by kernel_rfl) ?_
      refine IBody.of Tryd.func82 rfl (by rw [Tryd.ntmps82]; simp) ?_
      rw [Tryd.ntmps82]
      refine IWp.one [0, 1] ?_
      simp [go_sem, -getElem?_pos, -List.map_take, -List.map_drop, IntWalk.iteOmega, IntWalk.toNatUp, hg, he, w1, Rd.cells, show ¬ ((s.L.length : Int) - s.pos < n) by omega]
      refine IWp.seq ?_
      refine IWp.seq ?_
      refine IWp.read [0, 23] follows (by kernel_rfl) ?_
      simp [go_sem, -getElem?_pos, -List.map_take, -List.map_drop, IntWalk.iteOmega, IntWalk.toNatUp, hg, he, w1, Rd.cells, show ¬ ((s.L.length : Int) - s.pos < n) by omega]
      have Kp : Kept [[],[0],[4],[]] := ⟨⟩
      iterate 4 (refine Kp.s ?_; clear Kp; intro Kp; simp [go_sem, -getElem?_pos, -List.map_take, -List.map_drop, IntWalk.iteOmega, IntWalk.toNatUp, hg, he, w1, Rd.cells, show ¬ ((s.L.length : Int) - s.pos < n) by omega])
    · rw [Rd.ready_short he hl]
      refine IBody.calls (by kernel_rfl) ?_
      refine IBody.of Tryd.func82 rfl (by rw [Tryd.ntmps82]; simp) ?_
      rw [Tryd.ntmps82]
      refine IWp.one [0, 1] ?_
      simp [go_sem, -getElem?_pos, -List.map_take, -List.map_drop, IntWalk.iteOmega, IntWalk.toNatUp, hg, he, w1, Rd.cells, show ((s.L.length : Int) - s.pos < n) by omega]
      refine IWp.seq ?_
      refine IWp.seq ?_
      refine IWp.read [0, 23] follows (by kernel_rfl) ?_
      simp [go_sem, -getElem?_pos, -List.map_take, -List.map_drop, IntWalk.iteOmega, IntWalk.toNatUp, hg, he, w1, Rd.cells, show ((s.L.length : Int) - s.pos < n) by omega]
      have Kp : Kept [[],[0],[4],[]] := ⟨⟩
      iterate 4 (refine Kp.s ?_; clear Kp; intro Kp; simp [go_sem, -getElem?_pos, -List.map_take, -List.map_drop, IntWalk.iteOmega, IntWalk.toNatUp, hg, he, w1, Rd.cells, show ((s.L.length : Int) - s.pos < n) by omega])
  · rw [Rd.ready_bad he]
    unfold Rd.cells
    rw [set_self hg]
    have hd : decide (s.e = 0) = false := by simpa using he
    refine IBody.calls (by kernel_rfl) ?_
    refine IBody.of Tryd.func82 rfl (by rw [Tryd.ntmps82]; simp) ?_
    rw [Tryd.ntmps82]
    refine IWp.one [0, 1] ?_
    simp [go_sem, -getElem?_pos, -List.map_take, -List.map_drop, IntWalk.iteOmega, IntWalk.toNatUp, hg, he, hd, Rd.cells]
    refine IWp.seq ?_
    refine IWp.seq ?_
    refine IWp.read [0, 23] follows (by kernel_rfl) ?_
    simp [go_sem, -getElem?_pos, -List.map_take, -List.map_drop, IntWalk.iteOmega, IntWalk.toNatUp, hg, he, hd, Rd.cells]
    have Kp : Kept [[],[0],[4],[]] := ⟨⟩
    iterate 4 (refine Kp.s ?_; clear Kp; intro Kp; simp [go_sem, -getElem?_pos, -List.map_take, -List.map_drop, IntWalk.iteOmega, IntWalk.toNatUp, hg, he, hd, Rd.cells])
theorem mInt : ICalls Tryd.prog 62 [ptrTo b 0] H fun v H' => v = .int .i64 s.int.1 ∧ H' = H.set b s.int.2.cells := by
  have c1 := mReady H b s hs hg 4 (by decide)
  have a0 := Rd.at_byte hs
  obtain ⟨h1, h2, h3⟩ := hs
  by_cases he : s.e = 0
  · by_cases hn : s.pos + 4 ≤ s.L.length
    · rw [Rd.ready_ok he hn, set_self hg] at c1
      rw [Rd.int_eq he hn]
      have g0 := Rd.at_get (s := s) (i := 0) (by omega)
      have g1 := Rd.at_get (s := s) (i := 1) (by omega)
      have g2 := Rd.at_get (s := s) (i := 2) (by omega)
      have g3 := Rd.at_get (s := s) (i := 3) (by omega)
      rw [Nat.add_zero] at g0
      have w0 := IntWalk.i64_in (s.at_ 0) (by have := a0 0; omega)
      have wA := IntWalk.i64_in ((s.pos : Int) + 4) (by omega)
      have main : ∀ a : Int, (a = if 127 < s.at_ 0 then s.at_ 0 - 256 else s.at_ 0) → be4 (s.at_ 0) (s.at_ 1) (s.at_ 2) (s.at_ 3) = ((a * 256 + s.at_ 1) * 256 + s.at_ 2) * 256 + s.at_ 3 ∧ -128 ≤ a ∧ a < 128 := fun a ha => by
        have := a0 0
        unfold be4
        split at ha
        · rename_i h; rw [if_pos h]; omega
        · rename_i h; rw [if_neg h]; omega
      refine IBody.calls (by kernel_rfl) ?_
      by_cases hf : 127 < s.at_ 0
      · obtain ⟨hm, hm1, hm2⟩ := main _ rfl
        rw [if_pos hf] at hm hm1 hm2
        have w1 := IntWalk.i64_in (s.at_ 0 - 256) (by have := a0 0; omega)
        refine IBody.of Tryd.func62 rfl (by rw [Tryd.ntmps62]; simp) ?_
        rw [Tryd.ntmps62]
        have Kp : Kept [[0],[0,7]] := ⟨⟩
        iterate 2 (refine Kp.s ?_; clear Kp; intro Kp; simp [go_sem, -getElem?_pos, -List.map_take, -List.map_drop, IntWalk.iteOmega, IntWalk.toNatUp, hg, he, hf, w0, w1, g0, Rd.cells, show ¬ ((s.pos : Int) < 0) by omega])
        refine ICalls.mono (c1) ?_
        rintro v H ⟨rfl, rfl⟩
        try simp [go_sem, -getElem?_pos, -List.map_take, -List.map_drop, IntWalk.iteOmega, IntWalk.toNatUp, hg, he, hf, w0, w1, g0, Rd.cells, show ¬ ((s.pos : Int) < 0) by omega]
        have Kp : Kept [[],[0]] := ⟨⟩
        iterate 2 (refine Kp.s ?_; clear Kp; intro Kp; simp [go_sem, -getElem?_pos, -List.map_take, -List.map_drop, IntWalk.iteOmega, IntWalk.toNatUp, hg, he, hf, w0, w1, g0, Rd.cells, show ¬ ((s.pos : Int) < 0) by omega])
        refine IWp.seq ?_
        refine IWp.read [0, 3] follows (by kernel_rfl) ?_
        simp [go_sem, -getElem?_pos, -List.map_take, -List.map_drop, IntWalk.iteOmega, IntWalk.toNatUp, hg, he, hf, w0, w1, g0, Rd.cells, show ¬ ((s.pos : Int) < 0) by omega]
        have Kp : Kept [[0,3,20],[],[0,3],[0,3,4]] := ⟨⟩
        iterate 4 (refine Kp.s ?_; clear Kp; intro Kp; simp [go_sem, -getElem?_pos, -List.map_take, -List.map_drop, IntWalk.iteOmega, IntWalk.toNatUp, hg, he, hf, w0, w1, g0, Rd.cells, show ¬ ((s.pos : Int) < 0) by omega])
        refine IWp.block ?_
        refine IWp.loop (fun j e K => ∃ k : Nat, j = 3 - k ∧ k ≤ 3 ∧ e = [(0, .pointer (some ⟨b, 0, none⟩)), (3, .int .i64 (grown (s.at_ 0 - 256) s.at_ k)), (4, .int .i64 ((k : Int) + 1))] ∧ K = H) 3 ⟨0, rfl, by omega, rfl, rfl⟩ ?_
        rintro j e K ⟨k, rfl, hk, rfl, rfl⟩
        have hb := grown_bound _ s.at_ ⟨hm1, hm2⟩ a0 k hk
        by_cases hlt : k < 3
        · have hb2 := grown_bound _ s.at_ ⟨hm1, hm2⟩ a0 (k + 1) (by omega)
          have hx := a0 (k + 1)
          have hs1 : grown (s.at_ 0 - 256) s.at_ (k + 1) = grown (s.at_ 0 - 256) s.at_ k * 256 + s.at_ (k + 1) := rfl
          have gk := Rd.at_get (s := s) (i := k + 1) (by omega)
          generalize grown (s.at_ 0 - 256) s.at_ k = y at hb hs1
          have v1 := IntWalk.i64_in (y * 256) (by omega)
          have v2 := IntWalk.i64_in (s.at_ (k + 1)) (by omega)
          have v3 := IntWalk.i64_in (y * 256 + s.at_ (k + 1)) (by omega)
          have v4 := IntWalk.i64_in ((s.pos : Int) + ((k : Int) + 1)) (by omega)
          have v5 := IntWalk.i64_in ((k : Int) + 1 + 1) (by omega)
          have v6 : ((s.pos : Int) + ((k : Int) + 1)).toNat = s.pos + (k + 1) := by omega
          have Kp : Kept [[0,3,4,24],[],[0,3,4]] := ⟨⟩
          iterate 3 (refine Kp.s ?_; clear Kp; intro Kp; simp [go_sem, -getElem?_pos, -List.map_take, -List.map_drop, IntWalk.iteOmega, IntWalk.toNatUp, hg, he, v1, v2, v3, v4, v5, v6, gk, Rd.cells, show (k : Int) + 1 < 4 by omega, show 0 ≤ (s.pos : Int) + ((k : Int) + 1) by omega])
          refine IWp.seq ?_
          refine IWp.block ?_
          refine IWp.read [0, 3, 4] follows (by kernel_rfl) ?_
          simp [go_sem, -getElem?_pos, -List.map_take, -List.map_drop, IntWalk.iteOmega, IntWalk.toNatUp, hg, he, v1, v2, v3, v4, v5, v6, gk, Rd.cells, show (k : Int) + 1 < 4 by omega, show 0 ≤ (s.pos : Int) + ((k : Int) + 1) by omega]
          refine IWp.one [0, 3, 4] ?_
          simp [go_sem, -getElem?_pos, -List.map_take, -List.map_drop, IntWalk.iteOmega, IntWalk.toNatUp, hg, he, v1, v2, v3, v4, v5, v6, gk, Rd.cells, show (k : Int) + 1 < 4 by omega, show 0 ≤ (s.pos : Int) + ((k : Int) + 1) by omega]
          exact ⟨3 - (k + 1), by omega, k + 1, rfl, by omega, hs1.symm, by omega⟩
        · have hk3 : k = 3 := by omega
          subst hk3
          have hfin : grown (s.at_ 0 - 256) s.at_ 3 = be4 (s.at_ 0) (s.at_ 1) (s.at_ 2) (s.at_ 3) := by rw [hm]; rfl
          have Kp : Kept [[0,3,4,24],[],[0,3],[3],[2],[]] := ⟨⟩
          iterate 6 (refine Kp.s ?_; clear Kp; intro Kp; simp [go_sem, -getElem?_pos, -List.map_take, -List.map_drop, IntWalk.iteOmega, IntWalk.toNatUp, hg, he, wA, hfin, Rd.cells])
      · obtain ⟨hm, hm1, hm2⟩ := main _ rfl
        rw [if_neg hf] at hm hm1 hm2
        refine IBody.of Tryd.func62 rfl (by rw [Tryd.ntmps62]; simp) ?_
        rw [Tryd.ntmps62]
        have Kp : Kept [[0],[0,7]] := ⟨⟩
        iterate 2 (refine Kp.s ?_; clear Kp; intro Kp; simp [go_sem, -getElem?_pos, -List.map_take, -List.map_drop, IntWalk.iteOmega, IntWalk.toNatUp, hg, he, hf, w0, g0, Rd.cells, show ¬ ((s.pos : Int) < 0) by omega])
        refine ICalls.mono (c1) ?_
        rintro v H ⟨rfl, rfl⟩
        try simp [go_sem, -getElem?_pos, -List.map_take, -List.map_drop, IntWalk.iteOmega, IntWalk.toNatUp, hg, he, hf, w0, g0, Rd.cells, show ¬ ((s.pos : Int) < 0) by omega]
        have Kp : Kept [[],[0]] := ⟨⟩
        iterate 2 (refine Kp.s ?_; clear Kp; intro Kp; simp [go_sem, -getElem?_pos, -List.map_take, -List.map_drop, IntWalk.iteOmega, IntWalk.toNatUp, hg, he, hf, w0, g0, Rd.cells, show ¬ ((s.pos : Int) < 0) by omega])
        refine IWp.seq ?_
        refine IWp.read [0, 3] follows (by kernel_rfl) ?_
        simp [go_sem, -getElem?_pos, -List.map_take, -List.map_drop, IntWalk.iteOmega, IntWalk.toNatUp, hg, he, hf, w0, g0, Rd.cells, show ¬ ((s.pos : Int) < 0) by omega]
        have Kp : Kept [[0,3,20],[],[0,3],[0,3,4]] := ⟨⟩
        iterate 4 (refine Kp.s ?_; clear Kp; intro Kp; simp [go_sem, -getElem?_pos, -List.map_take, -List.map_drop, IntWalk.iteOmega, IntWalk.toNatUp, hg, he, hf, w0, g0, Rd.cells, show ¬ ((s.pos : Int) < 0) by omega])
        refine IWp.block ?_
        refine IWp.loop (fun j e K => ∃ k : Nat, j = 3 - k ∧ k ≤ 3 ∧ e = [(0, .pointer (some ⟨b, 0, none⟩)), (3, .int .i64 (grown (s.at_ 0) s.at_ k)), (4, .int .i64 ((k : Int) + 1))] ∧ K = H) 3 ⟨0, rfl, by omega, rfl, rfl⟩ ?_
        rintro j e K ⟨k, rfl, hk, rfl, rfl⟩
        have hb := grown_bound _ s.at_ ⟨hm1, hm2⟩ a0 k hk
        by_cases hlt : k < 3
        · have hb2 := grown_bound _ s.at_ ⟨hm1, hm2⟩ a0 (k + 1) (by omega)
          have hx := a0 (k + 1)
          have hs1 : grown (s.at_ 0) s.at_ (k + 1) = grown (s.at_ 0) s.at_ k * 256 + s.at_ (k + 1) := rfl
          have gk := Rd.at_get (s := s) (i := k + 1) (by omega)
          generalize grown (s.at_ 0) s.at_ k = y at hb hs1
          have v1 := IntWalk.i64_in (y * 256) (by omega)
          have v2 := IntWalk.i64_in (s.at_ (k + 1)) (by omega)
          have v3 := IntWalk.i64_in (y * 256 + s.at_ (k + 1)) (by omega)
          have v4 := IntWalk.i64_in ((s.pos : Int) + ((k : Int) + 1)) (by omega)
          have v5 := IntWalk.i64_in ((k : Int) + 1 + 1) (by omega)
          have v6 : ((s.pos : Int) + ((k : Int) + 1)).toNat = s.pos + (k + 1) := by omega
          have Kp : Kept [[0,3,4,24],[],[0,3,4]] := ⟨⟩
          iterate 3 (refine Kp.s ?_; clear Kp; intro Kp; simp [go_sem, -getElem?_pos, -List.map_take, -List.map_drop, IntWalk.iteOmega, IntWalk.toNatUp, hg, he, v1, v2, v3, v4, v5, v6, gk, Rd.cells, show (k : Int) + 1 < 4 by omega, show 0 ≤ (s.pos : Int) + ((k : Int) + 1) by omega])
          refine IWp.seq ?_
          refine IWp.block ?_
          refine IWp.read [0, 3, 4] follows (by kernel_rfl) ?_
          simp [go_sem, -getElem?_pos, -List.map_take, -List.map_drop, IntWalk.iteOmega, IntWalk.toNatUp, hg, he, v1, v2, v3, v4, v5, v6, gk, Rd.cells, show (k : Int) + 1 < 4 by omega, show 0 ≤ (s.pos : Int) + ((k : Int) + 1) by omega]
          refine IWp.one [0, 3, 4] ?_
          simp [go_sem, -getElem?_pos, -List.map_take, -List.map_drop, IntWalk.iteOmega, IntWalk.toNatUp, hg, he, v1, v2, v3, v4, v5, v6, gk, Rd.cells, show (k : Int) + 1 < 4 by omega, show 0 ≤ (s.pos : Int) + ((k : Int) + 1) by omega]
          exact ⟨3 - (k + 1), by omega, k + 1, rfl, by omega, hs1.symm, by omega⟩
        · have hk3 : k = 3 := by omega
          subst hk3
          have hfin : grown (s.at_ 0) s.at_ 3 = be4 (s.at_ 0) (s.at_ 1) (s.at_ 2) (s.at_ 3) := by rw [hm]; rfl
          have Kp : Kept [[0,3,4,24],[],[0,3],[3],[2],[]] := ⟨⟩
          iterate 6 (refine Kp.s ?_; clear Kp; intro Kp; simp [go_sem, -getElem?_pos, -List.map_take, -List.map_drop, IntWalk.iteOmega, IntWalk.toNatUp, hg, he, wA, hfin, Rd.cells])
    · rw [Rd.ready_short he hn] at c1
      rw [Rd.int_short he hn]
      refine IBody.calls (by kernel_rfl) ?_
      refine IBody.of Tryd.func62 rfl (by rw [Tryd.ntmps62]; simp) ?_
      rw [Tryd.ntmps62]
      have Kp : Kept [[0],[0,7]] := ⟨⟩
      iterate 2 (refine Kp.s ?_; clear Kp; intro Kp; simp [go_sem, -getElem?_pos, -List.map_take, -List.map_drop, IntWalk.iteOmega, IntWalk.toNatUp, hg, he, Rd.cells])
      refine ICalls.mono (c1) ?_
      rintro v _ ⟨rfl, rfl⟩
      try simp [go_sem, -getElem?_pos, -List.map_take, -List.map_drop, IntWalk.iteOmega, IntWalk.toNatUp, hg, he, Rd.cells]
      have Kp : Kept [[],[2],[]] := ⟨⟩
      iterate 3 (refine Kp.s ?_; clear Kp; intro Kp; simp [go_sem, -getElem?_pos, -List.map_take, -List.map_drop, IntWalk.iteOmega, IntWalk.toNatUp, hg, he, Rd.cells])
  · rw [Rd.ready_bad he, set_self hg] at c1
    rw [Rd.int_bad he, set_self hg]
    refine IBody.calls (by kernel_rfl) ?_
    refine IBody.of Tryd.func62 rfl (by rw [Tryd.ntmps62]; simp) ?_
    rw [Tryd.ntmps62]
    have Kp : Kept [[0],[0,7]] := ⟨⟩
    iterate 2 (refine Kp.s ?_; clear Kp; intro Kp; simp [go_sem, -getElem?_pos, -List.map_take, -List.map_drop, IntWalk.iteOmega, IntWalk.toNatUp, hg, he, Rd.cells])
    refine ICalls.mono (c1) ?_
    rintro v _ ⟨rfl, rfl⟩
    try simp [go_sem, -getElem?_pos, -List.map_take, -List.map_drop, IntWalk.iteOmega, IntWalk.toNatUp, hg, he, Rd.cells]
    have Kp : Kept [[],[2],[]] := ⟨⟩
    iterate 3 (refine Kp.s ?_; clear Kp; intro Kp; simp [go_sem, -getElem?_pos, -List.map_take, -List.map_drop, IntWalk.iteOmega, IntWalk.toNatUp, hg, he, Rd.cells])
end prog
end Go.Proofs.YtoecebibhcadoaaDoor.I
