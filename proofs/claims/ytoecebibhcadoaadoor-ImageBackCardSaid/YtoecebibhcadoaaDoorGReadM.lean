/- What the document's reader reads. No condition. -/
import Derived.Test.YtoecebibhcadoaaDoorGReadI
namespace Go.Proofs.YtoecebibhcadoaaDoor.I
open Go Go.RowKit
set_option linter.unusedVariables false
set_option linter.unusedSimpArgs false
section prog
variable (H : Heap) (b : Nat) (s : Rd) (hs : s.ok) (hg : H.get b = some ⟨s.cells, true⟩)
include hs hg
theorem mLeft : ICalls Tryd.prog 83 [ptrTo b 0] H fun v H' => v = .int .i64 s.left ∧ H' = H := by
  refine IBody.calls (by kernel_rfl) ?_
  obtain ⟨h1, h2, h3⟩ := hs
  unfold Rd.cells at hg
  by_cases he : s.e = 0
  · have w1 := IntWalk.i64_in ((s.L.length : Int) - s.pos) (by omega)
    refine IBody.of Tryd.func83 rfl (by rw [Tryd.ntmps83]; simp) ?_
    rw [Tryd.ntmps83]
    have Kp : Kept [[0],[0,7],[],[0]] := ⟨⟩
    iterate 4 (refine Kp.s ?_; clear Kp; intro Kp; simp [go_sem, -getElem?_pos, -List.map_take, -List.map_drop, IntWalk.iteOmega, IntWalk.toNatUp, hg, he, w1, Rd.left_ok])
    refine IWp.seq ?_
    refine IWp.read [2] follows (by kernel_rfl) ?_
    simp [go_sem, -getElem?_pos, -List.map_take, -List.map_drop, IntWalk.iteOmega, IntWalk.toNatUp, hg, he, w1, Rd.left_ok]
    refine IWp.one [] ?_
    simp [go_sem, -getElem?_pos, -List.map_take, -List.map_drop, IntWalk.iteOmega, IntWalk.toNatUp, hg, he, w1, Rd.left_ok]
  · skip
    refine IBody.of Tryd.func83 rfl (by rw [Tryd.ntmps83]; simp) ?_
    rw [Tryd.ntmps83]
    have Kp : Kept [[0],[0,7],[],[2],[]] := ⟨⟩
    iterate 5 (refine Kp.s ?_; clear Kp; intro Kp; simp [go_sem, -getElem?_pos, -List.map_take, -List.map_drop, IntWalk.iteOmega, IntWalk.toNatUp, hg, he, Rd.left_bad])
omit hs in
theorem mFault : ICalls Tryd.prog 84 [ptrTo b 0] H fun v H' => v = .tuple #[.int .i64 s.fault.1, .int .i64 s.fault.2] ∧ H' = H := by
  refine IBody.calls (by kernel_rfl) ?_
  unfold Rd.cells at hg
  by_cases he : s.e = 0
  · skip
    refine IBody.of Tryd.func84 rfl (by rw [Tryd.ntmps84]; simp) ?_
    rw [Tryd.ntmps84]
    have Kp : Kept [[0],[0,8],[],[2,3],[]] := ⟨⟩
    iterate 5 (refine Kp.s ?_; clear Kp; intro Kp; simp [go_sem, -getElem?_pos, -List.map_take, -List.map_drop, IntWalk.iteOmega, IntWalk.toNatUp, hg, he, Rd.fault])
  · skip
    refine IBody.of Tryd.func84 rfl (by rw [Tryd.ntmps84]; simp) ?_
    rw [Tryd.ntmps84]
    have Kp : Kept [[0],[0,8],[],[0]] := ⟨⟩
    iterate 4 (refine Kp.s ?_; clear Kp; intro Kp; simp [go_sem, -getElem?_pos, -List.map_take, -List.map_drop, IntWalk.iteOmega, IntWalk.toNatUp, hg, he, Rd.fault])
    refine IWp.seq ?_
    refine IWp.read [2, 3] follows (by kernel_rfl) ?_
    simp [go_sem, -getElem?_pos, -List.map_take, -List.map_drop, IntWalk.iteOmega, IntWalk.toNatUp, hg, he, Rd.fault]
    refine IWp.one [] ?_
    simp [go_sem, -getElem?_pos, -List.map_take, -List.map_drop, IntWalk.iteOmega, IntWalk.toNatUp, hg, he, Rd.fault]
theorem mEnd : ICalls Tryd.prog 64 [ptrTo b 0] H fun v H' => v = .tuple #[.int .i64 s.ending.1, .int .i64 s.ending.2] ∧ H' = H := by
  have c1 := mLeft H b s hs hg
  have c2 := mFault H b s hg
  refine IBody.calls (by kernel_rfl) ?_
  unfold Rd.cells at hg
  by_cases he : 0 < s.left
  · skip
    refine IBody.of Tryd.func64 rfl (by rw [Tryd.ntmps64]; simp) ?_
    rw [Tryd.ntmps64]
    have Kp : Kept [[0],[0,6]] := ⟨⟩
    iterate 2 (refine Kp.s ?_; clear Kp; intro Kp; simp [go_sem, -getElem?_pos, -List.map_take, -List.map_drop, IntWalk.iteOmega, IntWalk.toNatUp, hg, he, Rd.ending])
    refine ICalls.mono (c1) ?_
    rintro v _ ⟨rfl, rfl⟩
    try simp [go_sem, -getElem?_pos, -List.map_take, -List.map_drop, IntWalk.iteOmega, IntWalk.toNatUp, hg, he, Rd.ending]
    have Kp : Kept [[],[2,3],[]] := ⟨⟩
    iterate 3 (refine Kp.s ?_; clear Kp; intro Kp; simp [go_sem, -getElem?_pos, -List.map_take, -List.map_drop, IntWalk.iteOmega, IntWalk.toNatUp, hg, he, Rd.ending])
  · skip
    refine IBody.of Tryd.func64 rfl (by rw [Tryd.ntmps64]; simp) ?_
    rw [Tryd.ntmps64]
    have Kp : Kept [[0],[0,6]] := ⟨⟩
    iterate 2 (refine Kp.s ?_; clear Kp; intro Kp; simp [go_sem, -getElem?_pos, -List.map_take, -List.map_drop, IntWalk.iteOmega, IntWalk.toNatUp, hg, he, Rd.ending])
    refine ICalls.mono (c1) ?_
    rintro v _ ⟨rfl, rfl⟩
    try simp [go_sem, -getElem?_pos, -List.map_take, -List.map_drop, IntWalk.iteOmega, IntWalk.toNatUp, hg, he, Rd.ending]
    have Kp : Kept [[],[0],[2,3]] := ⟨⟩
    iterate 3 (refine Kp.s ?_; clear Kp; intro Kp; simp [go_sem, -getElem?_pos, -List.map_take, -List.map_drop, IntWalk.iteOmega, IntWalk.toNatUp, hg, he, Rd.ending])
    refine ICalls.mono (c2) ?_
    rintro v _ ⟨rfl, rfl⟩
    try simp [go_sem, -getElem?_pos, -List.map_take, -List.map_drop, IntWalk.iteOmega, IntWalk.toNatUp, hg, he, Rd.ending]
    refine IWp.one [] ?_
    simp [go_sem, -getElem?_pos, -List.map_take, -List.map_drop, IntWalk.iteOmega, IntWalk.toNatUp, hg, he, Rd.ending]
theorem mByte : ICalls Tryd.prog 61 [ptrTo b 0] H fun v H' => v = .int .u8 s.byte.1 ∧ H' = H.set b s.byte.2.cells := by
  have c1 := mReady H b s hs hg 1 (by decide)
  obtain ⟨h1, h2, h3⟩ := hs
  by_cases he : s.e = 0
  · by_cases hn : s.pos + 1 ≤ s.L.length
    · rw [Rd.ready_ok he hn, set_self hg] at c1
      rw [Rd.byte_eq he hn]
      have ha := Rd.at_get (s := s) (i := 0) (by omega)
      rw [Nat.add_zero] at ha
      have w1 := IntWalk.i64_in ((s.pos : Int) + 1) (by omega)
      have w2 := IntWalk.i64_in (s.pos : Int) (by omega)
      refine IBody.calls (by kernel_rfl) ?_
      refine IBody.of Tryd.func61 rfl (by rw [Tryd.ntmps61]; simp) ?_
      rw [Tryd.ntmps61]
      have Kp : Kept [[0],[0,5]] := ⟨⟩
      iterate 2 (refine Kp.s ?_; clear Kp; intro Kp; simp [go_sem, -getElem?_pos, -List.map_take, -List.map_drop, IntWalk.iteOmega, IntWalk.toNatUp, hg, he, w1, w2, ha, Rd.cells, show ¬ ((s.pos : Int) < 0) by omega])
      refine ICalls.mono (c1) ?_
      rintro v _ ⟨rfl, rfl⟩
      try simp [go_sem, -getElem?_pos, -List.map_take, -List.map_drop, IntWalk.iteOmega, IntWalk.toNatUp, hg, he, w1, w2, ha, Rd.cells, show ¬ ((s.pos : Int) < 0) by omega]
      have Kp : Kept [[],[0],[0]] := ⟨⟩
      iterate 3 (refine Kp.s ?_; clear Kp; intro Kp; simp [go_sem, -getElem?_pos, -List.map_take, -List.map_drop, IntWalk.iteOmega, IntWalk.toNatUp, hg, he, w1, w2, ha, Rd.cells, show ¬ ((s.pos : Int) < 0) by omega])
      refine IWp.seq ?_
      refine IWp.read [2] follows (by kernel_rfl) ?_
      simp [go_sem, -getElem?_pos, -List.map_take, -List.map_drop, IntWalk.iteOmega, IntWalk.toNatUp, hg, he, w1, w2, ha, Rd.cells, show ¬ ((s.pos : Int) < 0) by omega]
      refine IWp.one [] ?_
      simp [go_sem, -getElem?_pos, -List.map_take, -List.map_drop, IntWalk.iteOmega, IntWalk.toNatUp, hg, he, w1, w2, ha, Rd.cells, show ¬ ((s.pos : Int) < 0) by omega]
    · rw [Rd.ready_short he hn] at c1
      rw [Rd.byte_short he hn]
      refine IBody.calls (by kernel_rfl) ?_
      refine IBody.of Tryd.func61 rfl (by rw [Tryd.ntmps61]; simp) ?_
      rw [Tryd.ntmps61]
      have Kp : Kept [[0],[0,5]] := ⟨⟩
      iterate 2 (refine Kp.s ?_; clear Kp; intro Kp; simp [go_sem, -getElem?_pos, -List.map_take, -List.map_drop, IntWalk.iteOmega, IntWalk.toNatUp, hg, he, Rd.cells])
      refine ICalls.mono (c1) ?_
      rintro v _ ⟨rfl, rfl⟩
      try simp [go_sem, -getElem?_pos, -List.map_take, -List.map_drop, IntWalk.iteOmega, IntWalk.toNatUp, hg, he, Rd.cells]
      have Kp : Kept [[],[2],[]] := ⟨⟩
      iterate 3 (refine Kp.s ?_; clear Kp; intro Kp; simp [go_sem, -getElem?_pos, -List.map_take, -List.map_drop, IntWalk.iteOmega, IntWalk.toNatUp, hg, he, Rd.cells])
  · rw [Rd.ready_bad he, set_self hg] at c1
    rw [Rd.byte_bad he, set_self hg]
    refine IBody.calls (by kernel_rfl) ?_
    refine IBody.of Tryd.func61 rfl (by rw [Tryd.ntmps61]; simp) ?_
    rw [Tryd.ntmps61]
    have Kp : Kept [[0],[0,5]] := ⟨⟩
    iterate 2 (refine Kp.s ?_; clear Kp; intro Kp; simp [go_sem, -getElem?_pos, -List.map_take, -List.map_drop, IntWalk.iteOmega, IntWalk.toNatUp, hg, he, Rd.cells])
    refine ICalls.mono (c1) ?_
    rintro v _ ⟨rfl, rfl⟩
    try simp [go_sem, -getElem?_pos, -List.map_take, -List.map_drop, IntWalk.iteOmega, IntWalk.toNatUp, hg, he, Rd.cells]
    have Kp : Kept [[],[2],[]] := ⟨⟩
    iterate 3 (refine Kp.s ?_; clear Kp; intro Kp; simp [go_sem, -getElem?_pos, -List.map_take, -List.map_drop, IntWalk.iteOmega, IntWalk.toNatUp, hg, he, Rd.cells])
theorem mFlag : ICalls Tryd.prog 63 [ptrTo b 0] H fun v H' => v = .bool s.flag.1 ∧ H' = H.set b s.flag.2.cells := by
  have c1 := mReady H b s hs hg 1 (by decide)
  obtain ⟨h1, h2, h3⟩ := hs
  by_cases he : s.e = 0
  · by_cases hn : s.pos + 1 ≤ s.L.length
    · rw [Rd.ready_ok he hn, set_self hg] at c1
      have ha := Rd.at_get (s := s) (i := 0) (by omega)
      rw [Nat.add_zero] at ha
      have w1 := IntWalk.i64_in ((s.pos : Int) + 1) (by omega)
      have w2 := IntWalk.i64_in (s.pos : Int) (by omega)
      by_cases hf : 1 < s.at_ 0
      · rw [Rd.flag_form he hn hf]
        refine IBody.calls (by kernel_rfl) ?_
        refine IBody.of Tryd.func63 rfl (by rw [Tryd.ntmps63]; simp) ?_
        rw [Tryd.ntmps63]
        have Kp : Kept [[0],[0,5]] := ⟨⟩
        iterate 2 (refine Kp.s ?_; clear Kp; intro Kp; simp [go_sem, -getElem?_pos, -List.map_take, -List.map_drop, IntWalk.iteOmega, IntWalk.toNatUp, hg, he, hf, w1, w2, ha, Rd.cells, show ¬ ((s.pos : Int) < 0) by omega])
        refine ICalls.mono (c1) ?_
        rintro v _ ⟨rfl, rfl⟩
        try simp [go_sem, -getElem?_pos, -List.map_take, -List.map_drop, IntWalk.iteOmega, IntWalk.toNatUp, hg, he, hf, w1, w2, ha, Rd.cells, show ¬ ((s.pos : Int) < 0) by omega]
        have Kp : Kept [[],[0]] := ⟨⟩
        iterate 2 (refine Kp.s ?_; clear Kp; intro Kp; simp [go_sem, -getElem?_pos, -List.map_take, -List.map_drop, IntWalk.iteOmega, IntWalk.toNatUp, hg, he, hf, w1, w2, ha, Rd.cells, show ¬ ((s.pos : Int) < 0) by omega])
        refine IWp.seq ?_
        refine IWp.seq ?_
        refine IWp.read [0, 16] follows (by kernel_rfl) ?_
        simp [go_sem, -getElem?_pos, -List.map_take, -List.map_drop, IntWalk.iteOmega, IntWalk.toNatUp, hg, he, hf, w1, w2, ha, Rd.cells, show ¬ ((s.pos : Int) < 0) by omega]
        have Kp : Kept [[],[],[2],[]] := ⟨⟩
        iterate 4 (refine Kp.s ?_; clear Kp; intro Kp; simp [go_sem, -getElem?_pos, -List.map_take, -List.map_drop, IntWalk.iteOmega, IntWalk.toNatUp, hg, he, hf, w1, w2, ha, Rd.cells, show ¬ ((s.pos : Int) < 0) by omega])
      · rw [Rd.flag_eq he hn hf]
        refine IBody.calls (by kernel_rfl) ?_
        refine IBody.of Tryd.func63 rfl (by rw [Tryd.ntmps63]; simp) ?_
        rw [Tryd.ntmps63]
        have Kp : Kept [[0],[0,5]] := ⟨⟩
        iterate 2 (refine Kp.s ?_; clear Kp; intro Kp; simp [go_sem, -getElem?_pos, -List.map_take, -List.map_drop, IntWalk.iteOmega, IntWalk.toNatUp, hg, he, hf, w1, w2, ha, Rd.cells, show ¬ ((s.pos : Int) < 0) by omega])
        refine ICalls.mono (c1) ?_
        rintro v _ ⟨rfl, rfl⟩
        try simp [go_sem, -getElem?_pos, -List.map_take, -List.map_drop, IntWalk.iteOmega, IntWalk.toNatUp, hg, he, hf, w1, w2, ha, Rd.cells, show ¬ ((s.pos : Int) < 0) by omega]
        have Kp : Kept [[],[0]] := ⟨⟩
        iterate 2 (refine Kp.s ?_; clear Kp; intro Kp; simp [go_sem, -getElem?_pos, -List.map_take, -List.map_drop, IntWalk.iteOmega, IntWalk.toNatUp, hg, he, hf, w1, w2, ha, Rd.cells, show ¬ ((s.pos : Int) < 0) by omega])
        refine IWp.seq ?_
        refine IWp.seq ?_
        refine IWp.read [0, 16] follows (by kernel_rfl) ?_
        simp [go_sem, -getElem?_pos, -List.map_take, -List.map_drop, IntWalk.iteOmega, IntWalk.toNatUp, hg, he, hf, w1, w2, ha, Rd.cells, show ¬ ((s.pos : Int) < 0) by omega]
        have Kp : Kept [[],[0],[0]] := ⟨⟩
        iterate 3 (refine Kp.s ?_; clear Kp; intro Kp; simp [go_sem, -getElem?_pos, -List.map_take, -List.map_drop, IntWalk.iteOmega, IntWalk.toNatUp, hg, he, hf, w1, w2, ha, Rd.cells, show ¬ ((s.pos : Int) < 0) by omega])
        refine IWp.seq ?_
        refine IWp.read [2] follows (by kernel_rfl) ?_
        simp [go_sem, -getElem?_pos, -List.map_take, -List.map_drop, IntWalk.iteOmega, IntWalk.toNatUp, hg, he, hf, w1, w2, ha, Rd.cells, show ¬ ((s.pos : Int) < 0) by omega]
        refine IWp.one [] ?_
        simp [go_sem, -getElem?_pos, -List.map_take, -List.map_drop, IntWalk.iteOmega, IntWalk.toNatUp, hg, he, hf, w1, w2, ha, Rd.cells, show ¬ ((s.pos : Int) < 0) by omega]
    · rw [Rd.ready_short he hn] at c1
      rw [Rd.flag_short he hn]
      refine IBody.calls (by kernel_rfl) ?_
      refine IBody.of Tryd.func63 rfl (by rw [Tryd.ntmps63]; simp) ?_
      rw [Tryd.ntmps63]
      have Kp : Kept [[0],[0,5]] := ⟨⟩
      iterate 2 (refine Kp.s ?_; clear Kp; intro Kp; simp [go_sem, -getElem?_pos, -List.map_take, -List.map_drop, IntWalk.iteOmega, IntWalk.toNatUp, hg, he, Rd.cells])
      refine ICalls.mono (c1) ?_
      rintro v _ ⟨rfl, rfl⟩
      try simp [go_sem, -getElem?_pos, -List.map_take, -List.map_drop, IntWalk.iteOmega, IntWalk.toNatUp, hg, he, Rd.cells]
      have Kp : Kept [[],[2],[]] := ⟨⟩
      iterate 3 (refine Kp.s ?_; clear Kp; intro Kp; simp [go_sem, -getElem?_pos, -List.map_take, -List.map_drop, IntWalk.iteOmega, IntWalk.toNatUp, hg, he, Rd.cells])
  · rw [Rd.ready_bad he, set_self hg] at c1
    rw [Rd.flag_bad he, set_self hg]
    refine IBody.calls (by kernel_rfl) ?_
    refine IBody.of Tryd.func63 rfl (by rw [Tryd.ntmps63]; simp) ?_
    rw [Tryd.ntmps63]
    have Kp : Kept [[0],[0,5]] := ⟨⟩
    iterate 2 (refine Kp.s ?_; clear Kp; intro Kp; simp [go_sem, -getElem?_pos, -List.map_take, -List.map_drop, IntWalk.iteOmega, IntWalk.toNatUp, hg, he, Rd.cells])
    refine ICalls.mono (c1) ?_
    rintro v _ ⟨rfl, rfl⟩
    try simp [go_sem, -getElem?_pos, -List.map_take, -List.map_drop, IntWalk.iteOmega, IntWalk.toNatUp, hg, he, Rd.cells]
    have Kp : Kept [[],[2],[]] := ⟨⟩
    iterate 3 (refine Kp.s ?_; clear Kp; intro Kp; simp [go_sem, -getElem?_pos, -List.map_take, -List.map_drop, IntWalk.iteOmega, IntWalk.toNatUp, hg, he, Rd.cells])
end prog
end Go.Proofs.YtoecebibhcadoaaDoor.I
