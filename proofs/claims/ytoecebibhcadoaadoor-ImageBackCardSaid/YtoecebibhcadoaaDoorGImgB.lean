/- A configuration read: a rule; all of it. No condition. -/
import Derived.Test.YtoecebibhcadoaaDoorGImgA
namespace Go.Proofs.YtoecebibhcadoaaDoor.I
open Go Go.RowKit
set_option linter.unusedVariables false
set_option linter.unusedSimpArgs false
theorem walkS_as {P : Program} {n : Nat} {ops : Array Oper} {ks : List Nat} {H0 : Heap} {Q : Env → Heap → Prop} {e : Env} {H : Heap} {p : Plan} {tk : Tok (ops, Q)}
    (h : ∀ W : Plan → Env → Heap → Prop, (∀ p e H, W p e H = walkS P n ops ks H0 Q true p e H ⟨⟩) → W p e H) : walkS P n ops ks H0 Q true p e H tk :=
  h (fun p e H => walkS P n ops ks H0 Q true p e H ⟨⟩) fun _ _ _ => rfl
def ruleZ : List Value := [.int .u8 0, .int .i64 0, .int .i64 0, .int .i64 0, .int .i64 0, .int .i64 0, .int .u8 0, .bool false, .slice none 0 0]
set_option maxHeartbeats 4000000 in
theorem readRule (H : Heap) (b : Nat) (s : Rd) (hs : s.ok) (hb : H.get b = some ⟨s.cells, true⟩) :
    ICalls Tryd.prog 71 [ptrTo b 0] H fun v K => v = (ruleP s).1.val ∧ On b H K ∧ K.get b = some ⟨(ruleP s).2.cells, true⟩ := by
  obtain ⟨H2, hH2⟩ : ∃ H2, H2 = (H.alloc [ptrTo b 0]).alloc ruleZ := ⟨_, rfl⟩
  have l0 := Heap.lt_of_get hb
  have hn2 : H2.next = H.next + 1 + 1 := by rw [hH2]; rfl
  have gb : H2.get b = some ⟨s.cells, true⟩ := by rw [hH2, Heap.get_alloc_lt _ _ _ (by rw [next_alloc]; omega), Heap.get_alloc_lt _ _ _ l0]; exact hb
  have gc : H2.get H.next = some ⟨[ptrTo b 0], true⟩ := by rw [hH2, Heap.get_alloc_lt _ _ _ (by rw [next_alloc]; omega), Heap.get_alloc_new]
  have gr : H2.get (H.next + 1) = some ⟨ruleZ, true⟩ := by rw [hH2, get_alloc, next_alloc, if_pos rfl]
  have o2 : On b H H2 := by rw [hH2]; exact ((On.refl b H).alloc' _).alloc' _
  obtain ⟨s0, hs0⟩ : ∃ x, x = s := ⟨_, rfl⟩
  obtain ⟨v1, hv1⟩ : ∃ x, x = s0.byte.1 := ⟨_, rfl⟩
  obtain ⟨s1, hs1⟩ : ∃ x, x = s0.byte.2 := ⟨_, rfl⟩
  obtain ⟨v2, hv2⟩ : ∃ x, x = s1.byte.1 := ⟨_, rfl⟩
  obtain ⟨s2, hs2⟩ : ∃ x, x = s1.byte.2 := ⟨_, rfl⟩
  obtain ⟨v3, hv3⟩ : ∃ x, x = s2.int.1 := ⟨_, rfl⟩
  obtain ⟨s3, hs3⟩ : ∃ x, x = s2.int.2 := ⟨_, rfl⟩
  obtain ⟨v4, hv4⟩ : ∃ x, x = s3.int.1 := ⟨_, rfl⟩
  obtain ⟨s4, hs4⟩ : ∃ x, x = s3.int.2 := ⟨_, rfl⟩
  obtain ⟨v5, hv5⟩ : ∃ x, x = s4.int.1 := ⟨_, rfl⟩
  obtain ⟨s5, hs5⟩ : ∃ x, x = s4.int.2 := ⟨_, rfl⟩
  obtain ⟨v6, hv6⟩ : ∃ x, x = s5.int.1 := ⟨_, rfl⟩
  obtain ⟨s6, hs6⟩ : ∃ x, x = s5.int.2 := ⟨_, rfl⟩
  obtain ⟨v7, hv7⟩ : ∃ x, x = s6.byte.1 := ⟨_, rfl⟩
  obtain ⟨s7, hs7⟩ : ∃ x, x = s6.byte.2 := ⟨_, rfl⟩
  obtain ⟨v8, hv8⟩ : ∃ x, x = s7.flag.1 := ⟨_, rfl⟩
  obtain ⟨s8, hs8⟩ : ∃ x, x = s7.flag.2 := ⟨_, rfl⟩
  have k0 : s0.ok := by rw [hs0]; exact hs
  have k1 : s1.ok := by rw [hs1]; exact Rd.byte_ok k0
  have k2 : s2.ok := by rw [hs2]; exact Rd.byte_ok k1
  have k3 : s3.ok := by rw [hs3]; exact Rd.int_ok k2
  have k4 : s4.ok := by rw [hs4]; exact Rd.int_ok k3
  have k5 : s5.ok := by rw [hs5]; exact Rd.int_ok k4
  have k6 : s6.ok := by rw [hs6]; exact Rd.int_ok k5
  have k7 : s7.ok := by rw [hs7]; exact Rd.byte_ok k6
  have k8 : s8.ok := by rw [hs8]; exact Rd.flag_ok k7
  have hhd : headP s = (⟨v1, v2, v3, v4, v5, v6, v7, v8⟩, s8) := by
    subst hs0 hv1 hs1 hv2 hs2 hv3 hs3 hv4 hs4 hv5 hs5 hv6 hs6 hv7 hs7 hv8 hs8; rfl
  have w2 : IntKind.i64.wrap v2 = v2 := by
    have := Rd.byte_u8 s1 k1
    rw [← hv2] at this
    exact IntWalk.i64_in _ (by omega)
  have hru : ruleP s = (⟨v1, v2, v3, v4, v5, v6, v7, v8, (manyP stageP s8).1⟩, (manyP stageP s8).2) := by unfold ruleP; rw [hhd]
  rw [hru]
  rw [← hs0] at gb
  refine IBody.calls (by kernel_rfl) ?_
  refine IBody.of Tryd.func71 rfl (by rw [Tryd.ntmps71]; simp) ?_
  rw [Tryd.ntmps71]
  refine IWp.one [1, 2] ?_
  simp [go_sem, -getElem?_pos, -List.map_take, -List.map_drop, IntWalk.iteOmega, IntWalk.toNatUp]
  have hH2' := hH2
  simp only [ruleZ, ptrTo] at hH2'
  try rw [← hH2']
  generalize hcb : H.next = cb at *
  generalize hrb : cb + 1 = rb at *
  have hne : ¬ cb = b := by omega
  obtain ⟨Z, hZ⟩ : ∃ Z : Env → Heap → Prop, Z = fun e K => On b H2 K ∧ K.get b = some ⟨s8.cells, true⟩ ∧ K.get H2.next = some ⟨[.int .u8 v1, .int .i64 v2, .int .i64 v3, .int .i64 v4, .int .i64 v5, .int .i64 v6, .int .u8 v7, .bool v8, .slice none 0 0], true⟩ ∧ e = [(1, ptrTo cb 0), (2, ptrTo rb 0), (3, ptrTo H2.next 0)] := ⟨_, rfl⟩
  refine IWp.cut Z ?_ ?_
  · obtain ⟨q8, hq8⟩ : ∃ p : Plan, p = .val 17 (.eff 19 .done .done) := ⟨_, rfl⟩
    obtain ⟨p8, hp8⟩ : ∃ p : Plan, p = .val 17 (.eff 18 (.eff 19 .done .done) .done) := ⟨_, rfl⟩
    obtain ⟨q7, hq7⟩ : ∃ p : Plan, p = .eff 16 q8 .done := ⟨_, rfl⟩
    obtain ⟨p7, hp7⟩ : ∃ p : Plan, p = .eff 16 p8 (.eff 18 q7 .done) := ⟨_, rfl⟩
    obtain ⟨q6, hq6⟩ : ∃ p : Plan, p = .eff 14 q7 .done := ⟨_, rfl⟩
    obtain ⟨p6, hp6⟩ : ∃ p : Plan, p = .eff 14 p7 (.eff 18 q6 .done) := ⟨_, rfl⟩
    obtain ⟨q5, hq5⟩ : ∃ p : Plan, p = .eff 12 q6 .done := ⟨_, rfl⟩
    obtain ⟨p5, hp5⟩ : ∃ p : Plan, p = .eff 12 p6 (.eff 18 q5 .done) := ⟨_, rfl⟩
    obtain ⟨q4, hq4⟩ : ∃ p : Plan, p = .eff 10 q5 .done := ⟨_, rfl⟩
    obtain ⟨p4, hp4⟩ : ∃ p : Plan, p = .eff 10 p5 (.eff 18 q4 .done) := ⟨_, rfl⟩
    obtain ⟨q3, hq3⟩ : ∃ p : Plan, p = .eff 8 q4 .done := ⟨_, rfl⟩
    obtain ⟨p3, hp3⟩ : ∃ p : Plan, p = .eff 8 p4 (.eff 18 q3 .done) := ⟨_, rfl⟩
    obtain ⟨q2, hq2⟩ : ∃ p : Plan, p = .eff 6 q3 .done := ⟨_, rfl⟩
    obtain ⟨p2, hp2⟩ : ∃ p : Plan, p = .eff 6 p3 (.eff 18 q2 .done) := ⟨_, rfl⟩
    obtain ⟨q1, hq1⟩ : ∃ p : Plan, p = .eff 3 (.val 4 q2) .done := ⟨_, rfl⟩
    obtain ⟨p1, hp1⟩ : ∃ p : Plan, p = .eff 3 (.val 4 p2) (.eff 18 q1 .done) := ⟨_, rfl⟩
    obtain ⟨q0, hq0⟩ : ∃ p : Plan, p = .eff 1 q1 .done := ⟨_, rfl⟩
    obtain ⟨p0, hp0⟩ : ∃ p : Plan, p = .eff 1 p1 (.eff 18 q0 .done) := ⟨_, rfl⟩
    refine IWp.draw [1, 2, 3] [cb] (.val 0 (.val 2 (.val 5 (.val 7 (.val 9 (.val 11 (.val 13 (.val 15 p0)))))))) follows (by subst hp0 hq0 hp1 hq1 hp2 hq2 hp3 hq3 hp4 hq4 hp5 hq5 hp6 hq6 hp7 hq7 hp8 hq8; kernel_rfl) ?_
    refine walkS_as fun W hW => ?_
    have m8 : ∀ K, On b H2 K → K.get b = some ⟨s8.cells, true⟩ → K.get H2.next = some ⟨ruleZ, true⟩ → K.next = H2.next + 1 → W q8 [(1, ptrTo cb 0), (2, ptrTo rb 0), (3, ptrTo H2.next 0), (4, ptrTo b 0), (5, .int .u8 v1), (6, ptrTo b 0), (7, .int .u8 v2), (8, .int .i64 v2), (9, ptrTo b 0), (10, .int .i64 v3), (11, ptrTo b 0), (12, .int .i64 v4), (13, ptrTo b 0), (14, .int .i64 v5), (15, ptrTo b 0), (16, .int .i64 v6), (17, ptrTo b 0), (18, .int .u8 v7), (19, ptrTo b 0), (20, .bool v8)] K := fun K h1 h2 h3 h4 => by
      have hc : K.get cb = H2.get cb := h1.same cb (by omega) hne
      rw [hW, hq8]
      simp only [ruleZ] at h3
      simp [go_sem, h3, hc, show ¬ cb = H2.next by omega]
      rw [hZ]
      refine ⟨h1.setN (Nat.le_refl _) _, by rw [get_set, if_neg (by omega)]; exact h2, ?_, rfl⟩
      rw [get_set, if_pos rfl, h3]; rfl
    have n8 : ∀ K, On b H2 K → K.get b = some ⟨s8.cells, true⟩ → K.next = H2.next → W p8 [(1, ptrTo cb 0), (2, ptrTo rb 0), (4, ptrTo b 0), (5, .int .u8 v1), (6, ptrTo b 0), (7, .int .u8 v2), (8, .int .i64 v2), (9, ptrTo b 0), (10, .int .i64 v3), (11, ptrTo b 0), (12, .int .i64 v4), (13, ptrTo b 0), (14, .int .i64 v5), (15, ptrTo b 0), (16, .int .i64 v6), (17, ptrTo b 0), (18, .int .u8 v7), (19, ptrTo b 0), (20, .bool v8)] K := fun K h1 h2 h4 => by
      have hc : K.get cb = H2.get cb := h1.same cb (by omega) hne
      rw [hW, hp8]
      simp [go_sem, h4, hc, get_alloc, show ¬ cb = H2.next by omega]
      rw [hZ]
      exact ⟨h1.alloc' _, by rw [get_alloc, if_neg (by omega)]; exact h2, by rw [get_alloc, h4, if_pos rfl], rfl⟩
    have m7 : ∀ K, On b H2 K → K.get b = some ⟨s7.cells, true⟩ → K.get H2.next = some ⟨ruleZ, true⟩ → K.next = H2.next + 1 → W q7 [(1, ptrTo cb 0), (2, ptrTo rb 0), (3, ptrTo H2.next 0), (4, ptrTo b 0), (5, .int .u8 v1), (6, ptrTo b 0), (7, .int .u8 v2), (8, .int .i64 v2), (9, ptrTo b 0), (10, .int .i64 v3), (11, ptrTo b 0), (12, .int .i64 v4), (13, ptrTo b 0), (14, .int .i64 v5), (15, ptrTo b 0), (16, .int .i64 v6), (17, ptrTo b 0), (18, .int .u8 v7), (19, ptrTo b 0)] K := fun K h1 h2 h3 h4 => by
      have hc : K.get cb = H2.get cb := h1.same cb (by omega) hne
      have c1 := rFlag K b s7 k7 h2
      rw [hW, hq7]
      simp [go_sem]
      refine ICalls.mono c1 ?_
      rintro v _ ⟨rfl, rfl⟩
      simp [go_sem, hc, get_set, hne, ← hv8]
      exact (hW _ _ _).mp (m8 _ (h1.set' _) (by rw [get_set, if_pos rfl, h2, hs8]; rfl) (by rw [get_set, if_neg (by omega)]; exact h3) h4)
    have n7 : ∀ K, On b H2 K → K.get b = some ⟨s7.cells, true⟩ → K.next = H2.next → W p7 [(1, ptrTo cb 0), (2, ptrTo rb 0), (4, ptrTo b 0), (5, .int .u8 v1), (6, ptrTo b 0), (7, .int .u8 v2), (8, .int .i64 v2), (9, ptrTo b 0), (10, .int .i64 v3), (11, ptrTo b 0), (12, .int .i64 v4), (13, ptrTo b 0), (14, .int .i64 v5), (15, ptrTo b 0), (16, .int .i64 v6), (17, ptrTo b 0), (18, .int .u8 v7), (19, ptrTo b 0)] K := fun K h1 h2 h4 => by
      have hc : K.get cb = H2.get cb := h1.same cb (by omega) hne
      have c1 := rFlag K b s7 k7 h2
      rw [hW, hp7]
      simp [go_sem]
      refine ⟨?_, ?_⟩
      · refine ICalls.mono c1 ?_
        rintro v _ ⟨rfl, rfl⟩
        simp [go_sem, hc, get_set, hne, ← hv8]
        exact (hW _ _ _).mp (n8 _ (h1.set' _) (by rw [get_set, if_pos rfl, h2, hs8]; rfl) h4)
      · simp [go_sem, hc, h4, get_alloc, show ¬ cb = H2.next by omega]
        exact (hW _ _ _).mp (m7 _ (h1.alloc' _) (by rw [get_alloc, if_neg (by omega)]; exact h2) (by rw [get_alloc, h4, if_pos rfl]; rfl) (by rw [next_alloc, h4]))
    have m6 : ∀ K, On b H2 K → K.get b = some ⟨s6.cells, true⟩ → K.get H2.next = some ⟨ruleZ, true⟩ → K.next = H2.next + 1 → W q6 [(1, ptrTo cb 0), (2, ptrTo rb 0), (3, ptrTo H2.next 0), (4, ptrTo b 0), (5, .int .u8 v1), (6, ptrTo b 0), (7, .int .u8 v2), (8, .int .i64 v2), (9, ptrTo b 0), (10, .int .i64 v3), (11, ptrTo b 0), (12, .int .i64 v4), (13, ptrTo b 0), (14, .int .i64 v5), (15, ptrTo b 0), (16, .int .i64 v6), (17, ptrTo b 0), (19, ptrTo b 0)] K := fun K h1 h2 h3 h4 => by
      have hc : K.get cb = H2.get cb := h1.same cb (by omega) hne
      have c1 := rByte K b s6 k6 h2
      rw [hW, hq6]
      simp [go_sem]
      refine ICalls.mono c1 ?_
      rintro v _ ⟨rfl, rfl⟩
      simp [go_sem, hc, get_set, hne, ← hv7]
      exact (hW _ _ _).mp (m7 _ (h1.set' _) (by rw [get_set, if_pos rfl, h2, hs7]; rfl) (by rw [get_set, if_neg (by omega)]; exact h3) h4)
    have n6 : ∀ K, On b H2 K → K.get b = some ⟨s6.cells, true⟩ → K.next = H2.next → W p6 [(1, ptrTo cb 0), (2, ptrTo rb 0), (4, ptrTo b 0), (5, .int .u8 v1), (6, ptrTo b 0), (7, .int .u8 v2), (8, .int .i64 v2), (9, ptrTo b 0), (10, .int .i64 v3), (11, ptrTo b 0), (12, .int .i64 v4), (13, ptrTo b 0), (14, .int .i64 v5), (15, ptrTo b 0), (16, .int .i64 v6), (17, ptrTo b 0), (19, ptrTo b 0)] K := fun K h1 h2 h4 => by
      have hc : K.get cb = H2.get cb := h1.same cb (by omega) hne
      have c1 := rByte K b s6 k6 h2
      rw [hW, hp6]
      simp [go_sem]
      refine ⟨?_, ?_⟩
      · refine ICalls.mono c1 ?_
        rintro v _ ⟨rfl, rfl⟩
        simp [go_sem, hc, get_set, hne, ← hv7]
        exact (hW _ _ _).mp (n7 _ (h1.set' _) (by rw [get_set, if_pos rfl, h2, hs7]; rfl) h4)
      · simp [go_sem, hc, h4, get_alloc, show ¬ cb = H2.next by omega]
        exact (hW _ _ _).mp (m6 _ (h1.alloc' _) (by rw [get_alloc, if_neg (by omega)]; exact h2) (by rw [get_alloc, h4, if_pos rfl]; rfl) (by rw [next_alloc, h4]))
    have m5 : ∀ K, On b H2 K → K.get b = some ⟨s5.cells, true⟩ → K.get H2.next = some ⟨ruleZ, true⟩ → K.next = H2.next + 1 → W q5 [(1, ptrTo cb 0), (2, ptrTo rb 0), (3, ptrTo H2.next 0), (4, ptrTo b 0), (5, .int .u8 v1), (6, ptrTo b 0), (7, .int .u8 v2), (8, .int .i64 v2), (9, ptrTo b 0), (10, .int .i64 v3), (11, ptrTo b 0), (12, .int .i64 v4), (13, ptrTo b 0), (14, .int .i64 v5), (15, ptrTo b 0), (17, ptrTo b 0), (19, ptrTo b 0)] K := fun K h1 h2 h3 h4 => by
      have hc : K.get cb = H2.get cb := h1.same cb (by omega) hne
      have c1 := rInt K b s5 k5 h2
      rw [hW, hq5]
      simp [go_sem]
      refine ICalls.mono c1 ?_
      rintro v _ ⟨rfl, rfl⟩
      simp [go_sem, hc, get_set, hne, ← hv6]
      exact (hW _ _ _).mp (m6 _ (h1.set' _) (by rw [get_set, if_pos rfl, h2, hs6]; rfl) (by rw [get_set, if_neg (by omega)]; exact h3) h4)
    have n5 : ∀ K, On b H2 K → K.get b = some ⟨s5.cells, true⟩ → K.next = H2.next → W p5 [(1, ptrTo cb 0), (2, ptrTo rb 0), (4, ptrTo b 0), (5, .int .u8 v1), (6, ptrTo b 0), (7, .int .u8 v2), (8, .int .i64 v2), (9, ptrTo b 0), (10, .int .i64 v3), (11, ptrTo b 0), (12, .int .i64 v4), (13, ptrTo b 0), (14, .int .i64 v5), (15, ptrTo b 0), (17, ptrTo b 0), (19, ptrTo b 0)] K := fun K h1 h2 h4 => by
      have hc : K.get cb = H2.get cb := h1.same cb (by omega) hne
      have c1 := rInt K b s5 k5 h2
      rw [hW, hp5]
      simp [go_sem]
      refine ⟨?_, ?_⟩
      · refine ICalls.mono c1 ?_
        rintro v _ ⟨rfl, rfl⟩
        simp [go_sem, hc, get_set, hne, ← hv6]
        exact (hW _ _ _).mp (n6 _ (h1.set' _) (by rw [get_set, if_pos rfl, h2, hs6]; rfl) h4)
      · simp [go_sem, hc, h4, get_alloc, show ¬ cb = H2.next by omega]
        exact (hW _ _ _).mp (m5 _ (h1.alloc' _) (by rw [get_alloc, if_neg (by omega)]; exact h2) (by rw [get_alloc, h4, if_pos rfl]; rfl) (by rw [next_alloc, h4]))
    have m4 : ∀ K, On b H2 K → K.get b = some ⟨s4.cells, true⟩ → K.get H2.next = some ⟨ruleZ, true⟩ → K.next = H2.next + 1 → W q4 [(1, ptrTo cb 0), (2, ptrTo rb 0), (3, ptrTo H2.next 0), (4, ptrTo b 0), (5, .int .u8 v1), (6, ptrTo b 0), (7, .int .u8 v2), (8, .int .i64 v2), (9, ptrTo b 0), (10, .int .i64 v3), (11, ptrTo b 0), (12, .int .i64 v4), (13, ptrTo b 0), (15, ptrTo b 0), (17, ptrTo b 0), (19, ptrTo b 0)] K := fun K h1 h2 h3 h4 => by
      have hc : K.get cb = H2.get cb := h1.same cb (by omega) hne
      have c1 := rInt K b s4 k4 h2
      rw [hW, hq4]
      simp [go_sem]
      refine ICalls.mono c1 ?_
      rintro v _ ⟨rfl, rfl⟩
      simp [go_sem, hc, get_set, hne, ← hv5]
      exact (hW _ _ _).mp (m5 _ (h1.set' _) (by rw [get_set, if_pos rfl, h2, hs5]; rfl) (by rw [get_set, if_neg (by omega)]; exact h3) h4)
    have n4 : ∀ K, On b H2 K → K.get b = some ⟨s4.cells, true⟩ → K.next = H2.next → W p4 [(1, ptrTo cb 0), (2, ptrTo rb 0), (4, ptrTo b 0), (5, .int .u8 v1), (6, ptrTo b 0), (7, .int .u8 v2), (8, .int .i64 v2), (9, ptrTo b 0), (10, .int .i64 v3), (11, ptrTo b 0), (12, .int .i64 v4), (13, ptrTo b 0), (15, ptrTo b 0), (17, ptrTo b 0), (19, ptrTo b 0)] K := fun K h1 h2 h4 => by
      have hc : K.get cb = H2.get cb := h1.same cb (by omega) hne
      have c1 := rInt K b s4 k4 h2
      rw [hW, hp4]
      simp [go_sem]
      refine ⟨?_, ?_⟩
      · refine ICalls.mono c1 ?_
        rintro v _ ⟨rfl, rfl⟩
        simp [go_sem, hc, get_set, hne, ← hv5]
        exact (hW _ _ _).mp (n5 _ (h1.set' _) (by rw [get_set, if_pos rfl, h2, hs5]; rfl) h4)
      · simp [go_sem, hc, h4, get_alloc, show ¬ cb = H2.next by omega]
        exact (hW _ _ _).mp (m4 _ (h1.alloc' _) (by rw [get_alloc, if_neg (by omega)]; exact h2) (by rw [get_alloc, h4, if_pos rfl]; rfl) (by rw [next_alloc, h4]))
    have m3 : ∀ K, On b H2 K → K.get b = some ⟨s3.cells, true⟩ → K.get H2.next = some ⟨ruleZ, true⟩ → K.next = H2.next + 1 → W q3 [(1, ptrTo cb 0), (2, ptrTo rb 0), (3, ptrTo H2.next 0), (4, ptrTo b 0), (5, .int .u8 v1), (6, ptrTo b 0), (7, .int .u8 v2), (8, .int .i64 v2), (9, ptrTo b 0), (10, .int .i64 v3), (11, ptrTo b 0), (13, ptrTo b 0), (15, ptrTo b 0), (17, ptrTo b 0), (19, ptrTo b 0)] K := fun K h1 h2 h3 h4 => by
      have hc : K.get cb = H2.get cb := h1.same cb (by omega) hne
      have c1 := rInt K b s3 k3 h2
      rw [hW, hq3]
      simp [go_sem]
      refine ICalls.mono c1 ?_
      rintro v _ ⟨rfl, rfl⟩
      simp [go_sem, hc, get_set, hne, ← hv4]
      exact (hW _ _ _).mp (m4 _ (h1.set' _) (by rw [get_set, if_pos rfl, h2, hs4]; rfl) (by rw [get_set, if_neg (by omega)]; exact h3) h4)
    have n3 : ∀ K, On b H2 K → K.get b = some ⟨s3.cells, true⟩ → K.next = H2.next → W p3 [(1, ptrTo cb 0), (2, ptrTo rb 0), (4, ptrTo b 0), (5, .int .u8 v1), (6, ptrTo b 0), (7, .int .u8 v2), (8, .int .i64 v2), (9, ptrTo b 0), (10, .int .i64 v3), (11, ptrTo b 0), (13, ptrTo b 0), (15, ptrTo b 0), (17, ptrTo b 0), (19, ptrTo b 0)] K := fun K h1 h2 h4 => by
      have hc : K.get cb = H2.get cb := h1.same cb (by omega) hne
      have c1 := rInt K b s3 k3 h2
      rw [hW, hp3]
      simp [go_sem]
      refine ⟨?_, ?_⟩
      · refine ICalls.mono c1 ?_
        rintro v _ ⟨rfl, rfl⟩
        simp [go_sem, hc, get_set, hne, ← hv4]
        exact (hW _ _ _).mp (n4 _ (h1.set' _) (by rw [get_set, if_pos rfl, h2, hs4]; rfl) h4)
      · simp [go_sem, hc, h4, get_alloc, show ¬ cb = H2.next by omega]
        exact (hW _ _ _).mp (m3 _ (h1.alloc' _) (by rw [get_alloc, if_neg (by omega)]; exact h2) (by rw [get_alloc, h4, if_pos rfl]; rfl) (by rw [next_alloc, h4]))
    have m2 : ∀ K, On b H2 K → K.get b = some ⟨s2.cells, true⟩ → K.get H2.next = some ⟨ruleZ, true⟩ → K.next = H2.next + 1 → W q2 [(1, ptrTo cb 0), (2, ptrTo rb 0), (3, ptrTo H2.next 0), (4, ptrTo b 0), (5, .int .u8 v1), (6, ptrTo b 0), (7, .int .u8 v2), (8, .int .i64 v2), (9, ptrTo b 0), (11, ptrTo b 0), (13, ptrTo b 0), (15, ptrTo b 0), (17, ptrTo b 0), (19, ptrTo b 0)] K := fun K h1 h2 h3 h4 => by
      have hc : K.get cb = H2.get cb := h1.same cb (by omega) hne
      have c1 := rInt K b s2 k2 h2
      rw [hW, hq2]
      simp [go_sem]
      refine ICalls.mono c1 ?_
      rintro v _ ⟨rfl, rfl⟩
      simp [go_sem, hc, get_set, hne, ← hv3]
      exact (hW _ _ _).mp (m3 _ (h1.set' _) (by rw [get_set, if_pos rfl, h2, hs3]; rfl) (by rw [get_set, if_neg (by omega)]; exact h3) h4)
    have n2 : ∀ K, On b H2 K → K.get b = some ⟨s2.cells, true⟩ → K.next = H2.next → W p2 [(1, ptrTo cb 0), (2, ptrTo rb 0), (4, ptrTo b 0), (5, .int .u8 v1), (6, ptrTo b 0), (7, .int .u8 v2), (8, .int .i64 v2), (9, ptrTo b 0), (11, ptrTo b 0), (13, ptrTo b 0), (15, ptrTo b 0), (17, ptrTo b 0), (19, ptrTo b 0)] K := fun K h1 h2 h4 => by
      have hc : K.get cb = H2.get cb := h1.same cb (by omega) hne
      have c1 := rInt K b s2 k2 h2
      rw [hW, hp2]
      simp [go_sem]
      refine ⟨?_, ?_⟩
      · refine ICalls.mono c1 ?_
        rintro v _ ⟨rfl, rfl⟩
        simp [go_sem, hc, get_set, hne, ← hv3]
        exact (hW _ _ _).mp (n3 _ (h1.set' _) (by rw [get_set, if_pos rfl, h2, hs3]; rfl) h4)
      · simp [go_sem, hc, h4, get_alloc, show ¬ cb = H2.next by omega]
        exact (hW _ _ _).mp (m2 _ (h1.alloc' _) (by rw [get_alloc, if_neg (by omega)]; exact h2) (by rw [get_alloc, h4, if_pos rfl]; rfl) (by rw [next_alloc, h4]))
    have m1 : ∀ K, On b H2 K → K.get b = some ⟨s1.cells, true⟩ → K.get H2.next = some ⟨ruleZ, true⟩ → K.next = H2.next + 1 → W q1 [(1, ptrTo cb 0), (2, ptrTo rb 0), (3, ptrTo H2.next 0), (4, ptrTo b 0), (5, .int .u8 v1), (6, ptrTo b 0), (9, ptrTo b 0), (11, ptrTo b 0), (13, ptrTo b 0), (15, ptrTo b 0), (17, ptrTo b 0), (19, ptrTo b 0)] K := fun K h1 h2 h3 h4 => by
      have hc : K.get cb = H2.get cb := h1.same cb (by omega) hne
      have c1 := rByte K b s1 k1 h2
      rw [hW, hq1]
      simp [go_sem]
      refine ICalls.mono c1 ?_
      rintro v _ ⟨rfl, rfl⟩
      simp [go_sem, hc, get_set, hne, ← hv2, w2]
      exact (hW _ _ _).mp (m2 _ (h1.set' _) (by rw [get_set, if_pos rfl, h2, hs2]; rfl) (by rw [get_set, if_neg (by omega)]; exact h3) h4)
    have n1 : ∀ K, On b H2 K → K.get b = some ⟨s1.cells, true⟩ → K.next = H2.next → W p1 [(1, ptrTo cb 0), (2, ptrTo rb 0), (4, ptrTo b 0), (5, .int .u8 v1), (6, ptrTo b 0), (9, ptrTo b 0), (11, ptrTo b 0), (13, ptrTo b 0), (15, ptrTo b 0), (17, ptrTo b 0), (19, ptrTo b 0)] K := fun K h1 h2 h4 => by
      have hc : K.get cb = H2.get cb := h1.same cb (by omega) hne
      have c1 := rByte K b s1 k1 h2
      rw [hW, hp1]
      simp [go_sem]
      refine ⟨?_, ?_⟩
      · refine ICalls.mono c1 ?_
        rintro v _ ⟨rfl, rfl⟩
        simp [go_sem, hc, get_set, hne, ← hv2, w2]
        exact (hW _ _ _).mp (n2 _ (h1.set' _) (by rw [get_set, if_pos rfl, h2, hs2]; rfl) h4)
      · simp [go_sem, hc, h4, get_alloc, show ¬ cb = H2.next by omega]
        exact (hW _ _ _).mp (m1 _ (h1.alloc' _) (by rw [get_alloc, if_neg (by omega)]; exact h2) (by rw [get_alloc, h4, if_pos rfl]; rfl) (by rw [next_alloc, h4]))
    have m0 : ∀ K, On b H2 K → K.get b = some ⟨s0.cells, true⟩ → K.get H2.next = some ⟨ruleZ, true⟩ → K.next = H2.next + 1 → W q0 [(1, ptrTo cb 0), (2, ptrTo rb 0), (3, ptrTo H2.next 0), (4, ptrTo b 0), (6, ptrTo b 0), (9, ptrTo b 0), (11, ptrTo b 0), (13, ptrTo b 0), (15, ptrTo b 0), (17, ptrTo b 0), (19, ptrTo b 0)] K := fun K h1 h2 h3 h4 => by
      have hc : K.get cb = H2.get cb := h1.same cb (by omega) hne
      have c1 := rByte K b s0 k0 h2
      rw [hW, hq0]
      simp [go_sem]
      refine ICalls.mono c1 ?_
      rintro v _ ⟨rfl, rfl⟩
      simp [go_sem, hc, get_set, hne, ← hv1]
      exact (hW _ _ _).mp (m1 _ (h1.set' _) (by rw [get_set, if_pos rfl, h2, hs1]; rfl) (by rw [get_set, if_neg (by omega)]; exact h3) h4)
    have n0 : ∀ K, On b H2 K → K.get b = some ⟨s0.cells, true⟩ → K.next = H2.next → W p0 [(1, ptrTo cb 0), (2, ptrTo rb 0), (4, ptrTo b 0), (6, ptrTo b 0), (9, ptrTo b 0), (11, ptrTo b 0), (13, ptrTo b 0), (15, ptrTo b 0), (17, ptrTo b 0), (19, ptrTo b 0)] K := fun K h1 h2 h4 => by
      have hc : K.get cb = H2.get cb := h1.same cb (by omega) hne
      have c1 := rByte K b s0 k0 h2
      rw [hW, hp0]
      simp [go_sem]
      refine ⟨?_, ?_⟩
      · refine ICalls.mono c1 ?_
        rintro v _ ⟨rfl, rfl⟩
        simp [go_sem, hc, get_set, hne, ← hv1]
        exact (hW _ _ _).mp (n1 _ (h1.set' _) (by rw [get_set, if_pos rfl, h2, hs1]; rfl) h4)
      · simp [go_sem, hc, h4, get_alloc, show ¬ cb = H2.next by omega]
        exact (hW _ _ _).mp (m0 _ (h1.alloc' _) (by rw [get_alloc, if_neg (by omega)]; exact h2) (by rw [get_alloc, h4, if_pos rfl]; rfl) (by rw [next_alloc, h4]))
    rw [hW]
    simp [go_sem, gc]
    exact (hW _ _ _).mp (n0 H2 (On.refl _ _) gb rfl)
  rintro e K hK
  rw [hZ] at hK
  obtain ⟨h1, h2, h3, rfl⟩ := hK
  have hc : K.get cb = some ⟨[ptrTo b 0], true⟩ := (h1.same cb (by omega) hne).trans gc
  have hr : K.get rb = some ⟨ruleZ, true⟩ := (h1.same rb (by omega) (by omega)).trans gr
  have c9 := listStage K b cb s8 k8 h2 hc
  refine IWp.one [2, 3] ?_
  simp [go_sem, -getElem?_pos, -List.map_take, -List.map_drop, IntWalk.iteOmega, IntWalk.toNatUp, hc, h3]
  refine ICalls.mono (c9) ?_
  rintro v K1 ⟨rfl, g1, g2⟩
  have h3' := (g1.same H2.next (Heap.lt_of_get h3) (by omega)).trans h3; have hr' := (g1.same rb (Heap.lt_of_get hr) (by omega)).trans hr
  try simp [go_sem, -getElem?_pos, -List.map_take, -List.map_drop, IntWalk.iteOmega, IntWalk.toNatUp, hc, h3, h3', hr', ruleZ, get_set, show ¬ rb = H2.next by omega]
  have Kp : Kept [[2],[]] := ⟨⟩
  iterate 2 (refine Kp.s ?_; clear Kp; intro Kp; simp [go_sem, -getElem?_pos, -List.map_take, -List.map_drop, IntWalk.iteOmega, IntWalk.toNatUp, hc, h3, h3', hr', ruleZ, get_set, show ¬ rb = H2.next by omega])
  exact ⟨rfl, (((o2.trans h1).trans g1).setN (by omega) _).setN (by omega) _, g2⟩
theorem oneRule (K : Heap) (b cb : Nat) (t : Rd) (ht : t.ok) (hb : K.get b = some ⟨t.cells, true⟩) (hcb : K.get cb = some ⟨[ptrTo b 0], true⟩) : ICalls Tryd.prog 70 [ptrTo cb 0] K fun v K' => v = (ruleP t).1.val ∧ On b K K' ∧ K'.get b = some ⟨(ruleP t).2.cells, true⟩ := by
  have l1 := Heap.lt_of_get hb
  have l2 := Heap.lt_of_get hcb
  have c1 := readRule (K.alloc ruleZ) b t ht (by rw [Heap.get_alloc_lt _ _ _ l1]; exact hb)
  have hz : (K.alloc ruleZ).get K.next = some ⟨ruleZ, true⟩ := Heap.get_alloc_new _ _
  have on := On.alloc b K ruleZ
  have hn : (K.alloc ruleZ).next = K.next + 1 := rfl
  refine IBody.calls (by kernel_rfl) ?_
  refine IBody.of Tryd.func70 rfl (by rw [Tryd.ntmps70]; simp) ?_
  rw [Tryd.ntmps70]
  refine IWp.one [0, 1] ?_
  simp [go_sem, -getElem?_pos, -List.map_take, -List.map_drop, IntWalk.iteOmega, IntWalk.toNatUp]
  refine IWp.seq ?_
  have e : K.alloc [.int .u8 0, .int .i64 0, .int .i64 0, .int .i64 0, .int .i64 0, .int .i64 0, .int .u8 0, .bool false, .slice none 0 0] = K.alloc ruleZ := rfl
  try rw [e]
  have hcb2 : (K.alloc ruleZ).get cb = some ⟨[ptrTo b 0], true⟩ := by rw [Heap.get_alloc_lt _ _ _ l2]; exact hcb
  generalize K.alloc ruleZ = K0 at *
  refine IWp.one [1] ?_
  simp [go_sem, -getElem?_pos, -List.map_take, -List.map_drop, IntWalk.iteOmega, IntWalk.toNatUp, hcb2]
  refine ICalls.mono (c1) ?_
  rintro v K1 ⟨rfl, g1, g2⟩
  have hz' := (g1.same K.next (by omega) (by omega)).trans hz
  try simp [go_sem, -getElem?_pos, -List.map_take, -List.map_drop, IntWalk.iteOmega, IntWalk.toNatUp, hcb2, hz', Rule.val, Rule.cells, ruleZ]
  refine IWp.one [] ?_
  simp [go_sem, -getElem?_pos, -List.map_take, -List.map_drop, IntWalk.iteOmega, IntWalk.toNatUp, hcb2, hz', Rule.val, Rule.cells, ruleZ]
  exact ⟨(on.trans g1).setN (Nat.le_refl _) _, g2⟩
set_option maxHeartbeats 4000000 in
theorem listRule (H : Heap) (b cb : Nat) (t : Rd) (ht : t.ok) (hb : H.get b = some ⟨t.cells, true⟩) (hcb : H.get cb = some ⟨[ptrTo b 0], true⟩) :
    ICalls Tryd.prog 69 [ptrTo b 0, .func (.func 70) #[] #[ptrTo cb 0]] H fun v K => v = frow 9 0 ((manyP ruleP t).1.map Rule.val) ∧ On b H K ∧ K.get b = some ⟨(manyP ruleP t).2.cells, true⟩ := by
  refine ICalls.frozen ?_
  have hne := box_ne H b cb t ht hb hcb
  have l1 := Heap.lt_of_get hb
  have l2 := Heap.lt_of_get hcb
  have c1 := rByte H b t ht hb
  have hN := Rd.byte_u8 t ht
  have g1 : (H.set b t.byte.2.cells).get b = some ⟨t.byte.2.cells, true⟩ := by rw [get_set, if_pos rfl, hb]; rfl
  have g2 : (H.set b t.byte.2.cells).get cb = some ⟨[ptrTo b 0], true⟩ := by rw [get_set, if_neg hne]; exact hcb
  have o1 := On.set b H t.byte.2.cells
  have hi0 := Inv.start ruleP t ht
  refine IBody.calls (by kernel_rfl) ?_
  refine IBody.of Tryd.func69 rfl (by rw [Tryd.ntmps69]; simp) ?_
  rw [Tryd.ntmps69]
  have Kp : Kept [[0,1],[0,1,5],[0,1,5,9,10]] := ⟨⟩
  iterate 3 (refine Kp.s ?_; clear Kp; intro Kp; simp [go_sem, -getElem?_pos, -List.map_take, -List.map_drop, IntWalk.iteOmega, IntWalk.toNatUp])
  refine ICalls.mono (c1) ?_
  rintro v _ ⟨rfl, rfl⟩
  try simp [go_sem, -getElem?_pos, -List.map_take, -List.map_drop, IntWalk.iteOmega, IntWalk.toNatUp]
  refine IWp.block ?_
  generalize H.set b t.byte.2.cells = H1 at *
  obtain ⟨N, hNe⟩ : ∃ N, N = t.byte.1 := ⟨_, rfl⟩
  rw [← hNe] at hN hi0 ⊢
  obtain ⟨CF, hCF⟩ : ∃ CF : Value, CF = .func (.func 70) #[] #[ptrTo cb 0] := ⟨_, rfl⟩
  try rw [← hCF]
  refine IWp.loop (fun j e K => ∃ (i : Nat) (v : Value) (acc : List (Rule)) (st : Rd), j = N.toNat - i ∧ Inv ruleP t N.toNat i acc st ∧ K.get b = some ⟨st.cells, true⟩ ∧ K.get cb = some ⟨[ptrTo b 0], true⟩ ∧ On b H K ∧ Bld 9 K H.next v (acc.map Rule.val) ∧ e = [(0, ptrTo b 0), (1, CF), (5, v), (9, .int .u8 N), (10, .int .u8 (i : Int))]) N.toNat ⟨0, _, [], _, rfl, hi0, g1, g2, o1, Bld.nil _ _ _, by rw [hCF]; simp [go_sem]⟩ ?_
  clear g1 g2 o1 hi0 c1
  rintro j e K ⟨i, v, acc, st, rfl, hi, k1, k2, ho, hv, rfl⟩
  obtain ⟨hi1, hso, hil, hin⟩ := hi.parts
  by_cases hlt : i < N.toNat
  · have hlt2 : (i : Int) < N := by omega
    have c2 := rFault K b st k1
    by_cases he : st.e = 0
    · have hstep := hi.step ruleP_ok hlt he
      have c3 := oneRule K b cb st hso k1 k2
      have w1 : IntKind.u8.wrap ((i : Int) + 1) = i + 1 := IntWalk.u8_in _ (by omega)
      subst hCF
      have Kp : Kept [[0,1,5,9,10,11],[],[0,1,5,9,10],[0,1,5,7,9,10]] := ⟨⟩
      iterate 4 (refine Kp.s ?_; clear Kp; intro Kp; simp [go_sem, -getElem?_pos, -List.map_take, -List.map_drop, IntWalk.iteOmega, IntWalk.toNatUp, hlt2, he, Rd.fault])
      refine ICalls.then (c2) ?_
      try simp [go_sem, -getElem?_pos, -List.map_take, -List.map_drop, IntWalk.iteOmega, IntWalk.toNatUp, hlt2, he, Rd.fault]
      have Kp : Kept [[0,1,5,9,10,18],[],[0,1,5,9,10],[0,1,5,9,10]] := ⟨⟩
      iterate 4 (refine Kp.s ?_; clear Kp; intro Kp; simp [go_sem, -getElem?_pos, -List.map_take, -List.map_drop, IntWalk.iteOmega, IntWalk.toNatUp, hlt2, he, Rd.fault])
      refine ICalls.mono c3 ?_
      rintro v1 K1 ⟨rfl, hon, hk1⟩
      have hk2 : K1.get cb = some ⟨[ptrTo b 0], true⟩ := by rw [hon.same cb (Heap.lt_of_get k2) hne]; exact k2
      have hv1 : Bld 9 K1 H.next v (acc.map Rule.val) := hv.same fun j k hj hk => by rw [hon.same j (Heap.lt_of_get hk) (by omega)]; exact hk
      have hn1 : H.next ≤ K1.next := Nat.le_trans ho.next hon.next
      generalize (ruleP st).1 = x at *
      obtain ⟨x1, x2, x3, x4, x5, x6, x7, x8, x9⟩ := x
      obtain ⟨v', K3, e3, b3', s3, n3, f3, t3⟩ := app_one (P := Tryd.prog) (t := 29) (e := 49) (sz := 9) (by_ := 80) (z := .agg ⟨[.int .u8 0, .int .i64 0, .int .i64 0, .int .i64 0, .int .i64 0, .int .i64 0, .int .u8 0, .bool false, .slice none 0 0]⟩) (by kernel_rfl) (by kernel_rfl) (by kernel_rfl) (by kernel_rfl) rfl (Rule.val ⟨x1, x2, x3, x4, x5, x6, x7, x8, x9⟩) [.int .u8 x1, .int .i64 x2, .int .i64 x3, .int .i64 x4, .int .i64 x5, .int .i64 x6, .int .u8 x7, .bool x8, frow 2 0 (x9.map Stage.val)] hv1 rfl rfl (by simp [one0, ints, frow]) hn1 (by simp; omega) (by simp; omega)
      simp [go_sem, e3, Rule.val, Rule.cells]
      refine IWp.one [0, 1, 5, 9, 10] ?_
      simp [go_sem, -getElem?_pos, -List.map_take, -List.map_drop, IntWalk.iteOmega, IntWalk.toNatUp, w1]
      exact ⟨N.toNat - (i + 1), by omega, i + 1, rfl, v', _, _, hstep, (s3 b l1).trans hk1, (s3 cb l2).trans hk2, ⟨fun j h1 h2 => (s3 j h1).trans ((ho.trans hon).same j h1 h2), Nat.le_trans hn1 n3⟩, by rw [List.map_append]; exact b3', rfl, by simp⟩
    · skip
      have Kp : Kept [[0,1,5,9,10,11],[],[0,1,5,9,10],[0,1,5,7,9,10]] := ⟨⟩
      iterate 4 (refine Kp.s ?_; clear Kp; intro Kp; simp [go_sem, -getElem?_pos, -List.map_take, -List.map_drop, IntWalk.iteOmega, IntWalk.toNatUp, hlt2, he, Rd.fault])
      refine ICalls.then (c2) ?_
      try simp [go_sem, -getElem?_pos, -List.map_take, -List.map_drop, IntWalk.iteOmega, IntWalk.toNatUp, hlt2, he, Rd.fault]
      have Kp : Kept [[0,1,5,9,10,18],[],[5],[4],[]] := ⟨⟩
      iterate 5 (refine Kp.s ?_; clear Kp; intro Kp; simp [go_sem, -getElem?_pos, -List.map_take, -List.map_drop, IntWalk.iteOmega, IntWalk.toNatUp, hlt2, he, Rd.fault])
      obtain ⟨q1, q2⟩ := hi.stop (.inl he)
      rw [q1, q2]
      exact ⟨fun j => decide (H.next ≤ j), _, hv.frzW (fun j h => by simpa using h), rfl, ho.only, by rw [On.getb l1]; exact k1⟩
  · skip
    have Kp : Kept [[0,1,5,9,10,11],[],[5],[4],[]] := ⟨⟩
    iterate 5 (refine Kp.s ?_; clear Kp; intro Kp; simp [go_sem, -getElem?_pos, -List.map_take, -List.map_drop, IntWalk.iteOmega, IntWalk.toNatUp, show ¬ (i : Int) < N by omega])
    obtain ⟨q1, q2⟩ := hi.stop (.inr hlt)
    rw [q1, q2]
    exact ⟨fun j => decide (H.next ≤ j), _, hv.frzW (fun j h => by simpa using h), rfl, ho.only, by rw [On.getb l1]; exact k1⟩
end Go.Proofs.YtoecebibhcadoaaDoor.I
