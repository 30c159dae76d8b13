/- Gaps of a rule in a table that goes round: both ways to reckon them are one; what they are. No condition. -/
import Derived.Test.YtmiinclnpcokkaaGTableB
namespace Go.Proofs.Ytmiinclnpcokkaa.I
open Go Go.RowKit
set_option linter.unusedVariables false
set_option linter.unusedSimpArgs false

section gap
variable (T : List (List Int)) (k : Int)
abbrev occ (i : Nat) : Prop := k ∈ T.getD i []

theorem gapSt_yes {i : Nat} (h : occ T k i) : gapSt T k (i + 1) = (if (gapSt T k i).2.1 < 0 then (gapSt T k i).1 else max (gapSt T k i).1 (i - (gapSt T k i).2.2), if (gapSt T k i).2.1 < 0 then (i : Int) else (gapSt T k i).2.1, (i : Int)) := by rw [gapSt, if_pos h]
theorem gapSt_no {i : Nat} (h : ¬ occ T k i) : gapSt T k (i + 1) = gapSt T k i := by rw [gapSt, if_neg h]

/-- What a state says of what stands before it. -/
structure GapOk (i : Nat) (s : Int × Int × Int) : Prop where
  none : s.2.1 < 0 → s = (0, -1, -1) ∧ ∀ r, r < i → ¬ occ T k r
  some : 0 ≤ s.2.1 → occ T k s.2.1.toNat ∧ occ T k s.2.2.toNat ∧ s.2.1 ≤ s.2.2 ∧ s.2.2 < i ∧ (∀ r, r < i → occ T k r → s.2.1 ≤ r ∧ (r : Int) ≤ s.2.2) ∧
    (∀ r : Nat, s.2.1 ≤ r → (r : Int) ≤ s.2.2 → ∃ p : Nat, r ≤ p ∧ (p : Int) ≤ s.2.2 ∧ occ T k p ∧ (p = r ∨ (p : Int) - r < s.1)) ∧
    (s.1 = 0 ∨ ∃ p q : Nat, p < q ∧ (q : Int) ≤ s.2.2 ∧ occ T k p ∧ (q : Int) - p = s.1 ∧ ∀ r, p < r → r < q → ¬ occ T k r)
  low : -1 ≤ s.2.1 ∧ 0 ≤ s.1

theorem gapSt_ok : ∀ i, GapOk T k i (gapSt T k i)
  | 0 => ⟨fun _ => ⟨rfl, fun r hr => absurd hr (by omega)⟩, fun h => absurd h (by simp [gapSt]), by simp [gapSt]⟩
  | i + 1 => by
    have ih := gapSt_ok i
    by_cases h : occ T k i
    · rw [gapSt_yes T k h]
      generalize gapSt T k i = s at ih
      obtain ⟨a, f, l⟩ := s
      by_cases hf : f < 0
      · obtain ⟨e, hno⟩ := ih.none hf
        cases e
        simp only [if_pos hf]
        refine ⟨fun h2 => by simp only at h2; omega, fun _ => ?_, by simp only; omega⟩
        simp only [Int.toNat_natCast]
        refine ⟨h, h, by omega, by omega, fun r hr ho => ?_, fun r h1 h2 => ⟨r, by omega, by omega, by rw [show r = i by omega]; exact h, .inl rfl⟩, .inl trivial⟩
        by_cases e : r = i
        · omega
        · exact absurd ho (hno r (by omega))
      · obtain ⟨o1, o2, o3, o4, o5, o6, o7⟩ := ih.some (by simp only; omega)
        have hlow := ih.low
        simp only at o1 o2 o3 o4 o5 o6 o7 hlow
        simp only [if_neg hf]
        refine ⟨fun h2 => by simp only at h2; omega, fun _ => ?_, by simp only; omega⟩
        simp only [Int.toNat_natCast]
        refine ⟨o1, h, by omega, by omega, fun r hr ho => ?_, fun r h1 h2 => ?_, ?_⟩
        · by_cases e : r = i
          · omega
          · have := o5 r (by omega) ho; omega
        · by_cases hl : (r : Int) ≤ l
          · obtain ⟨p, p1, p2, p3, p4⟩ := o6 r h1 hl
            exact ⟨p, p1, by omega, p3, p4.imp id (by omega)⟩
          · exact ⟨i, by omega, by omega, h, by omega⟩
        · by_cases hm : a < (i : Int) - l
          · refine .inr ⟨l.toNat, i, by omega, by omega, o2, by omega, fun r h1 h2 ho => ?_⟩
            have := o5 r (by omega) ho; omega
          · rw [show max a ((i : Int) - l) = a by omega]
            rcases o7 with e | ⟨p, q, h1, h2, h3, h4, h5⟩
            · exact .inl e
            · exact .inr ⟨p, q, h1, by omega, h3, h4, h5⟩
    · rw [gapSt_no T k h]
      refine ⟨fun hf => ⟨(ih.none hf).1, fun r hr => ?_⟩, fun hf => ?_, ih.low⟩
      · by_cases e : r = i
        · rw [e]; exact h
        · exact (ih.none hf).2 r (by omega)
      · obtain ⟨o1, o2, o3, o4, o5, o6, o7⟩ := ih.some hf
        refine ⟨o1, o2, o3, by omega, fun r hr ho => ?_, o6, o7⟩
        by_cases e : r = i
        · exact absurd (e ▸ ho) h
        · exact o5 r (by omega) ho

theorem gapSt_mono {i j : Nat} (hij : i ≤ j) : (gapSt T k i).1 ≤ (gapSt T k j).1 ∧ (0 ≤ (gapSt T k i).2.1 → (gapSt T k j).2.1 = (gapSt T k i).2.1) := by
  induction j with
  | zero => rw [show i = 0 by omega]; exact ⟨Int.le_refl _, fun _ => rfl⟩
  | succ j ih =>
    by_cases e : i = j + 1
    · rw [e]; exact ⟨Int.le_refl _, fun _ => rfl⟩
    · obtain ⟨h1, h2⟩ := ih (by omega)
      by_cases h : occ T k j
      · rw [gapSt_yes T k h]
        simp only
        refine ⟨by split <;> omega, fun h3 => ?_⟩
        have := h2 h3
        rw [if_neg (by omega), this]
      · rw [gapSt_no T k h]; exact ⟨h1, h2⟩

theorem slotAt_low {j : Nat} (h : j < T.length) : slotAt T ((j : Int) + 1) = T.getD j [] := by
  unfold slotAt
  rw [if_neg (by omega)]
  congr 1
  rw [show (j : Int) + 1 - 1 = j by omega, Int.emod_eq_of_lt (by omega) (by omega)]; simp
theorem slotAt_round {t : Int} (h : 1 ≤ t) (hT : 0 < T.length) (m : Nat) : slotAt T (t + m * T.length) = slotAt T t := by
  have hm : 0 ≤ (m : Int) * T.length := Int.mul_nonneg (by omega) (by omega)
  unfold slotAt
  rw [if_neg (by omega), if_neg (by omega)]
  congr 2
  rw [show t + (m : Int) * T.length - 1 = (t - 1) + (m : Int) * T.length by omega, Int.add_mul_emod_self_right]
theorem slotAt_high {i : Nat} (h : i < T.length) : slotAt T (((T.length + i : Nat) : Int) + 1) = T.getD i [] := by
  have := slotAt_round T (t := (i : Int) + 1) (by omega) (by omega) 1
  rw [← slotAt_low T h, ← this]
  congr 1; omega

theorem gapRt_first : ∀ i, i ≤ T.length → ((gapSt T k i).2.1 < 0 → gapRt T k i = (0, 0)) ∧ (0 ≤ (gapSt T k i).2.1 → gapRt T k i = ((gapSt T k i).1, (gapSt T k i).2.2 + 1))
  | 0, _ => ⟨fun _ => rfl, fun h => absurd h (by simp [gapSt])⟩
  | i + 1, hi => by
    obtain ⟨h1, h2⟩ := gapRt_first i (by omega)
    have hin := gapSt_in T k i
    rw [gapRt, slotAt_low T (by omega)]
    by_cases h : occ T k i
    · rw [if_pos h, gapSt_yes T k h]
      by_cases hf : (gapSt T k i).2.1 < 0
      · have e0 := (gapSt_ok T k i).none hf
        rw [h1 hf]
        simp only [if_pos hf]
        refine ⟨fun h3 => by omega, fun _ => ?_⟩
        rw [if_neg (by omega), e0.1]
      · rw [h2 (by omega)]
        simp only [if_neg hf]
        refine ⟨fun h3 => by omega, fun _ => ?_⟩
        congr 1
        split <;> omega
    · rw [if_neg h, gapSt_no T k h]; exact ⟨h1, h2⟩

theorem gapRt_second (hn : 0 ≤ (gapSt T k T.length).2.1) : ∀ i, i ≤ T.length → ((gapSt T k i).2.1 < 0 → gapRt T k (T.length + i) = ((gapSt T k T.length).1, (gapSt T k T.length).2.2 + 1)) ∧
    (0 ≤ (gapSt T k i).2.1 → gapRt T k (T.length + i) = (gapP T k, (gapSt T k i).2.2 + T.length + 1))
  | 0, _ => ⟨fun _ => (gapRt_first T k T.length (Nat.le_refl _)).2 hn, fun h => absurd h (by simp [gapSt])⟩
  | i + 1, hi => by
    obtain ⟨h1, h2⟩ := gapRt_second hn i (by omega)
    have hin := gapSt_in T k i
    have hnn := gapSt_in T k T.length
    have hmo := gapSt_mono T k hi
    rw [show T.length + (i + 1) = (T.length + i) + 1 by omega, gapRt, slotAt_high T (by omega)]
    by_cases h : occ T k i
    · rw [if_pos h]
      rw [gapSt_yes T k h] at hmo ⊢
      by_cases hf : (gapSt T k i).2.1 < 0
      · rw [h1 hf]
        simp only [if_pos hf] at hmo ⊢
        refine ⟨fun h3 => by omega, fun _ => ?_⟩
        have hfst := hmo.2 (by omega)
        unfold gapP
        congr 1
        · rw [hfst]; split <;> omega
        · omega
      · rw [h2 (by omega)]
        simp only [if_neg hf] at hmo ⊢
        refine ⟨fun h3 => by omega, fun _ => ?_⟩
        have hge : (gapSt T k T.length).1 ≤ gapP T k := by unfold gapP; omega
        congr 1
        · split <;> omega
        · omega
    · rw [if_neg h]
      rw [gapSt_no T k h] at hmo ⊢
      exact ⟨h1, h2⟩

theorem first_of_occ {i : Nat} (hi : i < T.length) (h : occ T k i) : 0 ≤ (gapSt T k T.length).2.1 := by
  rcases Int.lt_or_le (gapSt T k T.length).2.1 0 with h2 | h2
  · exact absurd h (((gapSt_ok T k T.length).none h2).2 i hi)
  · exact h2
theorem gapR_eq {i : Nat} (hi : i < T.length) (h : occ T k i) : gapR T k = gapP T k := by
  have hn := first_of_occ T k hi h
  have := (gapRt_second T k hn T.length (Nat.le_refl _)).2 hn
  unfold gapR
  rw [show 2 * T.length = T.length + T.length by omega, this]
theorem gapR_none (h : ∀ i, ¬ occ T k i) : gapR T k = 0 := by
  have : ∀ j, gapRt T k j = (0, 0) := by
    intro j
    induction j with
    | zero => rfl
    | succ j ih =>
      rw [gapRt, if_neg, ih]
      unfold slotAt
      rw [if_neg (by omega)]
      exact h _
  unfold gapR; rw [this]

/-- Within so many ticks it is looked at; and once not within fewer. -/
theorem gapP_one (hn : 0 ≤ (gapSt T k T.length).2.1) : 1 ≤ gapP T k ∧ gapP T k ≤ T.length ∧
    (∀ r : Nat, r < T.length → ∃ p : Nat, r ≤ p ∧ (p : Int) - r < gapP T k ∧ occ T k (p % T.length)) ∧
    ∃ p : Nat, p < T.length ∧ occ T k p ∧ ∀ m : Nat, 1 ≤ m → (m : Int) < gapP T k → ¬ occ T k ((p + m) % T.length) := by
  obtain ⟨o1, o2, o3, o4, o5, o6, o7⟩ := (gapSt_ok T k T.length).some hn
  have hlow := (gapSt_ok T k T.length).low
  have hin := gapSt_in T k T.length
  unfold gapP
  generalize gapSt T k T.length = s at *
  obtain ⟨a, f, l⟩ := s
  simp only at *
  refine ⟨by omega, by omega, fun r hr => ?_, ?_⟩
  · by_cases h1 : (r : Int) < f
    · exact ⟨f.toNat, by omega, by omega, by rw [Nat.mod_eq_of_lt (by omega)]; exact o1⟩
    · by_cases h2 : (r : Int) ≤ l
      · obtain ⟨p, p1, p2, p3, p4⟩ := o6 r (by omega) h2
        exact ⟨p, p1, by omega, by rw [Nat.mod_eq_of_lt (by omega)]; exact p3⟩
      · refine ⟨f.toNat + T.length, by omega, by omega, ?_⟩
        rw [Nat.add_mod_right, Nat.mod_eq_of_lt (by omega)]; exact o1
  · by_cases hm : a ≤ f + T.length - l
    · rw [show max a (f + T.length - l) = f + T.length - l by omega]
      refine ⟨l.toNat, by omega, o2, fun m h1 h2 ho => ?_⟩
      by_cases h3 : l.toNat + m < T.length
      · rw [Nat.mod_eq_of_lt h3] at ho
        have := o5 _ h3 ho; omega
      · have e : (l.toNat + m) % T.length = l.toNat + m - T.length := by
          rw [Nat.mod_eq_sub_mod (by omega), Nat.mod_eq_of_lt (by omega)]
        rw [e] at ho
        have := o5 _ (by omega) ho; omega
    · rcases o7 with e | ⟨p, q, h1, h2, h3, h4, h5⟩
      · omega
      · rw [show max a (f + T.length - l) = a by omega]
        refine ⟨p, by omega, h3, fun m hm1 hm2 ho => ?_⟩
        rw [Nat.mod_eq_of_lt (by omega)] at ho
        exact h5 (p + m) (by omega) (by omega) ho
end gap

end Go.Proofs.Ytmiinclnpcokkaa.I
