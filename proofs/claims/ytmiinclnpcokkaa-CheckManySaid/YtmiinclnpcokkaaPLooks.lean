/- Runs of ticks without a look: the longest is the gap, less one. No condition. -/
import Derived.Test.YtmiinclnpcokkaaPGap
namespace Go.Proofs.Ytmiinclnpcokkaa.I
open Go Go.RowKit
set_option linter.unusedVariables false
set_option linter.unusedSimpArgs false

/-- How many ticks since the last look; and the most of these so far. -/
def runS (h : Nat → Bool) : Nat → Nat × Nat
  | 0 => (0, 0)
  | i + 1 => (if h i then 0 else (runS h i).1 + 1, max (runS h i).2 (if h i then 0 else (runS h i).1 + 1))
theorem runS_in (h : Nat → Bool) : ∀ i, (runS h i).1 ≤ i ∧ (runS h i).2 ≤ i
  | 0 => ⟨Nat.le_refl _, Nat.le_refl _⟩
  | i + 1 => by
    have := runS_in h i
    simp only [runS]
    split <;> omega
theorem runS_seen (h : Nat → Bool) : ∀ i j, i ≤ j + (runS h i).1 → j < i → h j = false
  | 0, j, _, hj => absurd hj (by omega)
  | i + 1, j, h1, hj => by
    simp only [runS] at h1
    cases hb : h i with
    | true => rw [hb] at h1; simp only [if_true] at h1; omega
    | false =>
      rw [hb] at h1
      by_cases e : j = i
      · rw [e]; exact hb
      · exact runS_seen h i j (by simp at h1; omega) (by omega)
theorem runS_upper (h : Nat → Bool) (g : Nat) (hw : ∀ r, ∃ p, r ≤ p ∧ p < r + g ∧ h p = true) : ∀ i, (runS h i).1 < g ∧ (runS h i).2 < g := by
  have hs : ∀ i, (runS h i).1 < g := fun i => by
    rcases Nat.lt_or_ge (runS h i).1 g with h1 | h1
    · exact h1
    · have hi := (runS_in h i).1
      obtain ⟨p, p1, p2, p3⟩ := hw (i - (runS h i).1)
      have := runS_seen h i p (by omega) (by omega)
      rw [p3] at this; cases this
  intro i
  refine ⟨hs i, ?_⟩
  induction i with
  | zero => obtain ⟨p, p1, p2, _⟩ := hw 0; show 0 < g; omega
  | succ i ih =>
    have h1 := hs (i + 1)
    simp only [runS] at h1 ⊢
    omega
theorem runS_mono (h : Nat → Bool) {i j : Nat} (hij : i ≤ j) : (runS h i).2 ≤ (runS h j).2 := by
  induction j with
  | zero => rw [show i = 0 by omega]; exact Nat.le_refl _
  | succ j ih =>
    by_cases e : i = j + 1
    · rw [e]; exact Nat.le_refl _
    · have := ih (by omega)
      simp only [runS]; omega
theorem runS_low (h : Nat → Bool) (p m : Nat) (hn : ∀ j, p ≤ j → j < p + m → h j = false) : ∀ q, q ≤ m → q ≤ (runS h (p + q)).1
  | 0, _ => Nat.zero_le _
  | q + 1, hq => by
    have := runS_low h p m hn q (by omega)
    rw [show p + (q + 1) = (p + q) + 1 by omega]
    simp only [runS]
    rw [hn (p + q) (by omega) (by omega)]
    simp; omega
theorem runS_snd (h : Nat → Bool) : ∀ i, (runS h i).1 ≤ (runS h i).2
  | 0 => Nat.le_refl _
  | i + 1 => by simp only [runS]; omega

def lookB (T : List (List Int)) (k fr : Int) (i : Nat) : Bool := decide (k ∈ slotAt T (fr + 1 + i))
theorem lookB_occ (T : List (List Int)) (k fr : Int) (h0 : 0 ≤ fr) (i : Nat) : lookB T k fr i = decide (occ T k ((fr.toNat + i) % T.length)) := by
  unfold lookB slotAt
  rw [if_neg (by omega)]
  rw [show fr + 1 + (i : Int) - 1 = ((fr.toNat + i : Nat) : Int) by omega, ← Int.natCast_emod, Int.toNat_natCast]

theorem looks_most (T : List (List Int)) (k fr : Int) (h0 : 0 ≤ fr) {i : Nat} (hi : i < T.length) (ho : occ T k i) : 1 ≤ gapP T k ∧ gapP T k ≤ T.length ∧ ((runS (lookB T k fr) (3 * T.length)).2 : Int) = gapP T k - 1 := by
  obtain ⟨g1, g2, g3, p, p1, p2, p3⟩ := gapP_one T k (first_of_occ T k hi ho)
  generalize hg : gapP T k = g at *
  obtain ⟨a, rfl⟩ : ∃ a : Nat, fr = a := ⟨fr.toNat, by omega⟩
  generalize hn : T.length = n at *
  have hup := (runS_upper (lookB T k a) g.toNat (fun r => by
    obtain ⟨q, q1, q2, q3⟩ := g3 ((a + r) % n) (Nat.mod_lt _ (by omega))
    refine ⟨r + (q - (a + r) % n), by omega, by omega, ?_⟩
    rw [lookB_occ _ _ _ h0, hn, decide_eq_true_iff, Int.toNat_natCast]
    have : (a + (r + (q - (a + r) % n))) % n = q % n := by
      rw [← Nat.add_assoc, ← Nat.mod_add_mod, show (a + r) % n + (q - (a + r) % n) = q by omega]
    rwa [this]) (3 * n)).2
  have hj : ∃ j, j < n ∧ (a + j) % n = p := by
    refine ⟨(p + n - a % n) % n, Nat.mod_lt _ (by omega), ?_⟩
    have hm := Nat.mod_lt a (show 0 < n by omega)
    rw [Nat.add_mod, Nat.mod_mod, ← Nat.add_mod]
    have h1 := Nat.mod_add_div a n
    rw [show a + (p + n - a % n) = p + n + n * (a / n) by omega, Nat.add_mul_mod_self_left, Nat.add_mod_right, Nat.mod_eq_of_lt p1]
  obtain ⟨j, j1, j2⟩ := hj
  have hlo := runS_low (lookB T k a) (j + 1) (g.toNat - 1) (fun i i1 i2 => by
    rw [lookB_occ _ _ _ h0, hn, decide_eq_false_iff_not, Int.toNat_natCast]
    have h1 := p3 (i - j) (by omega) (by omega)
    rw [← j2, Nat.mod_add_mod, show a + j + (i - j) = a + i by omega] at h1
    exact h1) _ (Nat.le_refl _)
  have h2 := runS_snd (lookB T k a) (j + 1 + (g.toNat - 1))
  have h3 := runS_mono (lookB T k a) (show j + 1 + (g.toNat - 1) ≤ 3 * n by omega)
  exact ⟨g1, g2, by omega⟩

end Go.Proofs.Ytmiinclnpcokkaa.I
