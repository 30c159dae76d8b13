/- For every priority and every phase the program's sound is the document's, also of a priority modulo four. No condition. -/
import Derived.Test.YtjhmajcakhdcnaaPBurstSoundsx1
namespace Go.Proofs.Ytjhmajcakhdcnaa.Pure
open Go.RowKit Go.Proofs.Ytjhmajcakhdcnaa.PBurstSounds Go.Proofs.YtjhmajcakhdcnaaW.PrintWords Go.Proofs.YtjhmajcakhdcnaaW.PrintLast

theorem tmod_tmod (a n : Int) (h : 0 ≤ a) (hn : 0 < n) : Int.tmod (Int.tmod a n) n = Int.tmod a n := by
  rw [Int.tmod_eq_emod_of_nonneg h, Int.tmod_eq_emod_of_nonneg (Int.emod_nonneg _ (by omega))]
  exact Int.emod_emod_of_dvd a (Int.dvd_refl n)

theorem tmod_range (a n : Int) (h : 0 ≤ a) (hn : 0 < n) : 0 ≤ Int.tmod a n ∧ Int.tmod a n < n := by
  rw [Int.tmod_eq_emod_of_nonneg h]
  exact ⟨Int.emod_nonneg _ (by omega), Int.emod_lt_of_pos _ hn⟩

/-- The program's sound hangs on the phase's rest alone. -/
theorem prog_mod (p a n : Int) (hp : burst_Period.f p = some n) (hn : 0 < n) (h : 0 ≤ a) : burst_Sound.f p a = burst_Sound.f p (Int.tmod a n) := by
  have hr := tmod_range a n h hn
  unfold burst_Sound.f
  rw [hp]
  simp only [Option.bind_some]
  rw [if_pos hn, if_pos hn, if_pos (show a ≥ 0 from h), if_pos (show Int.tmod a n ≥ 0 from hr.1), tmod_tmod a n h hn]

theorem ref_l0 (k : Nat) (a n : Int) (l : List Int) (h : 0 ≤ a) (hn : 0 < n) : ∀ i, handbellref19_Sound.l0 k a l n i = handbellref19_Sound.l0 k (Int.tmod a n) l n i := by
  induction k with
  | zero => intro i; rfl
  | succ k ih =>
    intro i
    simp only [handbellref19_Sound.l0]
    rw [tmod_tmod a n h hn, ih]

theorem ref_mod (k : Nat) (p a n : Int) (l : List Int) (hp : handbellref19_Pulses.f p = some (l, n)) (hn : 0 < n) (h : 0 ≤ a) :
    handbellref19_Sound.f k p a = handbellref19_Sound.f k p (Int.tmod a n) := by
  have hr := tmod_range a n h hn
  unfold handbellref19_Sound.f
  rw [hp]
  simp only [Option.bind_some]
  rw [if_neg (by omega), if_neg (by omega), decide_eq_false (show ¬ a < 0 by omega), decide_eq_false (show ¬ Int.tmod a n < 0 by omega)]
  cases k with
  | zero => rfl
  | succ k =>
    simp only [handbellref19_Sound.j0]
    rw [if_neg (by decide), if_neg (by decide), ref_l0 k a n l h hn]

/-- What both tell, as one: `some b`, at 40 rounds. -/
def Alike (p a : Int) : Prop := ∃ b, burst_Sound.f p a = some b ∧ handbellref19_Sound.f 40 p a = some b

theorem small3 : ∀ r : Fin 32, burst_Sound.f 3 (r.val : Int) = handbellref19_Sound.f 40 3 (r.val : Int) ∧ (burst_Sound.f 3 (r.val : Int)).isSome = true := by decide +kernel
theorem small2 : ∀ r : Fin 24, burst_Sound.f 2 (r.val : Int) = handbellref19_Sound.f 40 2 (r.val : Int) ∧ (burst_Sound.f 2 (r.val : Int)).isSome = true := by decide +kernel
theorem small1 : ∀ r : Fin 40, burst_Sound.f 1 (r.val : Int) = handbellref19_Sound.f 40 1 (r.val : Int) ∧ (burst_Sound.f 1 (r.val : Int)).isSome = true := by decide +kernel

theorem alike_of (p a n : Int) (m : Nat) (l : List Int) (hm : (m : Int) = n) (hp : burst_Period.f p = some n) (hq : handbellref19_Pulses.f p = some (l, n)) (hn : 0 < n)
    (small : ∀ r : Fin m, burst_Sound.f p (r.val : Int) = handbellref19_Sound.f 40 p (r.val : Int) ∧ (burst_Sound.f p (r.val : Int)).isSome = true) : Alike p a := by
  by_cases h : 0 ≤ a
  · obtain ⟨r0, r1⟩ := tmod_range a n h hn
    obtain ⟨q, hq'⟩ := Int.eq_ofNat_of_zero_le r0
    have s := small ⟨q, by omega⟩
    simp only at s
    rw [← hq'] at s
    obtain ⟨b, hb⟩ := Option.isSome_iff_exists.mp s.2
    exact ⟨b, by rw [prog_mod p a n hp hn h]; exact hb, by rw [ref_mod 40 p a n l hq hn h, ← s.1]; exact hb⟩
  · refine ⟨false, ?_, ?_⟩
    · unfold burst_Sound.f
      rw [hp]; simp only [Option.bind_some]
      rw [if_pos hn, if_neg (show ¬ a ≥ 0 from h)]
    · unfold handbellref19_Sound.f
      rw [hq]; simp only [Option.bind_some]
      rw [if_neg (by omega), decide_eq_true (show a < 0 by omega)]
      rfl

theorem alike (p a : Int) : Alike p a := by
  by_cases h3 : p = 3
  · subst h3; exact alike_of 3 a 32 32 _ rfl (by decide +kernel) (by rfl) (by decide) small3
  by_cases h2 : p = 2
  · subst h2; exact alike_of 2 a 24 24 _ rfl (by decide +kernel) (by rfl) (by decide) small2
  by_cases h1 : p = 1
  · subst h1; exact alike_of 1 a 40 40 _ rfl (by decide +kernel) (by rfl) (by decide) small1
  refine ⟨false, ?_, ?_⟩
  · have hp : burst_Pattern.f p = some ⟨#[]⟩ := by unfold burst_Pattern.f; rw [if_neg h3, if_neg h2, if_neg h1]
    have hq : burst_Period.f p = some 0 := by unfold burst_Period.f; rw [hp]; rfl
    unfold burst_Sound.f; rw [hq]; rfl
  · have hp : handbellref19_Pulses.f p = some ([], 0) := by unfold handbellref19_Pulses.f; rw [if_neg h3, if_neg h2, if_neg h1]
    unfold handbellref19_Sound.f; rw [hp]; rfl

theorem beats_true : handbelllaw19_beats.f = some true := by decide +kernel

theorem BurstSounds : handbelllaw19_BurstSounds.Pure := by
  intro p a _ _
  obtain ⟨b, h1, h2⟩ := alike p a
  obtain ⟨c, h3, h4⟩ := alike (Int.tmod p 4) a
  refine ⟨40, ?_⟩
  unfold handbelllaw19_BurstSounds.f
  rw [beats_true]; simp only [Option.bind_some, if_true]
  rw [h1, h2]; simp only [Option.bind_some]
  rw [if_pos (by simp), h3, h4]; simp

end Go.Proofs.Ytjhmajcakhdcnaa.Pure
