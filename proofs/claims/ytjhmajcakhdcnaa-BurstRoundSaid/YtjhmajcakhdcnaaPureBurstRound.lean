/- For every priority, phase and number of periods: a period later it sounds the same; within a period there is a pulse, and a tick without one. No condition. -/
import Derived.Test.YtjhmajcakhdcnaaPBurstRoundx1
namespace Go.Proofs.Ytjhmajcakhdcnaa.Pure
open Go.RowKit Go.Proofs.Ytjhmajcakhdcnaa.PBurstRound Go.Proofs.YtjhmajcakhdcnaaW.PrintWords Go.Proofs.YtjhmajcakhdcnaaW.PrintLast

theorem tmodTwice (a n : Int) (h : 0 ≤ a) (hn : 0 < n) : Int.tmod (Int.tmod a n) n = Int.tmod a n := by
  rw [Int.tmod_eq_emod_of_nonneg h, Int.tmod_eq_emod_of_nonneg (Int.emod_nonneg _ (by omega))]
  exact Int.emod_emod_of_dvd a (Int.dvd_refl n)

theorem tmodWithin (a n : Int) (h : 0 ≤ a) (hn : 0 < n) : 0 ≤ Int.tmod a n ∧ Int.tmod a n < n := by
  rw [Int.tmod_eq_emod_of_nonneg h]
  exact ⟨Int.emod_nonneg _ (by omega), Int.emod_lt_of_pos _ hn⟩

theorem progMod (p a n : Int) (hp : burst_Period.f p = some n) (hn : 0 < n) (h : 0 ≤ a) : burst_Sound.f p a = burst_Sound.f p (Int.tmod a n) := by
  have hr := tmodWithin a n h hn
  unfold burst_Sound.f
  rw [hp]
  simp only [Option.bind_some]
  rw [if_pos hn, if_pos hn, if_pos (show a ≥ 0 from h), if_pos (show Int.tmod a n ≥ 0 from hr.1), tmodTwice a n h hn]

/-- What sounds at a rest. -/
def at_ (p : Int) (n : Nat) (r : Nat) : Bool := (burst_Sound.f p ((r % n : Nat) : Int)).getD false

/-- The loop: behind i ticks from phase a on the two flags are whether some tick was a pulse, whether some was none. -/
def some_ (p : Int) (n : Nat) (a : Nat) (i : Nat) : Bool := (List.range i).any fun j => at_ p n (a + j)
def none_ (p : Int) (n : Nat) (a : Nat) (i : Nat) : Bool := (List.range i).any fun j => !at_ p n (a + j)

theorem some_succ (p n a i) : some_ p n a (i + 1) = (some_ p n a i || at_ p n (a + i)) := by simp [some_, List.range_succ]
theorem none_succ (p n a i) : none_ p n a (i + 1) = (none_ p n a i || !at_ p n (a + i)) := by simp [none_, List.range_succ]

structure Good (p : Int) (n : Nat) : Prop where
  pos : 0 < n
  small : n ≤ 40
  period : burst_Period.f p = some (n : Int)
  some' : ∀ r : Fin n, (burst_Sound.f p (r.val : Int)).isSome = true
  any : some_ p n 0 n = true
  anyNot : none_ p n 0 n = true

theorem good3 : Good 3 32 := ⟨by decide, by decide, by decide +kernel, by decide +kernel, by decide +kernel, by decide +kernel⟩
theorem good2 : Good 2 24 := ⟨by decide, by decide, by decide +kernel, by decide +kernel, by decide +kernel, by decide +kernel⟩
theorem good1 : Good 1 40 := ⟨by decide, by decide, by decide +kernel, by decide +kernel, by decide +kernel, by decide +kernel⟩

theorem sound_at {p : Int} {n : Nat} (g : Good p n) (a : Nat) : burst_Sound.f p (a : Int) = some (at_ p n a) := by
  have h := progMod p a n g.period (by have := g.pos; omega) (by omega)
  have e : Int.tmod (a : Int) (n : Int) = ((a % n : Nat) : Int) := by
    rw [Int.tmod_eq_emod_of_nonneg (by omega)]; exact (Int.natCast_emod a n).symm
  rw [h, e]
  have s := g.some' ⟨a % n, Nat.mod_lt _ g.pos⟩
  obtain ⟨b, hb⟩ := Option.isSome_iff_exists.mp s
  simp only at hb
  simp only [at_]
  rw [hb]; rfl

/-- A tick of any period: each rest occurs. -/
theorem any_at {p : Int} {n : Nat} (g : Good p n) (a : Nat) (f : Bool → Bool) (h : ((List.range n).any fun j => f (at_ p n (0 + j))) = true) : ((List.range n).any fun j => f (at_ p n (a + j))) = true := by
  rw [List.any_eq_true] at h ⊢
  obtain ⟨j, hj, hb⟩ := h
  rw [List.mem_range] at hj
  have hp := g.pos
  refine ⟨(j + (n - a % n)) % n, List.mem_range.mpr (Nat.mod_lt _ hp), ?_⟩
  have hm : a % n < n := Nat.mod_lt _ hp
  have e : (a + (j + (n - a % n)) % n) % n = (0 + j) % n := by
    rw [Nat.add_mod_mod, Nat.zero_add]
    have hd := Nat.div_add_mod a n
    have e0 : a + (j + (n - a % n)) = j + n * (a / n + 1) := by rw [Nat.mul_add]; omega
    rw [e0, Nat.add_mul_mod_self_left]
  simp only [at_] at hb ⊢
  rw [e]; exact hb

theorem wrapSum {a i : Nat} (ha : a < 4294967296) (hi : i ≤ 20000) : wrap64 ((a : Int) + (i : Int)) = ((a + i : Nat) : Int) := by unfold wrap64; omega

theorem beatsTrue : handbelllaw19_beats.f = some true := by decide +kernel

theorem loop_tells {p : Int} {n : Nat} (g : Good p n) (a : Nat) (m : Nat) (ha : a < 4294967296) (hm : m < 256) (d : Nat) : ∀ (k i : Nat), i + d = n → d < k →
    handbelllaw19_BurstRound.l0 k (m : Int) p (a : Int) (some_ p n a i) (none_ p n a i) (i : Int) = some true := by
  have hs := g.small
  induction d with
  | zero =>
    intro k i hd hk
    obtain ⟨k, rfl⟩ : ∃ m, k = m + 1 := ⟨k - 1, by omega⟩
    obtain rfl : i = n := by omega
    have h1 : some_ p i a i = true := any_at g a id g.any
    have h2 : none_ p i a i = true := any_at g a Bool.not g.anyNot
    simp only [handbelllaw19_BurstRound.l0]
    rw [g.period]; simp only [Option.bind_some]
    rw [if_neg (by omega), beatsTrue]; simp only [Option.bind_some, if_true]
    rw [h1, h2]; simp only [if_true]
    have hmi : m * i ≤ 255 * 40 := Nat.mul_le_mul (by omega) hs
    have e1 : wrap64 (m : Int) = (m : Int) := by unfold wrap64; omega
    have e2 : wrap64 ((m : Int) * (i : Int)) = ((m * i : Nat) : Int) := by
      have : (m : Int) * (i : Int) = ((m * i : Nat) : Int) := by simp
      rw [this]; unfold wrap64; omega
    rw [sound_at g a]; simp only [Option.bind_some]
    rw [e1, e2, wrapSum ha (by omega), sound_at g]; simp only [Option.bind_some]
    have e3 : at_ p i (a + m * i) = at_ p i a := by
      simp only [at_]; rw [Nat.mul_comm m i, Nat.add_mul_mod_self_left]
    rw [e3]; simp
  | succ d ih =>
    intro k i hd hk
    obtain ⟨k, rfl⟩ : ∃ m, k = m + 1 := ⟨k - 1, by omega⟩
    simp only [handbelllaw19_BurstRound.l0]
    rw [g.period]; simp only [Option.bind_some]
    rw [if_pos (by omega), wrapSum ha (by omega), sound_at g]; simp only [Option.bind_some]
    have e : wrap64 ((i : Int) + 1) = ((i + 1 : Nat) : Int) := by unfold wrap64; omega
    have r := ih k (i + 1) (by omega) (by omega)
    rw [some_succ, none_succ] at r
    rw [e]
    cases hb : at_ p n (a + i) with
    | true => rw [hb] at r; simpa using r
    | false => rw [hb] at r; simpa using r

theorem BurstRound : handbelllaw19_BurstRound.Pure := by
  intro p a m hp ha hm
  have hp : 0 ≤ p ∧ p < 256 := by have := hp; simp [Lit.wf, IntKind.min, IntKind.max, IntKind.bits, IntKind.signed] at this; omega
  have ha : 0 ≤ a ∧ a < 4294967296 := by have := ha; simp [Lit.wf, IntKind.min, IntKind.max, IntKind.bits, IntKind.signed] at this; omega
  have hm : 0 ≤ m ∧ m < 256 := by have := hm; simp [Lit.wf, IntKind.min, IntKind.max, IntKind.bits, IntKind.signed] at this; omega
  obtain ⟨a, rfl⟩ := Int.eq_ofNat_of_zero_le ha.1
  obtain ⟨m, rfl⟩ := Int.eq_ofNat_of_zero_le hm.1
  have e : wrap64 (a : Int) = (a : Int) := by unfold wrap64; omega
  refine ⟨50, ?_⟩
  unfold handbelllaw19_BurstRound.f
  rw [e, Int.tmod_eq_emod_of_nonneg hp.1]
  have hcase : (1 + p % 3) % 256 = 1 ∨ (1 + p % 3) % 256 = 2 ∨ (1 + p % 3) % 256 = 3 := by omega
  rcases hcase with h | h | h
  · rw [h]; exact loop_tells good1 a m (by omega) (by omega) 40 50 0 (by omega) (by omega)
  · rw [h]; exact loop_tells good2 a m (by omega) (by omega) 24 50 0 (by omega) (by omega)
  · rw [h]; exact loop_tells good3 a m (by omega) (by omega) 32 50 0 (by omega) (by omega)

end Go.Proofs.Ytjhmajcakhdcnaa.Pure
