/- A draft's configuration is right. No condition. -/
import Derived.Test.YtmiinclnpcokkaaGCheckF
import Derived.Test.YtmiinclnpcokkaaPConf
import Derived.Test.YtmiinclnpcokkaaLDraft
import Derived.Test.YtmiinclnpcokkaaGMakeB
namespace Go.Proofs.Ytmiinclnpcokkaa.I
open Go Go.RowKit
set_option linter.unusedVariables false
set_option linter.unusedSimpArgs false

theorem stagesS_ok : ∀ (l : List Int) (p q : Int), 1 ≤ p ∧ p ≤ 3 → q ≤ p → (∀ x ∈ l, 0 ≤ x ∧ x < 256) → stagesL q (stagesS p l) = true
  | [], _, _, _, _, _ => rfl
  | x :: l, p, q, hp, hq, hx => by
    have h0 := hx x (by simp)
    rw [stagesS, stagesL_cons]
    have h1 : 1 ≤ min (p + x % 2) 3 ∧ min (p + x % 2) 3 ≤ 3 := by omega
    have ih := stagesS_ok l (min (p + x % 2) 3) (min (p + x % 2) 3) h1 (Int.le_refl _) (fun y hy => hx y (by simp [hy]))
    simp only [ih, Bool.and_true, stageOk]
    rw [inS_iff.2 (by omega), inS_iff.2 h1]
    simp; omega

theorem ruleS_ok (x : Line) (hx : x.wf) (n : Nat) (hn : 3 ≤ n ∧ n ≤ 9) : ruleB 3 n (ruleS x) = true := by
  obtain ⟨kind, sg, lim, back, delay, span, prio, latch, stages⟩ := x
  obtain ⟨x1, x2, x3, x4, x5, x6, x7, x8, x9⟩ := hx
  simp only at x1 x2 x3 x4 x5 x6 x7 x8 x9
  obtain ⟨n1, n2⟩ := hn
  have : n = 3 ∨ n = 4 ∨ n = 5 ∨ n = 6 ∨ n = 7 ∨ n = 8 ∨ n = 9 := by omega
  have hk6 : kind % 6 = 0 ∨ kind % 6 = 1 ∨ kind % 6 = 2 ∨ kind % 6 = 3 ∨ kind % 6 = 4 ∨ kind % 6 = 5 := by omega
  rcases this with rfl | rfl | rfl | rfl | rfl | rfl | rfl
  · exact inS_iff.2 (show 1 ≤ kind % 6 + 1 ∧ kind % 6 + 1 ≤ 6 by omega)
  · exact inS_iff.2 (show 0 ≤ sg % 3 ∧ sg % 3 ≤ ((3 : Nat) : Int) - 1 by omega)
  · show limitsS _ = true
    unfold limitsS numS
    rw [show (ruleS ⟨kind, sg, lim, back, delay, span, prio, latch, stages⟩).kind = kind % 6 + 1 from rfl]
    rcases hk6 with hk | hk | hk | hk | hk | hk
    · obtain ⟨r1, r2, r3⟩ := ruleS_0 ⟨kind, sg, lim, back, delay, span, prio, latch, stages⟩ hk
      try simp only at r1 r2 r3
      rw [if_pos (show kind % 6 + 1 = 1 by omega), r1, r2, inS_iff.2 (by omega), inS_iff.2 (by omega)]
      simp; omega
    · obtain ⟨r1, r2, r3⟩ := ruleS_1 ⟨kind, sg, lim, back, delay, span, prio, latch, stages⟩ hk
      try simp only at r1 r2 r3
      rw [if_neg (show ¬ kind % 6 + 1 = 1 by omega), if_pos (show kind % 6 + 1 = 2 by omega), r1, r2, inS_iff.2 (by omega), inS_iff.2 (by omega)]
      simp; omega
    · obtain ⟨r1, r2, r3⟩ := ruleS_2 ⟨kind, sg, lim, back, delay, span, prio, latch, stages⟩ hk
      try simp only at r1 r2 r3
      have hb := Int.emod_nonneg back (show 1 + lim % 60 + 1 ≠ 0 by omega)
      have hb2 := Int.emod_lt_of_pos back (show 0 < 1 + lim % 60 + 1 by omega)
      rw [if_neg (show ¬ kind % 6 + 1 = 1 by omega), if_neg (show ¬ kind % 6 + 1 = 2 by omega), if_pos (show kind % 6 + 1 = 3 ∨ kind % 6 + 1 = 4 by omega), r1, r2, inS_iff.2 (by omega), inS_iff.2 (by omega)]
      rfl
    · obtain ⟨r1, r2, r3⟩ := ruleS_3 ⟨kind, sg, lim, back, delay, span, prio, latch, stages⟩ hk
      try simp only at r1 r2 r3
      have hb := Int.emod_nonneg back (show 1 + lim % 60 + 1 ≠ 0 by omega)
      have hb2 := Int.emod_lt_of_pos back (show 0 < 1 + lim % 60 + 1 by omega)
      rw [if_neg (show ¬ kind % 6 + 1 = 1 by omega), if_neg (show ¬ kind % 6 + 1 = 2 by omega), if_pos (show kind % 6 + 1 = 3 ∨ kind % 6 + 1 = 4 by omega), r1, r2, inS_iff.2 (by omega), inS_iff.2 (by omega)]
      rfl
    · obtain ⟨r1, r2, r3⟩ := ruleS_4 ⟨kind, sg, lim, back, delay, span, prio, latch, stages⟩ hk
      try simp only at r1 r2 r3
      rw [if_neg (show ¬ kind % 6 + 1 = 1 by omega), if_neg (show ¬ kind % 6 + 1 = 2 by omega), if_neg (show ¬ (kind % 6 + 1 = 3 ∨ kind % 6 + 1 = 4) by omega), r1, r2]
      rfl
    · obtain ⟨r1, r2, r3⟩ := ruleS_5 ⟨kind, sg, lim, back, delay, span, prio, latch, stages⟩ hk
      try simp only at r1 r2 r3
      rw [if_neg (show ¬ kind % 6 + 1 = 1 by omega), if_neg (show ¬ kind % 6 + 1 = 2 by omega), if_neg (show ¬ (kind % 6 + 1 = 3 ∨ kind % 6 + 1 = 4) by omega), r1, r2]
      rfl
  · show spanS _ = true
    unfold spanS
    rw [show (ruleS ⟨kind, sg, lim, back, delay, span, prio, latch, stages⟩).kind = kind % 6 + 1 from rfl]
    rcases hk6 with hk | hk | hk | hk | hk | hk
    · obtain ⟨r1, r2, r3⟩ := ruleS_0 ⟨kind, sg, lim, back, delay, span, prio, latch, stages⟩ hk
      rw [if_neg (show ¬ (kind % 6 + 1 = 3 ∨ kind % 6 + 1 = 4 ∨ kind % 6 + 1 = 5) by omega), r3]; rfl
    · obtain ⟨r1, r2, r3⟩ := ruleS_1 ⟨kind, sg, lim, back, delay, span, prio, latch, stages⟩ hk
      rw [if_neg (show ¬ (kind % 6 + 1 = 3 ∨ kind % 6 + 1 = 4 ∨ kind % 6 + 1 = 5) by omega), r3]; rfl
    · obtain ⟨r1, r2, r3⟩ := ruleS_2 ⟨kind, sg, lim, back, delay, span, prio, latch, stages⟩ hk
      try simp only at r3
      rw [if_pos (show kind % 6 + 1 = 3 ∨ kind % 6 + 1 = 4 ∨ kind % 6 + 1 = 5 by omega), r3]; exact inS_iff.2 (by omega)
    · obtain ⟨r1, r2, r3⟩ := ruleS_3 ⟨kind, sg, lim, back, delay, span, prio, latch, stages⟩ hk
      try simp only at r3
      rw [if_pos (show kind % 6 + 1 = 3 ∨ kind % 6 + 1 = 4 ∨ kind % 6 + 1 = 5 by omega), r3]; exact inS_iff.2 (by omega)
    · obtain ⟨r1, r2, r3⟩ := ruleS_4 ⟨kind, sg, lim, back, delay, span, prio, latch, stages⟩ hk
      try simp only at r3
      rw [if_pos (show kind % 6 + 1 = 3 ∨ kind % 6 + 1 = 4 ∨ kind % 6 + 1 = 5 by omega), r3]; exact inS_iff.2 (by omega)
    · obtain ⟨r1, r2, r3⟩ := ruleS_5 ⟨kind, sg, lim, back, delay, span, prio, latch, stages⟩ hk
      rw [if_neg (show ¬ (kind % 6 + 1 = 3 ∨ kind % 6 + 1 = 4 ∨ kind % 6 + 1 = 5) by omega), r3]; rfl
  · exact inS_iff.2 (show 0 ≤ delay % 8 ∧ delay % 8 ≤ 10000 by omega)
  · exact inS_iff.2 (show 1 ≤ prio % 3 + 1 ∧ prio % 3 + 1 ≤ 3 by omega)
  · show stagesB _ = true
    unfold stagesB
    have h1 : (stagesS (prio % 3 + 1) (stages.take 4)).length ≤ 4 := by rw [stagesS_len]; simp; omega
    have h2 := stagesS_ok (stages.take 4) (prio % 3 + 1) (prio % 3 + 1) (by omega) (Int.le_refl _) fun y hy => x8 y (List.mem_of_mem_take hy)
    have h3 : decide ((stagesS (prio % 3 + 1) (stages.take 4)).length ≤ 4) = true := decide_eq_true h1
    show (decide ((stagesS (prio % 3 + 1) (stages.take 4)).length ≤ 4) && stagesL (prio % 3 + 1) (stagesS (prio % 3 + 1) (stages.take 4))) = true
    rw [h3, h2]; rfl

theorem make_right {d : Draft} (hw : d.wf) : AllTo (makeS d) 17 := by
  obtain ⟨d1, d2, d3, d4, d5, d6, d7, d8⟩ := hw
  have hw : d.wf := ⟨d1, d2, d3, d4, d5, d6, d7, d8⟩
  have hR := rulesS_pos d
  obtain ⟨h1, h2, h3⟩ := tableS_all d d3
  have hn := slotsN_pos d d3
  have hrule : ∀ n, 3 ≤ n ∧ n ≤ 9 → ∀ j, j < placesS (makeS d) n → holdsS (makeS d) n j = true := fun n hn j hj => by
    have hj2 : j < (rulesS d).length := by
      have : n = 3 ∨ n = 4 ∨ n = 5 ∨ n = 6 ∨ n = 7 ∨ n = 8 ∨ n = 9 := by omega
      rcases this with rfl | rfl | rfl | rfl | rfl | rfl | rfl <;> exact hj
    obtain ⟨x, hx, hr⟩ := rules_mem hw (List.getElem_mem hj2)
    rw [(holdsS_rule (makeS d) hn (show (makeS d).rules[j]? = some (rulesS d)[j] from List.getElem?_eq_getElem hj2)).1, hr]
    exact ruleS_ok x hx n hn
  have e1 := entriesS_le' 32 (tableS d) h1.len
  rw [h2] at e1
  intro n hn17 j hj
  have hall : n = 0 ∨ n = 1 ∨ n = 2 ∨ (3 ≤ n ∧ n ≤ 9) ∨ n = 10 ∨ n = 11 ∨ n = 12 ∨ n = 13 ∨ n = 14 ∨ n = 15 ∨ n = 16 := by omega
  rcases hall with rfl | rfl | rfl | h | rfl | rfl | rfl | rfl | rfl | rfl | rfl
  · rfl
  · have hj : j < 3 := hj
    have : j = 0 ∨ j = 1 ∨ j = 2 := by omega
    rcases this with rfl | rfl | rfl <;> rfl
  · exact inS_iff.2 (show 1 ≤ ((rulesS d).length : Int) ∧ ((rulesS d).length : Int) ≤ 32 by omega)
  · exact hrule n h j hj
  · exact inS_iff.2 (show 1 ≤ ((tableS d).length : Int) ∧ ((tableS d).length : Int) ≤ 64 by omega)
  · have hj : j < (tableS d).length := hj
    have : holdsS (makeS d) 11 j = decide (SlotOk (rulesS d).length (tableS d)[j]) := by
      show (match (tableS d)[j]? with | some l => decide (SlotOk (rulesS d).length l) | none => true) = _
      rw [List.getElem?_eq_getElem hj]
    rw [this]
    exact decide_eq_true ⟨h1.inn _ (List.getElem_mem hj), h1.nodup _ (List.getElem_mem hj)⟩
  · exact h3 j hj
  · have hj : j < 3 := hj
    have : j = 0 ∨ j = 1 ∨ j = 2 := by omega
    rcases this with rfl | rfl | rfl
    · exact inS_iff.2 (show 1 ≤ 1 + d.bands % 16 % 3 ∧ 1 + d.bands % 16 % 3 ≤ 32 by omega)
    · exact inS_iff.2 (show 1 ≤ 1 + d.bands % 16 / 2 % 3 ∧ 1 + d.bands % 16 / 2 % 3 ≤ 32 by omega)
    · exact inS_iff.2 (show 1 ≤ 1 + d.bands % 16 / 4 % 4 ∧ 1 + d.bands % 16 / 4 % 4 ≤ 32 by omega)
  · show (inS ((entriesS (tableS d) : Int) / slotsN d + 1 + d.drain % 4 / 3 * 2) 1 64 && decide ((entriesS (tableS d) : Int) < ((entriesS (tableS d) : Int) / slotsN d + 1 + d.drain % 4 / 3 * 2) * (tableS d).length)) = true
    rw [h2]
    have q0 : 0 ≤ (entriesS (tableS d) : Int) / slotsN d := Int.ediv_nonneg (by omega) (by omega)
    have q1 : (entriesS (tableS d) : Int) / slotsN d ≤ 32 := by
      have : (entriesS (tableS d) : Int) / slotsN d < 33 := Int.ediv_lt_of_lt_mul (by omega) (by omega)
      omega
    have q2 := Int.lt_ediv_add_one_mul_self (entriesS (tableS d) : Int) (show 0 < (slotsN d : Int) by omega)
    generalize (entriesS (tableS d) : Int) / slotsN d = q at *
    generalize entriesS (tableS d) = E at *
    have q3 : (q + 1) * (slotsN d : Int) ≤ (q + 1 + d.drain % 4 / 3 * 2) * slotsN d := Int.mul_le_mul_of_nonneg_right (by omega) (by omega)
    rw [inS_iff.2 (by omega), Bool.true_and]
    exact decide_eq_true (by omega)
  · show (inS (1 + d.pause % 30) 1 100000 && inS (1 + d.off % 30) 1 100000) = true
    rw [inS_iff.2 (by omega), inS_iff.2 (by omega)]; rfl
  · exact inS_iff.2 (show 1 ≤ 1 + d.log % 40 ∧ 1 + d.log % 40 ≤ 256 by omega)

theorem sized_make {d : Draft} (hw : d.wf) : Sized (makeS d) := by
  have hb : 0 ≤ d.bands ∧ d.bands < 256 := hw.2.2.1
  obtain ⟨h1, h2, h3⟩ := tableS_all d hb
  have hn := slotsN_pos d hb
  have hR := rulesS_pos d
  refine ⟨show (sigsS).length ≤ 1000 by decide, show (rulesS d).length ≤ 1000 by omega, show (tableS d).length ≤ 1000 by omega, fun x hx => by have := h1.len x hx; omega, fun r hr => ?_⟩
  obtain ⟨x, hx, rfl⟩ := rules_mem hw hr
  show (stagesS _ _).length ≤ _
  rw [stagesS_len]; simp; omega

end Go.Proofs.Ytmiinclnpcokkaa.I
