/- A draft's configuration can be told by an image. No condition. -/
import Derived.Test.YtoecebibhcadoaaDoorPImg
import Derived.Test.YtoecebibhcadoaaDoorPConf
namespace Go.Proofs.YtoecebibhcadoaaDoor.I
open Go Go.RowKit
set_option linter.unusedVariables false
set_option linter.unusedSimpArgs false
theorem stagesS_fit : ∀ (l : List Int) (p : Int), 1 ≤ p → (∀ x ∈ l, 0 ≤ x ∧ x < 256) → ∀ s ∈ stagesS p l, (1 ≤ s.wait ∧ s.wait ≤ 12) ∧ (0 ≤ s.prio ∧ s.prio ≤ 3)
  | [], _, _, _, s, hs => by cases hs
  | x :: l, p, hp, hx, s, hs => by
    have h0 := hx x (List.mem_cons_self ..)
    unfold stagesS at hs
    rcases List.mem_cons.1 hs with rfl | hs
    · simp only; omega
    · exact stagesS_fit l _ (by omega) (fun y hy => hx y (List.mem_cons_of_mem _ hy)) s hs
structure RuleIn (r : Rule) : Prop where
  k : 1 ≤ r.kind ∧ r.kind ≤ 6
  s : 0 ≤ r.sg ∧ r.sg ≤ 2
  l : 0 ≤ r.lim ∧ r.lim ≤ 255
  b : -20 ≤ r.back ∧ r.back ≤ 275
  d : 0 ≤ r.delay ∧ r.delay ≤ 7
  n : 0 ≤ r.span ∧ r.span ≤ 12
  p : 1 ≤ r.prio ∧ r.prio ≤ 3
  t : r.stages.length ≤ 4 ∧ ∀ s ∈ r.stages, (1 ≤ s.wait ∧ s.wait ≤ 12) ∧ (0 ≤ s.prio ∧ s.prio ≤ 3)
theorem ruleS_in {x : Line} (hx : x.wf) : RuleIn (ruleS x) := by
  obtain ⟨h1, h2, h3, h4, h5, h6, h7, h8, h9⟩ := hx
  refine ⟨by simp only [ruleS]; omega, by simp only [ruleS]; omega, ?_, ?_, by simp only [ruleS]; omega, ?_, by simp only [ruleS]; omega, ?_, ?_⟩
  · simp only [ruleS]; split
    · omega
    · split <;> omega
  · have hb := Int.emod_nonneg x.back (show (1 + x.lim % 60 + 1 : Int) ≠ 0 by omega)
    have hb2 := Int.emod_lt_of_pos x.back (show (0 : Int) < 1 + x.lim % 60 + 1 by omega)
    simp only [ruleS]
    by_cases k1 : x.kind % 6 + 1 = 1
    · simp [k1]; omega
    · by_cases k2 : x.kind % 6 + 1 = 2
      · simp [k2]; omega
      · by_cases k3 : x.kind % 6 + 1 = 3 ∨ x.kind % 6 + 1 = 4
        · rw [if_neg k1, if_neg k2, if_pos k3, if_neg (by omega), if_pos k3]; omega
        · rw [if_neg k1, if_neg k2, if_neg k3]; omega
  · simp only [ruleS]; split <;> omega
  · simp only [ruleS]; rw [stagesS_len, List.length_take]; omega
  · simp only [ruleS]
    exact stagesS_fit _ _ (by omega) fun y hy => h8 y (List.mem_of_mem_take hy)
theorem rulesS_in {d : Draft} (hw : d.wf) : ∀ r ∈ rulesS d, RuleIn r := fun r hr => by
  unfold rulesS at hr
  split at hr
  · rw [List.mem_singleton.1 hr]; exact ruleS_in (by simp [lineZ, Line.wf])
  · obtain ⟨x, hx, rfl⟩ := List.mem_map.1 hr
    exact ruleS_in (hw.1.1 x (List.mem_of_mem_take hx))
theorem fitR_in {r : Rule} (h : RuleIn r) : FitR r := by
  have := h.s; have := h.l; have := h.b; have := h.d; have := h.n; have := h.t.1
  refine ⟨by omega, ⟨by omega, by omega⟩, ⟨by omega, by omega⟩, ⟨by omega, by omega⟩, ⟨by omega, by omega⟩, by omega, fun s hs => ?_⟩
  have := h.t.2 s hs
  exact ⟨by omega, by omega⟩
theorem wf_of_in {r : Rule} (h : RuleIn r) : r.wf := by
  have := h.k; have := h.s; have := h.l; have := h.b; have := h.d; have := h.n; have := h.p; have h9 := h.t.1
  refine ⟨by omega, by omega, by omega, by omega, by omega, by omega, by omega, fun s hs => ?_, by simp only [maxLen]; omega⟩
  have := h.t.2 s hs
  exact ⟨by omega, by omega⟩
section
variable {d : Draft} (hw : d.wf)
include hw
theorem make_num : (1 ≤ (makeS d).b0 ∧ (makeS d).b0 ≤ 3) ∧ (1 ≤ (makeS d).b1 ∧ (makeS d).b1 ≤ 3) ∧ (1 ≤ (makeS d).b2 ∧ (makeS d).b2 ≤ 4) ∧ (1 ≤ (makeS d).drain ∧ (makeS d).drain ≤ 35) ∧ (1 ≤ (makeS d).pause ∧ (makeS d).pause ≤ 30) ∧ (1 ≤ (makeS d).off ∧ (makeS d).off ≤ 30) ∧ (1 ≤ (makeS d).log ∧ (makeS d).log ≤ 40) := by
  obtain ⟨d1, d2, d3, d4, d5, d6, d7⟩ := hw
  have hn := slotsN_pos d d3
  obtain ⟨h1, h2, h3⟩ := tableS_all d d3
  have he := entriesS_le 32 (tableS d) h1.len
  rw [h2] at he
  have hq0 : 0 ≤ (entriesS (tableS d) : Int) / slotsN d := Int.ediv_nonneg (by omega) (by omega)
  have hq1 : (entriesS (tableS d) : Int) / slotsN d ≤ 32 := by
    refine Int.le_trans (Int.ediv_le_ediv (by omega) (show (entriesS (tableS d) : Int) ≤ 32 * slotsN d by omega)) ?_
    rw [Int.mul_ediv_cancel _ (by omega)]
    exact Int.le_refl _
  simp only [makeS]
  omega
theorem make_fit : Fit (makeS d) := by
  have d3 := hw.2.2.1
  have hR := rulesS_pos d
  have hn := slotsN_pos d d3
  obtain ⟨h1, h2, h3⟩ := tableS_all d d3
  obtain ⟨n1, n2, n3, n4, n5, n6, n7⟩ := make_num hw
  refine ⟨⟨show sigsS.length ≤ 255 by decide, fun s hs => ?_⟩, ⟨show (rulesS d).length ≤ 255 by omega, fun r hr => fitR_in (rulesS_in hw r hr)⟩, ⟨show (tableS d).length ≤ 255 by omega, fun l hl => ⟨by have := h1.len l hl; omega, fun x hx => by have := h1.inn l hl x hx; omega⟩⟩, ⟨by omega, by omega, by omega, by omega⟩, ⟨by omega, by omega⟩, ⟨by omega, by omega⟩, ⟨by omega, by omega⟩⟩
  have hs : s ∈ sigsS := hs
  simp only [sigsS, List.mem_cons, List.not_mem_nil, or_false] at hs
  rcases hs with rfl | rfl | rfl <;> exact ⟨⟨by decide, by decide⟩, ⟨by decide, by decide⟩⟩
theorem make_wf : (makeS d).wf := by
  have d3 := hw.2.2.1
  have hR := rulesS_pos d
  have hn := slotsN_pos d d3
  obtain ⟨h1, h2, h3⟩ := tableS_all d d3
  obtain ⟨n1, n2, n3, n4, n5, n6, n7⟩ := make_num hw
  refine ⟨⟨fun s hs => ?_, by simp only [maxLen]; show sigsS.length ≤ _; decide⟩, ⟨fun r hr => wf_of_in (rulesS_in hw r hr), by simp only [maxLen]; show (rulesS d).length ≤ _; omega⟩, ⟨fun l hl => ⟨fun x hx => by have := h1.inn l hl x hx; omega, by simp only [maxLen]; have := h1.len l hl; omega⟩, by simp only [maxLen]; show (tableS d).length ≤ _; omega⟩, by omega, by omega, by omega, by omega, by omega, by omega, by omega⟩
  have hs : s ∈ sigsS := hs
  simp only [sigsS, List.mem_cons, List.not_mem_nil, or_false] at hs
  rcases hs with rfl | rfl | rfl <;> exact ⟨by decide, by decide⟩
end
theorem flat_len_le {α : Type} (f : α → List Int) (k : Nat) : ∀ l : List α, (∀ x ∈ l, (f x).length ≤ k) → (l.flatMap f).length ≤ k * l.length
  | [], _ => by simp
  | x :: l, h => by
    have h0 := h x (List.mem_cons_self ..)
    have ih := flat_len_le f k l fun y hy => h y (List.mem_cons_of_mem _ hy)
    rw [List.flatMap_cons, List.length_append, List.length_cons, Nat.mul_succ]
    omega
theorem flat_len_eq {α : Type} (f : α → List Int) (k : Nat) : ∀ l : List α, (∀ x ∈ l, (f x).length = k) → (l.flatMap f).length = k * l.length
  | [], _ => by simp
  | x :: l, h => by
    have h0 := h x (List.mem_cons_self ..)
    have ih := flat_len_eq f k l fun y hy => h y (List.mem_cons_of_mem _ hy)
    rw [List.flatMap_cons, List.length_append, List.length_cons, Nat.mul_succ]
    omega
theorem ruleY_len (r : Rule) : (ruleY r).length = 21 + 5 * r.stages.length := by
  unfold ruleY
  simp only [List.length_append, i4_len, List.length_cons, List.length_nil]
  rw [flat_len_eq stageB 5 _ fun s _ => rfl]
  all_goals (try omega)
theorem slotB_len (l : List Int) : (slotB l).length = 1 + l.length := by unfold slotB; simp; try omega
theorem cfgB_len (c : Config) : (cfgB c).length = 23 + 8 * c.sigs.length + (c.rules.flatMap ruleY).length + (c.table.flatMap slotB).length := by
  unfold cfgB
  simp only [List.length_append, i4_len, List.length_cons, List.length_nil]
  rw [flat_len_eq sigB 8 _ fun s _ => rfl]
  all_goals (try omega)
theorem cfgB_small {c : Config} (h : Fit c) : (cfgB c).length ≤ 700000 := by
  rw [cfgB_len]
  have h1 := flat_len_le ruleY 1296 c.rules fun r hr => by rw [ruleY_len]; have := (h.r.2 r hr).2.2.2.2.2.1; omega
  have h2 := flat_len_le slotB 256 c.table fun l hl => by rw [slotB_len]; have := (h.t.2 l hl).1; omega
  have := h.s.1; have := h.r.1; have := h.t.1
  omega
end Go.Proofs.YtoecebibhcadoaaDoor.I
