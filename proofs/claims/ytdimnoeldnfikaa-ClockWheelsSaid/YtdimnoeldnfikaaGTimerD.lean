/- The document's timers: what is due. No condition. -/
import Derived.Test.YtdimnoeldnfikaaGTimer
namespace Go.Proofs.Ytdimnoeldnfikaa.I
open Go Go.RowKit Go.Maps
set_option linter.unusedVariables false
set_option linter.unusedSimpArgs false

/-- q is due ahead of p. -/
def pLt (q p : Int × Int) : Bool := decide (q.2 < p.2 ∨ (q.2 = p.2 ∧ q.1 < p.1))
theorem pLt_due {D : Dat} {m : List (Int × Int)} (h : Like D m) {p q : Int × Int} (hp : p ∈ m) (hq : q ∈ m) : dueLt D q.1 p.1 = pLt q p := by
  unfold dueLt pLt
  rw [h.at_ p hp, h.at_ q hq]
/-- Where the first of those that are due stands, so far. -/
def Best (l : List (Int × Int)) (now : Int) (k : Nat) (b : Int) : Prop :=
  (b = -1 ∧ ∀ q ∈ l.take k, ¬ q.2 ≤ now) ∨ ∃ j : Nat, b = j ∧ j < k ∧ ∃ p, l[j]? = some p ∧ p.2 ≤ now ∧ ∀ q ∈ l.take k, q.2 ≤ now → pLt q p = false
theorem pLt_irr (p : Int × Int) : pLt p p = false := by unfold pLt; simp
theorem Best.now {l : List (Int × Int)} {now : Int} {k : Nat} {b : Int} (h : Best l now k b) {x : Int × Int} (hx : l[k]? = some x) (hd : x.2 ≤ now) (hb : b = -1 ∨ ∃ j : Nat, b = j ∧ ∃ p, l[j]? = some p ∧ pLt x p = true) : Best l now (k + 1) k := by
  obtain ⟨hk, rfl⟩ := List.getElem?_eq_some_iff.mp hx
  refine .inr ⟨k, rfl, by omega, l[k], hx, hd, fun q hq hqd => ?_⟩
  rw [List.take_succ_eq_append_getElem hk] at hq
  rcases List.mem_append.mp hq with hq | hq
  · rcases h with ⟨_, h2⟩ | ⟨j, hj, _, p, hp, hpd, h3⟩
    · exact absurd hqd (h2 q hq)
    · rcases hb with rfl | ⟨j', hj', p', hp', hlt⟩
      · omega
      · have : j = j' := by omega
        subst this
        rw [hp] at hp'
        cases hp'
        have := h3 q hq hqd
        unfold pLt at *
        simp only [decide_eq_true_eq, decide_eq_false_iff_not] at *
        omega
  · simp at hq; subst hq; exact pLt_irr _
theorem Best.keep {l : List (Int × Int)} {now : Int} {k : Nat} {b : Int} (h : Best l now k b) {x : Int × Int} (hx : l[k]? = some x) (hn : ¬ x.2 ≤ now ∨ ∃ j : Nat, b = j ∧ ∃ p, l[j]? = some p ∧ pLt x p = false) : Best l now (k + 1) b := by
  obtain ⟨hk, rfl⟩ := List.getElem?_eq_some_iff.mp hx
  rcases h with ⟨h1, h2⟩ | ⟨j, hj, hjk, p, hp, hpd, h3⟩
  · refine .inl ⟨h1, fun q hq => ?_⟩
    rw [List.take_succ_eq_append_getElem hk] at hq
    rcases List.mem_append.mp hq with hq | hq
    · exact h2 q hq
    · simp at hq; subst hq
      rcases hn with hn | ⟨j, hj, _⟩
      · exact hn
      · omega
  · refine .inr ⟨j, hj, by omega, p, hp, hpd, fun q hq hqd => ?_⟩
    rw [List.take_succ_eq_append_getElem hk] at hq
    rcases List.mem_append.mp hq with hq | hq
    · exact h3 q hq hqd
    · simp at hq; subst hq
      rcases hn with hn | ⟨j', hj', p', hp', hlt⟩
      · exact absurd hqd hn
      · have : j = j' := by omega
        subst this
        rw [hp] at hp'
        cases hp'
        exact hlt

/-- What has been taken out, and what is left. -/
structure Taken (D : Dat) (m : List (Int × Int)) (now : Int) (out : List Int) : Prop where
  nd : out.Nodup
  mem : ∀ x ∈ out, ∃ p ∈ m, p.1 = x ∧ p.2 ≤ now
  ord : out.Pairwise fun x y => dueLt D y x = false
  rest : ∀ x ∈ out, ∀ p ∈ withoutL m out, p.2 ≤ now → dueLt D p.1 x = false
theorem Taken.nil (D : Dat) (m : List (Int × Int)) (now : Int) : Taken D m now [] := ⟨List.nodup_nil, fun x h => (by cases h), List.Pairwise.nil, fun x h => (by cases h)⟩
theorem withoutL_mem : ∀ (ks : List Int) (m : List (Int × Int)) (p : Int × Int), p ∈ withoutL m ks ↔ p ∈ m ∧ p.1 ∉ ks := by
  unfold withoutL
  intro ks
  induction ks with
  | nil => simp
  | cons x ks ih =>
    intro m p
    rw [List.foldl_cons, ih]
    unfold without
    simp only [List.mem_filter, List.mem_cons, not_or]
    exact ⟨fun h => ⟨h.1.1, by simpa using h.1.2, h.2⟩, fun h => ⟨⟨h.1, by simpa using h.2.1⟩, h.2.2⟩⟩
theorem withoutL_snoc (m : List (Int × Int)) (ks : List Int) (x : Int) : withoutL m (ks ++ [x]) = without (withoutL m ks) x := by
  unfold withoutL; rw [List.foldl_append]; rfl
theorem withoutL_le (m : List (Int × Int)) (ks : List Int) : (withoutL m ks).length ≤ m.length := by
  unfold withoutL
  induction ks generalizing m with
  | nil => simp
  | cons x ks ih => exact Nat.le_trans (ih _) (without_le m x)
theorem Taken.more {D : Dat} {m : List (Int × Int)} {now : Int} {out : List Int} (h : Taken D m now out) (hl : Like D m) {p : Int × Int} (hp : p ∈ withoutL m out) (hd : p.2 ≤ now) (hb : ∀ q ∈ withoutL m out, q.2 ≤ now → pLt q p = false) : Taken D m now (out ++ [p.1]) := by
  obtain ⟨hpm, hpo⟩ := (withoutL_mem out m p).mp hp
  refine ⟨List.nodup_append.2 ⟨h.nd, by simp, fun a ha b hb => by simp at hb; subst hb; exact fun e => hpo (e ▸ ha)⟩, fun x hx => ?_, ?_, fun x hx q hq hqd => ?_⟩
  · rcases List.mem_append.mp hx with hx | hx
    · exact h.mem x hx
    · simp at hx; subst hx; exact ⟨p, hpm, rfl, hd⟩
  · refine List.pairwise_append.mpr ⟨h.ord, by simp, fun a ha b hb => ?_⟩
    simp at hb; subst hb
    exact h.rest a ha p hp hd
  · have hq' : q ∈ withoutL m out := by
      rw [withoutL_mem] at hq ⊢
      exact ⟨hq.1, fun h => hq.2 (List.mem_append.mpr (.inl h))⟩
    rcases List.mem_append.mp hx with hx | hx
    · exact h.rest x hx q hq' hqd
    · simp at hx; subst hx
      rw [pLt_due hl hpm ((withoutL_mem out m q).mp hq').1]
      exact hb q hq' hqd
theorem Taken.done {D : Dat} {m : List (Int × Int)} {now : Int} {out : List Int} (h : Taken D m now out) (hl : Like D m) (hn : ∀ q ∈ withoutL m out, ¬ q.2 ≤ now) : DueL D now out := by
  refine ⟨h.nd, fun x => ⟨fun hx => ?_, fun hx => ?_⟩, fun x hx => ?_, h.ord⟩
  · obtain ⟨p, hp, rfl, hd⟩ := h.mem x hx
    exact ⟨(hl.has _).mpr (List.mem_map.mpr ⟨p, hp, rfl⟩), by rw [hl.at_ p hp]; exact hd⟩
  · obtain ⟨p, hp, rfl⟩ := List.mem_map.mp ((hl.has x).mp hx.1)
    cases Classical.em (p.1 ∈ out) with
    | inl h1 => exact h1
    | inr h1 =>
      have h2 := hx.2
      rw [hl.at_ p hp] at h2
      exact absurd h2 (hn p ((withoutL_mem out m p).mpr ⟨hp, h1⟩))
  · obtain ⟨p, hp, rfl, _⟩ := h.mem x hx
    exact hl.wf p hp

end Go.Proofs.Ytdimnoeldnfikaa.I
