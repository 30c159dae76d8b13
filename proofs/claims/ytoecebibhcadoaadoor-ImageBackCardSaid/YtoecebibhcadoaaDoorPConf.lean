/- A draft's configuration: what holds of it. No condition. -/
import Derived.Test.YtoecebibhcadoaaDoorGConf
namespace Go.Proofs.YtoecebibhcadoaaDoor.I
open Go Go.RowKit
set_option linter.unusedVariables false
set_option linter.unusedSimpArgs false
theorem rulesS_pos (d : Draft) : 1 ≤ (rulesS d).length ∧ (rulesS d).length ≤ 8 := by
  unfold rulesS
  split
  · simp
  · rename_i h
    have := List.length_pos_iff.2 h
    simp; omega
theorem slotsN_pos (d : Draft) (h : 0 ≤ d.bands ∧ d.bands < 256) : 1 ≤ slotsN d ∧ slotsN d ≤ 6 := by unfold slotsN; omega
theorem lastAdd_len (T : List (List Int)) (i : Int) : (lastAdd T i).length = T.length := by unfold lastAdd; split <;> simp
theorem lastAdd_mem {T : List (List Int)} {i : Int} {l : List Int} (h : l ∈ lastAdd T i) : l ∈ T ∨ (standsS T i = false ∧ ∃ m, (m ∈ T ∨ m = []) ∧ l = m ++ [i]) := by
  unfold lastAdd at h
  split at h
  · exact .inl h
  · rename_i hs
    rcases List.mem_or_eq_of_mem_set h with h | h
    · exact .inl h
    · refine .inr ⟨by simpa using hs, _, ?_, h⟩
      rw [List.getD_eq_getElem?_getD]
      cases e : T[T.length - 1]? with
      | none => exact .inr rfl
      | some x => exact .inl (List.mem_of_getElem? e)
theorem standsS_iff (T : List (List Int)) (i : Int) : standsS T i = true ↔ ∃ l ∈ T, i ∈ l := by simp [standsS]
theorem lastAdd_keeps {T : List (List Int)} {i j : Int} (h : standsS T j = true) : standsS (lastAdd T i) j = true := by
  unfold lastAdd
  split
  · exact h
  · rw [standsS_iff] at h ⊢
    obtain ⟨l, hl, hj⟩ := h
    obtain ⟨k, hk, rfl⟩ := List.mem_iff_getElem.1 hl
    by_cases e : k = T.length - 1
    · refine ⟨T.getD (T.length - 1) [] ++ [i], ?_, ?_⟩
      · exact List.mem_set (by omega) _
      · rw [List.getD_eq_getElem?_getD, ← e, List.getElem?_eq_getElem hk]
        simp [hj]
    · exact ⟨T[k], List.mem_iff_getElem.2 ⟨k, by simpa using hk, by rw [List.getElem_set_ne (by omega)]⟩, hj⟩
theorem lastAdd_adds {T : List (List Int)} {i : Int} (h : T ≠ []) : standsS (lastAdd T i) i = true := by
  unfold lastAdd
  split
  · assumption
  · rw [standsS_iff]
    have := List.length_pos_iff.2 h
    exact ⟨T.getD (T.length - 1) [] ++ [i], List.mem_set (by omega) _, by simp⟩
structure Rows (R m : Nat) (T : List (List Int)) : Prop where
  inn : ∀ l ∈ T, ∀ x ∈ l, 0 ≤ x ∧ x < R
  nodup : ∀ l ∈ T, l.Nodup
  len : ∀ l ∈ T, l.length ≤ m
theorem nodup_snoc {l : List Int} {x : Int} (h : l.Nodup) (hx : ¬ x ∈ l) : (l ++ [x]).Nodup := by
  rw [List.nodup_append]
  exact ⟨h, by simp, fun a ha b hb => by simp at hb; subst hb; exact fun e => hx (e ▸ ha)⟩
theorem Rows.last {R m : Nat} {T : List (List Int)} (h : Rows R m T) {i : Int} (hi : 0 ≤ i ∧ i < R) : Rows R (m + 1) (lastAdd T i) := by
  have key : ∀ l ∈ lastAdd T i, (∀ x ∈ l, 0 ≤ x ∧ x < R) ∧ l.Nodup ∧ l.length ≤ m + 1 := fun l hl => by
    rcases lastAdd_mem hl with hl | ⟨hs, k, hk, rfl⟩
    · exact ⟨h.inn l hl, h.nodup l hl, by have := h.len l hl; omega⟩
    · have hno : ¬ i ∈ k := fun hik => by
        rcases hk with hk | rfl
        · have := (standsS_iff T i).2 ⟨k, hk, hik⟩
          rw [hs] at this; cases this
        · cases hik
      rcases hk with hk | rfl
      · exact ⟨fun x hx => (List.mem_append.1 hx).elim (h.inn k hk x) (fun e => by simp at e; subst e; exact hi), nodup_snoc (h.nodup k hk) hno, by have := h.len k hk; simp; omega⟩
      · exact ⟨fun x hx => by simp at hx; subst hx; exact hi, by simp, by simp⟩
  exact ⟨fun l hl => (key l hl).1, fun l hl => (key l hl).2.1, fun l hl => (key l hl).2.2⟩
theorem fallS_ok {R : Nat} {l : List Int} {s : Int} (h : (∀ x ∈ l, 0 ≤ x ∧ x < R) ∧ l.Nodup) : (∀ x ∈ fallS R l s, 0 ≤ x ∧ x < R) ∧ (fallS R l s).Nodup ∧ (fallS R l s).length ≤ l.length + 1 := by
  unfold fallS
  split
  · rename_i hc
    have hm := Int.emod_nonneg s (show (R : Int) + 2 ≠ 0 by omega)
    exact ⟨fun x hx => (List.mem_append.1 hx).elim (h.1 x) (fun e => by simp at e; subst e; exact ⟨hm, hc.1⟩), nodup_snoc h.2 hc.2, by simp⟩
  · exact ⟨h.1, h.2, by omega⟩
theorem slotF_ok (slots : List Int) (R n : Nat) : ∀ (f k : Nat) (l : List Int), (∀ x ∈ l, 0 ≤ x ∧ x < R) → l.Nodup → (∀ x ∈ slotF slots R n f k l, 0 ≤ x ∧ x < R) ∧ (slotF slots R n f k l).Nodup ∧ (slotF slots R n f k l).length ≤ l.length + f
  | 0, _, l, h1, h2 => ⟨h1, h2, Nat.le_refl _⟩
  | f + 1, k, l, h1, h2 => by
    rw [slotF]
    split
    · have h := fallS_ok (s := slots.getD k 0) ⟨h1, h2⟩
      have ih := slotF_ok slots R n f (k + n) _ h.1 h.2.1
      exact ⟨ih.1, ih.2.1, by have := ih.2.2; omega⟩
    · exact ⟨h1, h2, by omega⟩
theorem table_fold (R : Nat) (T : List (List Int)) (hT : T ≠ []) (h : Rows R 24 T) : ∀ m : Nat, m ≤ R →
    Rows R (24 + m) ((List.range m).foldl (fun T (i : Nat) => lastAdd T i) T) ∧ ((List.range m).foldl (fun T (i : Nat) => lastAdd T i) T).length = T.length ∧ ∀ i : Nat, i < m → standsS ((List.range m).foldl (fun T (i : Nat) => lastAdd T i) T) i = true
  | 0, _ => ⟨h, rfl, fun i hi => absurd hi (by omega)⟩
  | m + 1, hm => by
    obtain ⟨h1, h2, h3⟩ := table_fold R T hT h m (by omega)
    rw [List.range_succ, List.foldl_append, List.foldl_cons, List.foldl_nil]
    generalize (List.range m).foldl (fun T (i : Nat) => lastAdd T i) T = U at *
    have hU : U ≠ [] := fun e => hT (List.length_eq_zero_iff.1 (by rw [← h2, e]; rfl))
    refine ⟨h1.last (by omega), by rw [lastAdd_len, h2], fun i hi => ?_⟩
    by_cases e : i = m
    · subst e; exact lastAdd_adds hU
    · exact lastAdd_keeps (h3 i (by omega))
theorem tableS_all (d : Draft) (h : 0 ≤ d.bands ∧ d.bands < 256) : Rows (rulesS d).length 32 (tableS d) ∧ (tableS d).length = slotsN d ∧ ∀ i : Nat, i < (rulesS d).length → standsS (tableS d) i = true := by
  have hn := slotsN_pos d h
  have hR := rulesS_pos d
  have h0 : Rows (rulesS d).length 24 ((List.range (slotsN d)).map fun i => slotS d.slots (rulesS d).length (slotsN d) i) := by
    have key : ∀ l ∈ ((List.range (slotsN d)).map fun i => slotS d.slots (rulesS d).length (slotsN d) i), (∀ x ∈ l, 0 ≤ x ∧ x < (rulesS d).length) ∧ l.Nodup ∧ l.length ≤ 24 := fun l hl => by
      obtain ⟨i, _, rfl⟩ := List.mem_map.1 hl
      have := slotF_ok d.slots (rulesS d).length (slotsN d) 24 i [] (fun x hx => by cases hx) (by simp)
      exact ⟨this.1, this.2.1, by have := this.2.2; simpa [slotS] using this⟩
    exact ⟨fun l hl => (key l hl).1, fun l hl => (key l hl).2.1, fun l hl => (key l hl).2.2⟩
  have hne : ((List.range (slotsN d)).map fun i => slotS d.slots (rulesS d).length (slotsN d) i) ≠ [] := fun e => by
    have := congrArg List.length e
    simp at this; omega
  obtain ⟨h1, h2, h3⟩ := table_fold (rulesS d).length _ hne h0 (rulesS d).length (Nat.le_refl _)
  refine ⟨⟨h1.inn, h1.nodup, fun l hl => by have := h1.len l hl; omega⟩, by unfold tableS; rw [h2]; simp, h3⟩
end Go.Proofs.YtoecebibhcadoaaDoor.I
