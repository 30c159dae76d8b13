/- Streams of bytes: what frames, pieces and gaps come to. No condition. -/
import Derived.Test.YtgmpjbifbnaijaaGScan
namespace Go.Proofs.Ytgmpjbifbnaijaa.I
open Go Go.RowKit
set_option linter.unusedVariables false
set_option linter.unusedSimpArgs false

theorem getD_app {a b : List Int} {i : Nat} (h : i < a.length) : (a ++ b).getD i 0 = a.getD i 0 := by
  simp [List.getD_eq_getElem?_getD, List.getElem?_append_left h]

theorem lookS_app {a : List Int} (b : List Int) (h : ¬ (lookS a).1 = 0) : lookS (a ++ b) = lookS a := by
  by_cases h0 : a.length ≤ 0
  · exact absurd (by unfold lookS; rw [if_pos h0]) h
  have ll : (a ++ b).length = a.length + b.length := List.length_append
  have e0 : ¬ (a ++ b).length ≤ 0 := by omega
  have g0 : (a ++ b).getD 0 0 = a.getD 0 0 := getD_app (by omega)
  by_cases a0 : a.getD 0 0 = 85
  case neg =>
    have eA : lookS a = (1, 0) := by unfold lookS; rw [if_neg h0, if_pos a0]
    have eB : lookS (a ++ b) = (1, 0) := by unfold lookS; rw [if_neg e0, if_pos (by rw [g0]; exact a0)]
    rw [eA, eB]
  have b0 : (a ++ b).getD 0 0 = 85 := by rw [g0, a0]
  by_cases h1 : a.length ≤ 1
  · exact absurd (by unfold lookS; rw [if_neg h0, if_neg (not_not_intro a0), if_pos h1]) h
  have e1 : ¬ (a ++ b).length ≤ 1 := by omega
  have g1 : (a ++ b).getD 1 0 = a.getD 1 0 := getD_app (by omega)
  by_cases a1 : a.getD 1 0 = 170
  case neg =>
    have eA : lookS a = (1, 0) := by unfold lookS; rw [if_neg h0, if_neg (not_not_intro a0), if_neg h1, if_pos a1]
    have eB : lookS (a ++ b) = (1, 0) := by unfold lookS; rw [if_neg e0, if_neg (not_not_intro b0), if_neg e1, if_pos (by rw [g1]; exact a1)]
    rw [eA, eB]
  have b1 : (a ++ b).getD 1 0 = 170 := by rw [g1, a1]
  by_cases h2 : a.length ≤ 2
  · exact absurd (by unfold lookS; rw [if_neg h0, if_neg (not_not_intro a0), if_neg h1, if_neg (not_not_intro a1), if_pos h2]) h
  have e2 : ¬ (a ++ b).length ≤ 2 := by omega
  have g2 : (a ++ b).getD 2 0 = a.getD 2 0 := getD_app (by omega)
  by_cases a2 : 1 ≤ a.getD 2 0 ∧ a.getD 2 0 ≤ 32
  case neg =>
    have eA : lookS a = (1, 0) := by unfold lookS; rw [if_neg h0, if_neg (not_not_intro a0), if_neg h1, if_neg (not_not_intro a1), if_neg h2, if_pos a2]
    have eB : lookS (a ++ b) = (1, 0) := by unfold lookS; rw [if_neg e0, if_neg (not_not_intro b0), if_neg e1, if_neg (not_not_intro b1), if_neg e2, if_pos (by rw [g2]; exact a2)]
    rw [eA, eB]
  have b2 : 1 ≤ (a ++ b).getD 2 0 ∧ (a ++ b).getD 2 0 ≤ 32 := by rw [g2]; exact a2
  by_cases h3 : (a.length : Int) < 5 + a.getD 2 0
  · exact absurd (by unfold lookS; rw [if_neg h0, if_neg (not_not_intro a0), if_neg h1, if_neg (not_not_intro a1), if_neg h2, if_neg (not_not_intro a2), if_pos h3]) h
  have e3 : ¬ ((a ++ b).length : Int) < 5 + (a ++ b).getD 2 0 := by rw [g2]; omega
  have ht : (a ++ b).take (5 + a.getD 2 0).toNat = a.take (5 + a.getD 2 0).toNat := List.take_append_of_le_length (by omega)
  have eA : lookS a = if (opened ((a.take (5 + a.getD 2 0).toNat).drop 2)).2 = 0 then (2, 5 + a.getD 2 0) else (1, 0) := by
    unfold lookS; rw [if_neg h0, if_neg (not_not_intro a0), if_neg h1, if_neg (not_not_intro a1), if_neg h2, if_neg (not_not_intro a2), if_neg h3]
  have eB : lookS (a ++ b) = if (opened (((a ++ b).take (5 + (a ++ b).getD 2 0).toNat).drop 2)).2 = 0 then (2, 5 + (a ++ b).getD 2 0) else (1, 0) := by
    unfold lookS; rw [if_neg e0, if_neg (not_not_intro b0), if_neg e1, if_neg (not_not_intro b1), if_neg e2, if_neg (not_not_intro b2), if_neg e3]
  rw [eA, eB, g2, ht]

theorem scanS_nil : scanS [] = ([], 0, []) := scanS_wait (by simp [lookS])

theorem scanS_app (a b : List Int) : scanS (a ++ b) = ((scanS a).1 ++ (scanS ((scanS a).2.2 ++ b)).1, (scanS a).2.1 + (scanS ((scanS a).2.2 ++ b)).2.1, (scanS ((scanS a).2.2 ++ b)).2.2) := by
  generalize hn : a.length = n
  induction n using Nat.strongRecOn generalizing a with
  | ind n ih =>
  rcases lookS_cases a with h | ⟨h, h1⟩ | ⟨k, h, h1, h2, h3⟩
  · rw [scanS_wait (P := a) (by rw [h])]; simp
  · have e : lookS (a ++ b) = (1, 0) := by rw [lookS_app b (by rw [h]; decide), h]
    rw [scanS_lost e, scanS_lost h, List.drop_append_of_le_length h1, ih (a.drop 1).length (by rw [List.length_drop]; omega) (a.drop 1) rfl]
    simp only [Prod.mk.injEq, true_and, and_true]; omega
  · have e : lookS (a ++ b) = (2, (k : Int)) := by rw [lookS_app b (by rw [h]; show ¬ (2 : Int) = 0; decide), h]
    rw [scanS_told e h1, scanS_told h h1, List.drop_append_of_le_length h3, List.drop_append_of_le_length (by omega), List.take_append_of_le_length (by rw [List.length_drop]; omega), ih (a.drop k).length (by rw [List.length_drop]; omega) (a.drop k) rfl]
    simp

theorem scanS_held (P : List Int) : (scanS P).2.2.length ≤ 36 ∧ scanS (scanS P).2.2 = ([], 0, (scanS P).2.2) := by
  generalize hn : P.length = n
  induction n using Nat.strongRecOn generalizing P with
  | ind n ih =>
  rcases lookS_cases P with h | ⟨h, h1⟩ | ⟨k, h, h1, h2, h3⟩
  · have hw := scanS_wait (P := P) (by rw [h])
    rw [hw]
    refine ⟨?_, hw⟩
    show P.length ≤ 36
    unfold lookS at h
    split at h
    · omega
    split at h
    · cases h
    split at h
    · omega
    split at h
    · cases h
    split at h
    · omega
    split at h
    · cases h
    rename_i hx
    have hx' : 1 ≤ P.getD 2 0 ∧ P.getD 2 0 ≤ 32 := by simpa using hx
    split at h
    · omega
    split at h <;> cases h
  · rw [scanS_lost h]; exact ih _ (by rw [List.length_drop]; omega) (P.drop 1) rfl
  · rw [scanS_told h h1]; exact ih _ (by rw [List.length_drop]; omega) (P.drop k) rfl

theorem scanS_count (P : List Int) : (scanS P).2.1 + (scanS P).2.2.length + ((scanS P).1.map fun f => f.length + 5).sum = P.length ∧ ∀ f ∈ (scanS P).1, 1 ≤ f.length ∧ f.length ≤ 32 := by
  generalize hn : P.length = n
  induction n using Nat.strongRecOn generalizing P with
  | ind n ih =>
  rcases lookS_cases P with h | ⟨h, h1⟩ | ⟨k, h, h1, h2, h3⟩
  · rw [scanS_wait (P := P) (by rw [h])]; simp [hn]
  · have := ih _ (by rw [List.length_drop]; omega) (P.drop 1) rfl
    rw [scanS_lost h]
    rw [List.length_drop] at this
    exact ⟨by have := this.1; simp only at this ⊢; omega, this.2⟩
  · have := ih _ (by rw [List.length_drop]; omega) (P.drop k) rfl
    rw [scanS_told h h1]
    rw [List.length_drop] at this
    have hc : ((P.drop 3).take (k - 5)).length = k - 5 := by rw [List.length_take, List.length_drop]; omega
    refine ⟨by have := this.1; simp only [List.map_cons, List.sum_cons, hc] at this ⊢; omega, fun f hf => ?_⟩
    rcases List.mem_cons.1 hf with rfl | hf
    · rw [hc]; omega
    · exact this.2 f hf

theorem frameB_eq (q : List Int) : frameB q = 85 :: 170 :: (q.length : Int) :: (q ++ [((crc ((q.length : Int) :: q)).toNat : Int) / 256, ((crc ((q.length : Int) :: q)).toNat : Int) % 256]) := by
  simp [frameB, closed]
theorem frameB_length (q : List Int) : (frameB q).length = q.length + 5 := by simp [frameB_eq]

theorem opened_closed' (L : List Int) : opened (closed L) = (L, 0) := by
  have h1 : (closed L).length = L.length + 2 := by simp [closed]
  have h2 : (closed L).take ((closed L).length - 2) = L := by rw [h1]; simp [closed]
  unfold opened
  rw [if_neg (by omega), h2, if_pos rfl]

theorem lookS_frame (q rest : List Int) (h1 : 1 ≤ q.length) (h2 : q.length ≤ 32) : lookS (frameB q ++ rest) = (2, ((q.length + 5 : Nat) : Int)) := by
  have hl : (frameB q ++ rest).length = q.length + 5 + rest.length := by rw [List.length_append, frameB_length]
  have g0 : (frameB q ++ rest).getD 0 0 = 85 := by simp [frameB_eq]
  have g1 : (frameB q ++ rest).getD 1 0 = 170 := by simp [frameB_eq]
  have g2 : (frameB q ++ rest).getD 2 0 = (q.length : Int) := by simp [frameB_eq]
  have ht : (frameB q ++ rest).take (5 + (q.length : Int)).toNat = frameB q := by
    rw [List.take_append_of_le_length (by rw [frameB_length]; omega)]
    exact List.take_of_length_le (by rw [frameB_length]; omega)
  have hd : (frameB q).drop 2 = closed ((q.length : Int) :: q) := by simp [frameB]
  unfold lookS
  rw [if_neg (by omega), if_neg (not_not_intro g0), if_neg (by omega), if_neg (not_not_intro g1), if_neg (by omega), g2, if_neg (not_not_intro (by omega : 1 ≤ (q.length : Int) ∧ (q.length : Int) ≤ 32)), if_neg (by omega), ht, hd, opened_closed', if_pos rfl]
  congr 1; omega

theorem scanS_frame (q rest : List Int) (h1 : 1 ≤ q.length) (h2 : q.length ≤ 32) : scanS (frameB q ++ rest) = (q :: (scanS rest).1, (scanS rest).2.1, (scanS rest).2.2) := by
  rw [scanS_told (lookS_frame q rest h1 h2) (by omega)]
  have e1 : (frameB q ++ rest).drop (q.length + 5) = rest := by rw [← frameB_length]; simp
  have e2 : ((frameB q ++ rest).drop 3).take (q.length + 5 - 5) = q := by simp [frameB_eq]
  rw [e1, e2]

theorem scanS_frames : ∀ (L : List (List Int)), (∀ q ∈ L, 1 ≤ q.length ∧ q.length ≤ 32) → scanS (L.flatMap frameB) = (L, 0, [])
  | [], _ => by simp [scanS_nil]
  | q :: L, h => by
    have := h q (by simp)
    rw [List.flatMap_cons, scanS_frame q _ this.1 this.2, scanS_frames L fun x hx => h x (by simp [hx])]

/-- Bytes that aren't 85 are lost. -/
theorem scanS_gap (z : Nat) (rest : List Int) : scanS (List.replicate z 0 ++ rest) = ((scanS rest).1, (scanS rest).2.1 + z, (scanS rest).2.2) := by
  induction z with
  | zero => simp
  | succ z ih =>
    have e : lookS (List.replicate (z + 1) 0 ++ rest) = (1, 0) := by
      unfold lookS
      rw [if_neg (by simp), if_pos (by simp [List.replicate_succ])]
    rw [scanS_lost e]
    have : (List.replicate (z + 1) (0 : Int) ++ rest).drop 1 = List.replicate z 0 ++ rest := by simp [List.replicate_succ]
    rw [this, ih]
    simp only [Prod.mk.injEq, true_and, and_true]; omega

/-- Behind any few bytes and a long gap the frame is told. -/
theorem scanS_again (q : List Int) (h1 : 1 ≤ q.length) (h2 : q.length ≤ 32) (z : Nat) (hz : 37 ≤ z) (P : List Int) : ∃ fs n, scanS (P ++ (List.replicate z 0 ++ frameB q)) = (fs ++ [q], n, []) := by
  have end_ : ∀ k : Nat, scanS (List.replicate k 0 ++ frameB q) = ([q], k, []) := fun k => by
    have := scanS_frame q [] h1 h2
    rw [List.append_nil, scanS_nil] at this
    rw [scanS_gap, this]; simp
  generalize hn : P.length = n
  induction n using Nat.strongRecOn generalizing P with
  | ind n ih =>
  by_cases h0 : P = []
  · subst h0; exact ⟨[], z, by rw [List.nil_append, end_ z]; rfl⟩
  have hp : 0 < P.length := List.length_pos_iff.2 h0
  rcases lookS_cases (P ++ (List.replicate z 0 ++ frameB q)) with h | ⟨h, _⟩ | ⟨k, h, k1, k2, k3⟩
  · have := scanS_held (P ++ (List.replicate z 0 ++ frameB q))
    rw [scanS_wait (P := P ++ (List.replicate z 0 ++ frameB q)) (by rw [h])] at this
    have h3 := this.1
    simp only [List.length_append, List.length_replicate, frameB_length] at h3
    omega
  · rw [scanS_lost h, List.drop_append_of_le_length hp]
    obtain ⟨fs, m, e⟩ := ih (P.drop 1).length (by rw [List.length_drop]; omega) (P.drop 1) rfl
    exact ⟨fs, m + 1, by rw [e]⟩
  · rw [scanS_told h k1]
    by_cases hk : k ≤ P.length
    · rw [List.drop_append_of_le_length hk]
      obtain ⟨fs, m, e⟩ := ih (P.drop k).length (by rw [List.length_drop]; omega) (P.drop k) rfl
      exact ⟨_ :: fs, m, by rw [e]; rfl⟩
    · have : (P ++ (List.replicate z 0 ++ frameB q)).drop k = List.replicate (z - (k - P.length)) 0 ++ frameB q := by
        rw [List.drop_append, List.drop_of_length_le (by omega), List.nil_append, List.drop_append_of_le_length (by simp; omega), List.drop_replicate]
      rw [this, end_]
      exact ⟨[_], _, rfl⟩

end Go.Proofs.Ytgmpjbifbnaijaa.I
