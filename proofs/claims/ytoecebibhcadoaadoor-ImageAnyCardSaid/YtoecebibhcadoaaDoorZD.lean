/- An image read back: what is laid is read as it was; an image that ends too soon. A draft's configuration: what holds of it. A draft's configuration can be told by an image. Of images: the document's example; whether a draft is short; whether bytes are read alike. Has a draft not too much? Drafts as arguments; what their rules are made of. Of images: what is asked. What is read of any bytes has bounds; an image that ends too soon says so. Of images: any bytes; one that ends too soon; how long one is. No condition. -/
import Derived.Test.YtoecebibhcadoaaDoorZB
import Derived.Test.YtoecebibhcadoaaDoorZC
import Derived.Test.YtoecebibhcadoaaDoorZA
import Derived.Test.YtoecebibhcadoaaDoorILaw
namespace Go.Proofs.YtoecebibhcadoaaDoor.I
open Go Go.RowKit
set_option linter.unusedVariables false
set_option linter.unusedSimpArgs false
theorem be4_i (n : Int) (h : -2147483648 ≤ n ∧ n < 2147483648) : be4 (n / 16777216 % 256) (n / 65536 % 256) (n / 256 % 256) (n % 256) = n := by
  unfold be4; split <;> omega
def At (s : Rd) (A : List Int) : Prop := s.e = 0 ∧ s.pos ≤ s.L.length ∧ s.L.drop s.pos = A
def Rd.adv (s : Rd) (n : Nat) : Rd := { s with pos := s.pos + n }
section
variable {s : Rd} {A B : List Int}
theorem At.len (h : At s A) : s.L.length = s.pos + A.length := by
  have := congrArg List.length h.2.2
  simp at this; have := h.2.1; omega
theorem At.get (h : At s A) {i : Nat} (hi : i < A.length) : s.at_ i = A.getD i 0 := by
  have e := h.2.2
  unfold Rd.at_
  rw [← e]
  simp [List.getD_eq_getElem?_getD, List.getElem?_drop]
theorem At.adv (h : At s (B ++ A)) {n : Nat} (hn : n = B.length) : At (s.adv n) A := by
  have hl := h.len
  rw [List.length_append] at hl
  subst hn
  exact ⟨h.1, by show s.pos + B.length ≤ s.L.length; omega, by show s.L.drop (s.pos + B.length) = A; rw [← List.drop_drop, h.2.2, List.drop_left]⟩
theorem At.byte {x : Int} (h : At s (x :: A)) : s.byte = (x, s.adv 1) ∧ At (s.adv 1) A := by
  have hl := h.len
  rw [List.length_cons] at hl
  have g := h.get (i := 0) (by simp)
  refine ⟨?_, At.adv (B := [x]) h rfl⟩
  rw [Rd.byte_eq h.1 (by omega), g]; rfl
theorem At.int {n : Int} (h : At s (i4 n ++ A)) (hn : -2147483648 ≤ n ∧ n < 2147483648) : s.int = (n, s.adv 4) ∧ At (s.adv 4) A := by
  have hl := h.len
  rw [List.length_append, i4_len] at hl
  have g0 := h.get (i := 0) (by simp [i4])
  have g1 := h.get (i := 1) (by simp [i4])
  have g2 := h.get (i := 2) (by simp [i4])
  have g3 := h.get (i := 3) (by simp [i4])
  refine ⟨?_, At.adv (B := i4 n) h rfl⟩
  rw [Rd.int_eq h.1 (by omega), g0, g1, g2, g3]
  simp only [i4, List.cons_append, List.getD_cons_zero, List.getD_cons_succ]
  rw [be4_i n hn]; rfl
theorem At.flag {b : Bool} (h : At s (flagB b :: A)) : s.flag = (b, s.adv 1) ∧ At (s.adv 1) A := by
  have hl := h.len
  rw [List.length_cons] at hl
  have g := h.get (i := 0) (by simp)
  rw [List.getD_cons_zero] at g
  refine ⟨?_, At.adv (B := [flagB b]) h rfl⟩
  rw [Rd.flag_eq h.1 (by omega) (by rw [g]; unfold flagB; split <;> omega), g]
  cases b <;> rfl
end
def Reads {α : Type} (one : Rd → α × Rd) (enc : α → List Int) (ok : α → Prop) : Prop := ∀ x s A, ok x → At s (enc x ++ A) → ∃ n, one s = (x, s.adv n) ∧ At (s.adv n) A
theorem adv_adv (s : Rd) (a b : Nat) : (s.adv a).adv b = s.adv (a + b) := by unfold Rd.adv; simp [Nat.add_assoc]
theorem adv_zero (s : Rd) : s.adv 0 = s := rfl
theorem reads_list {α : Type} {one : Rd → α × Rd} {enc : α → List Int} {ok : α → Prop} (h1 : Reads one enc ok) : ∀ (l : List α) (s : Rd) (A : List Int), (∀ x ∈ l, ok x) → At s (l.flatMap enc ++ A) → ∃ n, listP one l.length s = (l, s.adv n) ∧ At (s.adv n) A
  | [], s, A, _, h => ⟨0, rfl, h⟩
  | x :: l, s, A, hx, h => by
    rw [List.flatMap_cons, List.append_assoc] at h
    obtain ⟨n, e1, h2⟩ := h1 x s _ (hx x (List.mem_cons_self ..)) h
    obtain ⟨m, e2, h3⟩ := reads_list h1 l _ A (fun y hy => hx y (List.mem_cons_of_mem _ hy)) h2
    rw [adv_adv] at e2 h3
    refine ⟨n + m, ?_, h3⟩
    rw [List.length_cons, listP_step one _ _ h.1, e1]
    simp only [e2]
theorem reads_many {α : Type} {one : Rd → α × Rd} {enc : α → List Int} {ok : α → Prop} (h1 : Reads one enc ok) (l : List α) (s : Rd) (A : List Int) (hl : l.length ≤ 255) (hx : ∀ x ∈ l, ok x) (h : At s ([(l.length : Int) % 256] ++ l.flatMap enc ++ A)) :
    ∃ n, manyP one s = (l, s.adv n) ∧ At (s.adv n) A := by
  rw [List.append_assoc] at h
  obtain ⟨e1, h2⟩ := At.byte h
  obtain ⟨m, e2, h3⟩ := reads_list h1 l _ A hx h2
  rw [adv_adv] at e2 h3
  refine ⟨1 + m, ?_, h3⟩
  unfold manyP
  rw [e1, show ((l.length : Int) % 256) = l.length by omega]
  simpa using e2
def I32 (n : Int) : Prop := -2147483648 ≤ n ∧ n < 2147483648
def FitS (s : Sig) : Prop := I32 s.lo ∧ I32 s.hi
def FitG (s : Stage) : Prop := I32 s.wait
def FitR (r : Rule) : Prop := (0 ≤ r.sg ∧ r.sg < 256) ∧ I32 r.lim ∧ I32 r.back ∧ I32 r.delay ∧ I32 r.span ∧ r.stages.length ≤ 255 ∧ ∀ x ∈ r.stages, FitG x
def FitT (l : List Int) : Prop := l.length ≤ 255 ∧ ∀ x ∈ l, 0 ≤ x ∧ x < 256
structure Fit (c : Config) : Prop where
  s : c.sigs.length ≤ 255 ∧ ∀ x ∈ c.sigs, FitS x
  r : c.rules.length ≤ 255 ∧ ∀ x ∈ c.rules, FitR x
  t : c.table.length ≤ 255 ∧ ∀ x ∈ c.table, FitT x
  b : (0 ≤ c.b0 ∧ c.b0 < 256) ∧ (0 ≤ c.b1 ∧ c.b1 < 256) ∧ (0 ≤ c.b2 ∧ c.b2 < 256) ∧ (0 ≤ c.drain ∧ c.drain < 256)
  n : I32 c.pause ∧ I32 c.off ∧ I32 c.log
theorem reads_sig : Reads sigP sigB FitS := fun x s A hx h => by
  unfold sigB at h
  rw [List.append_assoc] at h
  obtain ⟨e1, h1⟩ := h.int hx.1
  obtain ⟨e2, h2⟩ := h1.int hx.2
  rw [adv_adv] at e2 h2
  refine ⟨8, ?_, h2⟩
  unfold sigP
  simp only [e1, e2]
theorem reads_stage : Reads stageP stageB FitG := fun x s A hx h => by
  unfold stageB at h
  rw [List.append_assoc] at h
  obtain ⟨e1, h1⟩ := h.int hx
  obtain ⟨e2, h2⟩ := At.byte h1
  rw [adv_adv] at e2 h2
  refine ⟨5, ?_, h2⟩
  unfold stageP
  simp only [e1, e2]
theorem reads_entry : Reads Rd.byte (fun x => [x % 256]) (fun x => 0 ≤ x ∧ x < 256) := fun x s A hx h => by
  have h : At s (x % 256 :: A) := h
  rw [show x % 256 = x by omega] at h
  obtain ⟨e, h1⟩ := At.byte h
  exact ⟨1, e, h1⟩
theorem reads_slot : Reads slotP slotB FitT := fun x s A hx h => by
  unfold slotB at h
  rw [← flat_one (fun x => x % 256)] at h
  exact reads_many reads_entry x s A hx.1 hx.2 h
theorem reads_rule : Reads ruleP ruleY FitR := fun x s A hx h => by
  obtain ⟨h1, h2, h3, h4, h5, h6, h7⟩ := hx
  unfold ruleY at h
  simp only [List.append_assoc, List.cons_append, List.nil_append] at h
  obtain ⟨e1, a1⟩ := At.byte h
  obtain ⟨e2, a2⟩ := At.byte a1
  obtain ⟨e3, a3⟩ := a2.int h2
  obtain ⟨e4, a4⟩ := a3.int h3
  obtain ⟨e5, a5⟩ := a4.int h4
  obtain ⟨e6, a6⟩ := a5.int h5
  obtain ⟨e7, a7⟩ := At.byte a6
  obtain ⟨e8, a8⟩ := At.flag a7
  obtain ⟨m, e9, a9⟩ := reads_many reads_stage x.stages _ A h6 h7 (by simpa using a8)
  simp only [adv_adv] at e2 e3 e4 e5 e6 e7 e8 e9 a9
  refine ⟨_, ?_, a9⟩
  unfold ruleP headP
  simp only [e1, e2, e3, e4, e5, e6, e7, e8, e9, show x.sg % 256 = x.sg by omega]
theorem reads_cfg {c : Config} (hc : Fit c) {s : Rd} (h : At s ((cfgB c).drop 3)) : ∃ t, cfgP s = (c, t) ∧ At t [] := by
  obtain ⟨⟨s1, s2⟩, ⟨r1, r2⟩, ⟨t1, t2⟩, ⟨b1, b2, b3, b4⟩, n1, n2, n3⟩ := hc
  have h : At s (([(c.sigs.length : Int) % 256] ++ c.sigs.flatMap sigB) ++ (([(c.rules.length : Int) % 256] ++ c.rules.flatMap ruleY) ++ (([(c.table.length : Int) % 256] ++ c.table.flatMap slotB) ++
    (c.b0 % 256 :: c.b1 % 256 :: c.b2 % 256 :: c.drain % 256 :: (i4 c.pause ++ (i4 c.off ++ (flagB c.brk :: (i4 c.log ++ []))))))))  := by
    have e : (cfgB c).drop 3 = ([(c.sigs.length : Int) % 256] ++ c.sigs.flatMap sigB) ++ (([(c.rules.length : Int) % 256] ++ c.rules.flatMap ruleY) ++ (([(c.table.length : Int) % 256] ++ c.table.flatMap slotB) ++
      (c.b0 % 256 :: c.b1 % 256 :: c.b2 % 256 :: c.drain % 256 :: (i4 c.pause ++ (i4 c.off ++ (flagB c.brk :: (i4 c.log ++ []))))))) := by unfold cfgB; simp
    rw [e] at h; exact h
  obtain ⟨m1, e1, a1⟩ := reads_many reads_sig c.sigs _ _ s1 s2 h
  obtain ⟨m2, e2, a2⟩ := reads_many reads_rule c.rules _ _ r1 r2 a1
  obtain ⟨m3, e3, a3⟩ := reads_many reads_slot c.table _ _ t1 t2 a2
  obtain ⟨e4, a4⟩ := At.byte a3
  obtain ⟨e5, a5⟩ := At.byte a4
  obtain ⟨e6, a6⟩ := At.byte a5
  obtain ⟨e7, a7⟩ := At.byte a6
  obtain ⟨e8, a8⟩ := a7.int n1
  obtain ⟨e9, a9⟩ := a8.int n2
  obtain ⟨e10, a10⟩ := At.flag a9
  obtain ⟨e11, a11⟩ := a10.int n3
  refine ⟨_, ?_, a11⟩
  unfold cfgP
  simp only [e1, e2, e3, e4, e5, e6, e7, e8, e9, e10, e11, show c.b0 % 256 = c.b0 by omega, show c.b1 % 256 = c.b1 by omega, show c.b2 % 256 = c.b2 by omega, show c.drain % 256 = c.drain by omega]
theorem At.ending {s : Rd} (h : At s []) : s.ending.2 = 0 := by
  have hl := h.len
  simp at hl
  unfold Rd.ending Rd.left Rd.fault
  rw [if_pos h.1, if_neg (by omega), if_pos h.1]
theorem opened_closedI (L : List Int) : opened (closed L) = (L, 0) := by
  have h1 : (closed L).length = L.length + 2 := by simp [closed]
  have h2 : (closed L).take ((closed L).length - 2) = L := by rw [h1]; simp [closed]
  unfold opened
  rw [if_neg (by omega), h2, if_pos rfl]
theorem decP_back {c : Config} (hc : Fit c) : decP (closed (cfgB c)) = (c, 0, 0) := by
  have h3 : (cfgB c).take 3 = [72, 66, 49] := by unfold cfgB; simp
  obtain ⟨t, e, ht⟩ := reads_cfg hc (s := ⟨(cfgB c).drop 3, 0, 0⟩) ⟨rfl, Nat.zero_le _, by simp⟩
  unfold decP
  rw [opened_closedI]
  rw [if_neg (by simp), if_neg (by simp [h3])]
  simp only [e]
  rw [if_neg (by simp [ht.ending])]
theorem decP_nil : decP [] = (cfgZ, 0, 4) := by
  have : opened [] = ([], 4) := by unfold opened; simp
  unfold decP
  rw [this]; simp
end Go.Proofs.YtoecebibhcadoaaDoor.I
namespace Go.Proofs.YtoecebibhcadoaaDoor.I
open Go Go.RowKit
set_option linter.unusedVariables false
set_option linter.unusedSimpArgs false
theorem rulesS_pos (d : Draft) : 1 ≤ (rulesS d).length ∧ (rulesS d).length ≤ 8 := by
  unfold rulesS
  split
  · simp
  · rename_i h
    have := List.length_pos_iff.2 h
    simp; omega
theorem slotsN_pos (d : Draft) (h : 0 ≤ d.bands ∧ d.bands < 256) : 1 ≤ slotsN d ∧ slotsN d ≤ 6 := by unfold slotsN; omega
theorem lastAdd_len (T : List (List Int)) (i : Int) : (lastAdd T i).length = T.length := by unfold lastAdd; split <;> simp
theorem lastAdd_mem {T : List (List Int)} {i : Int} {l : List Int} (h : l ∈ lastAdd T i) : l ∈ T ∨ (standsS T i = false ∧ ∃ m, (m ∈ T ∨ m = []) ∧ l = m ++ [i]) := by
  unfold lastAdd at h
  split at h
  · exact .inl h
  · rename_i hs
    rcases List.mem_or_eq_of_mem_set h with h | h
    · exact .inl h
    · refine .inr ⟨by simpa using hs, _, ?_, h⟩
      rw [List.getD_eq_getElem?_getD]
      cases e : T[T.length - 1]? with
      | none => exact .inr rfl
      | some x => exact .inl (List.mem_of_getElem? e)
theorem standsS_iff (T : List (List Int)) (i : Int) : standsS T i = true ↔ ∃ l ∈ T, i ∈ l := by simp [standsS]
theorem lastAdd_keeps {T : List (List Int)} {i j : Int} (h : standsS T j = true) : standsS (lastAdd T i) j = true := by
  unfold lastAdd
  split
  · exact h
  · rw [standsS_iff] at h ⊢
    obtain ⟨l, hl, hj⟩ := h
    obtain ⟨k, hk, rfl⟩ := List.mem_iff_getElem.1 hl
    by_cases e : k = T.length - 1
    · refine ⟨T.getD (T.length - 1) [] ++ [i], ?_, ?_⟩
      · exact List.mem_set (by omega) _
      · rw [List.getD_eq_getElem?_getD, ← e, List.getElem?_eq_getElem hk]
        simp [hj]
    · exact ⟨T[k], List.mem_iff_getElem.2 ⟨k, by simpa using hk, by rw [List.getElem_set_ne (by omega)]⟩, hj⟩
theorem lastAdd_adds {T : List (List Int)} {i : Int} (h : T ≠ []) : standsS (lastAdd T i) i = true := by
  unfold lastAdd
  split
  · assumption
  · rw [standsS_iff]
    have := List.length_pos_iff.2 h
    exact ⟨T.getD (T.length - 1) [] ++ [i], List.mem_set (by omega) _, by simp⟩
structure Rows (R m : Nat) (T : List (List Int)) : Prop where
  inn : ∀ l ∈ T, ∀ x ∈ l, 0 ≤ x ∧ x < R
  nodup : ∀ l ∈ T, l.Nodup
  len : ∀ l ∈ T, l.length ≤ m
theorem nodup_snoc {l : List Int} {x : Int} (h : l.Nodup) (hx : ¬ x ∈ l) : (l ++ [x]).Nodup := by
  rw [List.nodup_append]
  exact ⟨h, by simp, fun a ha b hb => by simp at hb; subst hb; exact fun e => hx (e ▸ ha)⟩
theorem Rows.last {R m : Nat} {T : List (List Int)} (h : Rows R m T) {i : Int} (hi : 0 ≤ i ∧ i < R) : Rows R (m + 1) (lastAdd T i) := by
  have key : ∀ l ∈ lastAdd T i, (∀ x ∈ l, 0 ≤ x ∧ x < R) ∧ l.Nodup ∧ l.length ≤ m + 1 := fun l hl => by
    rcases lastAdd_mem hl with hl | ⟨hs, k, hk, rfl⟩
    · exact ⟨h.inn l hl, h.nodup l hl, by have := h.len l hl; omega⟩
    · have hno : ¬ i ∈ k := fun hik => by
        rcases hk with hk | rfl
        · have := (standsS_iff T i).2 ⟨k, hk, hik⟩
          rw [hs] at this; cases this
        · cases hik
      rcases hk with hk | rfl
      · exact ⟨fun x hx => (List.mem_append.1 hx).elim (h.inn k hk x) (fun e => by simp at e; subst e; exact hi), nodup_snoc (h.nodup k hk) hno, by have := h.len k hk; simp; omega⟩
      · exact ⟨fun x hx => by simp at hx; subst hx; exact hi, by simp, by simp⟩
  exact ⟨fun l hl => (key l hl).1, fun l hl => (key l hl).2.1, fun l hl => (key l hl).2.2⟩
theorem fallS_ok {R : Nat} {l : List Int} {s : Int} (h : (∀ x ∈ l, 0 ≤ x ∧ x < R) ∧ l.Nodup) : (∀ x ∈ fallS R l s, 0 ≤ x ∧ x < R) ∧ (fallS R l s).Nodup ∧ (fallS R l s).length ≤ l.length + 1 := by
  unfold fallS
  split
  · rename_i hc
    have hm := Int.emod_nonneg s (show (R : Int) + 2 ≠ 0 by omega)
    exact ⟨fun x hx => (List.mem_append.1 hx).elim (h.1 x) (fun e => by simp at e; subst e; exact ⟨hm, hc.1⟩), nodup_snoc h.2 hc.2, by simp⟩
  · exact ⟨h.1, h.2, by omega⟩
theorem slotF_ok (slots : List Int) (R n : Nat) : ∀ (f k : Nat) (l : List Int), (∀ x ∈ l, 0 ≤ x ∧ x < R) → l.Nodup → (∀ x ∈ slotF slots R n f k l, 0 ≤ x ∧ x < R) ∧ (slotF slots R n f k l).Nodup ∧ (slotF slots R n f k l).length ≤ l.length + f
  | 0, _, l, h1, h2 => ⟨h1, h2, Nat.le_refl _⟩
  | f + 1, k, l, h1, h2 => by
    rw [slotF]
    split
    · have h := fallS_ok (s := slots.getD k 0) ⟨h1, h2⟩
      have ih := slotF_ok slots R n f (k + n) _ h.1 h.2.1
      exact ⟨ih.1, ih.2.1, by have := ih.2.2; omega⟩
    · exact ⟨h1, h2, by omega⟩
theorem table_fold (R : Nat) (T : List (List Int)) (hT : T ≠ []) (h : Rows R 24 T) : ∀ m : Nat, m ≤ R →
    Rows R (24 + m) ((List.range m).foldl (fun T (i : Nat) => lastAdd T i) T) ∧ ((List.range m).foldl (fun T (i : Nat) => lastAdd T i) T).length = T.length ∧ ∀ i : Nat, i < m → standsS ((List.range m).foldl (fun T (i : Nat) => lastAdd T i) T) i = true
  | 0, _ => ⟨h, rfl, fun i hi => absurd hi (by omega)⟩
  | m + 1, hm => by
    obtain ⟨h1, h2, h3⟩ := table_fold R T hT h m (by omega)
    rw [List.range_succ, List.foldl_append, List.foldl_cons, List.foldl_nil]
    generalize (List.range m).foldl (fun T (i : Nat) => lastAdd T i) T = U at *
    have hU : U ≠ [] := fun e => hT (List.length_eq_zero_iff.1 (by rw [← h2, e]; rfl))
    refine ⟨h1.last (by omega), by rw [lastAdd_len, h2], fun i hi => ?_⟩
    by_cases e : i = m
    · subst e; exact lastAdd_adds hU
    · exact lastAdd_keeps (h3 i (by omega))
theorem tableS_all (d : Draft) (h : 0 ≤ d.bands ∧ d.bands < 256) : Rows (rulesS d).length 32 (tableS d) ∧ (tableS d).length = slotsN d ∧ ∀ i : Nat, i < (rulesS d).length → standsS (tableS d) i = true := by
  have hn := slotsN_pos d h
  have hR := rulesS_pos d
  have h0 : Rows (rulesS d).length 24 ((List.range (slotsN d)).map fun i => slotS d.slots (rulesS d).length (slotsN d) i) := by
    have key : ∀ l ∈ ((List.range (slotsN d)).map fun i => slotS d.slots (rulesS d).length (slotsN d) i), (∀ x ∈ l, 0 ≤ x ∧ x < (rulesS d).length) ∧ l.Nodup ∧ l.length ≤ 24 := fun l hl => by
      obtain ⟨i, _, rfl⟩ := List.mem_map.1 hl
      have := slotF_ok d.slots (rulesS d).length (slotsN d) 24 i [] (fun x hx => by cases hx) (by simp)
      exact ⟨this.1, this.2.1, by have := this.2.2; simpa [slotS] using this⟩
    exact ⟨fun l hl => (key l hl).1, fun l hl => (key l hl).2.1, fun l hl => (key l hl).2.2⟩
  have hne : ((List.range (slotsN d)).map fun i => slotS d.slots (rulesS d).length (slotsN d) i) ≠ [] := fun e => by
    have := congrArg List.length e
    simp at this; omega
  obtain ⟨h1, h2, h3⟩ := table_fold (rulesS d).length _ hne h0 (rulesS d).length (Nat.le_refl _)
  refine ⟨⟨h1.inn, h1.nodup, fun l hl => by have := h1.len l hl; omega⟩, by unfold tableS; rw [h2]; simp, h3⟩
end Go.Proofs.YtoecebibhcadoaaDoor.I
namespace Go.Proofs.YtoecebibhcadoaaDoor.I
open Go Go.RowKit
set_option linter.unusedVariables false
set_option linter.unusedSimpArgs false
theorem stagesS_fit : ∀ (l : List Int) (p : Int), 1 ≤ p → (∀ x ∈ l, 0 ≤ x ∧ x < 256) → ∀ s ∈ stagesS p l, (1 ≤ s.wait ∧ s.wait ≤ 12) ∧ (0 ≤ s.prio ∧ s.prio ≤ 3)
  | [], _, _, _, s, hs => by cases hs
  | x :: l, p, hp, hx, s, hs => by
    have h0 := hx x (List.mem_cons_self ..)
    unfold stagesS at hs
    rcases List.mem_cons.1 hs with rfl | hs
    · simp only; omega
    · exact stagesS_fit l _ (by omega) (fun y hy => hx y (List.mem_cons_of_mem _ hy)) s hs
structure RuleIn (r : Rule) : Prop where
  k : 1 ≤ r.kind ∧ r.kind ≤ 6
  s : 0 ≤ r.sg ∧ r.sg ≤ 2
  l : 0 ≤ r.lim ∧ r.lim ≤ 255
  b : -20 ≤ r.back ∧ r.back ≤ 275
  d : 0 ≤ r.delay ∧ r.delay ≤ 7
  n : 0 ≤ r.span ∧ r.span ≤ 12
  p : 1 ≤ r.prio ∧ r.prio ≤ 3
  t : r.stages.length ≤ 4 ∧ ∀ s ∈ r.stages, (1 ≤ s.wait ∧ s.wait ≤ 12) ∧ (0 ≤ s.prio ∧ s.prio ≤ 3)
theorem ruleS_in {x : Line} (hx : x.wf) : RuleIn (ruleS x) := by
  obtain ⟨h1, h2, h3, h4, h5, h6, h7, h8, h9⟩ := hx
  refine ⟨by simp only [ruleS]; omega, by simp only [ruleS]; omega, ?_, ?_, by simp only [ruleS]; omega, ?_, by simp only [ruleS]; omega, ?_, ?_⟩
  · simp only [ruleS]; split
    · omega
    · split <;> omega
  · have hb := Int.emod_nonneg x.back (show (1 + x.lim % 60 + 1 : Int) ≠ 0 by omega)
    have hb2 := Int.emod_lt_of_pos x.back (show (0 : Int) < 1 + x.lim % 60 + 1 by omega)
    simp only [ruleS]
    by_cases k1 : x.kind % 6 + 1 = 1
    · simp [k1]; omega
    · by_cases k2 : x.kind % 6 + 1 = 2
      · simp [k2]; omega
      · by_cases k3 : x.kind % 6 + 1 = 3 ∨ x.kind % 6 + 1 = 4
        · rw [if_neg k1, if_neg k2, if_pos k3, if_neg (by omega), if_pos k3]; omega
        · rw [if_neg k1, if_neg k2, if_neg k3]; omega
  · simp only [ruleS]; split <;> omega
  · simp only [ruleS]; rw [stagesS_len, List.length_take]; omega
  · simp only [ruleS]
    exact stagesS_fit _ _ (by omega) fun y hy => h8 y (List.mem_of_mem_take hy)
theorem rulesS_in {d : Draft} (hw : d.wf) : ∀ r ∈ rulesS d, RuleIn r := fun r hr => by
  unfold rulesS at hr
  split at hr
  · rw [List.mem_singleton.1 hr]; exact ruleS_in (by simp [lineZ, Line.wf])
  · obtain ⟨x, hx, rfl⟩ := List.mem_map.1 hr
    exact ruleS_in (hw.1.1 x (List.mem_of_mem_take hx))
theorem fitR_in {r : Rule} (h : RuleIn r) : FitR r := by
  have := h.s; have := h.l; have := h.b; have := h.d; have := h.n; have := h.t.1
  refine ⟨by omega, ⟨by omega, by omega⟩, ⟨by omega, by omega⟩, ⟨by omega, by omega⟩, ⟨by omega, by omega⟩, by omega, fun s hs => ?_⟩
  have := h.t.2 s hs
  exact ⟨by omega, by omega⟩
theorem wf_of_in {r : Rule} (h : RuleIn r) : r.wf := by
  have := h.k; have := h.s; have := h.l; have := h.b; have := h.d; have := h.n; have := h.p; have h9 := h.t.1
  refine ⟨by omega, by omega, by omega, by omega, by omega, by omega, by omega, fun s hs => ?_, by simp only [maxLen]; omega⟩
  have := h.t.2 s hs
  exact ⟨by omega, by omega⟩
section
variable {d : Draft} (hw : d.wf)
include hw
theorem make_num : (1 ≤ (makeS d).b0 ∧ (makeS d).b0 ≤ 3) ∧ (1 ≤ (makeS d).b1 ∧ (makeS d).b1 ≤ 3) ∧ (1 ≤ (makeS d).b2 ∧ (makeS d).b2 ≤ 4) ∧ (1 ≤ (makeS d).drain ∧ (makeS d).drain ≤ 35) ∧ (1 ≤ (makeS d).pause ∧ (makeS d).pause ≤ 30) ∧ (1 ≤ (makeS d).off ∧ (makeS d).off ≤ 30) ∧ (1 ≤ (makeS d).log ∧ (makeS d).log ≤ 40) := by
  obtain ⟨d1, d2, d3, d4, d5, d6, d7⟩ := hw
  have hn := slotsN_pos d d3
  obtain ⟨h1, h2, h3⟩ := tableS_all d d3
  have he := entriesS_le 32 (tableS d) h1.len
  rw [h2] at he
  have hq0 : 0 ≤ (entriesS (tableS d) : Int) / slotsN d := Int.ediv_nonneg (by omega) (by omega)
  have hq1 : (entriesS (tableS d) : Int) / slotsN d ≤ 32 := by
    refine Int.le_trans (Int.ediv_le_ediv (by omega) (show (entriesS (tableS d) : Int) ≤ 32 * slotsN d by omega)) ?_
    rw [Int.mul_ediv_cancel _ (by omega)]
    exact Int.le_refl _
  simp only [makeS]
  omega
theorem make_fit : Fit (makeS d) := by
  have d3 := hw.2.2.1
  have hR := rulesS_pos d
  have hn := slotsN_pos d d3
  obtain ⟨h1, h2, h3⟩ := tableS_all d d3
  obtain ⟨n1, n2, n3, n4, n5, n6, n7⟩ := make_num hw
  refine ⟨⟨show sigsS.length ≤ 255 by decide, fun s hs => ?_⟩, ⟨show (rulesS d).length ≤ 255 by omega, fun r hr => fitR_in (rulesS_in hw r hr)⟩, ⟨show (tableS d).length ≤ 255 by omega, fun l hl => ⟨by have := h1.len l hl; omega, fun x hx => by have := h1.inn l hl x hx; omega⟩⟩, ⟨by omega, by omega, by omega, by omega⟩, ⟨by omega, by omega⟩, ⟨by omega, by omega⟩, ⟨by omega, by omega⟩⟩
  have hs : s ∈ sigsS := hs
  simp only [sigsS, List.mem_cons, List.not_mem_nil, or_false] at hs
  rcases hs with rfl | rfl | rfl <;> exact ⟨⟨by decide, by decide⟩, ⟨by decide, by decide⟩⟩
theorem make_wf : (makeS d).wf := by
  have d3 := hw.2.2.1
  have hR := rulesS_pos d
  have hn := slotsN_pos d d3
  obtain ⟨h1, h2, h3⟩ := tableS_all d d3
  obtain ⟨n1, n2, n3, n4, n5, n6, n7⟩ := make_num hw
  refine ⟨⟨fun s hs => ?_, by simp only [maxLen]; show sigsS.length ≤ _; decide⟩, ⟨fun r hr => wf_of_in (rulesS_in hw r hr), by simp only [maxLen]; show (rulesS d).length ≤ _; omega⟩, ⟨fun l hl => ⟨fun x hx => by have := h1.inn l hl x hx; omega, by simp only [maxLen]; have := h1.len l hl; omega⟩, by simp only [maxLen]; show (tableS d).length ≤ _; omega⟩, by omega, by omega, by omega, by omega, by omega, by omega, by omega⟩
  have hs : s ∈ sigsS := hs
  simp only [sigsS, List.mem_cons, List.not_mem_nil, or_false] at hs
  rcases hs with rfl | rfl | rfl <;> exact ⟨by decide, by decide⟩
end
theorem flat_len_le {α : Type} (f : α → List Int) (k : Nat) : ∀ l : List α, (∀ x ∈ l, (f x).length ≤ k) → (l.flatMap f).length ≤ k * l.length
  | [], _ => by simp
  | x :: l, h => by
    have h0 := h x (List.mem_cons_self ..)
    have ih := flat_len_le f k l fun y hy => h y (List.mem_cons_of_mem _ hy)
    rw [List.flatMap_cons, List.length_append, List.length_cons, Nat.mul_succ]
    omega
theorem flat_len_eq {α : Type} (f : α → List Int) (k : Nat) : ∀ l : List α, (∀ x ∈ l, (f x).length = k) → (l.flatMap f).length = k * l.length
  | [], _ => by simp
  | x :: l, h => by
    have h0 := h x (List.mem_cons_self ..)
    have ih := flat_len_eq f k l fun y hy => h y (List.mem_cons_of_mem _ hy)
    rw [List.flatMap_cons, List.length_append, List.length_cons, Nat.mul_succ]
    omega
theorem ruleY_len (r : Rule) : (ruleY r).length = 21 + 5 * r.stages.length := by
  unfold ruleY
  simp only [List.length_append, i4_len, List.length_cons, List.length_nil]
  rw [flat_len_eq stageB 5 _ fun s _ => rfl]
  all_goals (try omega)
theorem slotB_len (l : List Int) : (slotB l).length = 1 + l.length := by unfold slotB; simp; try omega
theorem cfgB_len (c : Config) : (cfgB c).length = 23 + 8 * c.sigs.length + (c.rules.flatMap ruleY).length + (c.table.flatMap slotB).length := by
  unfold cfgB
  simp only [List.length_append, i4_len, List.length_cons, List.length_nil]
  rw [flat_len_eq sigB 8 _ fun s _ => rfl]
  all_goals (try omega)
theorem cfgB_small {c : Config} (h : Fit c) : (cfgB c).length ≤ 700000 := by
  rw [cfgB_len]
  have h1 := flat_len_le ruleY 1296 c.rules fun r hr => by rw [ruleY_len]; have := (h.r.2 r hr).2.2.2.2.2.1; omega
  have h2 := flat_len_le slotB 256 c.table fun l hl => by rw [slotB_len]; have := (h.t.2 l hl).1; omega
  have := h.s.1; have := h.r.1; have := h.t.1
  omega
end Go.Proofs.YtoecebibhcadoaaDoor.I
namespace Go.Proofs.YtoecebibhcadoaaDoor.I
open Go Go.RowKit
set_option linter.unusedVariables false
set_option linter.unusedSimpArgs false
def draftZ : Draft := ⟨[], [], 0, 0, 0, 0, false, 0⟩
theorem draftZ_wf : draftZ.wf := by simp [draftZ, Draft.wf]
theorem slot_small {c : Config} (h : Fit c) : ∀ x ∈ c.table, x.length ≤ 1000000 := fun x hx => by have := (h.t.2 x hx).1; omega
theorem closed_len' (L : List Int) : (closed L).length = L.length + 2 := by simp [closed]
theorem backC (H : Heap) (m : Int) {c : Config} (hf : Fit c) (hw : c.wf) : ICalls Tryd.prog 13 [frow 1 m ((closed (cfgB c)).map (Value.int .u8))] H fun v H' => v = .tuple #[c.val, .int .i64 0, .int .i64 0] ∧ H' = H := by
  have h := decodeC H m (closed (cfgB c)) (by have := cfgB_small hf; rw [closed_len']; omega) (closed_bs (cfgB_bs hw))
  rw [decP_back hf] at h
  exact h
theorem noneC (H : Heap) : ICalls Tryd.prog 9 [] H fun v H' => v = .bool true ∧ H' = H := by
  refine ICalls.ans (by simp [go_sem]) fun H => IBody.calls (by kernel_rfl) ?_
  have c1 := ICalls.as (K := fun v H' => v = .tuple #[cfgZ.val, .int .i64 0, .int .i64 4] ∧ H' = H) (.cons (.nil 1) .nil) (by have h := decodeC H 0 [] (by simp) (fun x hx => by cases hx); rw [decP_nil] at h; exact h)
  have mk : ∀ K : Heap, ICalls Tryd.prog 11 [.agg ⟨[.slice none 0 0, .slice none 0 0, .int .u8 0, .int .u8 0, .int .u8 0, .int .u8 0, .bool false, .int .u8 0]⟩] K fun v H' => v = (makeS draftZ).val ∧ H' = K := fun K =>
    ICalls.as (.cons (.agg (.cons (.nil 9) (.cons (.nil 1) (FrzL.same _)))) .nil) (make K draftZ draftZ_wf)
  obtain ⟨c, hc⟩ : ∃ c, c = makeS draftZ := ⟨_, rfl⟩
  have hw : c.wf := by rw [hc]; exact make_wf draftZ_wf
  have hf : Fit c := by rw [hc]; exact make_fit draftZ_wf
  rw [← hc] at mk
  refine IBody.of Tryd.func9 rfl (by rw [Tryd.ntmps9]; simp) ?_
  rw [Tryd.ntmps9]
  have Kp : Kept [[],[2,3]] := ⟨⟩
  iterate 2 (refine Kp.s ?_; clear Kp; intro Kp; simp [go_sem, -getElem?_pos, -List.map_take, -List.map_drop, IntWalk.iteOmega, IntWalk.toNatUp, Config.val, Config.cells, cfgZ])
  refine ICalls.then (c1) ?_
  try simp [go_sem, -getElem?_pos, -List.map_take, -List.map_drop, IntWalk.iteOmega, IntWalk.toNatUp, Config.val, Config.cells, cfgZ]
  refine IWp.one [2, 3, 4] ?_
  simp [go_sem, -getElem?_pos, -List.map_take, -List.map_drop, IntWalk.iteOmega, IntWalk.toNatUp, Config.val, Config.cells, cfgZ]
  refine ICalls.then (mk _) ?_
  try simp [go_sem, -getElem?_pos, -List.map_take, -List.map_drop, IntWalk.iteOmega, IntWalk.toNatUp, Config.val, Config.cells, cfgZ]
  refine IWp.one [2, 3, 4, 5, 7] ?_
  simp [go_sem, -getElem?_pos, -List.map_take, -List.map_drop, IntWalk.iteOmega, IntWalk.toNatUp, Config.val, Config.cells, cfgZ]
  refine ICalls.then (encodeC _ c hw (cfgB_small hf)) ?_
  try simp [go_sem, -getElem?_pos, -List.map_take, -List.map_drop, IntWalk.iteOmega, IntWalk.toNatUp, Config.val, Config.cells, cfgZ]
  refine ICalls.then (backC _ 0 hf hw) ?_
  try simp [go_sem, -getElem?_pos, -List.map_take, -List.map_drop, IntWalk.iteOmega, IntWalk.toNatUp, Config.val, Config.cells, cfgZ]
  refine IWp.one [0] ?_
  simp [go_sem, -getElem?_pos, -List.map_take, -List.map_drop, IntWalk.iteOmega, IntWalk.toNatUp, Config.val, Config.cells, cfgZ]
  refine ICalls.then (sameCfg _ c hw (slot_small hf)) ?_
  try simp [go_sem, -getElem?_pos, -List.map_take, -List.map_drop, IntWalk.iteOmega, IntWalk.toNatUp, Config.val, Config.cells, cfgZ]
  refine IWp.one [] ?_
  simp [go_sem, -getElem?_pos, -List.map_take, -List.map_drop, IntWalk.iteOmega, IntWalk.toNatUp, Config.val, Config.cells, cfgZ]
end Go.Proofs.YtoecebibhcadoaaDoor.I
namespace Go.Proofs.YtoecebibhcadoaaDoor.I
open Go Go.RowKit
set_option linter.unusedVariables false
set_option linter.unusedSimpArgs false
theorem shortI (H : Heap) (d : Draft) :
    ICalls Tryd.prog 10 [d.val] H fun v H' => v = .bool (decide (d.rules.length ≤ 12 ∧ d.slots.length ≤ 40 ∧ ∀ x ∈ d.rules, x.stages.length ≤ 8)) ∧ H' = H := by
  refine ICalls.ans (by simp [go_sem]) fun H => IBody.calls (by kernel_rfl) ?_
  generalize hq : decide (d.rules.length ≤ 12 ∧ d.slots.length ≤ 40 ∧ ∀ x ∈ d.rules, x.stages.length ≤ 8) = q
  by_cases h1 : 12 < d.rules.length
  · skip
    refine IBody.of Tryd.func10 rfl (by rw [Tryd.ntmps10]; simp) ?_
    rw [Tryd.ntmps10]
    have Kp : Kept [[1],[1,13],[],[2],[]] := ⟨⟩
    iterate 5 (refine Kp.s ?_; clear Kp; intro Kp; simp [go_sem, -getElem?_pos, -List.map_take, -List.map_drop, IntWalk.iteOmega, IntWalk.toNatUp, h1, Draft.val, Draft.cells, show (12 : Int) < d.rules.length by omega])
    rw [← hq, decide_eq_false fun h => by have := h.1; omega]
    exact .same _
  by_cases h2 : 40 < d.slots.length
  · skip
    refine IBody.of Tryd.func10 rfl (by rw [Tryd.ntmps10]; simp) ?_
    rw [Tryd.ntmps10]
    have Kp : Kept [[1],[1,13],[],[2],[]] := ⟨⟩
    iterate 5 (refine Kp.s ?_; clear Kp; intro Kp; simp [go_sem, -getElem?_pos, -List.map_take, -List.map_drop, IntWalk.iteOmega, IntWalk.toNatUp, h1, h2, Draft.val, Draft.cells, show ¬ (12 : Int) < d.rules.length by omega, show (40 : Int) < d.slots.length by omega])
    rw [← hq, decide_eq_false fun h => by have := h.2.1; omega]
    exact .same _
  refine IBody.of Tryd.func10 rfl (by rw [Tryd.ntmps10]; simp) ?_
  rw [Tryd.ntmps10]
  have Kp : Kept [[1],[1,13],[],[1],[1,3]] := ⟨⟩
  iterate 5 (refine Kp.s ?_; clear Kp; intro Kp; simp [go_sem, -getElem?_pos, -List.map_take, -List.map_drop, IntWalk.iteOmega, IntWalk.toNatUp, h1, h2, Draft.val, Draft.cells, show ¬ (12 : Int) < d.rules.length by omega, show ¬ (40 : Int) < d.slots.length by omega])
  refine IWp.block ?_
  have hg := Heap.get_alloc_new H d.cells
  simp only [Draft.cells] at hg
  generalize H.next = b at *
  generalize H.alloc _ = H1 at *
  refine IWp.loop (fun j e K => ∃ i : Nat, j = d.rules.length - i ∧ i ≤ d.rules.length ∧ K = H1 ∧ e = [(1, ptrTo b 0), (3, .int .i64 (i : Int))] ∧ ∀ x ∈ d.rules.take i, x.stages.length ≤ 8) d.rules.length ⟨0, rfl, Nat.zero_le _, rfl, by simp [go_sem], by simp⟩ ?_
  rintro j e K ⟨i, rfl, hi, rfl, rfl, hpre⟩
  by_cases hlt : i < d.rules.length
  · have g : (d.rules.map Line.val)[i]? = some d.rules[i].val := by simp [hlt]
    have hm := List.getElem_mem hlt
    have hpre2 : d.rules[i].stages.length ≤ 8 → ∀ x ∈ d.rules.take (i + 1), x.stages.length ≤ 8 := fun h x hx => by
      rw [List.take_succ_eq_append_getElem hlt] at hx
      rcases List.mem_append.1 hx with hx | hx
      · exact hpre x hx
      · simp at hx; subst hx; exact h
    generalize d.rules[i] = x at *
    have w1 := IntWalk.i64_in ((i : Int) + 1) (by omega)
    by_cases h3 : 8 < x.stages.length
    · have hno : ¬ ∀ x ∈ d.rules, x.stages.length ≤ 8 := fun h => by have := h x hm; omega
      have Kp : Kept [[1,3,18],[],[1,3],[1,3,28],[],[2],[]] := ⟨⟩
      iterate 7 (refine Kp.s ?_; clear Kp; intro Kp; simp [go_sem, -getElem?_pos, -List.map_take, -List.map_drop, IntWalk.iteOmega, IntWalk.toNatUp, hg, g, hlt, Line.val, Line.cells, show (8 : Int) < x.stages.length by omega])
      rw [← hq, decide_eq_false fun h => hno h.2.2]
      exact .same _
    · skip
      have Kp : Kept [[1,3,18],[],[1,3],[1,3,28],[],[1,3],[1,3]] := ⟨⟩
      iterate 7 (refine Kp.s ?_; clear Kp; intro Kp; simp [go_sem, -getElem?_pos, -List.map_take, -List.map_drop, IntWalk.iteOmega, IntWalk.toNatUp, hg, g, hlt, w1, Line.val, Line.cells, show ¬ (8 : Int) < x.stages.length by omega])
      exact ⟨d.rules.length - (i + 1), by omega, i + 1, rfl, by omega, by omega, hpre2 (by omega)⟩
  · rw [List.take_of_length_le (by omega)] at hpre
    have Kp : Kept [[1,3,18],[],[],[2],[]] := ⟨⟩
    iterate 5 (refine Kp.s ?_; clear Kp; intro Kp; simp [go_sem, -getElem?_pos, -List.map_take, -List.map_drop, IntWalk.iteOmega, IntWalk.toNatUp, hg, hlt])
    rw [← hq, decide_eq_true ⟨by omega, by omega, hpre⟩]
    exact .same _
end Go.Proofs.YtoecebibhcadoaaDoor.I
namespace Go.Proofs.YtoecebibhcadoaaDoor.I
open Go Go.RowKit
set_option linter.unusedVariables false
set_option linter.unusedSimpArgs false
def Line.ty : Ty := .recd [.int .u8, .int .u8, .int .u8, .int .u8, .int .u8, .int .u8, .int .u8, .bool, .row (.int .u8) 1]
theorem Line.ofLay {d : Dt} {cs : List Value} (h : Lay Line.ty d cs) : ∃ x : Line, cs = x.cells ∧ x.wf := by
  cases h with
  | recd h =>
    obtain _ | ⟨h0, h⟩ := h
    obtain _ | ⟨h1, h⟩ := h
    obtain _ | ⟨h2, h⟩ := h
    obtain _ | ⟨h3, h⟩ := h
    obtain _ | ⟨h4, h⟩ := h
    obtain _ | ⟨h5, h⟩ := h
    obtain _ | ⟨h6, h⟩ := h
    obtain _ | ⟨h7, h⟩ := h
    obtain _ | ⟨h8, h⟩ := h
    cases h
    obtain ⟨a0, rfl, w0⟩ := lay_int h0
    obtain ⟨a1, rfl, w1⟩ := lay_int h1
    obtain ⟨a2, rfl, w2⟩ := lay_int h2
    obtain ⟨a3, rfl, w3⟩ := lay_int h3
    obtain ⟨a4, rfl, w4⟩ := lay_int h4
    obtain ⟨a5, rfl, w5⟩ := lay_int h5
    obtain ⟨a6, rfl, w6⟩ := lay_int h6
    obtain ⟨a7, rfl⟩ := lay_bool h7
    obtain ⟨a8, rfl, w8, z8⟩ := lay_ints h8
    exact ⟨⟨a0, a1, a2, a3, a4, a5, a6, a7, a8⟩, by simp [Line.cells], ⟨wf_u8 w0, wf_u8 w1, wf_u8 w2, wf_u8 w3, wf_u8 w4, wf_u8 w5, wf_u8 w6, ⟨fun n hn => wf_u8 (w8 n hn), z8⟩⟩⟩
theorem Line.ofLayS : ∀ {xs : List Dt} {vs : List Value}, LayS Line.ty xs vs → ∃ L : List Line, vs = L.map Line.val ∧ ∀ x ∈ L, x.wf
  | _, _, .nil _ => ⟨[], rfl, fun _ h => (by cases h)⟩
  | _, _, .one hr _ _ => by cases hr
  | _, _, .recs hr h hs => by
    obtain ⟨x, rfl, hx⟩ := Line.ofLay h
    obtain ⟨L, rfl, hw⟩ := Line.ofLayS hs
    exact ⟨x :: L, rfl, fun y hy => by
      rcases List.mem_cons.1 hy with rfl | hy
      · exact hx
      · exact hw y hy⟩
theorem Line.ofV {d : Dt} {v : Value} (h : LayV Line.ty d v) : ∃ x : Line, v = x.val ∧ x.wf := by
  obtain ⟨cs, rfl, h2⟩ := layV_rec h
  obtain ⟨x, rfl, hx⟩ := Line.ofLay h2
  exact ⟨x, rfl, hx⟩
theorem Line.ofRow {d : Dt} {v : Value} {k : Nat} (h : LayV (.row Line.ty k) d v) : ∃ L : List Line, v = frow k 0 (L.map Line.val) ∧ (∀ x ∈ L, x.wf) ∧ L.length ≤ maxLen := by
  obtain ⟨xs, vs, rfl, hs, hl⟩ := layV_row h
  obtain ⟨L, rfl, hw⟩ := Line.ofLayS hs
  exact ⟨L, rfl, hw, by simpa using hl⟩
def Draft.ty : Ty := .recd [.row Line.ty 9, .row (.int .u8) 1, .int .u8, .int .u8, .int .u8, .int .u8, .bool, .int .u8]
theorem Draft.ofLay {d : Dt} {cs : List Value} (h : Lay Draft.ty d cs) : ∃ x : Draft, cs = x.cells ∧ x.wf := by
  cases h with
  | recd h =>
    obtain _ | ⟨h0, h⟩ := h
    obtain _ | ⟨h1, h⟩ := h
    obtain _ | ⟨h2, h⟩ := h
    obtain _ | ⟨h3, h⟩ := h
    obtain _ | ⟨h4, h⟩ := h
    obtain _ | ⟨h5, h⟩ := h
    obtain _ | ⟨h6, h⟩ := h
    obtain _ | ⟨h7, h⟩ := h
    cases h
    obtain ⟨xs0, vs0, rfl, s0, z0⟩ := lay_row h0
    obtain ⟨a0, rfl, w0⟩ := Line.ofLayS s0
    obtain ⟨a1, rfl, w1, z1⟩ := lay_ints h1
    obtain ⟨a2, rfl, w2⟩ := lay_int h2
    obtain ⟨a3, rfl, w3⟩ := lay_int h3
    obtain ⟨a4, rfl, w4⟩ := lay_int h4
    obtain ⟨a5, rfl, w5⟩ := lay_int h5
    obtain ⟨a6, rfl⟩ := lay_bool h6
    obtain ⟨a7, rfl, w7⟩ := lay_int h7
    exact ⟨⟨a0, a1, a2, a3, a4, a5, a6, a7⟩, by simp [Draft.cells], ⟨⟨w0, by simpa using z0⟩, ⟨fun n hn => wf_u8 (w1 n hn), z1⟩, wf_u8 w2, wf_u8 w3, wf_u8 w4, wf_u8 w5, wf_u8 w7⟩⟩
theorem Draft.ofLayS : ∀ {xs : List Dt} {vs : List Value}, LayS Draft.ty xs vs → ∃ L : List Draft, vs = L.map Draft.val ∧ ∀ x ∈ L, x.wf
  | _, _, .nil _ => ⟨[], rfl, fun _ h => (by cases h)⟩
  | _, _, .one hr _ _ => by cases hr
  | _, _, .recs hr h hs => by
    obtain ⟨x, rfl, hx⟩ := Draft.ofLay h
    obtain ⟨L, rfl, hw⟩ := Draft.ofLayS hs
    exact ⟨x :: L, rfl, fun y hy => by
      rcases List.mem_cons.1 hy with rfl | hy
      · exact hx
      · exact hw y hy⟩
theorem Draft.ofV {d : Dt} {v : Value} (h : LayV Draft.ty d v) : ∃ x : Draft, v = x.val ∧ x.wf := by
  obtain ⟨cs, rfl, h2⟩ := layV_rec h
  obtain ⟨x, rfl, hx⟩ := Draft.ofLay h2
  exact ⟨x, rfl, hx⟩
theorem Draft.ofRow {d : Dt} {v : Value} {k : Nat} (h : LayV (.row Draft.ty k) d v) : ∃ L : List Draft, v = frow k 0 (L.map Draft.val) ∧ (∀ x ∈ L, x.wf) ∧ L.length ≤ maxLen := by
  obtain ⟨xs, vs, rfl, hs, hl⟩ := layV_row h
  obtain ⟨L, rfl, hw⟩ := Draft.ofLayS hs
  exact ⟨L, rfl, hw, by simpa using hl⟩
theorem ruleS_delay (x : Line) (h : 0 ≤ x.delay ∧ x.delay < 256) : 0 ≤ (ruleS x).delay ∧ (ruleS x).delay ≤ 7 := by
  show 0 ≤ x.delay % 8 ∧ x.delay % 8 ≤ 7
  omega
theorem rules_mem {d : Draft} (hw : d.wf) {r : Rule} (hr : r ∈ rulesS d) : ∃ x : Line, x.wf ∧ r = ruleS x := by
  unfold rulesS at hr
  split at hr
  · simp at hr; exact ⟨lineZ, by simp [lineZ, Line.wf], hr⟩
  · obtain ⟨x, hx, rfl⟩ := List.mem_map.1 hr
    exact ⟨x, hw.1.1 x (List.mem_of_mem_take hx), rfl⟩
def shortD (d : Draft) : Prop := d.rules.length ≤ 12 ∧ d.slots.length ≤ 40 ∧ ∀ x ∈ d.rules, x.stages.length ≤ 8
instance (d : Draft) : Decidable (shortD d) := inferInstanceAs (Decidable (_ ∧ _))
end Go.Proofs.YtoecebibhcadoaaDoor.I
namespace Go.Proofs.YtoecebibhcadoaaDoor.I
open Go Go.RowKit
set_option linter.unusedVariables false
set_option linter.unusedSimpArgs false
theorem shortD' (H : Heap) (d : Draft) : ICalls Tryd.prog 10 [d.val] H fun v H' => v = .bool (decide (shortD d)) ∧ H' = H := shortI H d
theorem imageBack_law (H : Heap) (d : Draft) (hd : d.wf) : IBody Tryd.prog 3 [d.val] H fun v _ => v = .bool true := by
  by_cases hs : shortD d
  · obtain ⟨c, hc⟩ : ∃ c, c = makeS d := ⟨_, rfl⟩
    have hw : c.wf := by rw [hc]; exact make_wf hd
    have hf : Fit c := by rw [hc]; exact make_fit hd
    have mk := fun K => make K d hd
    rw [← hc] at mk
    have dcs := decide_eq_true hs
    refine IBody.of Tryd.func3 rfl (by rw [Tryd.ntmps3]; simp) ?_
    rw [Tryd.ntmps3]
    have Kp : Kept [[1],[1,14]] := ⟨⟩
    iterate 2 (refine Kp.s ?_; clear Kp; intro Kp; simp [go_sem, -getElem?_pos, -List.map_take, -List.map_drop, IntWalk.iteOmega, IntWalk.toNatUp, Draft.val, Draft.cells, dcs, Config.val, Config.cells])
    refine ICalls.then (noneC _) ?_
    try simp [go_sem, -getElem?_pos, -List.map_take, -List.map_drop, IntWalk.iteOmega, IntWalk.toNatUp, Draft.val, Draft.cells, dcs, Config.val, Config.cells]
    refine ICalls.then (shortD' _ d) ?_
    try simp [go_sem, -getElem?_pos, -List.map_take, -List.map_drop, IntWalk.iteOmega, IntWalk.toNatUp, Draft.val, Draft.cells, dcs, Config.val, Config.cells]
    have Kp : Kept [[],[1],[3]] := ⟨⟩
    iterate 3 (refine Kp.s ?_; clear Kp; intro Kp; simp [go_sem, -getElem?_pos, -List.map_take, -List.map_drop, IntWalk.iteOmega, IntWalk.toNatUp, Draft.val, Draft.cells, dcs, Config.val, Config.cells])
    refine ICalls.then (mk _) ?_
    try simp [go_sem, -getElem?_pos, -List.map_take, -List.map_drop, IntWalk.iteOmega, IntWalk.toNatUp, Draft.val, Draft.cells, dcs, Config.val, Config.cells]
    refine IWp.one [3, 4] ?_
    simp [go_sem, -getElem?_pos, -List.map_take, -List.map_drop, IntWalk.iteOmega, IntWalk.toNatUp, Draft.val, Draft.cells, dcs, Config.val, Config.cells]
    refine ICalls.then (encodeC _ c hw (cfgB_small hf)) ?_
    try simp [go_sem, -getElem?_pos, -List.map_take, -List.map_drop, IntWalk.iteOmega, IntWalk.toNatUp, Draft.val, Draft.cells, dcs, Config.val, Config.cells]
    refine IWp.one [3, 4, 5, 6, 7] ?_
    simp [go_sem, -getElem?_pos, -List.map_take, -List.map_drop, IntWalk.iteOmega, IntWalk.toNatUp, Draft.val, Draft.cells, dcs, Config.val, Config.cells]
    refine ICalls.then (backC _ 0 hf hw) ?_
    try simp [go_sem, -getElem?_pos, -List.map_take, -List.map_drop, IntWalk.iteOmega, IntWalk.toNatUp, Draft.val, Draft.cells, dcs, Config.val, Config.cells]
    refine IWp.one [2] ?_
    simp [go_sem, -getElem?_pos, -List.map_take, -List.map_drop, IntWalk.iteOmega, IntWalk.toNatUp, Draft.val, Draft.cells, dcs, Config.val, Config.cells]
    refine ICalls.then (refEncode _ c hw (cfgB_small hf)) ?_
    try simp [go_sem, -getElem?_pos, -List.map_take, -List.map_drop, IntWalk.iteOmega, IntWalk.toNatUp, Draft.val, Draft.cells, dcs, Config.val, Config.cells]
    refine ICalls.then (refBytes _ 0 0 (closed (cfgB c)) (closed (cfgB c)) (by rw [closed_len']; have := cfgB_small hf; omega)) ?_
    try simp [go_sem, -getElem?_pos, -List.map_take, -List.map_drop, IntWalk.iteOmega, IntWalk.toNatUp, Draft.val, Draft.cells, dcs, Config.val, Config.cells]
    refine ICalls.then (sameCfg _ c hw (slot_small hf)) ?_
    try simp [go_sem, -getElem?_pos, -List.map_take, -List.map_drop, IntWalk.iteOmega, IntWalk.toNatUp, Draft.val, Draft.cells, dcs, Config.val, Config.cells]
    refine IWp.one [] ?_
    simp [go_sem, -getElem?_pos, -List.map_take, -List.map_drop, IntWalk.iteOmega, IntWalk.toNatUp, Draft.val, Draft.cells, dcs, Config.val, Config.cells]
  · have dcs := decide_eq_false hs
    refine IBody.of Tryd.func3 rfl (by rw [Tryd.ntmps3]; simp) ?_
    rw [Tryd.ntmps3]
    have Kp : Kept [[1],[1,14]] := ⟨⟩
    iterate 2 (refine Kp.s ?_; clear Kp; intro Kp; simp [go_sem, -getElem?_pos, -List.map_take, -List.map_drop, IntWalk.iteOmega, IntWalk.toNatUp, Draft.val, Draft.cells, dcs])
    refine ICalls.then (noneC _) ?_
    try simp [go_sem, -getElem?_pos, -List.map_take, -List.map_drop, IntWalk.iteOmega, IntWalk.toNatUp, Draft.val, Draft.cells, dcs]
    refine ICalls.then (shortD' _ d) ?_
    try simp [go_sem, -getElem?_pos, -List.map_take, -List.map_drop, IntWalk.iteOmega, IntWalk.toNatUp, Draft.val, Draft.cells, dcs]
    have Kp : Kept [[],[2]] := ⟨⟩
    iterate 2 (refine Kp.s ?_; clear Kp; intro Kp; simp [go_sem, -getElem?_pos, -List.map_take, -List.map_drop, IntWalk.iteOmega, IntWalk.toNatUp, Draft.val, Draft.cells, dcs])
    refine ICalls.then (noneC _) ?_
    try simp [go_sem, -getElem?_pos, -List.map_take, -List.map_drop, IntWalk.iteOmega, IntWalk.toNatUp, Draft.val, Draft.cells, dcs]
    refine IWp.one [] ?_
    simp [go_sem, -getElem?_pos, -List.map_take, -List.map_drop, IntWalk.iteOmega, IntWalk.toNatUp, Draft.val, Draft.cells, dcs]
end Go.Proofs.YtoecebibhcadoaaDoor.I
namespace Go.Proofs.YtoecebibhcadoaaDoor.I
open Go Go.RowKit
set_option linter.unusedVariables false
set_option linter.unusedSimpArgs false
theorem int_in {s : Rd} (h : s.ok) : I32 s.int.1 := by
  unfold Rd.int
  split
  · have h0 := Rd.at_byte h 0; have h1 := Rd.at_byte h 1; have h2 := Rd.at_byte h 2; have h3 := Rd.at_byte h 3
    simp only
    unfold be4 I32
    split <;> omega
  · show I32 0; exact ⟨by decide, by decide⟩
theorem list_in {α : Type} {one : Rd → α × Rd} {P : α → Prop} (h1 : ∀ s, s.ok → P (one s).1 ∧ (one s).2.ok) : ∀ (n : Nat) (s : Rd), s.ok → (listP one n s).1.length ≤ n ∧ ∀ x ∈ (listP one n s).1, P x
  | 0, s, h => ⟨Nat.le_refl _, fun x hx => by cases hx⟩
  | n + 1, s, h => by
    by_cases he : s.e = 0
    · rw [listP_step one n s he]
      obtain ⟨p, k⟩ := h1 s h
      obtain ⟨l, q⟩ := list_in h1 n _ k
      exact ⟨by simp only [List.length_cons]; omega, fun x hx => by
        rcases List.mem_cons.1 hx with rfl | hx
        · exact p
        · exact q x hx⟩
    · rw [listP_stop one _ s he]; exact ⟨by simp, fun x hx => by cases hx⟩
theorem many_in {α : Type} {one : Rd → α × Rd} {P : α → Prop} (h1 : ∀ s, s.ok → P (one s).1 ∧ (one s).2.ok) (s : Rd) (h : s.ok) : (manyP one s).1.length ≤ 255 ∧ ∀ x ∈ (manyP one s).1, P x := by
  have hb := Rd.byte_u8 s h
  obtain ⟨l, q⟩ := list_in h1 s.byte.1.toNat s.byte.2 (Rd.byte_ok h)
  exact ⟨Nat.le_trans l (by omega), q⟩
def WfS (s : Sig) : Prop := I32 s.lo ∧ I32 s.hi
def WfT (l : List Int) : Prop := l.length ≤ 255 ∧ ∀ x ∈ l, 0 ≤ x ∧ x < 256
theorem wf_of_parts {c : Config} (h1 : c.sigs.length ≤ 255 ∧ ∀ x ∈ c.sigs, WfS x) (h2 : c.rules.length ≤ 255 ∧ ∀ x ∈ c.rules, x.wf) (h3 : c.table.length ≤ 255 ∧ ∀ x ∈ c.table, WfT x)
    (hb : (0 ≤ c.b0 ∧ c.b0 < 256) ∧ (0 ≤ c.b1 ∧ c.b1 < 256) ∧ (0 ≤ c.b2 ∧ c.b2 < 256) ∧ (0 ≤ c.drain ∧ c.drain < 256)) (hn : I32 c.pause ∧ I32 c.off ∧ I32 c.log) : c.wf := by
  obtain ⟨n1, n2, n3⟩ := hn
  unfold I32 at n1 n2 n3
  refine ⟨⟨fun s hs => ?_, by simp only [maxLen]; omega⟩, ⟨h2.2, by simp only [maxLen]; omega⟩, ⟨fun l hl => ⟨fun x hx => ?_, ?_⟩, by simp only [maxLen]; omega⟩, by omega, by omega, by omega, by omega, by omega, by omega, by omega⟩
  · obtain ⟨⟨a, b⟩, c, d⟩ := h1.2 s hs
    exact ⟨by omega, by omega⟩
  · have := (h3.2 l hl).2 x hx; omega
  · have := (h3.2 l hl).1; simp only [maxLen]; omega
theorem stage_in (s : Rd) (h : s.ok) : (stageP s).1.wf ∧ (stageP s).2.ok := by
  have h1 := int_in h
  have h2 := Rd.byte_u8 _ (Rd.int_ok h)
  unfold I32 at h1
  exact ⟨⟨by show _ ≤ s.int.1 ∧ s.int.1 < _; omega, h2⟩, stageP_ok s h⟩
theorem rule_in (s : Rd) (h : s.ok) : (ruleP s).1.wf ∧ (ruleP s).2.ok := by
  refine ⟨?_, ruleP_ok s h⟩
  have b1 := Rd.byte_u8 s h
  have k1 := Rd.byte_ok h
  have b2 := Rd.byte_u8 _ k1
  have k2 := Rd.byte_ok k1
  have i1 := int_in k2
  have k3 := Rd.int_ok k2
  have i2 := int_in k3
  have k4 := Rd.int_ok k3
  have i3 := int_in k4
  have k5 := Rd.int_ok k4
  have i4 := int_in k5
  have k6 := Rd.int_ok k5
  have b3 := Rd.byte_u8 _ k6
  have hk := headP_ok s h
  obtain ⟨l1, l2⟩ := many_in stage_in _ hk
  unfold I32 at i1 i2 i3 i4
  exact ⟨b1, by show _ ≤ s.byte.2.byte.1 ∧ s.byte.2.byte.1 < _; omega, by show _ ≤ s.byte.2.byte.2.int.1 ∧ s.byte.2.byte.2.int.1 < _; omega, by show _ ≤ s.byte.2.byte.2.int.2.int.1 ∧ s.byte.2.byte.2.int.2.int.1 < _; omega,
    by show _ ≤ s.byte.2.byte.2.int.2.int.2.int.1 ∧ s.byte.2.byte.2.int.2.int.2.int.1 < _; omega, by show _ ≤ s.byte.2.byte.2.int.2.int.2.int.2.int.1 ∧ s.byte.2.byte.2.int.2.int.2.int.2.int.1 < _; omega, b3, l2, by simp only [maxLen]; exact Nat.le_trans l1 (by omega)⟩
theorem sig_in (s : Rd) (h : s.ok) : WfS (sigP s).1 ∧ (sigP s).2.ok := ⟨⟨int_in h, int_in (Rd.int_ok h)⟩, sigP_ok s h⟩
theorem slot_in (s : Rd) (h : s.ok) : WfT (slotP s).1 ∧ (slotP s).2.ok := ⟨many_in (fun t ht => ⟨Rd.byte_u8 t ht, Rd.byte_ok ht⟩) s h, slotP_ok s h⟩
theorem cfg_in (s : Rd) (h : s.ok) : (cfgP s).1.wf ∧ ∀ x ∈ (cfgP s).1.table, x.length ≤ 1000000 := by
  have m1 := many_in sig_in s h
  have k1 := manyP_ok _ sigP_ok _ h
  have m2 := many_in rule_in _ k1
  have k2 := manyP_ok _ ruleP_ok _ k1
  have m3 := many_in slot_in _ k2
  have k3 := manyP_ok _ slotP_ok _ k2
  have b1 := Rd.byte_u8 _ k3
  have q1 := Rd.byte_ok k3
  have b2 := Rd.byte_u8 _ q1
  have q2 := Rd.byte_ok q1
  have b3 := Rd.byte_u8 _ q2
  have q3 := Rd.byte_ok q2
  have b4 := Rd.byte_u8 _ q3
  have q4 := Rd.byte_ok q3
  have i1 := int_in q4
  have q5 := Rd.int_ok q4
  have i2 := int_in q5
  have q6 := Rd.int_ok q5
  have i3 := int_in (Rd.flag_ok q6)
  exact ⟨wf_of_parts m1 m2 m3 ⟨b1, b2, b3, b4⟩ ⟨i1, i2, i3⟩, fun x hx => Nat.le_trans (m3.2 x hx).1 (by omega)⟩
theorem cfgZ_wf : cfgZ.wf := by simp [cfgZ, Config.wf, maxLen]
theorem decP_in {L : List Int} (hL : L.length ≤ 800000) (hB : Bs L) : (decP L).1.wf ∧ ∀ x ∈ (decP L).1.table, x.length ≤ 1000000 := by
  have hz : cfgZ.wf ∧ ∀ x ∈ cfgZ.table, x.length ≤ 1000000 := ⟨cfgZ_wf, fun x hx => by cases hx⟩
  have ol := opened_len L
  have ob := opened_bs hB
  unfold decP
  split
  · exact hz
  · split
    · exact hz
    · simp only
      split
      · exact hz
      · exact cfg_in _ ⟨Nat.zero_le _, by simp only [List.length_drop]; omega, fun x hx => ob x (List.mem_of_mem_drop hx)⟩
structure Ext (s t : Rd) : Prop where
  l : ∃ X, t.L = s.L ++ X
  pos : t.pos = s.pos
  e : t.e = s.e
def Exts {α : Type} (one : Rd → α × Rd) : Prop := ∀ s t, Ext s t → ((one s).2.e = 4 ∨ ((one t).1 = (one s).1 ∧ Ext (one s).2 (one t).2)) ∧ (s.e = 4 → (one s).2.e = 4)
theorem Ext.at_ {s t : Rd} (h : Ext s t) {i : Nat} (hi : s.pos + i < s.L.length) : t.at_ i = s.at_ i := by
  obtain ⟨X, hX⟩ := h.l
  unfold Rd.at_
  rw [hX, h.pos]
  simp [List.getD_eq_getElem?_getD, List.getElem?_append_left hi]
theorem Ext.move {s t : Rd} (h : Ext s t) (n : Nat) : Ext { s with pos := s.pos + n } { t with pos := t.pos + n } := ⟨h.l, by show t.pos + n = s.pos + n; rw [h.pos], h.e⟩
theorem Ext.len {s t : Rd} (h : Ext s t) : s.L.length ≤ t.L.length := by obtain ⟨X, hX⟩ := h.l; rw [hX, List.length_append]; omega
theorem ext_byte : Exts Rd.byte := fun s t h => by
  refine ⟨?_, fun e => by rw [Rd.byte_bad (by omega)]; exact e⟩
  have hl := h.len; have hp := h.pos; have he := h.e
  by_cases e : s.e = 0
  · by_cases c : s.pos + 1 ≤ s.L.length
    · rw [Rd.byte_eq e c, Rd.byte_eq (by omega) (by omega)]
      exact .inr ⟨h.at_ (by omega), h.move 1⟩
    · rw [Rd.byte_short e c]; exact .inl rfl
  · rw [Rd.byte_bad e, Rd.byte_bad (by omega)]; exact .inr ⟨rfl, h⟩
theorem ext_int : Exts Rd.int := fun s t h => by
  refine ⟨?_, fun e => by rw [Rd.int_bad (by omega)]; exact e⟩
  have hl := h.len; have hp := h.pos; have he := h.e
  by_cases e : s.e = 0
  · by_cases c : s.pos + 4 ≤ s.L.length
    · rw [Rd.int_eq e c, Rd.int_eq (by omega) (by omega)]
      exact .inr ⟨by rw [h.at_ (by omega), h.at_ (by omega), h.at_ (by omega), h.at_ (by omega)], h.move 4⟩
    · rw [Rd.int_short e c]; exact .inl rfl
  · rw [Rd.int_bad e, Rd.int_bad (by omega)]; exact .inr ⟨rfl, h⟩
theorem ext_flag : Exts Rd.flag := fun s t h => by
  refine ⟨?_, fun e => by rw [Rd.flag_bad (by omega)]; exact e⟩
  have hl := h.len; have hp := h.pos; have he := h.e
  by_cases e : s.e = 0
  · by_cases c : s.pos + 1 ≤ s.L.length
    · have ha : t.at_ 0 = s.at_ 0 := h.at_ (by omega)
      by_cases g : 1 < s.at_ 0
      · rw [Rd.flag_form e c g, Rd.flag_form (by omega) (by omega) (by omega)]
        exact .inr ⟨rfl, ⟨h.l, hp, rfl⟩⟩
      · rw [Rd.flag_eq e c g, Rd.flag_eq (by omega) (by omega) (by omega), ha]
        exact .inr ⟨rfl, h.move 1⟩
    · rw [Rd.flag_short e c]; exact .inl rfl
  · rw [Rd.flag_bad e, Rd.flag_bad (by omega)]; exact .inr ⟨rfl, h⟩
theorem Exts.two {α β γ : Type} {f : Rd → α × Rd} {g : Rd → β × Rd} (hf : Exts f) (hg : Exts g) (k : α → β → γ) : Exts fun s => (k (f s).1 (g (f s).2).1, (g (f s).2).2) := fun s t h => by
  obtain ⟨a, b⟩ := hf s t h
  refine ⟨?_, fun e => (hg _ _ ⟨⟨[], (List.append_nil _).symm⟩, rfl, rfl⟩).2 (b e)⟩
  rcases a with a | ⟨a1, a2⟩
  · exact .inl ((hg (f s).2 (f s).2 ⟨⟨[], (List.append_nil _).symm⟩, rfl, rfl⟩).2 a)
  · rcases (hg _ _ a2).1 with c | ⟨c1, c2⟩
    · exact .inl c
    · exact .inr ⟨by simp only [a1, c1], c2⟩
theorem Exts.map {α β : Type} {f : Rd → α × Rd} (hf : Exts f) (k : α → β) : Exts fun s => (k (f s).1, (f s).2) := fun s t h => by
  obtain ⟨a, b⟩ := hf s t h
  exact ⟨a.imp id fun ⟨a1, a2⟩ => ⟨by simp only [a1], a2⟩, b⟩
theorem Exts.list {α : Type} {one : Rd → α × Rd} (h1 : Exts one) : ∀ n, Exts (listP one n)
  | 0, s, t, h => ⟨.inr ⟨rfl, h⟩, fun e => e⟩
  | n + 1, s, t, h => by
    by_cases e : s.e = 0
    · rw [listP_step one n s e, listP_step one n t (by rw [h.e]; exact e)]
      refine ⟨?_, fun e4 => by omega⟩
      rcases (h1 s t h).1 with a | ⟨a1, a2⟩
      · exact .inl ((Exts.list h1 n _ _ ⟨⟨[], (List.append_nil _).symm⟩, rfl, rfl⟩).2 a)
      · rcases (Exts.list h1 n _ _ a2).1 with c | ⟨c1, c2⟩
        · exact .inl c
        · exact .inr ⟨by simp only [a1, c1], c2⟩
    · rw [listP_stop one _ s e, listP_stop one _ t (by rw [h.e]; exact e)]
      exact ⟨.inr ⟨rfl, h⟩, fun e => e⟩
theorem Exts.many {α : Type} {one : Rd → α × Rd} (h1 : Exts one) : Exts (manyP one) := fun s t h => by
  obtain ⟨a, b⟩ := ext_byte s t h
  refine ⟨?_, fun e => (Exts.list h1 _ _ _ ⟨⟨[], (List.append_nil _).symm⟩, rfl, rfl⟩).2 (b e)⟩
  rcases a with a | ⟨a1, a2⟩
  · exact .inl ((Exts.list h1 _ _ _ ⟨⟨[], (List.append_nil _).symm⟩, rfl, rfl⟩).2 a)
  · unfold manyP
    rw [a1]
    exact (Exts.list h1 _ _ _ a2).1
theorem ext_sig : Exts sigP := Exts.two ext_int ext_int fun a b => Sig.mk a b
theorem ext_stage : Exts stageP := Exts.two ext_int ext_byte fun a b => Stage.mk a b
theorem ext_slot : Exts slotP := Exts.many ext_byte
theorem ext_head : Exts headP :=
  Exts.two ext_byte (Exts.two ext_byte (Exts.two ext_int (Exts.two ext_int (Exts.two ext_int (Exts.two ext_int (Exts.two ext_byte ext_flag fun a b => (a, b)) fun a b => (a, b)) fun a b => (a, b)) fun a b => (a, b)) fun a b => (a, b)) fun a b => (a, b))
    fun a b => Head.mk a b.1 b.2.1 b.2.2.1 b.2.2.2.1 b.2.2.2.2.1 b.2.2.2.2.2.1 b.2.2.2.2.2.2
theorem ext_rule : Exts ruleP := Exts.two ext_head (Exts.many ext_stage) fun h l => Rule.mk h.kind h.sg h.lim h.back h.delay h.span h.prio h.latch l
theorem ext_cfg : Exts cfgP :=
  Exts.two (Exts.many ext_sig) (Exts.two (Exts.many ext_rule) (Exts.two (Exts.many ext_slot) (Exts.two ext_byte (Exts.two ext_byte (Exts.two ext_byte (Exts.two ext_byte (Exts.two ext_int (Exts.two ext_int (Exts.two ext_flag ext_int fun a b => (a, b)) fun a b => (a, b)) fun a b => (a, b)) fun a b => (a, b)) fun a b => (a, b)) fun a b => (a, b)) fun a b => (a, b)) fun a b => (a, b)) fun a b => (a, b))
    fun a b => Config.mk a b.1 b.2.1 b.2.2.1 b.2.2.2.1 b.2.2.2.2.1 b.2.2.2.2.2.1 b.2.2.2.2.2.2.1 b.2.2.2.2.2.2.2.1 b.2.2.2.2.2.2.2.2.1 b.2.2.2.2.2.2.2.2.2
def Keeps {α : Type} (one : Rd → α × Rd) : Prop := ∀ s, (one s).2.L = s.L
theorem keep_ready (s : Rd) (n : Nat) : (s.ready n).L = s.L := by unfold Rd.ready; split <;> rfl
theorem keep_byte : Keeps Rd.byte := fun s => by
  unfold Rd.byte; split
  · rfl
  · exact keep_ready s 1
theorem keep_int : Keeps Rd.int := fun s => by
  unfold Rd.int; split
  · rfl
  · exact keep_ready s 4
theorem keep_flag : Keeps Rd.flag := fun s => by
  unfold Rd.flag; split
  · split <;> rfl
  · exact keep_ready s 1
theorem Keeps.two {α β γ : Type} {f : Rd → α × Rd} {g : Rd → β × Rd} (hf : Keeps f) (hg : Keeps g) (k : α → β → γ) : Keeps fun s => (k (f s).1 (g (f s).2).1, (g (f s).2).2) := fun s => (hg _).trans (hf s)
theorem Keeps.list {α : Type} {one : Rd → α × Rd} (h1 : Keeps one) : ∀ n, Keeps (listP one n)
  | 0, s => rfl
  | n + 1, s => by
    by_cases e : s.e = 0
    · rw [listP_step one n s e]; exact (Keeps.list h1 n _).trans (h1 s)
    · rw [listP_stop one _ s e]
theorem Keeps.many {α : Type} {one : Rd → α × Rd} (h1 : Keeps one) : Keeps (manyP one) := fun s => (Keeps.list h1 _ _).trans (keep_byte s)
theorem keep_sig : Keeps sigP := Keeps.two keep_int keep_int fun a b => Sig.mk a b
theorem keep_stage : Keeps stageP := Keeps.two keep_int keep_byte fun a b => Stage.mk a b
theorem keep_rule : Keeps ruleP := fun s => ((Keeps.many keep_stage) _).trans ((keep_flag _).trans ((keep_byte _).trans ((keep_int _).trans ((keep_int _).trans ((keep_int _).trans ((keep_int _).trans ((keep_byte _).trans (keep_byte s))))))))
theorem keep_cfg : Keeps cfgP := fun s => (keep_int _).trans ((keep_flag _).trans ((keep_int _).trans ((keep_int _).trans ((keep_byte _).trans ((keep_byte _).trans ((keep_byte _).trans ((keep_byte _).trans ((Keeps.many (Keeps.many keep_byte) _).trans ((Keeps.many keep_rule _).trans (Keeps.many keep_sig s))))))))))
theorem decP_cut {c : Config} (hc : Fit c) (hB : Bs (cfgB c)) {k : Nat} (h3 : 3 ≤ k) (hk : k < (cfgB c).length) (hs : (cfgB c).length ≤ 700000) : ∃ a : Int, decP (closed ((cfgB c).take k)) = (cfgZ, a, 4) ∧ 3 ≤ a ∧ a ≤ k := by
  have e3 : ((cfgB c).take k).take 3 = [72, 66, 49] := by
    rw [List.take_take, Nat.min_eq_left h3]; unfold cfgB; simp
  obtain ⟨s, hS⟩ : ∃ s : Rd, s = ⟨((cfgB c).take k).drop 3, 0, 0⟩ := ⟨_, rfl⟩
  have hl : s.L.length = k - 3 := by rw [hS]; simp only [List.length_drop, List.length_take]; omega
  have ok : s.ok := ⟨by rw [hS]; exact Nat.zero_le _, by omega, fun x hx => by rw [hS] at hx; exact hB x (List.mem_of_mem_take (List.mem_of_mem_drop hx))⟩
  obtain ⟨t, e, ht⟩ := reads_cfg hc (s := ⟨(cfgB c).drop 3, 0, 0⟩) ⟨rfl, Nat.zero_le _, by simp⟩
  have hx : Ext s ⟨(cfgB c).drop 3, 0, 0⟩ := by
    rw [hS]
    refine ⟨⟨(cfgB c).drop k, ?_⟩, rfl, rfl⟩
    show (cfgB c).drop 3 = ((cfgB c).take k).drop 3 ++ (cfgB c).drop k
    conv => lhs; rw [← List.take_append_drop k (cfgB c)]
    rw [List.drop_append_of_le_length (by rw [List.length_take]; omega)]
  have ok2 := cfgP_ok s ok
  have hL : (cfgP s).2.e = 4 := by
    rcases (ext_cfg _ _ hx).1 with a | ⟨_, a⟩
    · exact a
    · exfalso
      rw [e] at a
      have h1 : t.pos = (cfgP s).2.pos := a.pos
      have h2 := ok2.1
      have h3 := ht.len
      have h4 := keep_cfg s
      have h5 := keep_cfg ⟨(cfgB c).drop 3, 0, 0⟩
      rw [e] at h5
      have h5 : t.L = (cfgB c).drop 3 := h5
      rw [h4] at h2
      simp only [List.length_nil] at h3
      rw [h5] at h3
      simp only [List.length_drop] at h3
      omega
  have hp := ok2.1
  rw [keep_cfg s] at hp
  refine ⟨3 + (cfgP s).2.pos, ?_, by omega, by omega⟩
  unfold decP
  rw [opened_closedI]
  rw [if_neg (by simp), if_neg (by simp [e3])]
  simp only [← hS]
  have hend : (cfgP s).2.ending = (((cfgP s).2.pos : Int), 4) := by
    unfold Rd.ending Rd.left Rd.fault
    rw [hL]; simp
  rw [hend]; simp
end Go.Proofs.YtoecebibhcadoaaDoor.I
namespace Go.Proofs.YtoecebibhcadoaaDoor.I
open Go Go.RowKit
set_option linter.unusedVariables false
set_option linter.unusedSimpArgs false
theorem decodesC (H : Heap) (m : Int) (L : List Int) (hL : L.length ≤ 800000) (hB : Bs L) : ICalls Tryd.prog 17 [frow 1 m (L.map (Value.int .u8))] H fun v H' => v = .bool true ∧ H' = H := by
  refine ICalls.ans (by simp [go_sem]) fun H => IBody.calls (by kernel_rfl) ?_
  obtain ⟨hw, hs⟩ := decP_in hL hB
  have c1 := fun K => decodeC K m L hL hB
  have c2 := fun K => refDecode K m L hL hB
  generalize (decP L).1 = c at *
  generalize (decP L).2.1 = a at *
  generalize (decP L).2.2 = e at *
  refine IBody.of Tryd.func17 rfl (by rw [Tryd.ntmps17]; simp) ?_
  rw [Tryd.ntmps17]
  have Kp : Kept [[0],[0,3,4,5]] := ⟨⟩
  iterate 2 (refine Kp.s ?_; clear Kp; intro Kp; simp [go_sem, -getElem?_pos, -List.map_take, -List.map_drop, IntWalk.iteOmega, IntWalk.toNatUp, Config.val, Config.cells])
  refine ICalls.then (c1 _) ?_
  try simp [go_sem, -getElem?_pos, -List.map_take, -List.map_drop, IntWalk.iteOmega, IntWalk.toNatUp, Config.val, Config.cells]
  refine IWp.one [3, 4, 5, 6, 7, 8] ?_
  simp [go_sem, -getElem?_pos, -List.map_take, -List.map_drop, IntWalk.iteOmega, IntWalk.toNatUp, Config.val, Config.cells]
  refine ICalls.then (c2 _) ?_
  try simp [go_sem, -getElem?_pos, -List.map_take, -List.map_drop, IntWalk.iteOmega, IntWalk.toNatUp, Config.val, Config.cells]
  refine IWp.one [2] ?_
  simp [go_sem, -getElem?_pos, -List.map_take, -List.map_drop, IntWalk.iteOmega, IntWalk.toNatUp, Config.val, Config.cells]
  refine ICalls.then (sameCfg _ c hw hs) ?_
  try simp [go_sem, -getElem?_pos, -List.map_take, -List.map_drop, IntWalk.iteOmega, IntWalk.toNatUp, Config.val, Config.cells]
  refine IWp.one [] ?_
  simp [go_sem, -getElem?_pos, -List.map_take, -List.map_drop, IntWalk.iteOmega, IntWalk.toNatUp, Config.val, Config.cells]
theorem imageDecodes_law (H : Heap) (L : List Int) (hB : Bs L) : IBody Tryd.prog 4 [byts L] H fun v _ => v = .bool true := by
  by_cases hl : 300 < L.length
  · skip
    refine IBody.of Tryd.func4 rfl (by rw [Tryd.ntmps4]; simp) ?_
    rw [Tryd.ntmps4]
    have Kp : Kept [[0],[0,9]] := ⟨⟩
    iterate 2 (refine Kp.s ?_; clear Kp; intro Kp; simp [go_sem, -getElem?_pos, -List.map_take, -List.map_drop, IntWalk.iteOmega, IntWalk.toNatUp, hl, byts, show (300 : Int) < L.length by omega])
    refine ICalls.then (noneC _) ?_
    try simp [go_sem, -getElem?_pos, -List.map_take, -List.map_drop, IntWalk.iteOmega, IntWalk.toNatUp, hl, byts, show (300 : Int) < L.length by omega]
    have Kp : Kept [[],[2]] := ⟨⟩
    iterate 2 (refine Kp.s ?_; clear Kp; intro Kp; simp [go_sem, -getElem?_pos, -List.map_take, -List.map_drop, IntWalk.iteOmega, IntWalk.toNatUp, hl, byts, show (300 : Int) < L.length by omega])
    refine ICalls.then (noneC _) ?_
    try simp [go_sem, -getElem?_pos, -List.map_take, -List.map_drop, IntWalk.iteOmega, IntWalk.toNatUp, hl, byts, show (300 : Int) < L.length by omega]
    refine IWp.one [] ?_
    simp [go_sem, -getElem?_pos, -List.map_take, -List.map_drop, IntWalk.iteOmega, IntWalk.toNatUp, hl, byts, show (300 : Int) < L.length by omega]
  · have c1 := fun K => decodesC K 0 L (by omega) hB
    have c2 := fun K => refClose K 0 L (by omega) hB
    have c3 := fun K => decodesC K 0 (closed L) (by rw [closed_len']; omega) (closed_bs hB)
    have hB2 : Bs ([72, 66, 49] ++ L) := bs_app (fun x hx => by simp at hx; omega) hB
    obtain ⟨J, hJ⟩ : ∃ J, J = [72, 66, 49] ++ L := ⟨_, rfl⟩
    have cj := fun K => join K 0 0 [72, 66, 49] L (by simp) (by omega)
    rw [← hJ] at hB2 cj
    have hl2 : J.length ≤ 303 := by rw [hJ, List.length_append]; simp only [List.length_cons, List.length_nil]; omega
    have c4 := fun K => refClose K 0 J (by omega) hB2
    have c5 := fun K => decodesC K 0 (closed J) (by rw [closed_len']; omega) (closed_bs hB2)
    refine IBody.of Tryd.func4 rfl (by rw [Tryd.ntmps4]; simp) ?_
    rw [Tryd.ntmps4]
    have Kp : Kept [[0],[0,9]] := ⟨⟩
    iterate 2 (refine Kp.s ?_; clear Kp; intro Kp; simp [go_sem, -getElem?_pos, -List.map_take, -List.map_drop, IntWalk.iteOmega, IntWalk.toNatUp, hl, byts, show ¬ (300 : Int) < L.length by omega])
    refine ICalls.then (noneC _) ?_
    try simp [go_sem, -getElem?_pos, -List.map_take, -List.map_drop, IntWalk.iteOmega, IntWalk.toNatUp, hl, byts, show ¬ (300 : Int) < L.length by omega]
    have Kp : Kept [[],[0],[2]] := ⟨⟩
    iterate 3 (refine Kp.s ?_; clear Kp; intro Kp; simp [go_sem, -getElem?_pos, -List.map_take, -List.map_drop, IntWalk.iteOmega, IntWalk.toNatUp, hl, byts, show ¬ (300 : Int) < L.length by omega])
    refine ICalls.then (c1 _) ?_
    try simp [go_sem, -getElem?_pos, -List.map_take, -List.map_drop, IntWalk.iteOmega, IntWalk.toNatUp, hl, byts, show ¬ (300 : Int) < L.length by omega]
    refine ICalls.then (c2 _) ?_
    try simp [go_sem, -getElem?_pos, -List.map_take, -List.map_drop, IntWalk.iteOmega, IntWalk.toNatUp, hl, byts, show ¬ (300 : Int) < L.length by omega]
    refine ICalls.then (c3 _) ?_
    try simp [go_sem, -getElem?_pos, -List.map_take, -List.map_drop, IntWalk.iteOmega, IntWalk.toNatUp, hl, byts, show ¬ (300 : Int) < L.length by omega]
    refine ICalls.freeze1 H.next (.cons (frz_lit ([(72 : Int), 66, 49].map (Value.int .u8)) (Heap.get_alloc_new _ _) (map_flat _ _) (map_sz .u8 _) rfl (by simp)) (.cons (.same _) .nil)) (ICalls.then (cj _) ?_)
    simp [go_sem]
    refine ICalls.then (c4 _) ?_
    simp [go_sem]
    refine ICalls.then (c5 _) ?_
    simp [go_sem]
    refine IWp.one [] ?_
    simp [go_sem, -getElem?_pos, -List.map_take, -List.map_drop, IntWalk.iteOmega, IntWalk.toNatUp]
theorem imageCut_law (H : Heap) (d : Draft) (n : Int) (hd : d.wf) (hn : 0 ≤ n ∧ n < 65536) : IBody Tryd.prog 6 [d.val, .int .u16 n] H fun v _ => v = .bool true := by
  by_cases hs : shortD d
  · obtain ⟨c, hc⟩ : ∃ c, c = makeS d := ⟨_, rfl⟩
    have hw : c.wf := by rw [hc]; exact make_wf hd
    have hf : Fit c := by rw [hc]; exact make_fit hd
    have mk := fun K => make K d hd
    rw [← hc] at mk
    have dcs := decide_eq_true hs
    have hB := cfgB_bs hw
    have sm := cfgB_small hf
    have ln := cfgB_len c
    have ce := fun K => refEncode K c hw sm
    obtain ⟨B, hBe⟩ : ∃ B, B = cfgB c := ⟨_, rfl⟩
    obtain ⟨k, hk⟩ : ∃ k : Nat, k = 3 + (n % ((B.length : Int) - 3)).toNat := ⟨_, rfl⟩
    have hm := Int.emod_nonneg n (show ((B.length : Int) - 3) ≠ 0 by rw [hBe]; omega)
    have hm2 := Int.emod_lt_of_pos n (show (0 : Int) < (B.length : Int) - 3 by rw [hBe]; omega)
    have hkB : k < B.length := by omega
    obtain ⟨a, ha, ha3, hak⟩ := decP_cut hf hB (k := k) (by omega) (by rw [← hBe]; exact hkB) sm
    rw [← hBe] at hB sm ln ce ha
    have e1 : (closed B).take B.length = B := by unfold closed; rw [List.take_left]
    have hBk : Bs (B.take k) := fun x hx => hB x (List.mem_of_mem_take hx)
    have c4 := fun K => refClose K 0 (B.take k) (by rw [List.length_take]; omega) hBk
    have c5 := fun K => decodeC K 0 (closed (B.take k)) (by rw [closed_len', List.length_take]; omega) (closed_bs hBk)
    have c6 := fun K => decodesC K 0 (closed (B.take k)) (by rw [closed_len', List.length_take]; omega) (closed_bs hBk)
    rw [ha] at c5
    simp only at c5
    have cl := closed_len' B
    have w1 := IntWalk.i64_in (B.length : Int) (by omega)
    have w2 := IntWalk.i64_in n (by omega)
    have w3 := IntWalk.i64_in ((B.length : Int) - 3) (by omega)
    have w4 : IntKind.i64.wrap (n.tmod ((B.length : Int) - 3)) = n % ((B.length : Int) - 3) := by
      rw [Int.tmod_eq_emod_of_nonneg hn.1]; exact IntWalk.i64_in _ (by omega)
    have w5 : IntKind.i64.wrap (3 + n.tmod ((B.length : Int) - 3)) = (k : Int) := by rw [Int.tmod_eq_emod_of_nonneg hn.1, show (k : Int) = 3 + n % ((B.length : Int) - 3) by omega]; exact IntWalk.i64_in _ (by omega)
    refine IBody.of Tryd.func6 rfl (by rw [Tryd.ntmps6]; simp) ?_
    rw [Tryd.ntmps6]
    have Kp : Kept [[1,2],[1,2,17]] := ⟨⟩
    iterate 2 (refine Kp.s ?_; clear Kp; intro Kp; simp [go_sem, -getElem?_pos, -List.map_take, -List.map_drop, IntWalk.iteOmega, IntWalk.toNatUp, Draft.val, Draft.cells, dcs, Config.val, Config.cells])
    refine ICalls.then (noneC _) ?_
    try simp [go_sem, -getElem?_pos, -List.map_take, -List.map_drop, IntWalk.iteOmega, IntWalk.toNatUp, Draft.val, Draft.cells, dcs, Config.val, Config.cells]
    refine ICalls.then (shortD' _ d) ?_
    try simp [go_sem, -getElem?_pos, -List.map_take, -List.map_drop, IntWalk.iteOmega, IntWalk.toNatUp, Draft.val, Draft.cells, dcs, Config.val, Config.cells]
    have Kp : Kept [[],[1,2],[1,5]] := ⟨⟩
    iterate 3 (refine Kp.s ?_; clear Kp; intro Kp; simp [go_sem, -getElem?_pos, -List.map_take, -List.map_drop, IntWalk.iteOmega, IntWalk.toNatUp, Draft.val, Draft.cells, dcs, Config.val, Config.cells])
    refine ICalls.then (mk _) ?_
    try simp [go_sem, -getElem?_pos, -List.map_take, -List.map_drop, IntWalk.iteOmega, IntWalk.toNatUp, Draft.val, Draft.cells, dcs, Config.val, Config.cells]
    refine ICalls.then (ce _) ?_
    try simp [go_sem, -getElem?_pos, -List.map_take, -List.map_drop, IntWalk.iteOmega, IntWalk.toNatUp, Draft.val, Draft.cells, dcs, Config.val, Config.cells, cl, w1, w2, w3, w4, w5, e1, show ¬ ((B.length : Int) - 3 = 0) by omega, show (k : Int) ≤ B.length by omega, show k ≤ B.length by omega, ha3, hak]
    have Kp : Kept [[1,6],[6,7],[6,7,9,10]] := ⟨⟩
    iterate 3 (refine Kp.s ?_; clear Kp; intro Kp; simp [go_sem, -getElem?_pos, -List.map_take, -List.map_drop, IntWalk.iteOmega, IntWalk.toNatUp, Draft.val, Draft.cells, dcs, Config.val, Config.cells, cl, w1, w2, w3, w4, w5, e1, show ¬ ((B.length : Int) - 3 = 0) by omega, show (k : Int) ≤ B.length by omega, show k ≤ B.length by omega, ha3, hak])
    refine ICalls.then (c4 _) ?_
    try simp [go_sem, -getElem?_pos, -List.map_take, -List.map_drop, IntWalk.iteOmega, IntWalk.toNatUp, Draft.val, Draft.cells, dcs, Config.val, Config.cells, cl, w1, w2, w3, w4, w5, e1, show ¬ ((B.length : Int) - 3 = 0) by omega, show (k : Int) ≤ B.length by omega, show k ≤ B.length by omega, ha3, hak]
    refine ICalls.then (c5 _) ?_
    try simp [go_sem, -getElem?_pos, -List.map_take, -List.map_drop, IntWalk.iteOmega, IntWalk.toNatUp, Draft.val, Draft.cells, dcs, Config.val, Config.cells, cl, w1, w2, w3, w4, w5, e1, show ¬ ((B.length : Int) - 3 = 0) by omega, show (k : Int) ≤ B.length by omega, show k ≤ B.length by omega, ha3, hak]
    refine IWp.one [4] ?_
    simp [go_sem, -getElem?_pos, -List.map_take, -List.map_drop, IntWalk.iteOmega, IntWalk.toNatUp, Draft.val, Draft.cells, dcs, Config.val, Config.cells, cl, w1, w2, w3, w4, w5, e1, show ¬ ((B.length : Int) - 3 = 0) by omega, show (k : Int) ≤ B.length by omega, show k ≤ B.length by omega, ha3, hak]
    refine ICalls.then (c4 _) ?_
    try simp [go_sem, -getElem?_pos, -List.map_take, -List.map_drop, IntWalk.iteOmega, IntWalk.toNatUp, Draft.val, Draft.cells, dcs, Config.val, Config.cells, cl, w1, w2, w3, w4, w5, e1, show ¬ ((B.length : Int) - 3 = 0) by omega, show (k : Int) ≤ B.length by omega, show k ≤ B.length by omega, ha3, hak]
    refine ICalls.then (c6 _) ?_
    try simp [go_sem, -getElem?_pos, -List.map_take, -List.map_drop, IntWalk.iteOmega, IntWalk.toNatUp, Draft.val, Draft.cells, dcs, Config.val, Config.cells, cl, w1, w2, w3, w4, w5, e1, show ¬ ((B.length : Int) - 3 = 0) by omega, show (k : Int) ≤ B.length by omega, show k ≤ B.length by omega, ha3, hak]
    refine IWp.one [] ?_
    simp [go_sem, -getElem?_pos, -List.map_take, -List.map_drop, IntWalk.iteOmega, IntWalk.toNatUp, Draft.val, Draft.cells, dcs, Config.val, Config.cells, cl, w1, w2, w3, w4, w5, e1, show ¬ ((B.length : Int) - 3 = 0) by omega, show (k : Int) ≤ B.length by omega, show k ≤ B.length by omega, ha3, hak]
  · have dcs := decide_eq_false hs
    refine IBody.of Tryd.func6 rfl (by rw [Tryd.ntmps6]; simp) ?_
    rw [Tryd.ntmps6]
    have Kp : Kept [[1,2],[1,2,17]] := ⟨⟩
    iterate 2 (refine Kp.s ?_; clear Kp; intro Kp; simp [go_sem, -getElem?_pos, -List.map_take, -List.map_drop, IntWalk.iteOmega, IntWalk.toNatUp, Draft.val, Draft.cells, dcs])
    refine ICalls.then (noneC _) ?_
    try simp [go_sem, -getElem?_pos, -List.map_take, -List.map_drop, IntWalk.iteOmega, IntWalk.toNatUp, Draft.val, Draft.cells, dcs]
    refine ICalls.then (shortD' _ d) ?_
    try simp [go_sem, -getElem?_pos, -List.map_take, -List.map_drop, IntWalk.iteOmega, IntWalk.toNatUp, Draft.val, Draft.cells, dcs]
    have Kp : Kept [[],[4]] := ⟨⟩
    iterate 2 (refine Kp.s ?_; clear Kp; intro Kp; simp [go_sem, -getElem?_pos, -List.map_take, -List.map_drop, IntWalk.iteOmega, IntWalk.toNatUp, Draft.val, Draft.cells, dcs])
    refine ICalls.then (noneC _) ?_
    try simp [go_sem, -getElem?_pos, -List.map_take, -List.map_drop, IntWalk.iteOmega, IntWalk.toNatUp, Draft.val, Draft.cells, dcs]
    refine IWp.one [] ?_
    simp [go_sem, -getElem?_pos, -List.map_take, -List.map_drop, IntWalk.iteOmega, IntWalk.toNatUp, Draft.val, Draft.cells, dcs]
end Go.Proofs.YtoecebibhcadoaaDoor.I
