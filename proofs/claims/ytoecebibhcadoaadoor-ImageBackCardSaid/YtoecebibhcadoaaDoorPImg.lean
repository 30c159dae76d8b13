/- An image read back: what is laid is read as it was; an image that ends too soon. No condition. -/
import Derived.Test.YtoecebibhcadoaaDoorGImgE
import Derived.Test.YtoecebibhcadoaaDoorGImgF
namespace Go.Proofs.YtoecebibhcadoaaDoor.I
open Go Go.RowKit
set_option linter.unusedVariables false
set_option linter.unusedSimpArgs false
theorem be4_i (n : Int) (h : -2147483648 ≤ n ∧ n < 2147483648) : be4 (n / 16777216 % 256) (n / 65536 % 256) (n / 256 % 256) (n % 256) = n := by
  unfold be4; split <;> omega
def At (s : Rd) (A : List Int) : Prop := s.e = 0 ∧ s.pos ≤ s.L.length ∧ s.L.drop s.pos = A
def Rd.adv (s : Rd) (n : Nat) : Rd := { s with pos := s.pos + n }
section
variable {s : Rd} {A B : List Int}
theorem At.len (h : At s A) : s.L.length = s.pos + A.length := by
  have := congrArg List.length h.2.2
  simp at this; have := h.2.1; omega
theorem At.get (h : At s A) {i : Nat} (hi : i < A.length) : s.at_ i = A.getD i 0 := by
  have e := h.2.2
  unfold Rd.at_
  rw [← e]
  simp [List.getD_eq_getElem?_getD, List.getElem?_drop]
theorem At.adv (h : At s (B ++ A)) {n : Nat} (hn : n = B.length) : At (s.adv n) A := by
  have hl := h.len
  rw [List.length_append] at hl
  subst hn
  exact ⟨h.1, by show s.pos + B.length ≤ s.L.length; omega, by show s.L.drop (s.pos + B.length) = A; rw [← List.drop_drop, h.2.2, List.drop_left]⟩
theorem At.byte {x : Int} (h : At s (x :: A)) : s.byte = (x, s.adv 1) ∧ At (s.adv 1) A := by
  have hl := h.len
  rw [List.length_cons] at hl
  have g := h.get (i := 0) (by simp)
  refine ⟨?_, At.adv (B := [x]) h rfl⟩
  rw [Rd.byte_eq h.1 (by omega), g]; rfl
theorem At.int {n : Int} (h : At s (i4 n ++ A)) (hn : -2147483648 ≤ n ∧ n < 2147483648) : s.int = (n, s.adv 4) ∧ At (s.adv 4) A := by
  have hl := h.len
  rw [List.length_append, i4_len] at hl
  have g0 := h.get (i := 0) (by simp [i4])
  have g1 := h.get (i := 1) (by simp [i4])
  have g2 := h.get (i := 2) (by simp [i4])
  have g3 := h.get (i := 3) (by simp [i4])
  refine ⟨?_, At.adv (B := i4 n) h rfl⟩
  rw [Rd.int_eq h.1 (by omega), g0, g1, g2, g3]
  simp only [i4, List.cons_append, List.getD_cons_zero, List.getD_cons_succ]
  rw [be4_i n hn]; rfl
theorem At.flag {b : Bool} (h : At s (flagB b :: A)) : s.flag = (b, s.adv 1) ∧ At (s.adv 1) A := by
  have hl := h.len
  rw [List.length_cons] at hl
  have g := h.get (i := 0) (by simp)
  rw [List.getD_cons_zero] at g
  refine ⟨?_, At.adv (B := [flagB b]) h rfl⟩
  rw [Rd.flag_eq h.1 (by omega) (by rw [g]; unfold flagB; split <;> omega), g]
  cases b <;> rfl
end
def Reads {α : Type} (one : Rd → α × Rd) (enc : α → List Int) (ok : α → Prop) : Prop := ∀ x s A, ok x → At s (enc x ++ A) → ∃ n, one s = (x, s.adv n) ∧ At (s.adv n) A
theorem adv_adv (s : Rd) (a b : Nat) : (s.adv a).adv b = s.adv (a + b) := by unfold Rd.adv; simp [Nat.add_assoc]
theorem adv_zero (s : Rd) : s.adv 0 = s := rfl
theorem reads_list {α : Type} {one : Rd → α × Rd} {enc : α → List Int} {ok : α → Prop} (h1 : Reads one enc ok) : ∀ (l : List α) (s : Rd) (A : List Int), (∀ x ∈ l, ok x) → At s (l.flatMap enc ++ A) → ∃ n, listP one l.length s = (l, s.adv n) ∧ At (s.adv n) A
  | [], s, A, _, h => ⟨0, rfl, h⟩
  | x :: l, s, A, hx, h => by
    rw [List.flatMap_cons, List.append_assoc] at h
    obtain ⟨n, e1, h2⟩ := h1 x s _ (hx x (List.mem_cons_self ..)) h
    obtain ⟨m, e2, h3⟩ := reads_list h1 l _ A (fun y hy => hx y (List.mem_cons_of_mem _ hy)) h2
    rw [adv_adv] at e2 h3
    refine ⟨n + m, ?_, h3⟩
    rw [List.length_cons, listP_step one _ _ h.1, e1]
    simp only [e2]
theorem reads_many {α : Type} {one : Rd → α × Rd} {enc : α → List Int} {ok : α → Prop} (h1 : Reads one enc ok) (l : List α) (s : Rd) (A : List Int) (hl : l.length ≤ 255) (hx : ∀ x ∈ l, ok x) (h : At s ([(l.length : Int) % 256] ++ l.flatMap enc ++ A)) :
    ∃ n, manyP one s = (l, s.adv n) ∧ At (s.adv n) A := by
  rw [List.append_assoc] at h
  obtain ⟨e1, h2⟩ := At.byte h
  obtain ⟨m, e2, h3⟩ := reads_list h1 l _ A hx h2
  rw [adv_adv] at e2 h3
  refine ⟨1 + m, ?_, h3⟩
  unfold manyP
  rw [e1, show ((l.length : Int) % 256) = l.length by omega]
  simpa using e2
def I32 (n : Int) : Prop := -2147483648 ≤ n ∧ n < 2147483648
def FitS (s : Sig) : Prop := I32 s.lo ∧ I32 s.hi
def FitG (s : Stage) : Prop := I32 s.wait
def FitR (r : Rule) : Prop := (0 ≤ r.sg ∧ r.sg < 256) ∧ I32 r.lim ∧ I32 r.back ∧ I32 r.delay ∧ I32 r.span ∧ r.stages.length ≤ 255 ∧ ∀ x ∈ r.stages, FitG x
def FitT (l : List Int) : Prop := l.length ≤ 255 ∧ ∀ x ∈ l, 0 ≤ x ∧ x < 256
structure Fit (c : Config) : Prop where
  s : c.sigs.length ≤ 255 ∧ ∀ x ∈ c.sigs, FitS x
  r : c.rules.length ≤ 255 ∧ ∀ x ∈ c.rules, FitR x
  t : c.table.length ≤ 255 ∧ ∀ x ∈ c.table, FitT x
  b : (0 ≤ c.b0 ∧ c.b0 < 256) ∧ (0 ≤ c.b1 ∧ c.b1 < 256) ∧ (0 ≤ c.b2 ∧ c.b2 < 256) ∧ (0 ≤ c.drain ∧ c.drain < 256)
  n : I32 c.pause ∧ I32 c.off ∧ I32 c.log
theorem reads_sig : Reads sigP sigB FitS := fun x s A hx h => by
  unfold sigB at h
  rw [List.append_assoc] at h
  obtain ⟨e1, h1⟩ := h.int hx.1
  obtain ⟨e2, h2⟩ := h1.int hx.2
  rw [adv_adv] at e2 h2
  refine ⟨8, ?_, h2⟩
  unfold sigP
  simp only [e1, e2]
theorem reads_stage : Reads stageP stageB FitG := fun x s A hx h => by
  unfold stageB at h
  rw [List.append_assoc] at h
  obtain ⟨e1, h1⟩ := h.int hx
  obtain ⟨e2, h2⟩ := At.byte h1
  rw [adv_adv] at e2 h2
  refine ⟨5, ?_, h2⟩
  unfold stageP
  simp only [e1, e2]
theorem reads_entry : Reads Rd.byte (fun x => [x % 256]) (fun x => 0 ≤ x ∧ x < 256) := fun x s A hx h => by
  have h : At s (x % 256 :: A) := h
  rw [show x % 256 = x by omega] at h
  obtain ⟨e, h1⟩ := At.byte h
  exact ⟨1, e, h1⟩
theorem reads_slot : Reads slotP slotB FitT := fun x s A hx h => by
  unfold slotB at h
  rw [← flat_one (fun x => x % 256)] at h
  exact reads_many reads_entry x s A hx.1 hx.2 h
theorem reads_rule : Reads ruleP ruleY FitR := fun x s A hx h => by
  obtain ⟨h1, h2, h3, h4, h5, h6, h7⟩ := hx
  unfold ruleY at h
  simp only [List.append_assoc, List.cons_append, List.nil_append] at h
  obtain ⟨e1, a1⟩ := At.byte h
  obtain ⟨e2, a2⟩ := At.byte a1
  obtain ⟨e3, a3⟩ := a2.int h2
  obtain ⟨e4, a4⟩ := a3.int h3
  obtain ⟨e5, a5⟩ := a4.int h4
  obtain ⟨e6, a6⟩ := a5.int h5
  obtain ⟨e7, a7⟩ := At.byte a6
  obtain ⟨e8, a8⟩ := At.flag a7
  obtain ⟨m, e9, a9⟩ := reads_many reads_stage x.stages _ A h6 h7 (by simpa using a8)
  simp only [adv_adv] at e2 e3 e4 e5 e6 e7 e8 e9 a9
  refine ⟨_, ?_, a9⟩
  unfold ruleP headP
  simp only [e1, e2, e3, e4, e5, e6, e7, e8, e9, show x.sg % 256 = x.sg by omega]
theorem reads_cfg {c : Config} (hc : Fit c) {s : Rd} (h : At s ((cfgB c).drop 3)) : ∃ t, cfgP s = (c, t) ∧ At t [] := by
  obtain ⟨⟨s1, s2⟩, ⟨r1, r2⟩, ⟨t1, t2⟩, ⟨b1, b2, b3, b4⟩, n1, n2, n3⟩ := hc
  have h : At s (([(c.sigs.length : Int) % 256] ++ c.sigs.flatMap sigB) ++ (([(c.rules.length : Int) % 256] ++ c.rules.flatMap ruleY) ++ (([(c.table.length : Int) % 256] ++ c.table.flatMap slotB) ++
    (c.b0 % 256 :: c.b1 % 256 :: c.b2 % 256 :: c.drain % 256 :: (i4 c.pause ++ (i4 c.off ++ (flagB c.brk :: (i4 c.log ++ []))))))))  := by
    have e : (cfgB c).drop 3 = ([(c.sigs.length : Int) % 256] ++ c.sigs.flatMap sigB) ++ (([(c.rules.length : Int) % 256] ++ c.rules.flatMap ruleY) ++ (([(c.table.length : Int) % 256] ++ c.table.flatMap slotB) ++
      (c.b0 % 256 :: c.b1 % 256 :: c.b2 % 256 :: c.drain % 256 :: (i4 c.pause ++ (i4 c.off ++ (flagB c.brk :: (i4 c.log ++ []))))))) := by unfold cfgB; simp
    rw [e] at h; exact h
  obtain ⟨m1, e1, a1⟩ := reads_many reads_sig c.sigs _ _ s1 s2 h
  obtain ⟨m2, e2, a2⟩ := reads_many reads_rule c.rules _ _ r1 r2 a1
  obtain ⟨m3, e3, a3⟩ := reads_many reads_slot c.table _ _ t1 t2 a2
  obtain ⟨e4, a4⟩ := At.byte a3
  obtain ⟨e5, a5⟩ := At.byte a4
  obtain ⟨e6, a6⟩ := At.byte a5
  obtain ⟨e7, a7⟩ := At.byte a6
  obtain ⟨e8, a8⟩ := a7.int n1
  obtain ⟨e9, a9⟩ := a8.int n2
  obtain ⟨e10, a10⟩ := At.flag a9
  obtain ⟨e11, a11⟩ := a10.int n3
  refine ⟨_, ?_, a11⟩
  unfold cfgP
  simp only [e1, e2, e3, e4, e5, e6, e7, e8, e9, e10, e11, show c.b0 % 256 = c.b0 by omega, show c.b1 % 256 = c.b1 by omega, show c.b2 % 256 = c.b2 by omega, show c.drain % 256 = c.drain by omega]
theorem At.ending {s : Rd} (h : At s []) : s.ending.2 = 0 := by
  have hl := h.len
  simp at hl
  unfold Rd.ending Rd.left Rd.fault
  rw [if_pos h.1, if_neg (by omega), if_pos h.1]
theorem opened_closedI (L : List Int) : opened (closed L) = (L, 0) := by
  have h1 : (closed L).length = L.length + 2 := by simp [closed]
  have h2 : (closed L).take ((closed L).length - 2) = L := by rw [h1]; simp [closed]
  unfold opened
  rw [if_neg (by omega), h2, if_pos rfl]
theorem decP_back {c : Config} (hc : Fit c) : decP (closed (cfgB c)) = (c, 0, 0) := by
  have h3 : (cfgB c).take 3 = [72, 66, 49] := by unfold cfgB; simp
  obtain ⟨t, e, ht⟩ := reads_cfg hc (s := ⟨(cfgB c).drop 3, 0, 0⟩) ⟨rfl, Nat.zero_le _, by simp⟩
  unfold decP
  rw [opened_closedI]
  rw [if_neg (by simp), if_neg (by simp [h3])]
  simp only [e]
  rw [if_neg (by simp [ht.ending])]
theorem decP_nil : decP [] = (cfgZ, 0, 4) := by
  have : opened [] = ([], 4) := by unfold opened; simp
  unfold decP
  rw [this]; simp
end Go.Proofs.YtoecebibhcadoaaDoor.I
