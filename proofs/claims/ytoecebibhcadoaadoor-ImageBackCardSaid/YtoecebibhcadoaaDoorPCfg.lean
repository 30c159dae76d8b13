/- A configuration as bytes: how it is laid, how it is read. No condition. -/
import Derived.Test.YtoecebibhcadoaaDoorGConf
import Derived.Test.YtoecebibhcadoaaDoorGRead
import Derived.Test.YtoecebibhcadoaaDoorGWrite
namespace Go.Proofs.YtoecebibhcadoaaDoor.I
open Go Go.RowKit
set_option linter.unusedVariables false
set_option linter.unusedSimpArgs false
def flagB (b : Bool) : Int := if b = true then 1 else 0
def sigB (s : Sig) : List Int := i4 s.lo ++ i4 s.hi
def stageB (s : Stage) : List Int := i4 s.wait ++ [s.prio]
def ruleY (r : Rule) : List Int := [r.kind, r.sg % 256] ++ i4 r.lim ++ i4 r.back ++ i4 r.delay ++ i4 r.span ++ [r.prio, flagB r.latch] ++ [(r.stages.length : Int) % 256] ++ r.stages.flatMap stageB
def slotB (l : List Int) : List Int := [(l.length : Int) % 256] ++ l.map fun x => x % 256
def cfgB (c : Config) : List Int := [72, 66, 49] ++ ([(c.sigs.length : Int) % 256] ++ c.sigs.flatMap sigB) ++ ([(c.rules.length : Int) % 256] ++ c.rules.flatMap ruleY) ++ ([(c.table.length : Int) % 256] ++ c.table.flatMap slotB) ++
  [c.b0 % 256, c.b1 % 256, c.b2 % 256] ++ [c.drain % 256] ++ i4 c.pause ++ i4 c.off ++ [flagB c.brk] ++ i4 c.log
def listP {α : Type} (one : Rd → α × Rd) : Nat → Rd → List α × Rd
  | 0, s => ([], s)
  | n + 1, s => if s.e = 0 then ((one s).1 :: (listP one n (one s).2).1, (listP one n (one s).2).2) else ([], s)
def manyP {α : Type} (one : Rd → α × Rd) (s : Rd) : List α × Rd := listP one s.byte.1.toNat s.byte.2
def sigP (s : Rd) : Sig × Rd := (⟨s.int.1, s.int.2.int.1⟩, s.int.2.int.2)
def stageP (s : Rd) : Stage × Rd := (⟨s.int.1, s.int.2.byte.1⟩, s.int.2.byte.2)
def slotP (s : Rd) : List Int × Rd := manyP Rd.byte s
structure Head where
  kind : Int
  sg : Int
  lim : Int
  back : Int
  delay : Int
  span : Int
  prio : Int
  latch : Bool
def headP (s : Rd) : Head × Rd :=
  let a := s.byte; let b := a.2.byte; let c := b.2.int; let d := c.2.int; let e := d.2.int; let f := e.2.int; let g := f.2.byte; let h := g.2.flag
  (⟨a.1, b.1, c.1, d.1, e.1, f.1, g.1, h.1⟩, h.2)
def ruleP (s : Rd) : Rule × Rd :=
  let h := headP s; let l := manyP stageP h.2
  (⟨h.1.kind, h.1.sg, h.1.lim, h.1.back, h.1.delay, h.1.span, h.1.prio, h.1.latch, l.1⟩, l.2)
def cfgP (s : Rd) : Config × Rd :=
  let a := manyP sigP s; let b := manyP ruleP a.2; let c := manyP slotP b.2; let x := c.2.byte; let y := x.2.byte; let z := y.2.byte; let d := z.2.byte; let p := d.2.int; let o := p.2.int; let k := o.2.flag; let l := k.2.int
  (⟨a.1, b.1, c.1, x.1, y.1, z.1, d.1, p.1, o.1, k.1, l.1⟩, l.2)
theorem listP_step {α : Type} (one : Rd → α × Rd) (n : Nat) (s : Rd) (h : s.e = 0) : listP one (n + 1) s = ((one s).1 :: (listP one n (one s).2).1, (listP one n (one s).2).2) := by
  rw [listP, if_pos h]
theorem listP_stop {α : Type} (one : Rd → α × Rd) (n : Nat) (s : Rd) (h : ¬ s.e = 0) : listP one n s = ([], s) := by
  cases n with
  | zero => rfl
  | succ n => rw [listP, if_neg h]
theorem listP_ok {α : Type} (one : Rd → α × Rd) (h1 : ∀ s, s.ok → (one s).2.ok) : ∀ (n : Nat) (s : Rd), s.ok → (listP one n s).2.ok
  | 0, s, h => h
  | n + 1, s, h => by
    by_cases he : s.e = 0
    · rw [listP_step one n s he]; exact listP_ok one h1 n _ (h1 s h)
    · rw [listP_stop one _ s he]; exact h
theorem manyP_ok {α : Type} (one : Rd → α × Rd) (h1 : ∀ s, s.ok → (one s).2.ok) (s : Rd) (h : s.ok) : (manyP one s).2.ok := listP_ok one h1 _ _ (Rd.byte_ok h)
theorem sigP_ok (s : Rd) (h : s.ok) : (sigP s).2.ok := Rd.int_ok (Rd.int_ok h)
theorem stageP_ok (s : Rd) (h : s.ok) : (stageP s).2.ok := Rd.byte_ok (Rd.int_ok h)
theorem slotP_ok (s : Rd) (h : s.ok) : (slotP s).2.ok := manyP_ok _ (fun _ h => Rd.byte_ok h) s h
theorem headP_ok (s : Rd) (h : s.ok) : (headP s).2.ok := Rd.flag_ok (Rd.byte_ok (Rd.int_ok (Rd.int_ok (Rd.int_ok (Rd.int_ok (Rd.byte_ok (Rd.byte_ok h)))))))
theorem ruleP_ok (s : Rd) (h : s.ok) : (ruleP s).2.ok := manyP_ok _ stageP_ok _ (headP_ok s h)
theorem cfgP_ok (s : Rd) (h : s.ok) : (cfgP s).2.ok :=
  Rd.int_ok (Rd.flag_ok (Rd.int_ok (Rd.int_ok (Rd.byte_ok (Rd.byte_ok (Rd.byte_ok (Rd.byte_ok (manyP_ok _ slotP_ok _ (manyP_ok _ ruleP_ok _ (manyP_ok _ sigP_ok s h))))))))))
structure Shift (k : Nat) (s t : Rd) : Prop where
  l : s.L = t.L.drop k
  pos : t.pos = s.pos + k
  e : t.e = s.e
  k : k ≤ t.L.length
theorem Shift.ready {k : Nat} {s t : Rd} (h : Shift k s t) (n : Nat) : Shift k (s.ready n) (t.ready n) := by
  unfold Rd.ready
  have hl : s.L.length = t.L.length - k := by rw [h.l]; simp
  have := h.pos; have := h.k; have := h.e
  by_cases c : s.e = 0 ∧ s.L.length < s.pos + n
  · rw [if_pos c, if_pos (by omega)]; exact ⟨h.l, h.pos, rfl, h.k⟩
  · rw [if_neg c, if_neg (by omega)]; exact h
theorem Shift.at_ {k : Nat} {s t : Rd} (h : Shift k s t) (i : Nat) : t.at_ i = s.at_ i := by
  unfold Rd.at_
  rw [h.l, h.pos, List.getD_eq_getElem?_getD, List.getD_eq_getElem?_getD, List.getElem?_drop]
  rw [show k + (s.pos + i) = s.pos + k + i by omega]
theorem Shift.move {k : Nat} {s t : Rd} (h : Shift k s t) (n : Nat) : Shift k { s with pos := s.pos + n } { t with pos := t.pos + n } := ⟨h.l, by have := h.pos; show t.pos + n = s.pos + n + k; omega, h.e, h.k⟩
theorem Shift.byte {k : Nat} {s t : Rd} (h : Shift k s t) : t.byte.1 = s.byte.1 ∧ Shift k s.byte.2 t.byte.2 := by
  have hr := h.ready 1
  unfold Rd.byte
  rw [hr.e]
  by_cases c : (s.ready 1).e = 0
  · rw [if_pos c, if_pos c]; exact ⟨h.at_ 0, h.move 1⟩
  · rw [if_neg c, if_neg c]; exact ⟨rfl, hr⟩
theorem Shift.int {k : Nat} {s t : Rd} (h : Shift k s t) : t.int.1 = s.int.1 ∧ Shift k s.int.2 t.int.2 := by
  have hr := h.ready 4
  unfold Rd.int
  rw [hr.e]
  by_cases c : (s.ready 4).e = 0
  · rw [if_pos c, if_pos c]; exact ⟨by simp only [h.at_], h.move 4⟩
  · rw [if_neg c, if_neg c]; exact ⟨rfl, hr⟩
theorem Shift.flag {k : Nat} {s t : Rd} (h : Shift k s t) : t.flag.1 = s.flag.1 ∧ Shift k s.flag.2 t.flag.2 := by
  have hr := h.ready 1
  unfold Rd.flag
  rw [hr.e, h.at_ 0]
  by_cases c : (s.ready 1).e = 0
  · rw [if_pos c, if_pos c]
    by_cases c2 : 1 < s.at_ 0
    · rw [if_pos c2, if_pos c2]; exact ⟨rfl, ⟨h.l, h.pos, rfl, h.k⟩⟩
    · rw [if_neg c2, if_neg c2]; exact ⟨rfl, h.move 1⟩
  · rw [if_neg c, if_neg c]; exact ⟨rfl, hr⟩
def Shifts {α : Type} (one : Rd → α × Rd) : Prop := ∀ k s t, Shift k s t → (one t).1 = (one s).1 ∧ Shift k (one s).2 (one t).2
theorem listP_shift {α : Type} {one : Rd → α × Rd} (ho : Shifts one) : ∀ n, Shifts (listP one n)
  | 0, k, s, t, h => ⟨rfl, h⟩
  | n + 1, k, s, t, h => by
    by_cases c : s.e = 0
    · have c' : t.e = 0 := by rw [h.e]; exact c
      obtain ⟨h1, h2⟩ := ho k s t h
      obtain ⟨h3, h4⟩ := listP_shift ho n k _ _ h2
      rw [listP_step one n s c, listP_step one n t c']
      exact ⟨by rw [h1, h3], h4⟩
    · have c' : ¬ t.e = 0 := by rw [h.e]; exact c
      rw [listP_stop one _ s c, listP_stop one _ t c']
      exact ⟨rfl, h⟩
theorem byte_shift : Shifts Rd.byte := fun k s t h => h.byte
theorem manyP_shift {α : Type} {one : Rd → α × Rd} (ho : Shifts one) : Shifts (manyP one) := fun k s t h => by
  obtain ⟨h1, h2⟩ := h.byte
  unfold manyP
  rw [h1]
  exact listP_shift ho _ k _ _ h2
theorem sigP_shift : Shifts sigP := fun k s t h => by
  obtain ⟨h1, h2⟩ := h.int
  obtain ⟨h3, h4⟩ := h2.int
  exact ⟨by unfold sigP; rw [h1, h3], h4⟩
theorem stageP_shift : Shifts stageP := fun k s t h => by
  obtain ⟨h1, h2⟩ := h.int
  obtain ⟨h3, h4⟩ := h2.byte
  exact ⟨by unfold stageP; rw [h1, h3], h4⟩
theorem slotP_shift : Shifts slotP := manyP_shift byte_shift
theorem headP_shift : Shifts headP := fun k s t h => by
  obtain ⟨a1, a2⟩ := h.byte
  obtain ⟨b1, b2⟩ := a2.byte
  obtain ⟨c1, c2⟩ := b2.int
  obtain ⟨d1, d2⟩ := c2.int
  obtain ⟨e1, e2⟩ := d2.int
  obtain ⟨f1, f2⟩ := e2.int
  obtain ⟨g1, g2⟩ := f2.byte
  obtain ⟨h1, h2⟩ := g2.flag
  exact ⟨by unfold headP; simp only [a1, b1, c1, d1, e1, f1, g1, h1], h2⟩
theorem ruleP_shift : Shifts ruleP := fun k s t h => by
  obtain ⟨h1, h2⟩ := headP_shift k s t h
  obtain ⟨h3, h4⟩ := manyP_shift stageP_shift k _ _ h2
  exact ⟨by unfold ruleP; simp only [h1, h3], h4⟩
theorem cfgP_shift : Shifts cfgP := fun k s t h => by
  obtain ⟨a1, a2⟩ := manyP_shift sigP_shift k s t h
  obtain ⟨b1, b2⟩ := manyP_shift ruleP_shift k _ _ a2
  obtain ⟨c1, c2⟩ := manyP_shift slotP_shift k _ _ b2
  obtain ⟨x1, x2⟩ := c2.byte
  obtain ⟨y1, y2⟩ := x2.byte
  obtain ⟨z1, z2⟩ := y2.byte
  obtain ⟨d1, d2⟩ := z2.byte
  obtain ⟨p1, p2⟩ := d2.int
  obtain ⟨o1, o2⟩ := p2.int
  obtain ⟨k1, k2⟩ := o2.flag
  obtain ⟨l1, l2⟩ := k2.int
  exact ⟨by unfold cfgP; simp only [a1, b1, c1, x1, y1, z1, d1, p1, o1, k1, l1], l2⟩
theorem Shift.ending {k : Nat} {s t : Rd} (h : Shift k s t) (hs : s.ok) : (t.ending.2 = s.ending.2) ∧ (¬ s.ending.2 = 0 → t.ending.1 = s.ending.1 + k) := by
  have hl : s.L.length = t.L.length - k := by rw [h.l]; simp
  have := h.pos; have := h.k; have := h.e; have := hs.1
  have hleft : t.left = s.left := by
    unfold Rd.left
    rw [h.e, h.pos]
    split
    · omega
    · rfl
  unfold Rd.ending Rd.fault
  rw [hleft, h.e, h.pos]
  constructor
  · split
    · rfl
    · split <;> rfl
  · split
    · intro _; simp
    · split
      · intro h; exact absurd rfl h
      · intro _; simp
end Go.Proofs.YtoecebibhcadoaaDoor.I
