/- Lamps in their order: putting in, sorting, and that there is one sorted order when the conditions differ. No condition. -/
import Derived.Test.YtdimnoeldnfikaaGPanel
import Derived.Shelf.SlSortCmp.Insertion
import Derived.Lib.Small
namespace Go.Proofs.Ytdimnoeldnfikaa.I
open Go Go.RowKit Go.Sort Go.Lib
set_option linter.unusedVariables false

def orS (x y : Int) : Int := if x = 0 then y else x
/-- What the closure answers. -/
def cfL (a b : Lamp) : Int := orS (compareInt b.prio a.prio) (compareInt a.cond b.cond)
/-- a goes ahead of b. -/
def lampLt (a b : Lamp) : Bool := decide (b.prio < a.prio ∨ (a.prio = b.prio ∧ a.cond < b.cond))
theorem ltOf_cfL : ltOf cfL = lampLt := by
  funext a b
  unfold ltOf cfL orS compareInt lampLt
  by_cases h1 : b.prio < a.prio
  · simp [h1]
  · by_cases h2 : a.prio < b.prio
    · simp [h1, h2]; omega
    · have h3 : a.prio = b.prio := by omega
      by_cases h4 : a.cond < b.cond
      · simp [h3, h4]
      · by_cases h5 : b.cond < a.cond <;> simp [h3, h4, h5]
theorem swoL : SWO (ltOf cfL) := by
  rw [ltOf_cfL]
  refine ⟨fun x => ?_, fun x y z h1 h2 => ?_, fun x y z h1 h2 => ?_⟩
  · unfold lampLt; simp
  · unfold lampLt at *; simp only [decide_eq_true_eq] at *; omega
  · unfold lampLt at *; simp only [decide_eq_false_iff_not] at *; omega

/-- A lamp put in ahead of the first one that it goes ahead of. -/
def insL (a : Lamp) : List Lamp → List Lamp
  | [] => [a]
  | y :: l => if lampLt a y = true then a :: y :: l else y :: insL a l
theorem insL_perm (a : Lamp) : ∀ l, (insL a l).Perm (a :: l)
  | [] => .refl _
  | y :: l => by
    unfold insL
    split
    · exact .refl _
    · exact ((insL_perm a l).cons y).trans (List.Perm.swap a y l)
theorem insL_len (a : Lamp) (l : List Lamp) : (insL a l).length = l.length + 1 := (insL_perm a l).length_eq
def ordL (l : List Lamp) : Prop := l.Pairwise fun x y => lampLt y x = false
theorem insL_ord (a : Lamp) : ∀ l, ordL l → ordL (insL a l)
  | [], _ => by simp [insL, ordL]
  | y :: l, h => by
    have hc := List.pairwise_cons.mp h
    unfold insL
    split
    · rename_i hlt
      refine List.pairwise_cons.mpr ⟨fun x hx => ?_, h⟩
      rcases List.mem_cons.mp hx with rfl | hx
      · unfold lampLt at *; simp only [decide_eq_true_eq, decide_eq_false_iff_not] at *; omega
      · have := hc.1 x hx
        unfold lampLt at *; simp only [decide_eq_true_eq, decide_eq_false_iff_not] at *; omega
    · rename_i hlt
      refine List.pairwise_cons.mpr ⟨fun x hx => ?_, insL_ord a l hc.2⟩
      rcases List.mem_cons.mp ((insL_perm a l).mem_iff.mp hx) with rfl | hx
      · simpa using hlt
      · exact hc.1 x hx

theorem ordL_uniq : ∀ (l m : List Lamp), l.Perm m → ordL l → ordL m → (l.map Lamp.cond).Nodup → l = m
  | [], m, h, _, _, _ => (List.nil_perm.mp h).symm
  | a :: t, [], h, _, _, _ => by simpa using h.length_eq
  | a :: t, b :: s, h, h1, h2, hn => by
    have c1 := List.pairwise_cons.mp h1
    have c2 := List.pairwise_cons.mp h2
    have hab : a = b := by
      have ma : a ∈ b :: s := h.mem_iff.mp (by simp)
      have mb : b ∈ a :: t := h.mem_iff.mpr (by simp)
      rcases List.mem_cons.mp ma with e | ma
      · exact e
      · rcases List.mem_cons.mp mb with e | mb
        · exact e.symm
        · have r1 := c1.1 b mb
          have r2 := c2.1 a ma
          have hne : a.cond ≠ b.cond := fun e => by
            rw [List.map_cons, List.nodup_cons] at hn
            exact hn.1 (by rw [e]; exact List.mem_map_of_mem mb)
          unfold lampLt at r1 r2; simp only [decide_eq_false_iff_not] at r1 r2; omega
    subst hab
    rw [List.map_cons, List.nodup_cons] at hn
    rw [ordL_uniq t s (List.Perm.cons_inv h) c1.2 c2.2 hn.2]

def lampOf (x : Light) : Lamp := ⟨x.cond, x.prio, x.life.stage, x.life.on, x.life.acked⟩
/-- Those that are lit, as they come. -/
def litL (L : List Light) : List Lamp := (L.filter fun x => x.life.lit).map lampOf
/-- Those that are lit, in order. -/
def lampsS (L : List Light) : List Lamp := (litL L).foldl (fun o a => insL a o) []

theorem foldl_ins : ∀ (l o : List Lamp), ordL o → (l.foldl (fun o a => insL a o) o).Perm (l ++ o) ∧ ordL (l.foldl (fun o a => insL a o) o)
  | [], o, h => ⟨.refl _, h⟩
  | a :: l, o, h => by
    have ih := foldl_ins l (insL a o) (insL_ord a o h)
    refine ⟨ih.1.trans ?_, ih.2⟩
    exact ((insL_perm a o).append_left l).trans (List.perm_middle)
theorem lampsS_perm (L : List Light) : (lampsS L).Perm (litL L) := by
  have := (foldl_ins (litL L) [] .nil).1
  rwa [List.append_nil] at this
theorem lampsS_ord (L : List Light) : ordL (lampsS L) := (foldl_ins (litL L) [] .nil).2
theorem litL_cond (L : List Light) : ((litL L).map Lamp.cond).Sublist (L.map Light.cond) := by
  unfold litL
  rw [List.map_map]
  exact (List.filter_sublist).map _
theorem litL_nodup {L : List Light} (h : (L.map Light.cond).Nodup) : ((litL L).map Lamp.cond).Nodup := (litL_cond L).nodup h
/-- A sorted order of those that are lit is the one that is told. -/
theorem lampsS_uniq {L : List Light} (hn : (L.map Light.cond).Nodup) {d : List Lamp} (hp : d.Perm (litL L)) (ho : ordL d) : d = lampsS L := by
  have h1 := hp.trans (lampsS_perm L).symm
  refine ordL_uniq _ _ h1 ho (lampsS_ord L) ?_
  exact (hp.map Lamp.cond).nodup_iff.mpr (litL_nodup hn)
theorem litL_perm {L M : List Light} (h : L.Perm M) : (litL L).Perm (litL M) := (h.filter _).map _
theorem lampsS_turned {L M : List Light} (h : L.Perm M) (hn : (M.map Light.cond).Nodup) : lampsS L = lampsS M :=
  lampsS_uniq hn ((lampsS_perm L).trans (litL_perm h)) (lampsS_ord L)
theorem litL_snoc (L : List Light) {i : Nat} (h : i < L.length) : litL (L.take (i + 1)) = if L[i].life.lit = true then litL (L.take i) ++ [lampOf L[i]] else litL (L.take i) := by
  unfold litL
  rw [List.take_succ_eq_append_getElem h, List.filter_append, List.map_append]
  by_cases c : L[i].life.lit = true
  · simp [c]
  · simp [c]
theorem lampsS_snoc (L : List Light) {i : Nat} (h : i < L.length) : lampsS (L.take (i + 1)) = if L[i].life.lit = true then insL (lampOf L[i]) (lampsS (L.take i)) else lampsS (L.take i) := by
  unfold lampsS
  rw [litL_snoc L h]
  split
  · rw [List.foldl_append]; rfl
  · rfl
theorem litL_len (L : List Light) : (litL L).length ≤ L.length := by unfold litL; rw [List.length_map]; exact List.length_filter_le _ _
theorem lampsS_len (L : List Light) : (lampsS L).length ≤ L.length := by rw [(lampsS_perm L).length_eq]; exact litL_len L

/-- Putting in, so far: what has been gone through of the old ones. -/
def partL (a : Lamp) (l : List Lamp) : List Lamp := if l.any (lampLt a) = true then insL a l else l
theorem insL_snoc (a y : Lamp) : ∀ l, insL a (l ++ [y]) = if l.any (lampLt a) = true then insL a l ++ [y] else if lampLt a y = true then l ++ [a, y] else l ++ [y, a]
  | [] => by
    simp only [List.nil_append, insL, List.any_nil, Bool.false_eq_true, if_false]
  | x :: l => by
    have ih := insL_snoc a y l
    rw [List.cons_append]
    unfold insL
    by_cases h : lampLt a x = true
    · simp [h]
    · have e : (x :: l).any (lampLt a) = l.any (lampLt a) := by rw [List.any_cons]; simp [h]
      simp only [e]
      rw [if_neg h, if_neg h, ih]
      cases l.any (lampLt a) with
      | true => rfl
      | false =>
        simp only [Bool.false_eq_true, if_false]
        split <;> rfl
theorem partL_done {a : Lamp} {O : List Lamp} {k : Nat} (hk : k < O.length) (h : (O.take k).any (lampLt a) = true) : (O.take (k + 1)).any (lampLt a) = true ∧ partL a (O.take (k + 1)) = partL a (O.take k) ++ [O[k]] := by
  have e := List.take_succ_eq_append_getElem hk
  have h2 : (O.take (k + 1)).any (lampLt a) = true := by rw [e, List.any_append, h]; rfl
  refine ⟨h2, ?_⟩
  unfold partL
  rw [if_pos h, if_pos h2, e, insL_snoc, if_pos h]
theorem partL_now {a : Lamp} {O : List Lamp} {k : Nat} (hk : k < O.length) (h : (O.take k).any (lampLt a) = false) (hl : lampLt a O[k] = true) : (O.take (k + 1)).any (lampLt a) = true ∧ partL a (O.take (k + 1)) = partL a (O.take k) ++ [a] ++ [O[k]] := by
  have e := List.take_succ_eq_append_getElem hk
  have h2 : (O.take (k + 1)).any (lampLt a) = true := by rw [e, List.any_append]; simp [hl]
  refine ⟨h2, ?_⟩
  unfold partL
  have hf : ¬ (O.take k).any (lampLt a) = true := by rw [h]; exact Bool.false_ne_true
  rw [if_neg hf, if_pos h2, e, insL_snoc, if_neg hf, if_pos hl]; simp
theorem partL_not {a : Lamp} {O : List Lamp} {k : Nat} (hk : k < O.length) (h : (O.take k).any (lampLt a) = false) (hl : lampLt a O[k] = false) : (O.take (k + 1)).any (lampLt a) = false ∧ partL a (O.take (k + 1)) = partL a (O.take k) ++ [O[k]] := by
  have e := List.take_succ_eq_append_getElem hk
  have h2 : (O.take (k + 1)).any (lampLt a) = false := by rw [e, List.any_append, h]; simp [hl]
  refine ⟨h2, ?_⟩
  unfold partL
  rw [if_neg (by rw [h2]; exact Bool.false_ne_true), if_neg (by rw [h]; exact Bool.false_ne_true), e]
theorem partL_end {a : Lamp} {O : List Lamp} : insL a O = if O.any (lampLt a) = true then partL a O else partL a O ++ [a] := by
  unfold partL
  by_cases h : O.any (lampLt a) = true
  · rw [if_pos h, if_pos h]
  · rw [if_neg h, if_neg h]
    induction O with
    | nil => rfl
    | cons y l ih =>
      simp only [List.any_cons, Bool.not_eq_true, Bool.or_eq_false_iff] at h
      unfold insL
      rw [if_neg (by simp [h.1]), ih (by simp [h.2])]; rfl

end Go.Proofs.Ytdimnoeldnfikaa.I
