/- Arguments that can be read as data, as an ideal heap that may only be read. No condition. -/
import Derived.Test.YtoecebibhcadoaaDoorIRules
import Derived.Deep.Slices
import Derived.ChangeShapes
import Derived.WideShapes
namespace Go.Proofs.YtoecebibhcadoaaDoor.I
open Go Go.RowKit
set_option linter.unusedVariables false
set_option linter.unusedSimpArgs false
inductive Ty where
  | bool | int (k : IntKind) | str | row (e : Ty) (sz : Nat) | recd (fs : List Ty)
inductive Dt where
  | b (b : Bool) | i (n : Int) | s (s : ByteArray) | l (xs : List Dt) | r (xs : List Dt)
mutual
def isTy (P : Program) : Ty → TypeId → Bool
  | .bool, t => match P.underlying t with | some .bool => true | _ => false
  | .int k, t => match P.underlying t with | some (.int k') => decide (k = k') | _ => false
  | .str, t => match P.underlying t with | some .string => true | _ => false
  | .row e sz, t => match P.underlying t with | some (.slice e') => isTy P e e' && P.cellsOf e' == sz && sz != 0 | _ => false
  | .recd fs, t => match P.underlying t with | some (.struct fields) => isTys P fs fields.toList 0 (P.cellsOf t) | _ => false
def isTys (P : Program) : List Ty → List Field → Nat → Nat → Bool
  | [], [], off, n => off == n
  | T :: Ts, f :: fs, off, n => isTy P T f.type && f.offset == off && isTys P Ts fs (off + P.cellsOf f.type) n
  | _, _, _, _ => false
end
def Ty.isRec : Ty → Bool
  | .recd _ => true
  | _ => false
mutual
inductive Lay : Ty → Dt → List Value → Prop
  | bool (b : Bool) : Lay .bool (.b b) [.bool b]
  | int {k : IntKind} {n : Int} (h : (Lit.int k n).wf = true) : Lay (.int k) (.i n) [.int k n]
  | str {s : ByteArray} (h : s.size ≤ maxLen) : Lay .str (.s s) [.string s]
  | row {e : Ty} {sz : Nat} {xs : List Dt} {vs : List Value} (hm : xs.length ≤ maxLen) (hs : LayS e xs vs) : Lay (.row e sz) (.l xs) [frow sz 0 vs]
  | recd {fs : List Ty} {xs : List Dt} {css : List (List Value)} (h : LayF fs xs css) : Lay (.recd fs) (.r xs) css.flatten
inductive LayS : Ty → List Dt → List Value → Prop
  | nil (e : Ty) : LayS e [] []
  | recs {e : Ty} {x : Dt} {xs : List Dt} {cs vs : List Value} (hr : e.isRec = true) (h : Lay e x cs) (hs : LayS e xs vs) : LayS e (x :: xs) (.agg ⟨cs⟩ :: vs)
  | one {e : Ty} {x : Dt} {xs : List Dt} {v : Value} {vs : List Value} (hr : e.isRec = false) (h : Lay e x [v]) (hs : LayS e xs vs) : LayS e (x :: xs) (v :: vs)
inductive LayF : List Ty → List Dt → List (List Value) → Prop
  | nil : LayF [] [] []
  | cons {T : Ty} {Ts : List Ty} {x : Dt} {xs : List Dt} {c : List Value} {css : List (List Value)} (h : Lay T x c) (hs : LayF Ts xs css) : LayF (T :: Ts) (x :: xs) (c :: css)
end
theorem LayS.length : ∀ {e : Ty} {xs : List Dt} {vs : List Value}, LayS e xs vs → xs.length = vs.length
  | _, _, _, .nil e => rfl
  | _, _, _, .recs _ _ hs => by simp [LayS.length hs]
  | _, _, _, .one _ _ hs => by simp [LayS.length hs]
def Ren.all (W : World) : Ren := ⟨fun _ => none, fun q i v => W.cell? ⟨q, i, none⟩ = some v⟩
theorem HR.start (W : World) (hp : Pin W.heap.size W) : HR W.heap.size W (Ren.all W) Heap.empty W :=
  ⟨Below.refl _ _, Nat.le_refl _, (fun _ _ h => by cases h), (fun _ _ _ _ h => by cases h), (fun _ _ h => by cases h), (fun _ _ _ _ _ _ _ _ _ _ _ h => by cases h), (fun _ _ _ h => h), (fun _ _ _ _ _ h => by cases h), (fun _ h => by cases h), hp⟩
def Opens (W : World) (T : Ty) (cs : List Value) : Prop := ∃ (d : Dt) (ics : List Value), VRL (Ren.all W) ics cs ∧ Lay T d ics
section
variable {HH : Type} {enc : TypeId × Value → HH} {P : Program} {W : World}
theorem VRL.flat {ρ : Ren} {cs : List Value} (h : cs.all plain0 = true) : VRL ρ cs cs := VRL.of_plain0 h
theorem opensF : ∀ (fs : List Field) (Ts : List Ty) (off n : Nat) (cs : List Value) (xs : List (DataW HH × List MemPlace)) (fuel : Nat), isTys P Ts fs off n = true → cs.length = n →
    (∀ T t c x, isTy P T t = true → DataW.trod enc P W 0 (fun _ => true) true fuel t c = some x → Opens W T c) →
    fs.mapM (fun f => DataW.trod enc P W 0 (fun _ => true) true fuel f.type ((cs.drop f.offset).take (P.cellsOf f.type))) = some xs →
    ∃ (ds : List Dt) (css : List (List Value)), VRL (Ren.all W) css.flatten (cs.drop off) ∧ LayF Ts ds css
  | [], [], off, n, cs, xs, fuel, ht, hl, ih, h => by
    simp only [isTys, beq_iff_eq] at ht
    refine ⟨[], [], ?_, .nil⟩
    rw [List.drop_of_length_le (by omega)]; exact .nil
  | f :: fs, T :: Ts, off, n, cs, xs, fuel, ht, hl, ih, h => by
    simp only [isTys, Bool.and_eq_true, beq_iff_eq] at ht
    obtain ⟨⟨ht1, ht2⟩, ht3⟩ := ht
    simp only [List.mapM_cons, Option.bind_eq_bind, Option.pure_def] at h
    obtain ⟨x, hx, h⟩ := Option.bind_eq_some_iff.mp h
    obtain ⟨ys, hys, h⟩ := Option.bind_eq_some_iff.mp h
    obtain ⟨d, ics, a4, a5⟩ := ih T f.type _ x ht1 hx
    obtain ⟨ds, css, b4, b5⟩ := opensF fs Ts (off + P.cellsOf f.type) n cs ys fuel ht3 hl ih hys
    refine ⟨d :: ds, ics :: css, ?_, .cons a5 b5⟩
    rw [List.flatten_cons]
    have e : cs.drop off = (cs.drop off).take (P.cellsOf f.type) ++ cs.drop (off + P.cellsOf f.type) := by
      rw [← List.drop_drop, List.take_append_drop]
    rw [e]
    rw [ht2] at a4
    exact VRL.append a4 b4
  | [], _ :: _, off, n, cs, xs, fuel, ht, hl, ih, h => by simp [isTys] at ht
  | _ :: _, [], off, n, cs, xs, fuel, ht, hl, ih, h => by simp [isTys] at ht
theorem Lay.one_cells {T : Ty} {d : Dt} {v : Value} (hr : T.isRec = false) (h : Lay T d [v]) : v.cells.toList = [v] := by
  generalize hc : [v] = cs at h
  cases h with
  | recd h => cases hr
  | _ => cases hc; rfl
theorem Lay.one_of {T : Ty} {d : Dt} {cs : List Value} (hr : T.isRec = false) (h : Lay T d cs) : ∃ v, cs = [v] := by
  cases h <;> first | exact ⟨_, rfl⟩ | cases hr
theorem opensS {T : Ty} {t : Nat} {fuel : Nat} (hty : isTy P T t = true) (ih : ∀ T t c x, isTy P T t = true → DataW.trod enc P W 0 (fun _ => true) true fuel t c = some x → Opens W T c) : ∀ (m : Nat) (C : Nat → List Value),
    (∀ i, i < m → ∃ x, DataW.trod enc P W 0 (fun _ => true) true fuel t (C i) = some x) →
    ∃ (ds : List Dt) (vs : List Value), vs.length = m ∧ LayS T ds vs ∧ ∀ (i : Nat) (v : Value), vs[i]? = some v → VRL (Ren.all W) v.cells.toList (C i)
  | 0, C, _ => ⟨[], [], rfl, .nil T, fun i v h => by simp at h⟩
  | m + 1, C, h => by
    obtain ⟨ds, vs, a4, a5, a6⟩ := opensS hty ih m (fun i => C (i + 1)) (fun i hi => h (i + 1) (by omega))
    obtain ⟨x, hx⟩ := h 0 (by omega)
    obtain ⟨d, ics, b4, b5⟩ := ih T t (C 0) x hty hx
    by_cases hr : T.isRec = true
    · refine ⟨d :: ds, .agg ⟨ics⟩ :: vs, by simp [a4], .recs hr b5 a5, fun i v e => ?_⟩
      cases i with
      | zero => simp only [List.getElem?_cons_zero, Option.some.injEq] at e; subst e; exact b4
      | succ i => exact a6 i v (by simpa using e)
    · have hr : T.isRec = false := by simpa using hr
      obtain ⟨u, rfl⟩ := b5.one_of hr
      refine ⟨d :: ds, u :: vs, by simp [a4], .one hr b5 a5, fun i v e => ?_⟩
      cases i with
      | zero => simp only [List.getElem?_cons_zero, Option.some.injEq] at e; subst e; rw [b5.one_cells hr]; exact b4
      | succ i => exact a6 i v (by simpa using e)
theorem block_of_cell {q o : Nat} {v : Value} (h : W.cell? ⟨q, o, none⟩ = some v) : ∃ c T fr, W.heap[q]? = some (.cells c T fr) ∧ o < c.size := by
  unfold World.cell? at h
  split at h
  · rename_i c T fr hq
    simp only [Option.isSome_none, Bool.false_eq_true, if_false] at h
    refine ⟨c, T, fr, hq, ?_⟩
    rcases Nat.lt_or_ge o c.size with h' | h'
    · exact h'
    · rw [Array.getElem?_eq_none h'] at h; cases h
  · cases h
theorem opens : ∀ (fuel : Nat) (T : Ty) (t : TypeId) (cs : List Value) (x : DataW HH × List MemPlace), isTy P T t = true → DataW.trod enc P W 0 (fun _ => true) true fuel t cs = some x → Opens W T cs
  | 0, T, t, cs, x, ht, h => by simp [DataW.trod] at h
  | fuel + 1, T, t, cs, x, ht, h => by
    cases T with
    | bool =>
      simp only [isTy] at ht
      split at ht <;> try (cases ht)
      rename_i hu
      obtain ⟨b, rfl, _⟩ := DataW.trod_bool hu h
      exact ⟨.b b, _, VRL.flat rfl, .bool b⟩
    | int k =>
      simp only [isTy] at ht
      split at ht <;> try (cases ht)
      rename_i k' hu
      obtain rfl : k = k' := by simpa using ht
      obtain ⟨n, rfl, _, hw⟩ := DataW.trod_int hu h
      exact ⟨.i n, _, VRL.flat rfl, .int hw⟩
    | str =>
      simp only [isTy] at ht
      split at ht <;> try (cases ht)
      rename_i hu
      have : ∃ s, cs = [.string s] ∧ s.size ≤ maxLen := by
        unfold DataW.trod at h
        simp only [hu] at h
        split at h <;> first
          | (rename_i e; cases e; done)
          | (rename_i e _; cases e; done)
          | (rename_i e _ _; cases e; done)
          | (split at h
             · exact ⟨_, rfl, by assumption⟩
             · cases h)
          | cases h
      obtain ⟨s, rfl, hs⟩ := this
      exact ⟨.s s, _, VRL.flat rfl, .str hs⟩
    | row e sz =>
      simp only [isTy] at ht
      split at ht <;> try (cases ht)
      rename_i e' hu
      simp only [Bool.and_eq_true, beq_iff_eq, bne_iff_ne, ne_eq] at ht
      obtain ⟨⟨he, hsz⟩, hz0⟩ := ht
      rcases DataW.trod_slice hu h with ⟨rfl, _⟩ | ⟨a, len, cap, elems, rest, n, hfu, rfl, _, hb, hl, hm, hlen, hel, hsp, _⟩
      · exact ⟨.l [], [frow sz 0 []], .cons (.fnil (by decide)) .nil, .row (Nat.zero_le _) (.nil e)⟩
      · obtain rfl : fuel = n := by omega
        by_cases h0 : len = 0
        · subst h0
          exact ⟨.l [], [frow sz 0 []], .cons (.frow0 (fun h => by cases h)) .nil, .row (Nat.zero_le _) (.nil e)⟩
        · obtain ⟨q, o, sp⟩ := a
          have hcell : ∀ i, i < len → ∃ c x, W.cells? 0 (Addr.add ⟨q, o, sp⟩ (i * P.cellsOf e')) (P.cellsOf e') = some c ∧ DataW.trod enc P W 0 (fun _ => true) true fuel e' c = some x := fun i hi => by
            have := hel i hi
            rw [List.getElem?_eq_getElem (by omega)] at this
            obtain ⟨c, h1, h2⟩ := Option.bind_eq_some_iff.mp this
            exact ⟨c, _, h1, h2⟩
          have hsp0 : sp = none := by
            obtain ⟨c, x, h1, _⟩ := hcell 0 (by omega)
            obtain ⟨_, h3, h4⟩ := World.cells?_some h1
            have h5 := h4 0 (by omega)
            rw [List.getElem?_eq_getElem (by omega)] at h5
            simp only [Nat.zero_mul] at h5
            cases sp with
            | none => rfl
            | some k =>
              have e1 : (Addr.add (Addr.add ⟨q, o, some k⟩ 0) 0) = ⟨q, o, some k⟩ := rfl
              rw [e1] at h5
              unfold World.cell? at h5
              split at h5 <;> simp at h5
          subst hsp0
          obtain ⟨C, hC⟩ := Classical.axiomOfChoice (fun i => show ∃ c : List Value, i < len → W.cells? 0 (Addr.add ⟨q, o, none⟩ (i * P.cellsOf e')) (P.cellsOf e') = some c ∧ ∃ x, DataW.trod enc P W 0 (fun _ => true) true fuel e' c = some x from by
            by_cases hi : i < len
            · obtain ⟨c, x, h1, h2⟩ := hcell i hi; exact ⟨c, fun _ => ⟨h1, x, h2⟩⟩
            · exact ⟨[], fun h => absurd h hi⟩)
          have hClen : ∀ i, i < len → (C i).length = sz := fun i hi => by
            obtain ⟨_, h3, _⟩ := World.cells?_some (hC i hi).1
            rw [h3, hsz]
          obtain ⟨ds, vs, a4, a5, a6⟩ := opensS he (fun T t c x h1 h2 => opens fuel T t c x h1 h2) len C (fun i hi => (hC i hi).2)
          refine ⟨.l ds, [frow sz 0 vs], .cons ?_ .nil, .row (by rw [a5.length]; omega) a5⟩
          have hv : VRE (Ren.all W) sz q o vs := VRE.of_get fun i v hv => by
            have hi : i < len := by
              rcases Nat.lt_or_ge i vs.length with h | h
              · omega
              · rw [List.getElem?_eq_none h] at hv; cases hv
            refine ⟨C i, a6 i v hv, hClen i hi, fun j y hj => ?_⟩
            have hjl : j < sz := by
              rcases Nat.lt_or_ge j sz with h | h
              · exact h
              · rw [List.getElem?_eq_none (by rw [hClen i hi]; exact h)] at hj; cases hj
            obtain ⟨_, _, h6⟩ := World.cells?_some (hC i hi).1
            have h7 := h6 j (by rw [hsz]; exact hjl)
            rw [add_off, add_off, hj, hsz] at h7
            exact h7
          have := VR.frow (ρ := Ren.all W) (m := 0) (c' := cap) hv (by omega) (fun h => by cases h)
          rw [a4] at this
          exact this
    | recd fs =>
      simp only [isTy] at ht
      split at ht <;> try (cases ht)
      rename_i fields hu
      have : cs.length = P.cellsOf t ∧ ∃ xs, fields.toList.mapM (fun f => DataW.trod enc P W 0 (fun _ => true) true fuel f.type ((cs.drop f.offset).take (P.cellsOf f.type))) = some xs := by
        unfold DataW.trod at h
        rw [hu] at h
        simp only at h
        split at h
        · rename_i hl
          obtain ⟨xs, h1, _⟩ := Option.map_eq_some_iff.mp h
          exact ⟨hl, xs, h1⟩
        · cases h
      obtain ⟨hl, xs, hxs⟩ := this
      obtain ⟨ds, css, a4, a5⟩ := opensF fields.toList fs 0 _ cs xs fuel ht hl (fun T t c x h1 h2 => opens fuel T t c x h1 h2) hxs
      exact ⟨.r ds, css.flatten, by simpa using a4, .recd a5⟩
end
end Go.Proofs.YtoecebibhcadoaaDoor.I
