/- What the operations do on the ideal heap, and that the model's operations do the same in every world that shows it. No condition. -/
import Derived.Test.YtoecebibhcadoaaDoorIBase
import Derived.WideLaws
namespace Go.Proofs.YtoecebibhcadoaaDoor.I
open Go Go.RowKit
set_option linter.unusedVariables false
set_option linter.unusedSimpArgs false
abbrev Env := List (Nat × Value)
def Env.get : Env → Nat → Option Value
  | [], _ => none
  | (k, v) :: r, i => if i = k then some v else Env.get r i
def Env.put : Env → Nat → Value → Env
  | [], i, v => [(i, v)]
  | (k, u) :: r, i, v => if i = k then (i, v) :: r else if i < k then (i, v) :: (k, u) :: r else (k, u) :: Env.put r i v
theorem Env.get_put (e : Env) (i j : Nat) (v : Value) : (e.put i v).get j = if j = i then some v else e.get j := by
  induction e with
  | nil => simp [Env.put, Env.get]
  | cons x r ih =>
    obtain ⟨k, u⟩ := x
    simp only [Env.put]
    by_cases h1 : i = k
    · subst h1
      simp only [if_true, Env.get]
      split <;> rfl
    · rw [if_neg h1]
      by_cases h2 : i < k
      · rw [if_pos h2]; simp only [Env.get]
      · rw [if_neg h2]; simp only [Env.get, ih]
        by_cases h3 : j = k
        · rw [if_pos h3, if_pos h3, if_neg (by omega)]
        · rw [if_neg h3, if_neg h3]
structure AR (n : Nat) (ρ : Ren) (e : Env) (a : Act) : Prop where
  defers : a.defers = []
  size : a.tmps.size = n
  slot : ∀ i v, e.get i = some v → ∃ v', a.tmps[i]? = some v' ∧ VR ρ v v'
theorem AR.mono {B n : Nat} {ρ ρ' : Ren} {e : Env} {a : Act} (h : AR n ρ e a) (hl : Ren.Le B ρ ρ') : AR n ρ' e a :=
  ⟨h.defers, h.size, fun i v hv => let ⟨v', h1, h2⟩ := h.slot i v hv; ⟨v', h1, h2.mono hl⟩⟩
theorem AR.sub {n : Nat} {ρ : Ren} {e e' : Env} {a : Act} (h : AR n ρ e a) (hs : ∀ i v, e'.get i = some v → e.get i = some v) : AR n ρ e' a :=
  ⟨h.defers, h.size, fun i v hv => h.slot i v (hs i v hv)⟩
theorem AR.put {n : Nat} {ρ : Ren} {e : Env} {a : Act} (h : AR n ρ e a) {d : Nat} (hd : d < n) {v v' : Value} (hv : VR ρ v v') : AR n ρ (e.put d v) (a.put (some d) v') := by
  refine ⟨h.defers, by simp [Act.put, h.size], fun i u hu => ?_⟩
  rw [Env.get_put] at hu
  by_cases e1 : i = d
  · rw [if_pos e1] at hu
    cases hu
    subst e1
    exact ⟨v', by simp [Act.put, h.size, hd], hv⟩
  · rw [if_neg e1] at hu
    obtain ⟨u', h1, h2⟩ := h.slot i u hu
    exact ⟨u', by simp [Act.put, Array.getElem?_setIfInBounds, Ne.symm e1, h1], h2⟩
def Env.eval (e : Env) : Operand → Option Value
  | .tmp t => e.get t
  | .const v => if plain1 v = true then some v else none
  | .func f => some (.func (.func f) #[] #[])
  | .global _ => none
theorem Env.eval_sound {n : Nat} {ρ : Ren} {e : Env} {a : Act} (h : AR n ρ e a) {x : Operand} {v : Value} (hx : e.eval x = some v) : VR ρ v (a.eval x) := by
  cases x with
  | tmp t =>
    obtain ⟨v', h1, h2⟩ := h.slot t v hx
    simp only [Act.eval, Array.getD_eq_getD_getElem?, h1, Option.getD_some]; exact h2
  | const u =>
    simp only [Env.eval] at hx
    split at hx
    · rename_i hp; cases hx; exact VR.of_plain1 hp
    · cases hx
  | func f => cases hx; exact .func .nil .nil
  | global g => cases hx
def evals (e : Env) : List Operand → Option (List Value)
  | [] => some []
  | x :: r => (e.eval x).bind fun v => (evals e r).bind fun l => some (v :: l)
theorem evals_sound {n : Nat} {ρ : Ren} {e : Env} {a : Act} (h : AR n ρ e a) : ∀ {xs : List Operand} {l : List Value}, evals e xs = some l → VRL ρ l (xs.map a.eval)
  | [], l, hx => by cases hx; exact .nil
  | x :: r, l, hx => by
    simp only [evals] at hx
    obtain ⟨v, h1, h2⟩ := Option.bind_eq_some_iff.mp hx
    obtain ⟨m, h3, h4⟩ := Option.bind_eq_some_iff.mp h2
    cases h4
    exact .cons (Env.eval_sound h h1) (evals_sound h h3)
def tSize (P : Program) (t : TypeId) : Option Nat := (P.info? t).map (·.size)
def tZero (P : Program) (t : TypeId) : Option Value := (P.info? t).bind (·.zero)
def tBytes (P : Program) (t : TypeId) : Option Nat := (P.info? t).map (·.bytes)
def tAgg (P : Program) (t : TypeId) : Option Bool :=
  match P.underlying t with
  | some (.struct _) => some true
  | some (.array _ _) => some true
  | some _ => some false
  | none => none
def tElem (P : Program) (t : TypeId) : Option TypeId :=
  match P.underlying t with
  | some (.slice e) => some e
  | _ => none
def tArr (P : Program) (t : TypeId) : Option (Nat × TypeId) :=
  match P.underlying t with
  | some (.array n e) => some (n, e)
  | _ => none
def tField (P : Program) (s : TypeId) (f : Nat) : Option (Nat × TypeId × Nat) :=
  match P.underlying s with
  | some (.struct fs) => (fs[f]?).bind fun x => (tSize P x.type).map fun n => (x.offset, x.type, n)
  | _ => none
inductive Kind where
  | bool | int (k : IntKind) | string | pointer | slice | func | iface | map | other
  deriving DecidableEq
def tKind (P : Program) (t : TypeId) : Option Kind :=
  match P.underlying t with
  | some .bool => some .bool
  | some (.int k) => some (.int k)
  | some .string => some .string
  | some (.pointer _) => some .pointer
  | some (.slice _) => some .slice
  | some (.func _ _ _) => some .func
  | some (.interface _) => some .iface
  | some (.map _ _) => some .map
  | some _ => some .other
  | none => none
section tables
variable {P : Program} {w : World} {t : TypeId}
theorem run_typeInfo_of {i : TypeInfo} (h : P.info? t = some i) : (typeInfo t).run P w = .ok i w := by
  simp [typeInfo, h]
theorem run_under_of {d : TypeDesc} (h : P.underlying t = some d) : (underlying t).run P w = .ok d w := by
  simp [underlying, h]
theorem run_sizeOf_of {n : Nat} (h : tSize P t = some n) : (sizeOf t).run P w = .ok n w := by
  unfold tSize at h
  obtain ⟨i, hi, rfl⟩ := Option.map_eq_some_iff.mp h
  simp [sizeOf, run_typeInfo_of hi]
theorem run_zeroValue_of {z : Value} (h : tZero P t = some z) : (zeroValue t).run P w = .ok z w := by
  unfold tZero at h
  obtain ⟨i, hi, hz⟩ := Option.bind_eq_some_iff.mp h
  simp [zeroValue, run_typeInfo_of hi, hz]
theorem run_isAgg_of {b : Bool} (h : tAgg P t = some b) : (isAgg t).run P w = .ok b w := by
  unfold tAgg at h
  unfold isAgg
  rw [Sem.run_bind]
  cases hu : P.underlying t with
  | none => rw [hu] at h; cases h
  | some d =>
    rw [hu] at h
    rw [run_under_of hu]
    simp only [Result.andThen_ok]
    cases d <;> simp_all
end tables
def Heap.cell (H : Heap) (b o : Nat) : Option Value := (H.get b).bind fun k => k.cells[o]?
def Heap.row (H : Heap) (b o n : Nat) : Option (List Value) :=
  (H.get b).bind fun k => if o + n ≤ k.cells.length then some ((k.cells.drop o).take n) else none
section loads
variable {P : Program} {B : Nat} {w0 w : World} {ρ : Ren} {H : Heap}
theorem HR.cell (h : HR B w0 ρ H w) {b o : Nat} {v : Value} (hv : H.cell b o = some v) :
    ∃ q s n, ρ b = some (.lies q s n) ∧ ∃ v', w.cell? ⟨q, s + o, none⟩ = some v' ∧ VR ρ v v' := by
  unfold Heap.cell at hv
  obtain ⟨k, hk, hc⟩ := Option.bind_eq_some_iff.mp hv
  obtain ⟨q, s, n, e, hl, hcs, _⟩ := h.live b k hk
  exact ⟨q, s, n, e, hcs o v hc⟩
theorem HR.row (h : HR B w0 ρ H w) {b o m : Nat} {l : List Value} (hv : H.row b o m = some l) :
    l.length = m ∧ ∃ q s n, ρ b = some (.lies q s n) ∧ ∃ l', VRL ρ l l' ∧ ∀ i v', l'[i]? = some v' → w.cell? ⟨q, s + o + i, none⟩ = some v' := by
  unfold Heap.row at hv
  obtain ⟨k, hk, hc⟩ := Option.bind_eq_some_iff.mp hv
  split at hc
  · rename_i hle
    cases hc
    obtain ⟨q, s, n, e, hl, hcs, _⟩ := h.live b k hk
    refine ⟨by simp; omega, q, s, n, e, ?_⟩
    have hpick : ∀ i : Nat, ∃ u : Value, i < m → ∃ v, k.cells[o + i]? = some v ∧ w.cell? ⟨q, s + (o + i), none⟩ = some u ∧ VR ρ v u := fun i => by
      rcases Nat.lt_or_ge i m with hi | hi
      · obtain ⟨u, h1, h2⟩ := hcs (o + i) (k.cells[o + i]'(by omega)) (List.getElem?_eq_getElem (by omega))
        exact ⟨u, fun _ => ⟨_, List.getElem?_eq_getElem (by omega), h1, h2⟩⟩
      · exact ⟨undef, fun h => by omega⟩
    obtain ⟨f, hf⟩ := Classical.axiomOfChoice hpick
    have hlt : ∀ {α : Type} (L : List α) (i : Nat) (x : α), L.length = m → L[i]? = some x → i < m := fun L i x hL hx => by
      rcases Nat.lt_or_ge i m with hi | hi
      · exact hi
      · rw [List.getElem?_eq_none (by omega)] at hx; cases hx
    refine ⟨(List.range m).map f, VRL.of_get (by simp; omega) fun i v hv => ?_, fun i v' hv' => ?_⟩
    · have hi : i < m := hlt _ i v (by simp; omega) hv
      obtain ⟨u, h1, h2, h3⟩ := hf i hi
      refine ⟨f i, by simp [hi], ?_⟩
      rw [List.getElem?_take_of_lt hi, List.getElem?_drop, h1] at hv
      cases hv; exact h3
    · have hi : i < m := hlt _ i v' (by simp) hv'
      obtain ⟨u, h1, h2, h3⟩ := hf i hi
      rw [List.getElem?_map, List.getElem?_range hi] at hv'
      simp only [Option.map_some, Option.some.injEq] at hv'
      rw [← hv', Nat.add_assoc]; exact h2
  · cases hc
theorem add_off (q o i : Nat) : (Addr.add ⟨q, o, none⟩ i) = ⟨q, o + i, none⟩ := by
  unfold Addr.add; split
  · rename_i h; subst h; rfl
  · rfl
theorem run_load_of {a : Addr} {v : Value} (h : w.cell? a = some v) : (load a).run P w = .ok v w := by rw [run_load, h]
theorem run_loadCellsFrom_of {q o : Nat} : ∀ (l : List Value) (i : Nat) (acc : Array Value), (∀ j v, l[j]? = some v → w.cell? ⟨q, o + (i + j), none⟩ = some v) →
    (loadCellsFrom ⟨q, o, none⟩ i l.length acc).run P w = .ok (acc ++ l.toArray) w
  | [], i, acc, _ => by simp [loadCellsFrom]
  | v :: l, i, acc, h => by
    have h0 := h 0 v rfl
    rw [Nat.add_zero] at h0
    simp only [List.length_cons, loadCellsFrom, Sem.run_bind]
    rw [add_off, run_load_of h0]
    simp only [Result.andThen_ok]
    rw [run_loadCellsFrom_of l (i + 1) (acc.push v) (fun j u hu => by rw [show i + 1 + j = i + (j + 1) by omega]; exact h (j + 1) u (by simpa using hu))]
    simp
theorem run_loadCells_of {q o : Nat} (l : List Value) (n : Nat) (hn : l.length = n) (h : ∀ j v, l[j]? = some v → w.cell? ⟨q, o + j, none⟩ = some v) :
    (loadCells ⟨q, o, none⟩ n).run P w = .ok l.toArray w := by
  subst hn
  unfold loadCells
  rw [run_loadCellsFrom_of l 0 #[] (fun j u hu => by rw [Nat.zero_add]; exact h j u hu)]
  simp
end loads
def ptrTo (b o : Nat) : Value := .pointer (some ⟨b, o, none⟩)
def ipart (P : Program) (t : TypeId) (cs : List Value) (off : Nat) : Option Value :=
  match tAgg P t with
  | some true => (tSize P t).bind fun n => if off + n ≤ cs.length then some (.agg ((cs.drop off).take n).toArray) else none
  | some false => cs[off]?
  | none => none
theorem ipart_sound {P : Program} {w : World} {ρ : Ren} {t : TypeId} {cs cs' : List Value} {off : Nat} {v : Value} (hx : VRL ρ cs cs') (hv : ipart P t cs off = some v) :
    ∃ v', (part t cs'.toArray off).run P w = .ok v' w ∧ VR ρ v v' := by
  unfold ipart at hv
  split at hv
  · rename_i hag
    obtain ⟨m, hm, hv⟩ := Option.bind_eq_some_iff.mp hv
    split at hv
    · cases hv
      refine ⟨.agg ((cs'.drop off).take m).toArray, ?_, .agg (by simpa using (hx.drop off).take m)⟩
      simp [part, run_isAgg_of hag, run_sizeOf_of hm, List.extract_eq_take_drop]
    · cases hv
  · rename_i hag
    obtain ⟨v', h1, h2⟩ := hx.get off v hv
    exact ⟨v', by simp [part, run_isAgg_of hag, h1], h2⟩
  · cases hv
def iload (P : Program) (t : TypeId) (H : Heap) : Value → Option Value
  | .pointer (some ⟨b, o, none⟩) =>
    match tAgg P t with
    | some true => (tSize P t).bind fun n => (H.row b o n).map fun l => .agg l.toArray
    | some false => H.cell b o
    | none => none
  | .func (.yield off) ⟨[x]⟩ ⟨[]⟩ => ipart P t x.cells.toList off
  | _ => none
theorem part_load {P : Program} {w : World} {ρ : Ren} {t : TypeId} {cs cs' : List Value} {off q s : Nat} {v : Value} (hx : VRL ρ cs cs') (hc : ∀ j y, cs'[j]? = some y → w.cell? ⟨q, s + j, none⟩ = some y) (hv : ipart P t cs off = some v) :
    ∃ v', (Instr.loadAt t (.pointer (some ⟨q, s + off, none⟩))).run P w = .ok v' w ∧ VR ρ v v' := by
  unfold ipart at hv
  split at hv
  · rename_i hag
    obtain ⟨m, hm, hv⟩ := Option.bind_eq_some_iff.mp hv
    split at hv
    · rename_i hle
      cases hv
      refine ⟨.agg ((cs'.drop off).take m).toArray, ?_, .agg (by simpa using (hx.drop off).take m)⟩
      have hl := hx.length
      simp [Instr.loadAt, Instr.sureAddr, loadVar, run_isAgg_of hag, run_sizeOf_of hm, run_loadCells_of (q := q) (o := s + off) ((cs'.drop off).take m) m (by simp; omega) (fun j u hu => by
        have hj : j < m := by
          rcases Nat.lt_or_ge j m with h | h
          · exact h
          · rw [List.getElem?_eq_none (by simp; omega)] at hu; cases hu
        rw [List.getElem?_take_of_lt hj, List.getElem?_drop] at hu
        rw [Nat.add_assoc]; exact hc _ _ hu)]
    · cases hv
  · rename_i hag
    obtain ⟨v', h1, h2⟩ := hx.get off v hv
    exact ⟨v', by simp [Instr.loadAt, Instr.sureAddr, loadVar, run_isAgg_of hag, hc _ _ h1], h2⟩
  · cases hv
theorem iload_sound {P : Program} {B : Nat} {w0 w : World} {ρ : Ren} {H : Heap} (h : HR B w0 ρ H w) {t : TypeId} {x x' v : Value} (hx : VR ρ x x') (hv : iload P t H x = some v) :
    ∃ v', (Instr.loadAt t x').run P w = .ok v' w ∧ VR ρ v v' := by
  unfold iload at hv
  split at hv
  · rename_i b o
    cases hx with
    | plain hp => simp [plain0] at hp
    | ptr hb =>
      rename_i q s n
      split at hv
      · rename_i hag
        obtain ⟨m, hm, hr⟩ := Option.bind_eq_some_iff.mp hv
        obtain ⟨l, hl, rfl⟩ := Option.map_eq_some_iff.mp hr
        obtain ⟨hlen, q', s', n', e, l', hvr, hc⟩ := h.row hl
        rw [hb] at e; cases e
        refine ⟨.agg l'.toArray, ?_, .agg (by simpa using hvr)⟩
        simp [Instr.loadAt, Instr.sureAddr, loadVar, run_isAgg_of hag, run_sizeOf_of hm, run_loadCells_of l' m (by rw [← hvr.length]; exact hlen) hc]
      · rename_i hag
        obtain ⟨q', s', n', e, v', hc, hvr⟩ := h.cell hv
        rw [hb] at e; cases e
        refine ⟨v', ?_, hvr⟩
        simp [Instr.loadAt, Instr.sureAddr, loadVar, run_isAgg_of hag, hc]
      · cases hv
  · cases hx with
    | plain hp => simp [plain0] at hp
    | fptr hl hf => exact part_load hl (fun j y k => h.fixed _ _ _ (hf j y k)) hv
  · cases hv
def ifieldAddr (P : Program) (s : TypeId) (f : Nat) : Value → Option Value
  | .pointer (some ⟨b, o, none⟩) => (tField P s f).bind fun x => if x.2.2 = 0 then none else some (ptrTo b (o + x.1))
  | .func (.yield off) ⟨[x]⟩ ⟨[]⟩ => (tField P s f).bind fun y => if y.2.2 = 0 then none else some (fptr (off + y.1) x)
  | _ => none
theorem ifieldAddr_sound {P : Program} {w : World} {ρ : Ren} {s : TypeId} {f : Nat} {x x' v : Value} (hx : VR ρ x x') (hv : ifieldAddr P s f x = some v) :
    ∃ v', (Instr.fieldAt s x' f).run P w = .ok v' w ∧ VR ρ v v' := by
  unfold ifieldAddr at hv
  split at hv
  · rename_i b o
    cases hx with
    | plain hp => simp [plain0] at hp
    | ptr hb =>
      rename_i q sh n
      obtain ⟨y, hy, hv⟩ := Option.bind_eq_some_iff.mp hv
      split at hv
      · cases hv
      · rename_i hne
        cases hv
        unfold tField at hy
        split at hy
        · rename_i fs hu
          obtain ⟨fd, hfd, hy⟩ := Option.bind_eq_some_iff.mp hy
          obtain ⟨m, hm, rfl⟩ := Option.map_eq_some_iff.mp hy
          refine ⟨.pointer (some ⟨q, sh + (o + fd.offset), none⟩), ?_, .ptr hb⟩
          simp [Instr.fieldAt, run_under_of hu, hfd, Instr.sureAddr, fieldPlace, run_sizeOf_of hm]
          have hne' : m ≠ 0 := hne
          simp [hne', add_off, Nat.add_assoc]
        · cases hy
  · rename_i off u
    cases hx with
    | plain hp => simp [plain0] at hp
    | fptr hl hf =>
      rename_i q sh ys
      obtain ⟨y, hy, hv⟩ := Option.bind_eq_some_iff.mp hv
      split at hv
      · cases hv
      · rename_i hne
        cases hv
        unfold tField at hy
        split at hy
        · rename_i fs hu
          obtain ⟨fd, hfd, hy⟩ := Option.bind_eq_some_iff.mp hy
          obtain ⟨m, hm, rfl⟩ := Option.map_eq_some_iff.mp hy
          refine ⟨.pointer (some ⟨q, sh + (off + fd.offset), none⟩), ?_, .fptr hl hf⟩
          simp [Instr.fieldAt, run_under_of hu, hfd, Instr.sureAddr, fieldPlace, run_sizeOf_of hm]
          have hne' : m ≠ 0 := hne
          simp [hne', add_off, Nat.add_assoc]
        · cases hy
  · cases hv
def ifield (P : Program) (s : TypeId) (f : Nat) : Value → Option Value
  | .agg cs => (tField P s f).bind fun x => ipart P x.2.1 cs.toList x.1
  | _ => none
theorem ifield_sound {P : Program} {w : World} {ρ : Ren} {s : TypeId} {f : Nat} {x x' v : Value} (hx : VR ρ x x') (hv : ifield P s f x = some v) :
    ∃ v', (Instr.field s x' f).run P w = .ok v' w ∧ VR ρ v v' := by
  unfold ifield at hv
  split at hv
  · rename_i cs
    cases hx with
    | plain hp => simp [plain0] at hp
    | agg hl =>
      rename_i cs'
      obtain ⟨y, hy, hv⟩ := Option.bind_eq_some_iff.mp hv
      unfold tField at hy
      split at hy
      · rename_i fs hu
        obtain ⟨fd, hfd, hy⟩ := Option.bind_eq_some_iff.mp hy
        obtain ⟨m, hm, rfl⟩ := Option.map_eq_some_iff.mp hy
        obtain ⟨v', h1, h2⟩ := ipart_sound (w := w) hl hv
        exact ⟨v', by simpa [Instr.field, run_under_of hu, hfd, asAgg] using h1, h2⟩
      · cases hy
  · cases hv
def iindexAddr (P : Program) (t : TypeId) : Value → Value → Option Value
  | .slice (some ⟨b, o, some sz⟩) len _, .int _ i =>
    (tElem P t).bind fun e => if tSize P e = some sz ∧ 0 ≤ i ∧ i < len then some (ptrTo b (o + i.toNat * sz)) else none
  | .pointer (some ⟨b, o, none⟩), .int _ i =>
    (tArr P t).bind fun x => (tSize P x.2).bind fun sz => if 0 ≤ i ∧ i < x.1 then some (ptrTo b (o + i.toNat * sz)) else none
  | .func (.yield sz) ⟨xs⟩ ⟨[.int _ _]⟩, .int _ i =>
    (tElem P t).bind fun e => if tSize P e = some sz ∧ 0 ≤ i then (xs[i.toNat]?).map fun x => fptr 0 x else none
  | .func (.yield off) ⟨[x]⟩ ⟨[]⟩, .int _ i =>
    (tArr P t).bind fun y => (tSize P y.2).bind fun sz => if 0 ≤ i ∧ i < y.1 then some (fptr (off + i.toNat * sz) x) else none
  | _, _ => none
theorem iindexAddr_sound {P : Program} {w : World} {ρ : Ren} {t : TypeId} {x x' y y' v : Value} (hx : VR ρ x x') (hy : VR ρ y y') (hv : iindexAddr P t x y = some v) :
    ∃ v', (Instr.indexAt t x' y').run P w = .ok v' w ∧ VR ρ v v' := by
  unfold iindexAddr at hv
  split at hv
  · rename_i b o sz len c k i
    obtain rfl := hy.eq_of_plain0 rfl
    obtain ⟨e, he, hv⟩ := Option.bind_eq_some_iff.mp hv
    split at hv
    · rename_i hc
      obtain ⟨hsz, h0, h1⟩ := hc
      cases hv
      unfold tElem at he
      split at he
      · rename_i e' hu
        cases he
        cases hx with
        | plain hp => simp [plain0] at hp
        | row hb hl hcc hr =>
          rename_i q s n c'
          refine ⟨.pointer (some ⟨q, s + (o + i.toNat * sz), none⟩), ?_, .ptr hb⟩
          simp [Instr.indexAt, asIntOf, run_under_of hu, h0, h1, run_sizeOf_of hsz, add_off, Nat.add_assoc]
        | away hb hcc hz => omega
      · cases he
    · cases hv
  · rename_i b o k i
    obtain rfl := hy.eq_of_plain0 rfl
    obtain ⟨e, he, hv⟩ := Option.bind_eq_some_iff.mp hv
    obtain ⟨sz, hsz, hv⟩ := Option.bind_eq_some_iff.mp hv
    split at hv
    · rename_i hc
      obtain ⟨h0, h1⟩ := hc
      cases hv
      unfold tArr at he
      split at he
      · rename_i n' e' hu
        cases he
        cases hx with
        | plain hp => simp [plain0] at hp
        | ptr hb =>
          rename_i q s n
          refine ⟨.pointer (some ⟨q, s + (o + i.toNat * sz), none⟩), ?_, .ptr hb⟩
          simp [Instr.indexAt, asIntOf, run_under_of hu, h0, h1, run_sizeOf_of hsz, add_off, Nat.add_assoc, Instr.sureAddr]
      · cases he
    · cases hv
  · rename_i sz xs k m k2 i
    obtain rfl := hy.eq_of_plain0 rfl
    obtain ⟨e, he, hv⟩ := Option.bind_eq_some_iff.mp hv
    split at hv
    · rename_i hc
      obtain ⟨hsz, h0⟩ := hc
      obtain ⟨u, hu1, rfl⟩ := Option.map_eq_some_iff.mp hv
      have hlt : i.toNat < xs.length := by
        rcases Nat.lt_or_ge i.toNat xs.length with h | h
        · exact h
        · rw [List.getElem?_eq_none h] at hu1; cases hu1
      have h1 : i < xs.length := by omega
      unfold tElem at he
      split at he
      · rename_i e' hu
        cases he
        cases hx with
        | plain hp => simp [plain0] at hp
        | frow hl hcc hm =>
          rename_i q s c'
          obtain ⟨ys, a1, a2, a3⟩ := hl.get _ _ hu1
          refine ⟨.pointer (some ⟨q, s + i.toNat * sz + 0, none⟩), ?_, .fptr a1 a3⟩
          simp [Instr.indexAt, asIntOf, run_under_of hu, h0, h1, run_sizeOf_of hsz, add_off, Nat.add_assoc]
        | frow0 hm => simp at hlt
        | fnil hm => simp at hlt
      · cases he
    · cases hv
  · rename_i off u k i
    obtain rfl := hy.eq_of_plain0 rfl
    obtain ⟨e, he, hv⟩ := Option.bind_eq_some_iff.mp hv
    obtain ⟨sz, hsz, hv⟩ := Option.bind_eq_some_iff.mp hv
    split at hv
    · rename_i hc
      obtain ⟨h0, h1⟩ := hc
      cases hv
      unfold tArr at he
      split at he
      · rename_i n' e' hu
        cases he
        cases hx with
        | plain hp => simp [plain0] at hp
        | fptr hl hf =>
          rename_i q s ys
          refine ⟨.pointer (some ⟨q, s + (off + i.toNat * sz), none⟩), ?_, .fptr hl hf⟩
          simp [Instr.indexAt, asIntOf, run_under_of hu, h0, h1, run_sizeOf_of hsz, add_off, Nat.add_assoc, Instr.sureAddr]
      · cases he
    · cases hv
  · cases hv
def iindex (P : Program) (t : TypeId) : Value → Value → Option Value
  | .agg cs, .int _ i => (tArr P t).bind fun x => (tSize P x.2).bind fun sz => if 0 ≤ i ∧ i < x.1 then ipart P x.2 cs.toList (i.toNat * sz) else none
  | .string s, .int _ i => if tKind P t = some .string ∧ 0 ≤ i then (s.data.toList[i.toNat]?).map fun b => .int .u8 b.toNat else none
  | _, _ => none
theorem iindex_sound {P : Program} {w : World} {ρ : Ren} {t : TypeId} {x x' y y' v : Value} (hx : VR ρ x x') (hy : VR ρ y y') (hv : iindex P t x y = some v) :
    ∃ v', (Instr.index t x' y').run P w = .ok v' w ∧ VR ρ v v' := by
  unfold iindex at hv
  split at hv
  · rename_i cs k i
    obtain rfl := hy.eq_of_plain0 rfl
    obtain ⟨e, he, hv⟩ := Option.bind_eq_some_iff.mp hv
    obtain ⟨sz, hsz, hv⟩ := Option.bind_eq_some_iff.mp hv
    split at hv
    · rename_i hc
      obtain ⟨h0, h1⟩ := hc
      unfold tArr at he
      split at he
      · rename_i n' e' hu
        cases he
        cases hx with
        | plain hp => simp [plain0] at hp
        | agg hl =>
          obtain ⟨v', h2, h3⟩ := ipart_sound (w := w) hl hv
          exact ⟨v', by simpa [Instr.index, asIntOf, run_under_of hu, h0, h1, run_sizeOf_of hsz] using h2, h3⟩
      · cases he
    · cases hv
  · rename_i s k i
    obtain rfl := hy.eq_of_plain0 rfl
    obtain rfl := hx.eq_of_plain0 rfl
    split at hv
    · rename_i hc
      obtain ⟨hk, h0⟩ := hc
      obtain ⟨b, hb, rfl⟩ := Option.map_eq_some_iff.mp hv
      unfold tKind at hk
      split at hk <;> try (cases hk)
      rename_i hu
      refine ⟨.int .u8 b.toNat, ?_, .plain rfl⟩
      have hb' : s[i.toNat]? = some b := by
        have hlt : i.toNat < s.size := by
          rcases Nat.lt_or_ge i.toNat s.data.toList.length with h | h
          · simpa using h
          · rw [List.getElem?_eq_none h] at hb; cases hb
        rw [getElem?_pos s i.toNat hlt]
        rw [List.getElem?_eq_getElem (by simpa using hlt)] at hb
        exact hb
      simp [Instr.index, asIntOf, run_under_of hu, h0, hb']
    · cases hv
  · cases hv
end Go.Proofs.YtoecebibhcadoaaDoor.I
