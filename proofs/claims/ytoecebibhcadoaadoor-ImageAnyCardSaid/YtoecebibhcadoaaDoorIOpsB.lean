/- What more operations do on the ideal heap (slices, sums, comparisons, struct literals), and that the model's do the same. No condition. -/
import Derived.Test.YtoecebibhcadoaaDoorIOps
import Derived.Laws.Tables
import Derived.Laws.StructEq
namespace Go.Proofs.YtoecebibhcadoaaDoor.I
open Go Go.RowKit
set_option linter.unusedVariables false
set_option linter.unusedSimpArgs false
def ibound (d : Nat) : Option Value → Option Nat
  | none => some d
  | some (.int _ i) => if 0 ≤ i then some i.toNat else none
  | some _ => none
def islice (P : Program) (t : TypeId) (x : Value) (lo hi mx : Option Value) : Option Value :=
  match x with
  | .string s =>
    if tKind P t = some .string ∧ mx.isNone = true then
      (ibound s.size hi).bind fun h => (ibound 0 lo).bind fun l => if l ≤ h ∧ h ≤ s.size then some (.string (s.extract l h)) else none
    else none
  | .slice none 0 0 =>
    (tElem P t).bind fun e => (tSize P e).bind fun _ => (ibound 0 mx).bind fun m => (ibound 0 hi).bind fun h => (ibound 0 lo).bind fun l =>
      if l = 0 ∧ h = 0 ∧ m = 0 ∧ (hi.isSome = true ∨ mx.isNone = true) then some (.slice none 0 0) else none
  | .slice (some ⟨b, o, some sz⟩) len c =>
    (tElem P t).bind fun e => (ibound len mx).bind fun m => (ibound len hi).bind fun h => (ibound 0 lo).bind fun l =>
      if tSize P e = some sz ∧ l ≤ h ∧ h ≤ len ∧ (mx.isSome = true → hi.isSome = true ∧ h ≤ m ∧ m ≤ len) then
        some (.slice (some ⟨b, o + l * sz, some sz⟩) (h - l) (if mx.isSome = true then (if m = l then 0 else 1) else c))
      else none
  | .func (.yield sz) ⟨xs⟩ ⟨[.int _ k]⟩ =>
    (tElem P t).bind fun e => (ibound xs.length mx).bind fun m => (ibound xs.length hi).bind fun h => (ibound 0 lo).bind fun l =>
      if tSize P e = some sz ∧ l ≤ h ∧ h ≤ xs.length ∧ (mx.isSome = true → hi.isSome = true ∧ h ≤ m ∧ m ≤ xs.length) then
        some (frow sz (if mx.isSome = true ∧ m = l then 2 else if k = 2 then 2 else 0) ((xs.drop l).take (h - l)))
      else none
  | _ => none
theorem ibound_rel {ρ : Ren} {d : Nat} {x x' : Option Value} {i : Nat} (hx : match x, x' with | none, none => True | some v, some v' => VR ρ v v' | _, _ => False) (h : ibound d x = some i) :
    (x = none ∧ x' = none ∧ i = d) ∨ ∃ k, x = some (.int k (i : Int)) ∧ x' = some (.int k (i : Int)) := by
  unfold ibound at h
  split at h
  · cases x' with
    | none => exact .inl ⟨rfl, rfl, by cases h; rfl⟩
    | some _ => exact hx.elim
  · rename_i k j
    split at h
    · rename_i hj
      cases h
      cases x' with
      | none => exact hx.elim
      | some v' =>
        have := VR.eq_of_plain0 hx rfl
        subst this
        exact .inr ⟨k, by simp [Int.toNat_of_nonneg hj], by simp [Int.toNat_of_nonneg hj]⟩
    · cases h
  · cases h
def OR (ρ : Ren) (x x' : Option Value) : Prop := match x, x' with | none, none => True | some v, some v' => VR ρ v v' | _, _ => False
theorem run_sliceBound_of {P : Program} {w : World} {k : IntKind} {i y : Nat} (h : i ≤ y) (code : BoundsCode) : (Instr.sliceBound (.int k (i : Int)) y code).run P w = .ok i w := by
  have h1 : (i : Int) ≤ (y : Int) := by omega
  simp [Instr.sliceBound, asIntOf, h1, show (0 : Int) ≤ (i : Int) by omega]
theorem islice_sound {P : Program} {w : World} {ρ : Ren} {t : TypeId} {x x' v : Value} {lo hi mx lo' hi' mx' : Option Value} (hx : VR ρ x x') (hlo : OR ρ lo lo') (hhi : OR ρ hi hi') (hmx : OR ρ mx mx')
    (hv : islice P t x lo hi mx = some v) : ∃ v', (Instr.sliceAt t x' lo' hi' mx').run P w = .ok v' w ∧ VR ρ v v' := by
  unfold islice at hv
  split at hv
  · rename_i s
    obtain rfl := hx.eq_of_plain0 rfl
    split at hv
    · rename_i hc
      obtain ⟨hk, hm⟩ := hc
      obtain ⟨h, hh, hv⟩ := Option.bind_eq_some_iff.mp hv
      obtain ⟨l, hl, hv⟩ := Option.bind_eq_some_iff.mp hv
      split at hv
      · rename_i hc
        obtain ⟨h1, h2⟩ := hc
        cases hv
        have hmn : mx = none := by cases mx <;> simp_all
        subst hmn
        have hmn' : mx' = none := by cases mx' with | none => rfl | some _ => exact hmx.elim
        subst hmn'
        unfold tKind at hk
        split at hk <;> try (cases hk)
        rename_i hu
        refine ⟨.string (s.extract l h), ?_, .plain rfl⟩
        rcases ibound_rel hhi hh with ⟨rfl, rfl, rfl⟩ | ⟨k, rfl, rfl⟩ <;> rcases ibound_rel hlo hl with ⟨rfl, rfl, rfl⟩ | ⟨k', rfl, rfl⟩ <;>
          simp [Instr.sliceAt, Instr.slice, Instr.sliceBounds, run_under_of hu, run_sliceBound_of h1, run_sliceBound_of h2]
      · cases hv
    · cases hv
  · replace hv := Option.bind_eq_some_iff.mp hv
    obtain ⟨e, he, hv⟩ := hv
    replace hv := Option.bind_eq_some_iff.mp hv
    obtain ⟨z, hz, hv⟩ := hv
    replace hv := Option.bind_eq_some_iff.mp hv
    obtain ⟨m, hm, hv⟩ := hv
    replace hv := Option.bind_eq_some_iff.mp hv
    obtain ⟨h, hh, hv⟩ := hv
    replace hv := Option.bind_eq_some_iff.mp hv
    obtain ⟨l, hl, hv⟩ := hv
    split at hv
    · rename_i hc
      cases hv
      obtain ⟨rfl, rfl, rfl, hs⟩ := hc
      obtain rfl := hx.eq_of_plain0 rfl
      unfold tElem at he
      split at he
      · rename_i e' hu
        cases he
        refine ⟨.slice none 0 0, ?_, .plain rfl⟩
        have q (k : IntKind) (code : BoundsCode) : (Instr.sliceBound (.int k 0) 0 code).run P w = .ok 0 w := by simpa using run_sliceBound_of (P := P) (w := w) (k := k) (i := 0) (y := 0) (Nat.le_refl 0) code
        rcases ibound_rel hmx hm with ⟨rfl, rfl, -⟩ | ⟨k, rfl, rfl⟩ <;> rcases ibound_rel hhi hh with ⟨rfl, rfl, -⟩ | ⟨k, rfl, rfl⟩ <;> rcases ibound_rel hlo hl with ⟨rfl, rfl, -⟩ | ⟨k', rfl, rfl⟩ <;>
          first
          | (simp at hs; done)
          | simp [Instr.sliceAt, Instr.slice, Instr.sliceBounds, run_under_of hu, run_sizeOf_of hz, q]
      · cases he
    · cases hv
  · rename_i b o sz len c
    replace hv := Option.bind_eq_some_iff.mp hv
    obtain ⟨e, he, hv⟩ := hv
    replace hv := Option.bind_eq_some_iff.mp hv
    obtain ⟨m, hm, hv⟩ := hv
    replace hv := Option.bind_eq_some_iff.mp hv
    obtain ⟨h, hh, hv⟩ := hv
    replace hv := Option.bind_eq_some_iff.mp hv
    obtain ⟨l, hl, hv⟩ := hv
    split at hv
    · rename_i hc
      cases hv
      obtain ⟨hsz, h1, h2, h3⟩ := hc
      unfold tElem at he
      split at he
      · rename_i e' hu
        cases he
        have key : ∀ (a : Addr) (c' : Nat), len ≤ c' → (c = 0 → c' = 0) → ∃ M, h ≤ M ∧ M ≤ c' ∧ ((if mx.isSome = true then (if m = l then 0 else 1) else c) = 0 → M - l = 0) ∧
            (Instr.sliceAt t (.slice (some a) len c') lo' hi' mx').run P w = .ok (.slice (some (if M = l then a else a.add (l * sz))) (h - l) (M - l)) w := fun a c' g1 g2 => by
          rcases ibound_rel hmx hm with ⟨rfl, rfl, rfl⟩ | ⟨k, rfl, rfl⟩
          · refine ⟨c', by omega, Nat.le_refl _, fun hz => by have := g2 (by simpa using hz); omega, ?_⟩
            rcases ibound_rel hhi hh with ⟨rfl, rfl, rfl⟩ | ⟨k, rfl, rfl⟩ <;> rcases ibound_rel hlo hl with ⟨rfl, rfl, rfl⟩ | ⟨k', rfl, rfl⟩ <;>
              (simp [Instr.sliceAt, Instr.slice, Instr.sliceBounds, run_under_of hu, run_sizeOf_of hsz, run_sliceBound_of h1, run_sliceBound_of (show h ≤ c' by omega)]; try (split <;> simp_all))
          · obtain ⟨hhs, h4, h5⟩ := h3 rfl
            refine ⟨m, h4, by omega, fun hz => by simp at hz; omega, ?_⟩
            rcases ibound_rel hhi hh with ⟨rfl, rfl, rfl⟩ | ⟨k2, rfl, rfl⟩
            · simp at hhs
            · rcases ibound_rel hlo hl with ⟨rfl, rfl, rfl⟩ | ⟨k', rfl, rfl⟩ <;>
              (simp [Instr.sliceAt, Instr.slice, Instr.sliceBounds, run_under_of hu, run_sizeOf_of hsz, run_sliceBound_of h1, run_sliceBound_of h4, run_sliceBound_of (show m ≤ c' by omega)]; try (split <;> simp_all))
        cases hx with
        | plain hp => simp [plain0] at hp
        | row hb hl2 hcc hr =>
          rename_i q s n c'
          obtain ⟨M, hM1, hM2, hM3, hrun⟩ := key ⟨q, s + o, none⟩ c' hl2 hcc
          refine ⟨_, hrun, ?_⟩
          by_cases hMl : M = l
          · rw [if_pos hMl]
            have e0 : h - l = 0 := by omega
            have e1 : M - l = 0 := by omega
            rw [e0, e1]
            exact .away hb (fun _ => rfl) (.inr rfl)
          · rw [if_neg hMl, add_off, Nat.add_assoc]
            refine .row hb (by omega) hM3 ?_
            have : l * sz + (M - l) * sz = M * sz := by rw [← Nat.add_mul]; congr 1; omega
            have h7 : M * sz ≤ c' * sz := Nat.mul_le_mul_right _ hM2
            omega
        | away hb hcc hz =>
          rename_i c' p a
          obtain ⟨M, hM1, hM2, hM3, hrun⟩ := key a c' (Nat.zero_le _) hcc
          refine ⟨_, hrun, ?_⟩
          have e0 : h - l = 0 := by omega
          rw [e0]
          refine .away hb hM3 ?_
          rcases hz with hz | hz
          · exact .inl hz
          · exact .inr (by omega)
      · cases he
    · cases hv
  · rename_i sz xs ik kk
    replace hv := Option.bind_eq_some_iff.mp hv
    obtain ⟨e, he, hv⟩ := hv
    replace hv := Option.bind_eq_some_iff.mp hv
    obtain ⟨m, hm, hv⟩ := hv
    replace hv := Option.bind_eq_some_iff.mp hv
    obtain ⟨h, hh, hv⟩ := hv
    replace hv := Option.bind_eq_some_iff.mp hv
    obtain ⟨l, hl, hv⟩ := hv
    split at hv
    · rename_i hc
      cases hv
      obtain ⟨hsz, h1, h2, h3⟩ := hc
      unfold tElem at he
      split at he
      · rename_i e' hu
        cases he
        have key : ∀ (a : Addr) (c' : Nat), xs.length ≤ c' → (kk = 2 → c' = 0) → ∃ M, h ≤ M ∧ M ≤ c' ∧ ((if mx.isSome = true ∧ m = l then (2 : Int) else if kk = 2 then 2 else 0) = 2 → M - l = 0) ∧
            (Instr.sliceAt t (.slice (some a) xs.length c') lo' hi' mx').run P w = .ok (.slice (some (if M = l then a else a.add (l * sz))) (h - l) (M - l)) w := fun a c' g1 g2 => by
          have hcx : h ≤ c' := by omega
          rcases ibound_rel hmx hm with ⟨rfl, rfl, rfl⟩ | ⟨k, rfl, rfl⟩
          · refine ⟨c', by omega, Nat.le_refl _, fun hz => by simp at hz; have := g2 hz; omega, ?_⟩
            rcases ibound_rel hhi hh with ⟨rfl, rfl, rfl⟩ | ⟨k, rfl, rfl⟩ <;> rcases ibound_rel hlo hl with ⟨rfl, rfl, rfl⟩ | ⟨k', rfl, rfl⟩ <;>
              (simp [Instr.sliceAt, Instr.slice, Instr.sliceBounds, run_under_of hu, run_sizeOf_of hsz, run_sliceBound_of h1, run_sliceBound_of hcx]; try (split <;> simp_all))
          · obtain ⟨hhs, h4, h5⟩ := h3 rfl
            refine ⟨m, h4, by omega, fun hz => ?_, ?_⟩
            · by_cases hml : m = l
              · omega
              · rw [if_neg (by simp [hml])] at hz
                by_cases hk2 : kk = 2
                · have := g2 hk2; omega
                · rw [if_neg hk2] at hz; cases hz
            rcases ibound_rel hhi hh with ⟨rfl, rfl, rfl⟩ | ⟨k2, rfl, rfl⟩
            · simp at hhs
            · rcases ibound_rel hlo hl with ⟨rfl, rfl, rfl⟩ | ⟨k', rfl, rfl⟩ <;>
              (simp [Instr.sliceAt, Instr.slice, Instr.sliceBounds, run_under_of hu, run_sizeOf_of hsz, run_sliceBound_of h1, run_sliceBound_of h4, run_sliceBound_of (show m ≤ c' by omega)]; try (split <;> simp_all))
        have hlen : ((xs.drop l).take (h - l)).length = h - l := by simp; omega
        have hz1 : (if mx.isSome = true ∧ m = l then (2 : Int) else if kk = 2 then 2 else 0) ≠ 1 := by
          split
          · decide
          · split <;> decide
        generalize (if mx.isSome = true ∧ m = l then (2 : Int) else if kk = 2 then 2 else 0) = md at key hz1
        cases hx with
        | plain hp => simp [plain0] at hp
        | frow hv hl2 hcc =>
          rename_i q s c'
          obtain ⟨M, hM1, hM2, hM3, hrun⟩ := key ⟨q, s, none⟩ c' hl2 hcc
          refine ⟨_, hrun, ?_⟩
          by_cases hMl : M = l
          · rw [if_pos hMl]
            have e0 : h - l = 0 := by omega
            rw [e0]
            exact .frow0 hM3
          · rw [if_neg hMl, add_off]
            have := VR.frow (m := md) (c' := M - l) ((hv.drop l).take (h - l)) (by rw [hlen]; omega) hM3
            rw [hlen] at this; exact this
        | frow0 hcc =>
          rename_i c' a
          obtain ⟨M, hM1, hM2, hM3, hrun⟩ := key a c' (Nat.zero_le _) hcc
          refine ⟨_, hrun, ?_⟩
          simp only [List.length_nil] at h2
          have e0 : h - l = 0 := by omega
          rw [e0]
          exact .frow0 hM3
        | fnil hcc =>
          simp only [List.length_nil] at h2 h3 hh hm
          have e0 : h = 0 := by omega
          have e1 : l = 0 := by omega
          subst e0 e1
          have q (k : IntKind) (code : BoundsCode) : (Instr.sliceBound (.int k 0) 0 code).run P w = .ok 0 w := by simpa using run_sliceBound_of (P := P) (w := w) (k := k) (i := 0) (y := 0) (Nat.le_refl 0) code
          have hm0 : m = 0 := by
            rcases ibound_rel hmx hm with ⟨rfl, rfl, rfl⟩ | ⟨k, rfl, rfl⟩
            · rfl
            · have := h3 rfl; omega
          subst hm0
          refine ⟨.slice none 0 0, ?_, by rw [show (List.take (0 - 0) (List.drop 0 ([] : List Value))) = [] from rfl]; exact VR.fnil (ρ := ρ) (sz := sz) hz1⟩
          rcases ibound_rel hmx hm with ⟨rfl, rfl, -⟩ | ⟨k, rfl, rfl⟩ <;> rcases ibound_rel hhi hh with ⟨rfl, rfl, -⟩ | ⟨k, rfl, rfl⟩ <;> rcases ibound_rel hlo hl with ⟨rfl, rfl, -⟩ | ⟨k', rfl, rfl⟩ <;>
            first
            | (simp at h3; done)
            | simp [Instr.sliceAt, Instr.slice, Instr.sliceBounds, run_under_of hu, run_sizeOf_of hsz, q]
      · cases he
    · cases hv
  · cases hv
def iint (op : BinOp) (k : IntKind) (a b : Int) : Option Value :=
  match op with
  | .add => some (.int k (k.wrap (a + b)))
  | .sub => some (.int k (k.wrap (a - b)))
  | .mul => some (.int k (k.wrap (a * b)))
  | .quo => if b = 0 then none else some (.int k (k.wrap (a.tdiv b)))
  | .rem => if b = 0 then none else some (.int k (a.tmod b))
  | .and => some (.int k (k.wrap (BitVec.ofInt k.bits a &&& BitVec.ofInt k.bits b).toNat))
  | .or => some (.int k (k.wrap (BitVec.ofInt k.bits a ||| BitVec.ofInt k.bits b).toNat))
  | .xor => some (.int k (k.wrap (BitVec.ofInt k.bits a ^^^ BitVec.ofInt k.bits b).toNat))
  | .eql => some (.bool (a == b))
  | .neq => some (.bool (a != b))
  | .lss => some (.bool (decide (a < b)))
  | .leq => some (.bool (decide (a ≤ b)))
  | .gtr => some (.bool (decide (b < a)))
  | .geq => some (.bool (decide (b ≤ a)))
  | _ => none
def ishift (op : BinOp) (k : IntKind) (a b : Int) : Option Value :=
  if b < 0 then none else
  match op with
  | .shl => some (.int k (k.wrap (a * 2 ^ (min b.toNat k.bits))))
  | .shr => some (.int k (a.fdiv (2 ^ (min b.toNat k.bits))))
  | _ => none
def isShift : BinOp → Bool
  | .shl | .shr => true
  | _ => false
def eqOp (op : BinOp) (b : Bool) : Option Value :=
  match op with
  | .eql => some (.bool b)
  | .neq => some (.bool (!b))
  | _ => none
def tEq (P : Program) (t : TypeId) : Option (List (Nat × TypeId)) :=
  match P.underlying t with
  | some (.struct fs) => if P.stoodInHeld t = false ∧ P.eqGuardType P.depth t = false ∧ (fs.toList.all fun f => f.name != "_" && tAgg P f.type == some false) = true then some (fs.toList.map fun f => (f.offset, f.type)) else none
  | some (.array len e) => (tSize P e).bind fun n => if P.eqGuardType P.depth t = false ∧ tAgg P e = some false then some ((List.range len).map fun i => (i * n, e)) else none
  | _ => none
def ieq1 (P : Program) (t : TypeId) (x y : Value) : Option Bool :=
  match x, y with
  | .int k a, .int k' b => match tKind P t with | some (.int _) => if k = k' then some (a == b) else none | _ => none
  | .bool a, .bool b => if tKind P t = some .bool then some (a == b) else none
  | .string a, .string b => if tKind P t = some .string then some (a.toList == b.toList) else none
  | _, _ => none
def ieqL (P : Program) (xs ys : List Value) : List (Nat × TypeId) → Option Bool
  | [] => some true
  | f :: fs => (xs[f.1]?).bind fun a => (ys[f.1]?).bind fun b => (ieq1 P f.2 a b).bind fun r => (ieqL P xs ys fs).map fun s => r && s
theorem ieq1_sound {P : Program} {w : World} {t : TypeId} {x y : Value} {r : Bool} (h : ieq1 P t x y = some r) : plain0 x = true ∧ plain0 y = true ∧ ∀ d, (Op.equalIn (d + 1) t x y).run P w = .ok r w := by
  unfold ieq1 at h
  split at h
  · split at h
    · rename_i k a k' b _ k2 hk
      split at h
      · rename_i e; subst e; cases h
        unfold tKind at hk
        split at hk <;> try (cases hk)
        rename_i hu
        exact ⟨rfl, rfl, fun d => by simp [Op.equalIn, run_under_of hu]⟩
      · cases h
    · cases h
  · split at h
    · rename_i hk
      cases h
      unfold tKind at hk
      split at hk <;> try (cases hk)
      rename_i hu
      exact ⟨rfl, rfl, fun d => by simp [Op.equalIn, run_under_of hu]⟩
    · cases h
  · split at h
    · rename_i hk
      cases h
      unfold tKind at hk
      split at hk <;> try (cases hk)
      rename_i hu
      exact ⟨rfl, rfl, fun d => by simp [Op.equalIn, run_under_of hu, beq_toListBytes]⟩
    · cases h
  · cases h
theorem ieqL_sound {P : Program} {w : World} {ρ : Ren} {xs ys xs' ys' : List Value} (hx : VRL ρ xs xs') (hy : VRL ρ ys ys') : ∀ (fs : List Field) (r : Bool), (fs.all fun f => f.name != "_" && tAgg P f.type == some false) = true → ieqL P xs ys (fs.map fun f => (f.offset, f.type)) = some r →
    ∀ d, (Op.eqFields (d + 1) xs'.toArray ys'.toArray fs).run P w = .ok r w
  | [], r, _, h, d => by cases h; simp [Op.eqFields]
  | f :: fs, r, ha, h, d => by
    simp only [List.all_cons, Bool.and_eq_true, bne_iff_ne, ne_eq, beq_iff_eq] at ha
    obtain ⟨⟨hn, hag⟩, ha⟩ := ha
    simp only [List.map_cons, ieqL] at h
    obtain ⟨a, h1, h⟩ := Option.bind_eq_some_iff.mp h
    obtain ⟨b, h2, h⟩ := Option.bind_eq_some_iff.mp h
    obtain ⟨q, h3, h⟩ := Option.bind_eq_some_iff.mp h
    obtain ⟨s, h4, rfl⟩ := Option.map_eq_some_iff.mp h
    obtain ⟨p1, p2, he⟩ := ieq1_sound (w := w) h3
    obtain ⟨a', g1, g2⟩ := hx.get _ _ h1
    obtain ⟨b', g3, g4⟩ := hy.get _ _ h2
    rw [g2.eq_of_plain0 p1] at g1
    rw [g4.eq_of_plain0 p2] at g3
    have ih := ieqL_sound (w := w) hx hy fs s ha h4 d
    simp only [Op.eqFields, if_pos hn, Sem.run_bind]
    simp only [part, Sem.run_bind, run_isAgg_of hag, Result.andThen_ok, Bool.false_eq_true, if_false, List.getElem?_toArray, g1, g3, Sem.run_pure, he d]
    cases q
    · simp
    · simpa using ih
theorem run_eqArr {P : Program} {w : World} {ρ : Ren} {xs ys xs' ys' : List Value} (hx : VRL ρ xs xs') (hy : VRL ρ ys ys') {t e : TypeId} {len n : Nat} (hu : P.underlying t = some (.array len e)) (hs : tSize P e = some n) (hag : tAgg P e = some false) (r : Bool)
    (h : ieqL P xs ys ((List.range len).map fun i => (i * n, e)) = some r) (d : Nat) : (Op.equalIn (d + 2) t (.agg xs'.toArray) (.agg ys'.toArray)).run P w = .ok r w := by
  obtain ⟨D, hD⟩ : ∃ D, D = d + 1 := ⟨_, rfl⟩
  rw [show d + 2 = D + 1 by omega]
  simp only [Op.equalIn, Sem.run_bind, run_under_of hu, Result.andThen_ok, run_sizeOf_of hs]
  simp only [Std.Legacy.Range.forIn_eq_forIn_range', Std.Legacy.Range.size, Nat.sub_zero, Nat.add_one_sub_one, Nat.div_one, List.range_eq_range'] at h ⊢
  generalize List.range' 0 len = is at h ⊢
  induction is generalizing r with
  | nil => cases h; simp
  | cons j is ih =>
    simp only [List.map_cons, ieqL] at h
    obtain ⟨a, h1, h⟩ := Option.bind_eq_some_iff.mp h
    obtain ⟨b, h2, h⟩ := Option.bind_eq_some_iff.mp h
    obtain ⟨q, h3, h⟩ := Option.bind_eq_some_iff.mp h
    obtain ⟨s, h4, rfl⟩ := Option.map_eq_some_iff.mp h
    obtain ⟨p1, p2, he⟩ := ieq1_sound (w := w) h3
    obtain ⟨a', g1, g2⟩ := hx.get _ _ h1
    obtain ⟨b', g3, g4⟩ := hy.get _ _ h2
    rw [g2.eq_of_plain0 p1] at g1
    rw [g4.eq_of_plain0 p2] at g3
    have ih := ih s h4
    have he := he d
    rw [← hD] at he
    have r1 : (part e xs'.toArray (j * n)).run P w = .ok a w := by simp [part, run_isAgg_of hag, g1]
    have r2 : (part e ys'.toArray (j * n)).run P w = .ok b w := by simp [part, run_isAgg_of hag, g3]
    simp only [List.forIn_cons, Sem.run_bind, r1, r2, Result.andThen_ok, he]
    cases q
    · simp
    · simpa using ih
def ibin (P : Program) (op : BinOp) (t : TypeId) (x y : Value) : Option Value :=
  match x, y with
  | .int k a, .int k' b => if isShift op = true then ishift op k a b else if k = k' then iint op k a b else none
  | .bool a, .bool b => if tKind P t = some .bool then eqOp op (a == b) else none
  | .string a, .string b =>
    match op with
    | .eql => some (.bool (a.toList == b.toList))
    | .neq => some (.bool (!(a.toList == b.toList)))
    | .add => if a.size + b.size ≤ 4611686018427387904 then some (.string (a ++ b)) else none
    | _ => none
  | .pointer none, .pointer b => if tKind P t = some .pointer then eqOp op b.isNone else none
  | .pointer (some a), .pointer none => if tKind P t = some .pointer then eqOp op false else none
  | .slice none _ _, .slice b _ _ => if tKind P t = some .slice then eqOp op b.isNone else none
  | .slice (some _) _ _, .slice none _ _ => if tKind P t = some .slice then eqOp op false else none
  | .nilFunc, .nilFunc => if tKind P t = some .func then eqOp op true else none
  | .nilFunc, .func (.func _) _ _ => if tKind P t = some .func then eqOp op false else none
  | .func (.func _) _ _, .nilFunc => if tKind P t = some .func then eqOp op false else none
  | .func (.yield _) ⟨_ :: _⟩ ⟨[.int _ _]⟩, .slice none _ _ => if tKind P t = some .slice then eqOp op false else none
  | .func (.yield _) ⟨[]⟩ ⟨[.int _ 1]⟩, .slice none _ _ => if tKind P t = some .slice then eqOp op false else none
  | .func (.yield _) ⟨[_]⟩ ⟨[]⟩, .pointer none => if tKind P t = some .pointer then eqOp op false else none
  | .agg xs, .agg ys => (tEq P t).bind fun fs => (ieqL P xs.toList ys.toList fs).bind fun b => eqOp op b
  | _, _ => none
theorem run_equal_of {P : Program} {w : World} {t : TypeId} {x y : Value} {d : TypeDesc} {b : Bool} (hu : P.underlying t = some d)
    (h : ∀ d, (Op.equalIn (d + 1) t x y).run P w = .ok b w) : (Op.equal t x y).run P w = .ok b w := h 9999
theorem run_eqs {P : Program} {w : World} {op : BinOp} {t : TypeId} {x y : Value} {b : Bool} {v : Value} (ho : eqOp op b = some v)
    (hb : ∀ op', (op' = .eql ∨ op' = .neq) → binOp op' t x y = (if op' = .eql then (do pure (.bool (← Op.equal t x y))) else (do pure (.bool (!(← Op.equal t x y))))))
    (h : ∀ d, (Op.equalIn (d + 1) t x y).run P w = .ok b w) : (binOp op t x y).run P w = .ok v w := by
  have h' : (Op.equal t x y).run P w = .ok b w := h 9999
  cases op <;> simp only [eqOp, Option.some.injEq] at ho <;> try (cases ho; done)
  · subst ho; rw [hb _ (.inl rfl)]; simp [h']
  · subst ho; rw [hb _ (.inr rfl)]; simp [h']
theorem run_eqGuard_plain {P : Program} {w : World} {op : BinOp} {t : TypeId} {xo yo : Operand} {x y : Value} (hx : ∀ l, x ≠ .agg l) (hx' : x ≠ .nilIface) :
    (eqGuard op t xo yo x y).run P w = .ok () w := by
  cases x <;> first | exact absurd rfl hx' | exact absurd rfl (hx _) | (cases op <;> rfl)
theorem ibin_sound {P : Program} {w : World} {ρ : Ren} {op : BinOp} {t : TypeId} {xo yo : Operand} {x y x' y' v : Value} (hx : VR ρ x x') (hy : VR ρ y y') (hv : ibin P op t x y = some v) :
    (do eqGuard op t xo yo x' y'; binOp op t x' y').run P w = .ok v w ∧ plain0 v = true := by
  have guard : (∀ l, x' ≠ .agg l) → x' ≠ .nilIface → (binOp op t x' y').run P w = .ok v w → (do eqGuard op t xo yo x' y'; binOp op t x' y').run P w = .ok v w := fun h1 h2 h3 => by
    rw [Sem.run_bind, run_eqGuard_plain h1 h2]; exact h3
  have kd : ∀ {k : Kind} {o : Option Value}, (if tKind P t = some k then o else none) = some v → tKind P t = some k ∧ o = some v := fun h => by
    split at h
    · rename_i hk; exact ⟨hk, h⟩
    · cases h
  have pl : ∀ {b : Bool}, eqOp op b = some v → plain0 v = true := fun h => by cases op <;> simp only [eqOp, Option.some.injEq] at h <;> first | (subst h; rfl) | cases h
  unfold ibin at hv
  split at hv
  · rename_i k a k' b
    obtain rfl := hx.eq_of_plain0 rfl
    obtain rfl := hy.eq_of_plain0 rfl
    split at hv
    · rename_i hs
      unfold ishift at hv
      split at hv
      · cases hv
      · rename_i hb
        cases op <;> simp [isShift] at hs <;> simp only [Option.some.injEq] at hv <;> subst hv <;>
          exact ⟨guard (by simp) (by simp) (by simp [binOp, Op.shift, hb]), rfl⟩
    · rename_i hs
      split at hv
      · rename_i hk
        subst hk
        cases op <;> simp [isShift] at hs <;> simp only [iint, Option.some.injEq] at hv <;>
          first
          | (subst hv; exact ⟨guard (by simp) (by simp) (by simp [binOp, Op.intArith, Op.intBits, Op.intCmp]), rfl⟩)
          | (split at hv; cases hv; rename_i hb; simp only [Option.some.injEq] at hv; subst hv; exact ⟨guard (by simp) (by simp) (by simp [binOp, Op.intDiv, hb]), rfl⟩)
          | cases hv
      · cases hv
  · obtain rfl := hx.eq_of_plain0 rfl
    obtain rfl := hy.eq_of_plain0 rfl
    obtain ⟨hk, ho⟩ := kd hv
    unfold tKind at hk
    split at hk <;> try (cases hk)
    rename_i hu
    exact ⟨guard (by simp) (by simp) (run_eqs ho (fun op' h => by rcases h with rfl | rfl <;> rfl) (fun d => by simp [Op.equalIn, run_under_of hu])), pl ho⟩
  · obtain rfl := hx.eq_of_plain0 rfl
    obtain rfl := hy.eq_of_plain0 rfl
    rename_i a b
    split at hv
    · simp only [Option.some.injEq] at hv; subst hv; exact ⟨guard (by simp) (by simp) (by simp [binOp, Op.stringOp]), rfl⟩
    · simp only [Option.some.injEq] at hv; subst hv; exact ⟨guard (by simp) (by simp) (by simp [binOp, Op.stringOp]), rfl⟩
    · split at hv
      · rename_i hsz
        simp only [Option.some.injEq] at hv; subst hv
        have hn : ¬ (((a.size + b.size : Nat) : Int) > IntKind.i64.max) := by simp [IntKind.max, IntKind.signed, IntKind.bits]; omega
        exact ⟨guard (by simp) (by simp) (by simp only [binOp, Op.stringOp]; rw [if_neg hn]; simp), rfl⟩
      · cases hv
    · cases hv
  · obtain rfl := hx.eq_of_plain0 rfl
    obtain ⟨hk, ho⟩ := kd hv
    unfold tKind at hk
    split at hk <;> try (cases hk)
    rename_i b _ hu
    refine ⟨guard (by simp) (by simp) (run_eqs ho (fun op' h => by rcases h with rfl | rfl <;> cases hy <;> first | rfl | (rename_i hp; rename_i b _ _; rfl)) ?_), pl ho⟩
    cases hy with
    | plain hp => intro d; simp [Op.equalIn, run_under_of hu]
    | ptr hb => intro d; simp [Op.equalIn, run_under_of hu]
  · obtain ⟨hk, ho⟩ := kd hv
    unfold tKind at hk
    split at hk <;> try (cases hk)
    rename_i hu
    obtain rfl := hy.eq_of_plain0 rfl
    cases hx with
    | plain hp => simp [plain0] at hp
    | ptr hb => exact ⟨guard (by simp) (by simp) (run_eqs ho (fun op' h => by rcases h with rfl | rfl <;> rfl) (fun d => by simp [Op.equalIn, run_under_of hu])), pl ho⟩
  · obtain ⟨hk, ho⟩ := kd hv
    unfold tKind at hk
    split at hk <;> try (cases hk)
    rename_i hu
    cases hx with
    | plain hp =>
      cases hy with
      | plain hq => exact ⟨guard (by simp) (by simp) (run_eqs ho (fun op' h => by rcases h with rfl | rfl <;> rfl) (fun d => by simp [Op.equalIn, run_under_of hu])), pl ho⟩
      | row hb hl hcc hr => exact ⟨guard (by simp) (by simp) (run_eqs ho (fun op' h => by rcases h with rfl | rfl <;> rfl) (fun d => by simp [Op.equalIn, run_under_of hu])), pl ho⟩
      | away hb hcc hz => exact ⟨guard (by simp) (by simp) (run_eqs ho (fun op' h => by rcases h with rfl | rfl <;> rfl) (fun d => by simp [Op.equalIn, run_under_of hu])), pl ho⟩
  · obtain ⟨hk, ho⟩ := kd hv
    unfold tKind at hk
    split at hk <;> try (cases hk)
    rename_i hu
    cases hy with
    | plain hq =>
      cases hx with
      | plain hp => simp [plain0] at hp
      | row hb hl hcc hr => exact ⟨guard (by simp) (by simp) (run_eqs ho (fun op' h => by rcases h with rfl | rfl <;> rfl) (fun d => by simp [Op.equalIn, run_under_of hu])), pl ho⟩
      | away hb hcc hz => exact ⟨guard (by simp) (by simp) (run_eqs ho (fun op' h => by rcases h with rfl | rfl <;> rfl) (fun d => by simp [Op.equalIn, run_under_of hu])), pl ho⟩
  · obtain ⟨hk, ho⟩ := kd hv
    unfold tKind at hk
    split at hk <;> try (cases hk)
    rename_i hu
    obtain rfl := hx.eq_of_plain0 rfl
    obtain rfl := hy.eq_of_plain0 rfl
    exact ⟨guard (by simp) (by simp) (run_eqs ho (fun op' h => by rcases h with rfl | rfl <;> rfl) (fun d => by simp [Op.equalIn, run_under_of hu])), pl ho⟩
  · obtain ⟨hk, ho⟩ := kd hv
    unfold tKind at hk
    split at hk <;> try (cases hk)
    rename_i hu
    obtain rfl := hx.eq_of_plain0 rfl
    cases hy with
    | plain hp => simp [plain0] at hp
    | func h1 h2 => exact ⟨guard (by simp) (by simp) (run_eqs ho (fun op' h => by rcases h with rfl | rfl <;> rfl) (fun d => by simp [Op.equalIn, run_under_of hu])), pl ho⟩
  · obtain ⟨hk, ho⟩ := kd hv
    unfold tKind at hk
    split at hk <;> try (cases hk)
    rename_i hu
    obtain rfl := hy.eq_of_plain0 rfl
    cases hx with
    | plain hp => simp [plain0] at hp
    | func h1 h2 => exact ⟨guard (by simp) (by simp) (run_eqs ho (fun op' h => by rcases h with rfl | rfl <;> rfl) (fun d => by simp [Op.equalIn, run_under_of hu])), pl ho⟩
  · obtain ⟨hk, ho⟩ := kd hv
    unfold tKind at hk
    split at hk <;> try (cases hk)
    rename_i hu
    cases hy with
    | plain hq =>
      cases hx with
      | plain hp => simp [plain0] at hp
      | frow h1 h2 h3 => exact ⟨guard (by simp) (by simp) (run_eqs ho (fun op' h => by rcases h with rfl | rfl <;> rfl) (fun d => by simp [Op.equalIn, run_under_of hu])), pl ho⟩
  · obtain ⟨hk, ho⟩ := kd hv
    unfold tKind at hk
    split at hk <;> try (cases hk)
    rename_i hu
    cases hy with
    | plain hq =>
      cases hx with
      | plain hp => simp [plain0] at hp
      | frow h1 h2 h3 => exact ⟨guard (by simp) (by simp) (run_eqs ho (fun op' h => by rcases h with rfl | rfl <;> rfl) (fun d => by simp [Op.equalIn, run_under_of hu])), pl ho⟩
      | frow0 h3 => exact ⟨guard (by simp) (by simp) (run_eqs ho (fun op' h => by rcases h with rfl | rfl <;> rfl) (fun d => by simp [Op.equalIn, run_under_of hu])), pl ho⟩
      | fnil h3 => exact absurd rfl h3
  · obtain ⟨hk, ho⟩ := kd hv
    unfold tKind at hk
    split at hk <;> try (cases hk)
    rename_i hu
    obtain rfl := hy.eq_of_plain0 rfl
    cases hx with
    | plain hp => simp [plain0] at hp
    | fptr h1 h2 => exact ⟨guard (by simp) (by simp) (run_eqs ho (fun op' h => by rcases h with rfl | rfl <;> rfl) (fun d => by simp [Op.equalIn, run_under_of hu])), pl ho⟩
  · rename_i xs ys
    obtain ⟨fs, h1, hv⟩ := Option.bind_eq_some_iff.mp hv
    obtain ⟨b, h2, ho⟩ := Option.bind_eq_some_iff.mp hv
    cases hx with
    | plain hp => simp [plain0] at hp
    | agg hxl =>
      cases hy with
      | plain hp => simp [plain0] at hp
      | agg hyl =>
        unfold tEq at h1
        split at h1
        · rename_i gs hu
          split at h1
          · rename_i hc
            obtain ⟨c1, c2, c3⟩ := hc
            cases h1
            have hf : P.fieldsOf t = gs := by simp [Program.fieldsOf, hu]
            have key : ∀ d, (Op.equalIn (d + 2) t _ _).run P w = .ok b w := fun d => by
              rw [run_equalIn_struct w (d + 1) t _ _ (by rw [hf]; exact hu) c1, hf]
              exact ieqL_sound (w := w) hxl hyl gs.toList b c3 h2 d
            refine ⟨?_, pl ho⟩
            rw [Sem.run_bind, run_eqGuard_agg w op t xo yo _ _ c2]
            simp only [Result.andThen_ok]
            cases op <;> simp only [eqOp, Option.some.injEq] at ho <;> try (cases ho; done)
            · subst ho
              rw [run_eql_struct, key 9998]; rfl
            · subst ho
              rw [run_neq_struct, key 9998]; rfl
          · cases h1
        · rename_i len e hu
          obtain ⟨n, hs, h1⟩ := Option.bind_eq_some_iff.mp h1
          split at h1
          · rename_i hc
            obtain ⟨c2, c3⟩ := hc
            cases h1
            have key : ∀ d, (Op.equalIn (d + 2) t _ _).run P w = .ok b w := fun d => run_eqArr (w := w) hxl hyl hu hs c3 b h2 d
            refine ⟨?_, pl ho⟩
            rw [Sem.run_bind, run_eqGuard_agg w op t xo yo _ _ c2]
            simp only [Result.andThen_ok]
            cases op <;> simp only [eqOp, Option.some.injEq] at ho <;> try (cases ho; done)
            · subst ho
              rw [run_eql_struct, key 9998]; rfl
            · subst ho
              rw [run_neq_struct, key 9998]; rfl
          · cases h1
        · cases h1
  · cases hv
end Go.Proofs.YtoecebibhcadoaaDoor.I
