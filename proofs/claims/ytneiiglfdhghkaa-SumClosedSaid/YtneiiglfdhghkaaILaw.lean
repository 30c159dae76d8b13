/- From a contract over the ideal heap to a row's proof: all arguments opened; what a law's call leaves. No condition. -/
import Derived.Test.YtneiiglfdhghkaaIOpen
import Derived.ProofKit
import Derived.OpenShut
import Derived.Carry
import Derived.ChangeOld
import Derived.SizedLaws
namespace Go.Proofs.Ytneiiglfdhghkaa.I
open Go Go.RowKit Go.ChangeShapes Go.WideShapes
set_option linter.unusedVariables false
set_option linter.unusedSimpArgs false

def Ty.isRec : Ty → Bool
  | .recd _ => true
  | _ => false

/-- A value that shows a datum. -/
def LayV (H : Heap) (T : Ty) (d : Dt) (v : Value) : Prop :=
  (T.isRec = true ∧ ∃ cs : List Value, v = .agg cs.toArray ∧ Lay H T d cs) ∨ (T.isRec = false ∧ Lay H T d [v])

def LayA (H : Heap) : List Ty → List Dt → List Value → Prop
  | [], [], [] => True
  | T :: Ts, d :: ds, v :: vs => LayV H T d v ∧ LayA H Ts ds vs
  | _, _, _ => False

theorem LayV.sub {H K : Heap} (s : Sub H K) {T : Ty} {d : Dt} {v : Value} (h : LayV H T d v) : LayV K T d v := by
  rcases h with ⟨h1, cs, h2, h3⟩ | ⟨h1, h2⟩
  · exact .inl ⟨h1, cs, h2, h3.sub s⟩
  · exact .inr ⟨h1, h2.sub s⟩

theorem LayA.sub {H K : Heap} (s : Sub H K) : ∀ {Ts : List Ty} {ds : List Dt} {vs : List Value}, LayA H Ts ds vs → LayA K Ts ds vs
  | [], [], [], _ => trivial
  | _ :: _, _ :: _, _ :: _, h => ⟨h.1.sub s, LayA.sub s h.2⟩
  | [], _ :: _, _, h => h.elim
  | [], [], _ :: _, h => h.elim
  | _ :: _, [], _, h => h.elim
  | _ :: _, _ :: _, [], h => h.elim

def isTyL (P : Program) : List Ty → List TypeId → Bool
  | [], [] => true
  | T :: Ts, t :: ts => isTy P T t && isTyL P Ts ts
  | _, _ => false

theorem HR.start (W : World) : HR W.heap.size W (fun _ => none) Heap.empty W :=
  ⟨Below.refl _ _, Nat.le_refl _, (fun _ _ h => by cases h), (fun _ _ _ _ h => by cases h), (fun _ _ h => by cases h), (fun _ _ _ _ _ _ _ _ _ _ _ h => by cases h)⟩

section
variable {HH : Type} {enc : TypeId × Value → HH} {P : Program} {W : World} {r : Reach} {base : Nat}

theorem open_value {T : Ty} {t : TypeId} {v : Value} {d : DataW HH} {p : List MemPlace} (ht : isTy P T t = true) (hval : Value.okWide P W r base t v) (h : DataW.Trod enc P W 0 (fun _ => true) true t v d p)
    (ρ : Ren) (H : Heap) (hr : HR W.heap.size W ρ H W) : ∃ (ρ' : Ren) (H' : Heap) (dt : Dt) (iv : Value), Ren.Le ρ ρ' ∧ Sub H H' ∧ HR W.heap.size W ρ' H' W ∧ VR ρ' iv v ∧ LayV H' T dt iv := by
  obtain ⟨fuel, hf⟩ := h
  obtain ⟨ρ', H', dt, ics, a1, a2, a3, a4, a5⟩ := opens fuel T t _ _ ht hf ρ H hr
  have single : T.isRec = false → v.cells = #[v] → ∃ iv, VR ρ' iv v ∧ LayV H' T dt iv := fun hn hc => by
    rw [hc] at a4
    cases a4 with
    | cons h1 h2 =>
      cases h2
      exact ⟨_, h1, .inr ⟨hn, a5⟩⟩
  cases T with
  | bool =>
    simp only [isTy] at ht
    split at ht <;> try (cases ht)
    rename_i hu
    obtain ⟨b, rfl⟩ := okWide_bool hu hval
    obtain ⟨iv, h1, h2⟩ := single rfl rfl
    exact ⟨ρ', H', dt, iv, a1, a2, a3, h1, h2⟩
  | int k =>
    simp only [isTy] at ht
    split at ht <;> try (cases ht)
    rename_i k' hu
    obtain ⟨b, rfl⟩ := okWide_int hu hval
    obtain ⟨iv, h1, h2⟩ := single rfl rfl
    exact ⟨ρ', H', dt, iv, a1, a2, a3, h1, h2⟩
  | str =>
    simp only [isTy] at ht
    split at ht <;> try (cases ht)
    rename_i hu
    obtain ⟨b, rfl⟩ := okWide_string hu hval
    obtain ⟨iv, h1, h2⟩ := single rfl rfl
    exact ⟨ρ', H', dt, iv, a1, a2, a3, h1, h2⟩
  | row e sz =>
    simp only [isTy] at ht
    split at ht <;> try (cases ht)
    rename_i e' hu
    obtain ⟨a, l, c, rfl⟩ := okWide_slice hu hval
    obtain ⟨iv, h1, h2⟩ := single rfl rfl
    exact ⟨ρ', H', dt, iv, a1, a2, a3, h1, h2⟩
  | recd fs =>
    simp only [isTy] at ht
    split at ht <;> try (cases ht)
    rename_i fields hu
    obtain ⟨cs, rfl, _⟩ := okWide_struct hu hval
    exact ⟨ρ', H', dt, .agg ics.toArray, a1, a2, a3, .agg (by simpa [Value.cells] using a4), .inl ⟨rfl, ics, rfl, a5⟩⟩

theorem open_args : ∀ (Ts : List Ty) (ts : List TypeId) (vs : List Value) (ds : List (DataW HH)) (p : List MemPlace), isTyL P Ts ts = true → (∀ (j : Nat) (t : TypeId) (v : Value), ts[j]? = some t → vs[j]? = some v → Value.okWide P W r base t v) →
    DataW.TrodAll enc P W 0 (fun _ => true) true ts vs ds p → ∀ (ρ : Ren) (H : Heap), HR W.heap.size W ρ H W →
    ∃ (ρ' : Ren) (H' : Heap) (dts : List Dt) (ivs : List Value), Ren.Le ρ ρ' ∧ Sub H H' ∧ HR W.heap.size W ρ' H' W ∧ VRL ρ' ivs vs ∧ LayA H' Ts dts ivs
  | [], [], [], [], p, _, _, _, ρ, H, hr => ⟨ρ, H, [], [], Ren.Le.refl _, Sub.refl _, hr, .nil, trivial⟩
  | T :: Ts, t :: ts, v :: vs, d :: ds, p, ht, hval, h, ρ, H, hr => by
    simp only [isTyL, Bool.and_eq_true] at ht
    obtain ⟨p1, q1, h1, h2, rfl⟩ := h
    obtain ⟨ρ1, H1, dt, iv, a1, a2, a3, a4, a5⟩ := open_value ht.1 (hval 0 t v rfl rfl) h1 ρ H hr
    obtain ⟨ρ2, H2, dts, ivs, b1, b2, b3, b4, b5⟩ := open_args Ts ts vs ds q1 ht.2 (fun j t v g1 g2 => hval (j + 1) t v (by simpa using g1) (by simpa using g2)) h2 ρ1 H1 a3
    exact ⟨ρ2, H2, dt :: dts, iv :: ivs, a1.trans b1, a2.trans b2, b3, .cons (a4.mono b1) b4, a5.sub b2, b5⟩
  | [], [], _ :: _, _, p, _, _, h, ρ, H, hr => by cases h
  | [], [], [], _ :: _, p, _, _, h, ρ, H, hr => by cases h
  | [], _ :: _, _, _, p, ht, _, h, ρ, H, hr => by simp [isTyL] at ht
  | _ :: _, [], _, _, p, ht, _, h, ρ, H, hr => by simp [isTyL] at ht
  | _ :: _, _ :: _, [], _, p, _, _, h, ρ, H, hr => by cases h
  | _ :: _, _ :: _, _ :: _, [], p, _, _, h, ρ, H, hr => by cases h

def readAll (P : Program) (ts : List TypeId) : Bool := ts.all fun t => P.readableRec t && decide (t < P.types.size)

theorem stay_all (hl : laidOutB P = true) {W' : World} (hb : Below W.heap.size W W') : ∀ (ts : List TypeId) (vs : List Value) (ds : List (DataW HH)) (p : List MemPlace), readAll P ts = true →
    DataW.TrodAll enc P W 0 (fun _ => true) true ts vs ds p → DataW.TrodAll enc P W' 0 (fun b => decide (b < W.heap.size)) true ts vs ds p
  | [], [], [], p, _, h => h
  | t :: ts, v :: vs, d :: ds, p, hr, h => by
    simp only [readAll, List.all_cons, Bool.and_eq_true, decide_eq_true_eq] at hr
    obtain ⟨p1, q1, h1, h2, rfl⟩ := h
    refine ⟨p1, q1, Below.trod hl hr.1.1 hr.1.2 h1 hb (fun x hx => ?_), stay_all hl hb ts vs ds q1 hr.2 h2, rfl⟩
    obtain ⟨fuel, hf⟩ := h1
    exact DataW.trod_lt fuel _ _ _ hf x hx
  | [], _ :: _, _, p, _, h => by cases h
  | [], [], _ :: _, p, _, h => by cases h
  | _ :: _, [], _, p, _, h => by cases h
  | _ :: _, _ :: _, [], p, _, h => by cases h

end

theorem law_end {P : Program} {f : FuncId} {W : World} {ρ : Ren} {H : Heap} {ics : List Value} {args : Array Value} (h : IBody P f ics H fun v _ => v = .bool true) (hr : HR W.heap.size W ρ H W) (hv : VRL ρ ics args.toList) :
    Calls P f args W fun e W' => e = .returned (.bool true) ∧ Below W.heap.size W W' :=
  (h W.heap.size W ρ args W hr hv).mono fun e W' ⟨ρ', v, v', H', he, hk, hvr, hr', _, _⟩ => by
    subst hk
    rw [hvr.eq_of_plain0 rfl] at he
    exact ⟨he, hr'.below⟩

theorem layA_cons {H : Heap} {T : Ty} {Ts : List Ty} : ∀ {ds : List Dt} {vs : List Value}, LayA H (T :: Ts) ds vs → ∃ d ds' v vs', ds = d :: ds' ∧ vs = v :: vs' ∧ LayV H T d v ∧ LayA H Ts ds' vs'
  | d :: ds, v :: vs, h => ⟨d, ds, v, vs, rfl, rfl, h.1, h.2⟩
  | [], _, h => by cases h
  | _ :: _, [], h => by cases h
theorem layA_nil {H : Heap} : ∀ {ds : List Dt} {vs : List Value}, LayA H [] ds vs → ds = [] ∧ vs = []
  | [], [], _ => ⟨rfl, rfl⟩
  | _ :: _, _, h => by cases h
  | [], _ :: _, h => by cases h
theorem wf_u8 {n : Int} (h : (Lit.int .u8 n).wf = true) : 0 ≤ n ∧ n < 256 := by
  have h1 : IntKind.min .u8 ≤ n ∧ n ≤ IntKind.max .u8 := by simpa [Lit.wf] using h
  have h2 : IntKind.min .u8 = 0 := by decide
  have h3 : IntKind.max .u8 = 255 := by decide
  omega
theorem wf_u16 {n : Int} (h : (Lit.int .u16 n).wf = true) : 0 ≤ n ∧ n < 65536 := by
  have h1 : IntKind.min .u16 ≤ n ∧ n ≤ IntKind.max .u16 := by simpa [Lit.wf] using h
  have h2 : IntKind.min .u16 = 0 := by decide
  have h3 : IntKind.max .u16 = 65535 := by decide
  omega
theorem wf_u32 {n : Int} (h : (Lit.int .u32 n).wf = true) : 0 ≤ n ∧ n < 4294967296 := by
  have h1 : IntKind.min .u32 ≤ n ∧ n ≤ IntKind.max .u32 := by simpa [Lit.wf] using h
  have h2 : IntKind.min .u32 = 0 := by decide
  have h3 : IntKind.max .u32 = 4294967295 := by decide
  omega
theorem wf_u64 {n : Int} (h : (Lit.int .u64 n).wf = true) : 0 ≤ n ∧ n < 18446744073709551616 := by
  have h1 : IntKind.min .u64 ≤ n ∧ n ≤ IntKind.max .u64 := by simpa [Lit.wf] using h
  have h2 : IntKind.min .u64 = 0 := by decide
  have h3 : IntKind.max .u64 = 18446744073709551615 := by decide
  omega
theorem wf_i8 {n : Int} (h : (Lit.int .i8 n).wf = true) : -128 ≤ n ∧ n < 128 := by
  have h1 : IntKind.min .i8 ≤ n ∧ n ≤ IntKind.max .i8 := by simpa [Lit.wf] using h
  have h2 : IntKind.min .i8 = -128 := by decide
  have h3 : IntKind.max .i8 = 127 := by decide
  omega
theorem wf_i16 {n : Int} (h : (Lit.int .i16 n).wf = true) : -32768 ≤ n ∧ n < 32768 := by
  have h1 : IntKind.min .i16 ≤ n ∧ n ≤ IntKind.max .i16 := by simpa [Lit.wf] using h
  have h2 : IntKind.min .i16 = -32768 := by decide
  have h3 : IntKind.max .i16 = 32767 := by decide
  omega
theorem wf_i32 {n : Int} (h : (Lit.int .i32 n).wf = true) : -2147483648 ≤ n ∧ n < 2147483648 := by
  have h1 : IntKind.min .i32 ≤ n ∧ n ≤ IntKind.max .i32 := by simpa [Lit.wf] using h
  have h2 : IntKind.min .i32 = -2147483648 := by decide
  have h3 : IntKind.max .i32 = 2147483647 := by decide
  omega
theorem wf_i64 {n : Int} (h : (Lit.int .i64 n).wf = true) : -9223372036854775808 ≤ n ∧ n < 9223372036854775808 := by
  have h1 : IntKind.min .i64 ≤ n ∧ n ≤ IntKind.max .i64 := by simpa [Lit.wf] using h
  have h2 : IntKind.min .i64 = -9223372036854775808 := by decide
  have h3 : IntKind.max .i64 = 9223372036854775807 := by decide
  omega
section shapes
variable {H : Heap} {d : Dt} {v : Value}
theorem layV_bool (h : LayV H .bool d v) : ∃ b, d = .b b ∧ v = .bool b := by
  rcases h with ⟨h, _⟩ | ⟨_, h⟩
  · cases h
  · cases h; exact ⟨_, rfl, rfl⟩
theorem layV_int {k : IntKind} (h : LayV H (.int k) d v) : ∃ n, d = .i n ∧ v = .int k n ∧ (Lit.int k n).wf = true := by
  rcases h with ⟨h, _⟩ | ⟨_, h⟩
  · cases h
  · cases h; exact ⟨_, rfl, rfl, by assumption⟩
theorem layV_str (h : LayV H .str d v) : ∃ s, d = .s s ∧ v = .string s ∧ s.size ≤ maxLen := by
  rcases h with ⟨h, _⟩ | ⟨_, h⟩
  · cases h
  · cases h; exact ⟨_, rfl, rfl, by assumption⟩
theorem layV_row {e : Ty} {sz : Nat} (h : LayV H (.row e sz) d v) : Lay H (.row e sz) d [v] := by
  rcases h with ⟨h, _⟩ | ⟨_, h⟩
  · cases h
  · exact h
theorem layV_rec {fs : List Ty} (h : LayV H (.recd fs) d v) : ∃ xs css, d = .r xs ∧ v = .agg css.flatten.toArray ∧ LayF H fs xs css := by
  rcases h with ⟨_, cs, h1, h2⟩ | ⟨h, _⟩
  · cases h2; exact ⟨_, _, rfl, h1, by assumption⟩
  · cases h
end shapes

end Go.Proofs.Ytneiiglfdhghkaa.I
