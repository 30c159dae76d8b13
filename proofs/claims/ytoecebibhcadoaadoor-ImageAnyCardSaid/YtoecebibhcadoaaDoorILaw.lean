/- From a contract over the ideal heap to a row's proof: all arguments opened; what a law's call leaves. No condition. -/
import Derived.Test.YtoecebibhcadoaaDoorIOpen
import Derived.ProofKit
import Derived.OpenShut
import Derived.Carry
import Derived.ChangeOld
import Derived.SizedLaws
namespace Go.Proofs.YtoecebibhcadoaaDoor.I
open Go Go.RowKit Go.ChangeShapes Go.WideShapes
set_option linter.unusedVariables false
set_option linter.unusedSimpArgs false
def LayV (T : Ty) (d : Dt) (v : Value) : Prop :=
  (T.isRec = true ∧ ∃ cs : List Value, v = .agg ⟨cs⟩ ∧ Lay T d cs) ∨ (T.isRec = false ∧ Lay T d [v])
def LayA : List Ty → List Dt → List Value → Prop
  | [], [], [] => True
  | T :: Ts, d :: ds, v :: vs => LayV T d v ∧ LayA Ts ds vs
  | _, _, _ => False
def isTyL (P : Program) : List Ty → List TypeId → Bool
  | [], [] => true
  | T :: Ts, t :: ts => isTy P T t && isTyL P Ts ts
  | _, _ => false
section
variable {HH : Type} {enc : TypeId × Value → HH} {P : Program} {W : World} {r : Reach} {base : Nat}
theorem open_value {T : Ty} {t : TypeId} {v : Value} {d : DataW HH} {p : List MemPlace} (ht : isTy P T t = true) (hval : Value.okWide P W r base t v) (h : DataW.Trod enc P W 0 (fun _ => true) true t v d p) :
    ∃ (dt : Dt) (iv : Value), VR (Ren.all W) iv v ∧ LayV T dt iv := by
  obtain ⟨fuel, hf⟩ := h
  obtain ⟨dt, ics, a4, a5⟩ := opens fuel T t _ _ ht hf
  have single : T.isRec = false → v.cells = #[v] → ∃ (dt : Dt) (iv : Value), VR (Ren.all W) iv v ∧ LayV T dt iv := fun hn hc => by
    rw [hc] at a4
    cases a4 with
    | cons h1 h2 =>
      cases h2
      exact ⟨_, _, h1, .inr ⟨hn, a5⟩⟩
  cases T with
  | bool =>
    simp only [isTy] at ht
    split at ht <;> try (cases ht)
    rename_i hu
    obtain ⟨b, rfl⟩ := okWide_bool hu hval
    exact single rfl rfl
  | int k =>
    simp only [isTy] at ht
    split at ht <;> try (cases ht)
    rename_i k' hu
    obtain ⟨b, rfl⟩ := okWide_int hu hval
    exact single rfl rfl
  | str =>
    simp only [isTy] at ht
    split at ht <;> try (cases ht)
    rename_i hu
    obtain ⟨b, rfl⟩ := okWide_string hu hval
    exact single rfl rfl
  | row e sz =>
    simp only [isTy] at ht
    split at ht <;> try (cases ht)
    rename_i e' hu
    obtain ⟨a, l, c, rfl⟩ := okWide_slice hu hval
    exact single rfl rfl
  | recd fs =>
    simp only [isTy] at ht
    split at ht <;> try (cases ht)
    rename_i fields hu
    obtain ⟨cs, rfl, _⟩ := okWide_struct hu hval
    exact ⟨dt, .agg ⟨ics⟩, .agg (by simpa [Value.cells] using a4), .inl ⟨rfl, ics, rfl, a5⟩⟩
theorem open_args : ∀ (Ts : List Ty) (ts : List TypeId) (vs : List Value) (ds : List (DataW HH)) (p : List MemPlace), isTyL P Ts ts = true → (∀ (j : Nat) (t : TypeId) (v : Value), ts[j]? = some t → vs[j]? = some v → Value.okWide P W r base t v) →
    DataW.TrodAll enc P W 0 (fun _ => true) true ts vs ds p → ∃ (dts : List Dt) (ivs : List Value), VRL (Ren.all W) ivs vs ∧ LayA Ts dts ivs
  | [], [], [], [], p, _, _, _ => ⟨[], [], .nil, trivial⟩
  | T :: Ts, t :: ts, v :: vs, d :: ds, p, ht, hval, h => by
    simp only [isTyL, Bool.and_eq_true] at ht
    obtain ⟨p1, q1, h1, h2, rfl⟩ := h
    obtain ⟨dt, iv, a4, a5⟩ := open_value ht.1 (hval 0 t v rfl rfl) h1
    obtain ⟨dts, ivs, b4, b5⟩ := open_args Ts ts vs ds q1 ht.2 (fun j t v g1 g2 => hval (j + 1) t v (by simpa using g1) (by simpa using g2)) h2
    exact ⟨dt :: dts, iv :: ivs, .cons a4 b4, a5, b5⟩
  | [], [], _ :: _, _, p, _, _, h => by cases h
  | [], [], [], _ :: _, p, _, _, h => by cases h
  | [], _ :: _, _, _, p, ht, _, h => by simp [isTyL] at ht
  | _ :: _, [], _, _, p, ht, _, h => by simp [isTyL] at ht
  | _ :: _, _ :: _, [], _, p, _, _, h => by cases h
  | _ :: _, _ :: _, _ :: _, [], p, _, _, h => by cases h
def readAll (P : Program) (ts : List TypeId) : Bool := ts.all fun t => P.readableRec t && decide (t < P.types.size)
theorem stay_all (hl : laidOutB P = true) {W' : World} (hb : Below W.heap.size W W') : ∀ (ts : List TypeId) (vs : List Value) (ds : List (DataW HH)) (p : List MemPlace), readAll P ts = true →
    DataW.TrodAll enc P W 0 (fun _ => true) true ts vs ds p → DataW.TrodAll enc P W' 0 (fun b => decide (b < W.heap.size)) true ts vs ds p
  | [], [], [], p, _, h => h
  | t :: ts, v :: vs, d :: ds, p, hr, h => by
    simp only [readAll, List.all_cons, Bool.and_eq_true, decide_eq_true_eq] at hr
    obtain ⟨p1, q1, h1, h2, rfl⟩ := h
    refine ⟨p1, q1, Below.trod hl hr.1.1 hr.1.2 h1 hb (fun x hx => ?_), stay_all hl hb ts vs ds q1 hr.2 h2, rfl⟩
    obtain ⟨fuel, hf⟩ := h1
    exact DataW.trod_lt fuel _ _ _ hf x hx
  | [], _ :: _, _, p, _, h => by cases h
  | [], [], _ :: _, p, _, h => by cases h
  | _ :: _, [], _, p, _, h => by cases h
  | _ :: _, _ :: _, [], p, _, h => by cases h
end
theorem law_end {P : Program} {f : FuncId} {W : World} {ics : List Value} {args : Array Value} (h : IBody P f ics Heap.empty fun v _ => v = .bool true) (hp : Pin W.heap.size W) (hv : VRL (Ren.all W) ics args.toList) :
    Calls P f args W fun e W' => e = .returned (.bool true) ∧ Below W.heap.size W W' :=
  (h W.heap.size W (Ren.all W) args W (HR.start W hp) hv).mono fun e W' ⟨ρ', v, v', H', he, hk, hvr, hr', _, _⟩ => by
    subst hk
    rw [hvr.eq_of_plain0 rfl] at he
    exact ⟨he, hr'.below⟩
theorem layA_cons {T : Ty} {Ts : List Ty} : ∀ {ds : List Dt} {vs : List Value}, LayA (T :: Ts) ds vs → ∃ d ds' v vs', ds = d :: ds' ∧ vs = v :: vs' ∧ LayV T d v ∧ LayA Ts ds' vs'
  | d :: ds, v :: vs, h => ⟨d, ds, v, vs, rfl, rfl, h.1, h.2⟩
  | [], _, h => by cases h
  | _ :: _, [], h => by cases h
theorem layA_nil : ∀ {ds : List Dt} {vs : List Value}, LayA [] ds vs → ds = [] ∧ vs = []
  | [], [], _ => ⟨rfl, rfl⟩
  | _ :: _, _, h => by cases h
  | [], _ :: _, h => by cases h
theorem wf_u8 {n : Int} (h : (Lit.int .u8 n).wf = true) : 0 ≤ n ∧ n < 256 := by
  have h1 : IntKind.min .u8 ≤ n ∧ n ≤ IntKind.max .u8 := by simpa [Lit.wf] using h
  have h2 : IntKind.min .u8 = 0 := by decide
  have h3 : IntKind.max .u8 = 255 := by decide
  omega
theorem wf_u16 {n : Int} (h : (Lit.int .u16 n).wf = true) : 0 ≤ n ∧ n < 65536 := by
  have h1 : IntKind.min .u16 ≤ n ∧ n ≤ IntKind.max .u16 := by simpa [Lit.wf] using h
  have h2 : IntKind.min .u16 = 0 := by decide
  have h3 : IntKind.max .u16 = 65535 := by decide
  omega
theorem wf_u32 {n : Int} (h : (Lit.int .u32 n).wf = true) : 0 ≤ n ∧ n < 4294967296 := by
  have h1 : IntKind.min .u32 ≤ n ∧ n ≤ IntKind.max .u32 := by simpa [Lit.wf] using h
  have h2 : IntKind.min .u32 = 0 := by decide
  have h3 : IntKind.max .u32 = 4294967295 := by decide
  omega
theorem wf_u64 {n : Int} (h : (Lit.int .u64 n).wf = true) : 0 ≤ n ∧ n < 18446744073709551616 := by
  have h1 : IntKind.min .u64 ≤ n ∧ n ≤ IntKind.max .u64 := by simpa [Lit.wf] using h
  have h2 : IntKind.min .u64 = 0 := by decide
  have h3 : IntKind.max .u64 = 18446744073709551615 := by decide
  omega
theorem wf_i8 {n : Int} (h : (Lit.int .i8 n).wf = true) : -128 ≤ n ∧ n < 128 := by
  have h1 : IntKind.min .i8 ≤ n ∧ n ≤ IntKind.max .i8 := by simpa [Lit.wf] using h
  have h2 : IntKind.min .i8 = -128 := by decide
  have h3 : IntKind.max .i8 = 127 := by decide
  omega
theorem wf_i16 {n : Int} (h : (Lit.int .i16 n).wf = true) : -32768 ≤ n ∧ n < 32768 := by
  have h1 : IntKind.min .i16 ≤ n ∧ n ≤ IntKind.max .i16 := by simpa [Lit.wf] using h
  have h2 : IntKind.min .i16 = -32768 := by decide
  have h3 : IntKind.max .i16 = 32767 := by decide
  omega
theorem wf_i32 {n : Int} (h : (Lit.int .i32 n).wf = true) : -2147483648 ≤ n ∧ n < 2147483648 := by
  have h1 : IntKind.min .i32 ≤ n ∧ n ≤ IntKind.max .i32 := by simpa [Lit.wf] using h
  have h2 : IntKind.min .i32 = -2147483648 := by decide
  have h3 : IntKind.max .i32 = 2147483647 := by decide
  omega
theorem wf_i64 {n : Int} (h : (Lit.int .i64 n).wf = true) : -9223372036854775808 ≤ n ∧ n < 9223372036854775808 := by
  have h1 : IntKind.min .i64 ≤ n ∧ n ≤ IntKind.max .i64 := by simpa [Lit.wf] using h
  have h2 : IntKind.min .i64 = -9223372036854775808 := by decide
  have h3 : IntKind.max .i64 = 9223372036854775807 := by decide
  omega
theorem lay_bool {d : Dt} {cs : List Value} (h : Lay .bool d cs) : ∃ b, cs = [.bool b] := by cases h; exact ⟨_, rfl⟩
theorem lay_int {k : IntKind} {d : Dt} {cs : List Value} (h : Lay (.int k) d cs) : ∃ n, cs = [.int k n] ∧ (Lit.int k n).wf = true := by cases h; exact ⟨_, rfl, by assumption⟩
theorem lay_str {d : Dt} {cs : List Value} (h : Lay .str d cs) : ∃ s, cs = [.string s] ∧ s.size ≤ maxLen := by cases h; exact ⟨_, rfl, by assumption⟩
theorem lay_row {e : Ty} {sz : Nat} {d : Dt} {cs : List Value} (h : Lay (.row e sz) d cs) : ∃ xs vs, cs = [frow sz 0 vs] ∧ LayS e xs vs ∧ vs.length ≤ maxLen := by
  cases h
  rename_i hm hs
  exact ⟨_, _, rfl, hs, by rw [← hs.length]; exact hm⟩
theorem lay_ints {k : IntKind} {sz : Nat} {d : Dt} {cs : List Value} (h : Lay (.row (.int k) sz) d cs) : ∃ L : List Int, cs = [frow sz 0 (L.map (Value.int k))] ∧ (∀ n ∈ L, (Lit.int k n).wf = true) ∧ L.length ≤ maxLen := by
  obtain ⟨xs, vs, rfl, hs, hl⟩ := lay_row h
  have : ∀ {xs : List Dt} {vs : List Value}, LayS (.int k) xs vs → ∃ L : List Int, vs = L.map (Value.int k) ∧ ∀ n ∈ L, (Lit.int k n).wf = true := by
    intro xs
    induction xs with
    | nil => intro vs h; cases h; exact ⟨[], rfl, fun _ h => (by cases h)⟩
    | cons x xs ih =>
      intro vs h
      cases h with
      | recs hr _ _ => cases hr
      | one hr h hs =>
        obtain ⟨L, rfl, hw⟩ := ih hs
        obtain ⟨n, e, hn⟩ := lay_int h
        cases e
        exact ⟨n :: L, rfl, fun y hy => by
          rcases List.mem_cons.1 hy with rfl | hy
          · exact hn
          · exact hw y hy⟩
  obtain ⟨L, rfl, hw⟩ := this hs
  exact ⟨L, rfl, hw, by simpa using hl⟩
section shapes
variable {d : Dt} {v : Value}
theorem layV_bool (h : LayV .bool d v) : ∃ b, v = .bool b := by
  rcases h with ⟨h, _⟩ | ⟨_, h⟩
  · cases h
  · cases h; exact ⟨_, rfl⟩
theorem layV_int {k : IntKind} (h : LayV (.int k) d v) : ∃ n, v = .int k n ∧ (Lit.int k n).wf = true := by
  rcases h with ⟨h, _⟩ | ⟨_, h⟩
  · cases h
  · cases h; exact ⟨_, rfl, by assumption⟩
theorem layV_str (h : LayV .str d v) : ∃ s, v = .string s ∧ s.size ≤ maxLen := by
  rcases h with ⟨h, _⟩ | ⟨_, h⟩
  · cases h
  · cases h; exact ⟨_, rfl, by assumption⟩
theorem layV_row {e : Ty} {sz : Nat} (h : LayV (.row e sz) d v) : ∃ xs vs, v = frow sz 0 vs ∧ LayS e xs vs ∧ vs.length ≤ maxLen := by
  rcases h with ⟨h, _⟩ | ⟨_, h⟩
  · cases h
  · cases h
    rename_i hm hs
    exact ⟨_, _, rfl, hs, by rw [← hs.length]; exact hm⟩
theorem layV_rec {fs : List Ty} (h : LayV (.recd fs) d v) : ∃ cs, v = .agg ⟨cs⟩ ∧ Lay (.recd fs) d cs := by
  rcases h with ⟨_, cs, h1, h2⟩ | ⟨h, _⟩
  · exact ⟨cs, h1, h2⟩
  · cases h
theorem layS_int {k : IntKind} : ∀ {xs : List Dt} {vs : List Value}, LayS (.int k) xs vs → ∃ L : List Int, vs = L.map (Value.int k) ∧ ∀ n ∈ L, (Lit.int k n).wf = true
  | _, _, .nil _ => ⟨[], rfl, fun _ h => (by cases h)⟩
  | _, _, .one hr h hs => by
    obtain ⟨L, rfl, hw⟩ := layS_int hs
    cases h
    rename_i n hn
    exact ⟨n :: L, rfl, fun x hx => by
      rcases List.mem_cons.1 hx with rfl | hx
      · exact hn
      · exact hw x hx⟩
  | _, _, .recs hr h hs => by cases hr
theorem layV_ints {k : IntKind} {sz : Nat} (h : LayV (.row (.int k) sz) d v) : ∃ L : List Int, v = frow sz 0 (L.map (Value.int k)) ∧ (∀ n ∈ L, (Lit.int k n).wf = true) ∧ L.length ≤ maxLen := by
  obtain ⟨xs, vs, rfl, hs, hl⟩ := layV_row h
  obtain ⟨L, rfl, hw⟩ := layS_int hs
  exact ⟨L, rfl, hw, by simpa using hl⟩
end shapes
end Go.Proofs.YtoecebibhcadoaaDoor.I
