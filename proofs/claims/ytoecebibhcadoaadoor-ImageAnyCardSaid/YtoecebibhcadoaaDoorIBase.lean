/- The ideal heap: blocks without capacities and draws; what it means that a world shows it; nothing here names a program. No condition. -/
import Derived.Calls
import Derived.Below
import Derived.Deep.Quiet
import Derived.Laws.Sem
import Derived.Laws.World
import Derived.Test.YtoecebibhcadoaaDoorIPin
namespace Go.Proofs.YtoecebibhcadoaaDoor.I
open Go Go.RowKit
set_option linter.unusedVariables false
set_option linter.unusedSimpArgs false
structure Blk where
  cells : List Value
  own : Bool
structure Tab where
  id : Nat
  ok : Array MapEntry → Nat → Prop
structure Heap where
  get : Nat → Option Blk
  next : Nat
  wf : ∀ b, next ≤ b → get b = none
  tab : Option Tab
theorem Heap.ext' {H K : Heap} (h : ∀ b, H.get b = K.get b) (hn : H.next = K.next) (ht : H.tab = K.tab := by rfl) : H = K := by
  obtain ⟨g, n, w, t⟩ := H
  obtain ⟨g', n', w', t'⟩ := K
  have e : t = t' := ht
  subst e
  have e : g = g' := funext h
  subst e
  have e : n = n' := hn
  subst e
  rfl
theorem Heap.lt_of_get {H : Heap} {b : Nat} {k : Blk} (h : H.get b = some k) : b < H.next := by
  rcases Nat.lt_or_ge b H.next with h' | h'
  · exact h'
  · rw [H.wf b h'] at h; cases h
def Heap.alloc (H : Heap) (cs : List Value) : Heap where
  get := fun b => if b = H.next then some ⟨cs, true⟩ else H.get b
  next := H.next + 1
  tab := H.tab
  wf := fun b hb => by rw [if_neg (by omega)]; exact H.wf b (by omega)
def Heap.set (H : Heap) (b : Nat) (cs : List Value) : Heap where
  get := fun j => if j = b then (H.get b).map (fun k => ⟨cs, k.own⟩) else H.get j
  next := H.next
  tab := H.tab
  wf := fun j hj => by
    split
    · rename_i e; subst e; rw [H.wf j hj]; rfl
    · exact H.wf j hj
def Heap.kill (H : Heap) (b : Nat) : Heap where
  get := fun j => if j = b then none else H.get j
  next := H.next
  tab := H.tab
  wf := fun j hj => by
    split
    · rfl
    · exact H.wf j hj
def Heap.only (H : Heap) (p : Nat → Bool) : Heap where
  get := fun j => if p j = true then H.get j else none
  next := H.next
  tab := H.tab
  wf := fun j hj => by
    split
    · exact H.wf j hj
    · rfl
def Heap.upto (H : Heap) (n : Nat) : Heap where
  get := H.get
  next := max H.next n
  tab := H.tab
  wf := fun j hj => H.wf j (by omega)
def Heap.ro (H : Heap) : Heap where
  get := fun j => (H.get j).map fun k => ⟨k.cells, false⟩
  next := H.next
  tab := none
  wf := fun j hj => by rw [H.wf j hj]; rfl
def Heap.empty : Heap := ⟨fun _ => none, 0, fun _ _ => rfl, none⟩
def Heap.setTab (H : Heap) (t : Option Tab) : Heap := ⟨H.get, H.next, H.wf, t⟩
section simps
variable (H : Heap) (b j n : Nat) (cs : List Value)
theorem Heap.get_alloc_new : (H.alloc cs).get H.next = some ⟨cs, true⟩ := by simp [Heap.alloc]
theorem Heap.get_alloc_old (h : j ≠ H.next) : (H.alloc cs).get j = H.get j := by simp [Heap.alloc, h]
theorem Heap.get_alloc_lt (h : j < H.next) : (H.alloc cs).get j = H.get j := Heap.get_alloc_old H j cs (by omega)
theorem Heap.next_alloc : (H.alloc cs).next = H.next + 1 := rfl
theorem Heap.get_set_same : (H.set b cs).get b = (H.get b).map fun k => ⟨cs, k.own⟩ := by simp [Heap.set]
theorem Heap.get_set_ne (h : j ≠ b) : (H.set b cs).get j = H.get j := by simp [Heap.set, h]
theorem Heap.next_set : (H.set b cs).next = H.next := rfl
theorem Heap.get_kill_ne (h : j ≠ b) : (H.kill b).get j = H.get j := by simp [Heap.kill, h]
theorem Heap.next_kill : (H.kill b).next = H.next := rfl
theorem Heap.get_upto : (H.upto n).get j = H.get j := rfl
theorem Heap.next_upto : (H.upto n).next = max H.next n := rfl
theorem Heap.tab_alloc : (H.alloc cs).tab = H.tab := rfl
theorem Heap.tab_set : (H.set b cs).tab = H.tab := rfl
theorem Heap.tab_kill : (H.kill b).tab = H.tab := rfl
end simps
inductive Place where
  | lies (q s n : Nat)
  | away
  | table (q : Nat)
structure Ren where
  to : Nat → Option Place
  fix : Nat → Nat → Value → Prop
instance : CoeFun Ren fun _ => Nat → Option Place := ⟨Ren.to⟩
structure Ren.Le (B : Nat) (ρ ρ' : Ren) : Prop where
  at_ : ∀ b p, ρ b = some p → ρ' b = some p
  fix : ∀ q i v, ρ.fix q i v → ρ'.fix q i v
  new : ∀ q i v, ρ'.fix q i v → ρ.fix q i v ∨ B ≤ q
instance {B : Nat} {ρ ρ' : Ren} : CoeFun (Ren.Le B ρ ρ') fun _ => ∀ b p, ρ b = some p → ρ' b = some p := ⟨Ren.Le.at_⟩
theorem Ren.Le.refl {B : Nat} (ρ : Ren) : Ren.Le B ρ ρ := ⟨fun _ _ h => h, fun _ _ _ h => h, fun _ _ _ h => .inl h⟩
theorem Ren.Le.trans {B : Nat} {ρ σ τ : Ren} (h : Ren.Le B ρ σ) (k : Ren.Le B σ τ) : Ren.Le B ρ τ :=
  ⟨fun b p e => k.at_ b p (h.at_ b p e), fun q i v e => k.fix q i v (h.fix q i v e), fun q i v e => (k.new q i v e).elim (fun e => h.new q i v e) .inr⟩
def plain0 : Value → Bool
  | .bool _ | .int _ _ | .float _ _ | .complex _ _ _ | .string _ | .pointer none | .slice none 0 0 | .nilFunc | .nilIface => true
  | _ => false
def frow (sz : Nat) (m : Int) (xs : List Value) : Value := .func (.yield sz) ⟨xs⟩ ⟨[.int .i64 m]⟩
def fptr (off : Nat) (x : Value) : Value := .func (.yield off) ⟨[x]⟩ ⟨[]⟩
mutual
inductive VR (ρ : Ren) : Value → Value → Prop
  | plain {v : Value} (h : plain0 v = true) : VR ρ v v
  | ptr {b o q s n : Nat} (h : ρ b = some (.lies q s n)) : VR ρ (.pointer (some ⟨b, o, none⟩)) (.pointer (some ⟨q, s + o, none⟩))
  | row {b o q s n sz len c c' : Nat} (h : ρ b = some (.lies q s n)) (hl : len ≤ c') (hc : c = 0 → c' = 0) (hr : s + o + c' * sz ≤ n) : VR ρ (.slice (some ⟨b, o, some sz⟩) len c) (.slice (some ⟨q, s + o, none⟩) len c')
  | away {b o sz c c' : Nat} {p : Place} {a : Addr} (h : ρ b = some p) (hc : c = 0 → c' = 0) (hz : p = .away ∨ c' = 0) : VR ρ (.slice (some ⟨b, o, some sz⟩) 0 c) (.slice (some a) 0 c')
  | func {f : FuncId} {x y x' y' : Array Value} (hx : VRL ρ x.toList x'.toList) (hy : VRL ρ y.toList y'.toList) : VR ρ (.func (.func f) x y) (.func (.func f) x' y')
  | iface {t : TypeId} {v v' : Value} (h : VR ρ v v') : VR ρ (.iface t v) (.iface t v')
  | agg {x x' : Array Value} (h : VRL ρ x.toList x'.toList) : VR ρ (.agg x) (.agg x')
  | tuple {x x' : Array Value} (h : VRL ρ x.toList x'.toList) : VR ρ (.tuple x) (.tuple x')
  | frow {sz q s c' : Nat} {m : Int} {xs : List Value} (h : VRE ρ sz q s xs) (hl : xs.length ≤ c') (hm : m = 2 → c' = 0) : VR ρ (.func (.yield sz) ⟨xs⟩ ⟨[.int .i64 m]⟩) (.slice (some ⟨q, s, none⟩) xs.length c')
  | frow0 {sz c' : Nat} {m : Int} {a : Addr} (hm : m = 2 → c' = 0) : VR ρ (.func (.yield sz) ⟨[]⟩ ⟨[.int .i64 m]⟩) (.slice (some a) 0 c')
  | fnil {sz : Nat} {m : Int} (hm : m ≠ 1) : VR ρ (.func (.yield sz) ⟨[]⟩ ⟨[.int .i64 m]⟩) (.slice none 0 0)
  | map {b q : Nat} (h : ρ b = some (.table q)) : VR ρ (.map (some b)) (.map (some q))
  | fptr {off q s : Nat} {x : Value} {ys : List Value} (h : VRL ρ x.cells.toList ys) (hf : ∀ j y, ys[j]? = some y → ρ.fix q (s + j) y) : VR ρ (.func (.yield off) ⟨[x]⟩ ⟨[]⟩) (.pointer (some ⟨q, s + off, none⟩))
inductive VRL (ρ : Ren) : List Value → List Value → Prop
  | nil : VRL ρ [] []
  | cons {v v' : Value} {l l' : List Value} (h : VR ρ v v') (hl : VRL ρ l l') : VRL ρ (v :: l) (v' :: l')
inductive VRE (ρ : Ren) : Nat → Nat → Nat → List Value → Prop
  | nil {sz q s : Nat} : VRE ρ sz q s []
  | cons {sz q s : Nat} {x : Value} {xs ys : List Value} (h : VRL ρ x.cells.toList ys) (hz : ys.length = sz) (hf : ∀ j y, ys[j]? = some y → ρ.fix q (s + j) y) (ht : VRE ρ sz q (s + sz) xs) : VRE ρ sz q s (x :: xs)
end
structure Ren.Sub (ρ ρ' : Ren) : Prop where
  at_ : ∀ b p, ρ b = some p → ρ' b = some p
  fix : ∀ q i v, ρ.fix q i v → ρ'.fix q i v
mutual
theorem VR.mono' {ρ ρ' : Ren} (e : Ren.Sub ρ ρ') : ∀ {v v' : Value}, VR ρ v v' → VR ρ' v v'
  | _, _, .plain h => .plain h
  | _, _, .ptr h => .ptr (e.at_ _ _ h)
  | _, _, .row h hl hc hr => .row (e.at_ _ _ h) hl hc hr
  | _, _, .away h hc hz => .away (e.at_ _ _ h) hc hz
  | _, _, .func hx hy => .func (VRL.mono' e hx) (VRL.mono' e hy)
  | _, _, .iface h => .iface (VR.mono' e h)
  | _, _, .agg h => .agg (VRL.mono' e h)
  | _, _, .tuple h => .tuple (VRL.mono' e h)
  | _, _, .frow h hl hm => .frow (VRE.mono' e h) hl hm
  | _, _, .frow0 hm => .frow0 hm
  | _, _, .fnil hm => .fnil hm
  | _, _, .map h => .map (e.at_ _ _ h)
  | _, _, .fptr h hf => .fptr (VRL.mono' e h) fun j y k => e.fix _ _ _ (hf j y k)
theorem VRL.mono' {ρ ρ' : Ren} (e : Ren.Sub ρ ρ') : ∀ {l l' : List Value}, VRL ρ l l' → VRL ρ' l l'
  | _, _, .nil => .nil
  | _, _, .cons h hl => .cons (VR.mono' e h) (VRL.mono' e hl)
theorem VRE.mono' {ρ ρ' : Ren} (e : Ren.Sub ρ ρ') : ∀ {sz q s : Nat} {l : List Value}, VRE ρ sz q s l → VRE ρ' sz q s l
  | _, _, _, _, .nil => .nil
  | _, _, _, _, .cons h hz hf ht => .cons (VRL.mono' e h) hz (fun j y k => e.fix _ _ _ (hf j y k)) (VRE.mono' e ht)
end
theorem Ren.Le.sub {B : Nat} {ρ ρ' : Ren} (e : Ren.Le B ρ ρ') : Ren.Sub ρ ρ' := ⟨e.at_, e.fix⟩
theorem VR.mono {B : Nat} {ρ ρ' : Ren} (e : Ren.Le B ρ ρ') {v v' : Value} (h : VR ρ v v') : VR ρ' v v' := h.mono' e.sub
theorem VRL.mono {B : Nat} {ρ ρ' : Ren} (e : Ren.Le B ρ ρ') {v v' : List Value} (h : VRL ρ v v') : VRL ρ' v v' := h.mono' e.sub
theorem VRE.get {ρ : Ren} {sz q : Nat} : ∀ {s : Nat} {xs : List Value}, VRE ρ sz q s xs → ∀ (i : Nat) (x : Value), xs[i]? = some x → ∃ ys, VRL ρ x.cells.toList ys ∧ ys.length = sz ∧ ∀ j y, ys[j]? = some y → ρ.fix q (s + i * sz + j) y
  | _, _, .nil, i, x, h => by simp at h
  | _, _, .cons (ys := ys) h hz hf ht, 0, x, e => by
    simp only [List.getElem?_cons_zero, Option.some.injEq] at e
    subst e; exact ⟨ys, h, hz, fun j y k => by simpa using hf j y k⟩
  | s, _, .cons h hz hf ht, i + 1, x, e => by
    simp only [List.getElem?_cons_succ] at e
    obtain ⟨ys, a, b, c⟩ := VRE.get ht i x e
    exact ⟨ys, a, b, fun j y k => by rw [show s + (i + 1) * sz + j = s + sz + i * sz + j by rw [Nat.add_mul]; omega]; exact c j y k⟩
theorem VRE.drop {ρ : Ren} {sz q : Nat} : ∀ {s : Nat} {xs : List Value} (k : Nat), VRE ρ sz q s xs → VRE ρ sz q (s + k * sz) (xs.drop k)
  | _, _, 0, h => by simpa using h
  | _, _, k + 1, .nil => .nil
  | s, _, k + 1, .cons h hz hf ht => by
    have := VRE.drop k ht
    rw [List.drop_succ_cons, show s + (k + 1) * sz = s + sz + k * sz by rw [Nat.add_mul]; omega]; exact this
theorem VRE.take {ρ : Ren} {sz q : Nat} : ∀ {s : Nat} {xs : List Value} (k : Nat), VRE ρ sz q s xs → VRE ρ sz q s (xs.take k)
  | _, _, 0, h => .nil
  | _, _, k + 1, .nil => .nil
  | _, _, k + 1, .cons h hz hf ht => .cons h hz hf (VRE.take k ht)
theorem VRE.of_get {ρ : Ren} {sz q : Nat} : ∀ {s : Nat} {xs : List Value}, (∀ (i : Nat) (x : Value), xs[i]? = some x → ∃ ys, VRL ρ x.cells.toList ys ∧ ys.length = sz ∧ ∀ j y, ys[j]? = some y → ρ.fix q (s + i * sz + j) y) → VRE ρ sz q s xs
  | _, [], _ => .nil
  | s, x :: xs, h => by
    obtain ⟨ys, a, b, c⟩ := h 0 x rfl
    refine .cons a b (fun j y k => by simpa using c j y k) (VRE.of_get fun i z e => ?_)
    obtain ⟨zs, a, b, c⟩ := h (i + 1) z (by simpa using e)
    exact ⟨zs, a, b, fun j y k => by rw [show s + sz + i * sz + j = s + (i + 1) * sz + j by rw [Nat.add_mul]; omega]; exact c j y k⟩
theorem VRL.length {ρ : Ren} : ∀ {l l' : List Value}, VRL ρ l l' → l.length = l'.length
  | _, _, .nil => rfl
  | _, _, .cons _ hl => by simp [VRL.length hl]
theorem VRL.get {ρ : Ren} : ∀ {l l' : List Value}, VRL ρ l l' → ∀ (i : Nat) (v : Value), l[i]? = some v → ∃ v', l'[i]? = some v' ∧ VR ρ v v'
  | _, _, .nil, i, v, h => by simp at h
  | _, _, .cons (v' := u) h hl, 0, v, e => by
    simp only [List.getElem?_cons_zero, Option.some.injEq] at e
    subst e; exact ⟨u, rfl, h⟩
  | _, _, .cons h hl, i + 1, v, e => by
    simp only [List.getElem?_cons_succ] at e ⊢
    exact VRL.get hl i v e
theorem VRL.append {ρ : Ren} : ∀ {l l' m m' : List Value}, VRL ρ l l' → VRL ρ m m' → VRL ρ (l ++ m) (l' ++ m')
  | _, _, _, _, .nil, hm => hm
  | _, _, _, _, .cons h hl, hm => .cons h (VRL.append hl hm)
theorem VRE.flat {ρ : Ren} {sz q : Nat} : ∀ {s : Nat} {xs : List Value}, VRE ρ sz q s xs → ∃ ys, VRL ρ (xs.flatMap fun x => x.cells.toList) ys ∧ ys.length = xs.length * sz ∧ ∀ j y, ys[j]? = some y → ρ.fix q (s + j) y
  | _, _, .nil => ⟨[], .nil, by simp, fun j y k => by simp at k⟩
  | s, _, .cons (ys := ys) h hz hf ht => by
    obtain ⟨zs, a, b, c⟩ := VRE.flat ht
    refine ⟨ys ++ zs, by rw [List.flatMap_cons]; exact VRL.append h a, by rw [List.length_append, hz, b, List.length_cons, Nat.add_mul]; omega, fun j y k => ?_⟩
    rw [List.getElem?_append] at k
    split at k
    · exact hf j y k
    · rename_i hj
      have := c _ y k
      rwa [show s + sz + (j - ys.length) = s + j by omega] at this
theorem VRL.drop {ρ : Ren} : ∀ {l l' : List Value} (n : Nat), VRL ρ l l' → VRL ρ (l.drop n) (l'.drop n)
  | _, _, 0, h => h
  | _, _, n + 1, .nil => .nil
  | _, _, n + 1, .cons _ hl => VRL.drop n hl
theorem VRL.take {ρ : Ren} : ∀ {l l' : List Value} (n : Nat), VRL ρ l l' → VRL ρ (l.take n) (l'.take n)
  | _, _, 0, h => .nil
  | _, _, n + 1, .nil => .nil
  | _, _, n + 1, .cons h hl => .cons h (VRL.take n hl)
theorem VRL.of_get {ρ : Ren} : ∀ {l l' : List Value}, l.length = l'.length → (∀ (i : Nat) (v : Value), l[i]? = some v → ∃ v', l'[i]? = some v' ∧ VR ρ v v') → VRL ρ l l'
  | [], [], _, _ => .nil
  | [], _ :: _, h, _ => by simp at h
  | _ :: _, [], h, _ => by simp at h
  | a :: l, b :: l', h, g => by
    refine .cons ?_ (VRL.of_get (by simpa using h) fun i v e => g (i + 1) v (by simpa using e))
    obtain ⟨v', e, hv⟩ := g 0 a rfl
    simp only [List.getElem?_cons_zero, Option.some.injEq] at e
    subst e; exact hv
def plain1 : Value → Bool
  | .agg x => x.toList.all plain0
  | .tuple x => x.toList.all plain0
  | v => plain0 v
theorem VR.eq_of_plain0 {ρ : Ren} {v v' : Value} (h : VR ρ v v') (p : plain0 v = true) : v' = v := by
  cases h <;> first | rfl | (simp [plain0] at p)
theorem VRL.eq_of_plain0 {ρ : Ren} : ∀ {l l' : List Value}, VRL ρ l l' → l.all plain0 = true → l' = l
  | _, _, .nil, _ => rfl
  | _, _, .cons h hl, p => by
    simp only [List.all_cons, Bool.and_eq_true] at p
    rw [h.eq_of_plain0 p.1, VRL.eq_of_plain0 hl p.2]
theorem VR.eq_of_plain1 {ρ : Ren} {v v' : Value} (h : VR ρ v v') (p : plain1 v = true) : v' = v := by
  cases h with
  | agg h => rw [show _ = _ from Array.toList_inj.mp (VRL.eq_of_plain0 h p)]
  | tuple h => rw [show _ = _ from Array.toList_inj.mp (VRL.eq_of_plain0 h p)]
  | plain h => rfl
  | _ => simp [plain1, plain0] at p
theorem VRL.of_plain0 {ρ : Ren} : ∀ {l : List Value}, l.all plain0 = true → VRL ρ l l
  | [], _ => .nil
  | v :: l, p => by
    simp only [List.all_cons, Bool.and_eq_true] at p
    exact .cons (.plain p.1) (VRL.of_plain0 p.2)
theorem VR.of_plain1 {ρ : Ren} {v : Value} (p : plain1 v = true) : VR ρ v v := by
  cases v <;> first | (exact .agg (VRL.of_plain0 p)) | (exact .tuple (VRL.of_plain0 p)) | exact .plain p
theorem VR.cells {ρ : Ren} : ∀ {v v' : Value}, VR ρ v v' → VRL ρ v.cells.toList v'.cells.toList
  | _, _, .agg h => h
  | v, _, .plain h => by cases v <;> first | exact .cons (.plain h) .nil | simp [plain0] at h
  | _, _, .ptr h => .cons (.ptr h) .nil
  | _, _, .row h hl hc hr => .cons (.row h hl hc hr) .nil
  | _, _, .away h hc hz => .cons (.away h hc hz) .nil
  | _, _, .func hx hy => .cons (.func hx hy) .nil
  | _, _, .iface h => .cons (.iface h) .nil
  | _, _, .tuple h => .cons (.tuple h) .nil
  | _, _, .frow h hl hm => .cons (.frow h hl hm) .nil
  | _, _, .frow0 hm => .cons (.frow0 hm) .nil
  | _, _, .fnil hm => .cons (.fnil hm) .nil
  | _, _, .map h => .cons (.map h) .nil
  | _, _, .fptr h hf => .cons (.fptr h hf) .nil
def fence (w : World) (q : Nat) : Bool := match w.heap[q]? with | some (.cells _ _ fr) => decide (fr.1 ≤ fr.2) | _ => true
structure HR (B : Nat) (w0 : World) (ρ : Ren) (H : Heap) (w : World) : Prop where
  below : Below B w0 w
  base : B ≤ w.heap.size
  dom : ∀ b p, ρ b = some p → b < H.next
  size : ∀ b q s n, ρ b = some (.lies q s n) → ∃ c T fr, w.heap[q]? = some (.cells c T fr) ∧ c.size = n
  live : ∀ b k, H.get b = some k → ∃ q s n, ρ b = some (.lies q s n) ∧ s + k.cells.length ≤ n ∧
    (∀ i v, k.cells[i]? = some v → ∃ v', w.cell? ⟨q, s + i, none⟩ = some v' ∧ VR ρ v v') ∧
    (k.own = true → B ≤ q ∧ ∀ i, i < n → (w.frozen? ⟨q, i, none⟩ = false ∧ fence w q = true))
  apart : ∀ b b' k k' q s n q' s' n', b ≠ b' → H.get b = some k → H.get b' = some k' → k.own = true →
    ρ b = some (.lies q s n) → ρ b' = some (.lies q' s' n') → q ≠ q'
  fixed : ∀ q i v, ρ.fix q i v → w.cell? ⟨q, i, none⟩ = some v
  off : ∀ b k q s n, H.get b = some k → k.own = true → ρ b = some (.lies q s n) → ∀ i v, ¬ ρ.fix q i v
  tabs : ∀ t, H.tab = some t → ∃ q es clk, ρ t.id = some (.table q) ∧ B ≤ q ∧ w.heap[q]? = some (.map es clk) ∧ t.ok es clk
  pin : Pin B w0
theorem lt_of_cell {w : World} {q o : Nat} {v : Value} (h : w.cell? ⟨q, o, none⟩ = some v) : q < w.heap.size := by
  rcases Nat.lt_or_ge q w.heap.size with h' | h'
  · exact h'
  · unfold World.cell? at h
    simp only [Array.getElem?_eq_none h'] at h
    cases h
theorem HR.of_same {B : Nat} {w0 w w' : World} {ρ : Ren} {H : Heap} (h : HR B w0 ρ H w) (hb : Below w.heap.size w w') : HR B w0 ρ H w' := by
  have hs : ∀ q, q < w.heap.size → w'.heap[q]? = w.heap[q]? := hb.block
  have hlt : ∀ b q s n, ρ b = some (.lies q s n) → q < w.heap.size := fun b q s n e => by
    obtain ⟨c, T, fr, hc, _⟩ := h.size b q s n e
    rcases Nat.lt_or_ge q w.heap.size with h' | h'
    · exact h'
    · rw [Array.getElem?_eq_none h'] at hc; cases hc
  refine ⟨h.below.trans (hb.mono h.base), Nat.le_trans h.base hb.size, h.dom, fun b q s n e => ?_, fun b k hk => ?_, h.apart, fun q i v hf => ?_, h.off, fun t ht => ?_, h.pin⟩
  · rw [hs q (hlt b q s n e)]; exact h.size b q s n e
  · obtain ⟨q, s, n, e, hl, hc, ho⟩ := h.live b k hk
    have hq := hlt b q s n e
    refine ⟨q, s, n, e, hl, fun i v hv => ?_, fun hown => ⟨(ho hown).1, fun i hi => ?_⟩⟩
    · obtain ⟨v', h1, h2⟩ := hc i v hv
      exact ⟨v', by rw [hb.cell (p := ⟨q, s + i, none⟩) hq]; exact h1, h2⟩
    · rw [hb.frozen (p := ⟨q, i, none⟩) hq]
      refine ⟨((ho hown).2 i hi).1, ?_⟩
      have := ((ho hown).2 i hi).2
      unfold fence at this ⊢; rw [hs q hq]; exact this
  · have := h.fixed q i v hf
    rw [hb.cell (p := ⟨q, i, none⟩) (lt_of_cell this)]; exact this
  · obtain ⟨q, es, clk, e, h1, h2, h3⟩ := h.tabs t ht
    exact ⟨q, es, clk, e, h1, by rw [hs q (Array.getElem?_eq_some_iff.1 h2).1]; exact h2, h3⟩
theorem HR.drew {B : Nat} {w0 w : World} {ρ : Ren} {H : Heap} (h : HR B w0 ρ H w) : HR B w0 ρ H { w with drawn := w.drawn + 1 } :=
  h.of_same ⟨rfl, rfl, rfl, Nat.le_refl _, fun _ _ => rfl⟩
theorem HR.weaken {B : Nat} {w0 w : World} {ρ : Ren} {H K : Heap} (h : HR B w0 ρ H w) (hn : H.next ≤ K.next)
    (hk : ∀ b k, K.get b = some k → ∃ k', H.get b = some k' ∧ k'.cells = k.cells ∧ (k.own = true → k'.own = true)) (ht : K.tab = H.tab ∨ K.tab = none := by first | exact .inl rfl | exact .inr rfl) : HR B w0 ρ K w := by
  refine ⟨h.below, h.base, fun b p e => Nat.lt_of_lt_of_le (h.dom b p e) hn, h.size, fun b k hb => ?_, fun b b' k k' q s n q' s' n' hne h1 h2 ho e1 e2 => ?_, h.fixed, fun b k q s n hb ho e => let ⟨k', h1, _, h3⟩ := hk b k hb; h.off b k' q s n h1 (h3 ho) e, fun t e => ht.elim (fun x => h.tabs t (x ▸ e)) fun x => (by rw [x] at e; cases e), h.pin⟩
  · obtain ⟨k', h1, h2, h3⟩ := hk b k hb
    obtain ⟨q, s, n, e, hl, hc, ho⟩ := h.live b k' h1
    exact ⟨q, s, n, e, by rw [← h2]; exact hl, fun i v hv => hc i v (by rw [h2]; exact hv), fun hown => ho (h3 hown)⟩
  · obtain ⟨k1, a1, _, a3⟩ := hk b k h1
    obtain ⟨k2, b1, _, _⟩ := hk b' k' h2
    exact h.apart b b' k1 k2 q s n q' s' n' hne a1 b1 (a3 ho) e1 e2
end Go.Proofs.YtoecebibhcadoaaDoor.I
