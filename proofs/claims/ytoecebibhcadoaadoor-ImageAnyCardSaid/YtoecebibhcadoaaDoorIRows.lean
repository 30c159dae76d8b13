/- Rows of records as cells, one behind the other; heaps that speak of the same. No condition. -/
import Derived.Test.YtoecebibhcadoaaDoorISim
namespace Go.Proofs.YtoecebibhcadoaaDoor.I
open Go Go.RowKit
set_option linter.unusedVariables false
set_option linter.unusedSimpArgs false
section flat
variable {α : Type} {g : α → List Value} {k : Nat}
theorem flat_length (hk : ∀ x, (g x).length = k) : ∀ L : List α, (L.flatMap g).length = L.length * k
  | [] => by simp
  | x :: L => by rw [List.flatMap_cons, List.length_append, hk, flat_length hk L, List.length_cons, Nat.add_mul]; omega
theorem flat_drop (hk : ∀ x, (g x).length = k) : ∀ (L : List α) (i : Nat), (L.flatMap g).drop (i * k) = (L.drop i).flatMap g
  | L, 0 => by simp
  | [], i + 1 => by simp
  | x :: L, i + 1 => by
    rw [List.flatMap_cons, List.drop_succ_cons, ← flat_drop hk L i, Nat.add_mul, Nat.one_mul, Nat.add_comm, List.drop_append, hk]
    rw [List.drop_of_length_le (by rw [hk]; omega), List.nil_append, show k + i * k - k = i * k by omega]
theorem flat_row (hk : ∀ x, (g x).length = k) (L : List α) (i : Nat) (h : i < L.length) : ((L.flatMap g).drop (i * k)).take k = g L[i] := by
  rw [flat_drop hk, List.drop_eq_getElem_cons h, List.flatMap_cons, List.take_append_of_le_length (by rw [hk]; omega), List.take_of_length_le (by rw [hk]; omega)]
theorem flat_get (hk : ∀ x, (g x).length = k) (L : List α) (i f : Nat) (h : i < L.length) (hf : f < k) : (L.flatMap g)[i * k + f]? = (g L[i])[f]? := by
  rw [← flat_row hk L i h, List.getElem?_take_of_lt hf, List.getElem?_drop]
theorem flat_take (hk : ∀ x, (g x).length = k) : ∀ (L : List α) (i : Nat), (L.flatMap g).take (i * k) = (L.take i).flatMap g
  | L, 0 => by simp
  | [], i + 1 => by simp
  | x :: L, i + 1 => by
    rw [List.flatMap_cons, List.take_succ_cons, List.flatMap_cons, ← flat_take hk L i, Nat.add_mul, Nat.one_mul, Nat.add_comm, List.take_append, hk]
    rw [List.take_of_length_le (by rw [hk]; omega), show k + i * k - k = i * k by omega]
theorem flat_splice (hk : ∀ x, (g x).length = k) (L : List α) (i f : Nat) (vs : List Value) (x' : α) (h : i < L.length) (hf : f + vs.length ≤ k) (hx : g x' = splice (g L[i]) f vs) :
    splice (L.flatMap g) (i * k + f) vs = (L.set i x').flatMap g := by
  have hlen := flat_length hk L
  have hik : i * k + k ≤ L.length * k := by
    have := Nat.mul_le_mul_right k (show i + 1 ≤ L.length from h)
    rw [Nat.add_mul, Nat.one_mul] at this; exact this
  have e : L.flatMap g = (L.take i).flatMap g ++ (g L[i] ++ (L.drop (i + 1)).flatMap g) := by
    conv => lhs; rw [← List.take_append_drop i L, List.drop_eq_getElem_cons h]
    rw [List.flatMap_append, List.flatMap_cons]
  have ht : ((L.take i).flatMap g).length = i * k := by rw [flat_length hk, List.length_take, Nat.min_eq_left (Nat.le_of_lt h)]
  have e2 : (L.set i x').flatMap g = (L.take i).flatMap g ++ (g x' ++ (L.drop (i + 1)).flatMap g) := by
    rw [List.set_eq_take_append_cons_drop, if_pos h, List.flatMap_append, List.flatMap_cons]
  rw [e2, hx, e]
  unfold splice
  rw [List.take_append, ht, List.take_of_length_le (by rw [ht]; omega), show i * k + f - i * k = f by omega]
  rw [List.take_append_of_le_length (by rw [hk]; omega)]
  rw [List.drop_append, ht, List.drop_of_length_le (by rw [ht]; omega), List.nil_append, show i * k + f + vs.length - i * k = f + vs.length by omega]
  rw [List.drop_append_of_le_length (by rw [hk]; omega)]
  simp [List.append_assoc]
end flat
structure Eqv (H K : Heap) : Prop where
  get : ∀ b, H.get b = K.get b
  next : K.next ≤ H.next
  tab : H.tab = K.tab
theorem Eqv.refl (H : Heap) : Eqv H H := ⟨fun _ => rfl, Nat.le_refl _, rfl⟩
theorem Eqv.trans {A B C : Heap} (h : Eqv A B) (k : Eqv B C) : Eqv A C := ⟨fun b => (h.get b).trans (k.get b), Nat.le_trans k.next h.next, h.tab.trans k.tab⟩
theorem Eqv.set {H K : Heap} (h : Eqv H K) (b : Nat) (cs : List Value) : Eqv (H.set b cs) (K.set b cs) := by
  refine ⟨fun j => ?_, h.next, h.tab⟩
  rw [get_set, get_set, h.get b, h.get j]
theorem set_set (H : Heap) (b : Nat) (cs ds : List Value) : (H.set b cs).set b ds = H.set b ds := by
  refine Heap.ext' (fun j => ?_) rfl rfl
  rw [get_set]
  by_cases h : j = b
  · subst h
    rw [if_pos rfl, get_set, if_pos rfl, get_set, if_pos rfl]
    cases H.get j <;> rfl
  · rw [if_neg h, get_set, if_neg h, get_set, if_neg h]
theorem set_comm (H : Heap) {b c : Nat} (h : b ≠ c) (cs ds : List Value) : (H.set b cs).set c ds = (H.set c ds).set b cs := by
  refine Heap.ext' (fun j => ?_) rfl rfl
  simp only [get_set]
  by_cases h1 : j = b
  · subst h1; simp [h]
  · by_cases h2 : j = c
    · subst h2; simp [h1, Ne.symm h]
    · simp [h1, h2]
theorem alloc_set (H : Heap) {b : Nat} (h : b < H.next) (cs ds : List Value) : (H.alloc cs).set b ds = (H.set b ds).alloc cs := by
  refine Heap.ext' (fun j => ?_) rfl rfl
  simp only [get_set, get_alloc, next_set]
  by_cases h1 : j = b
  · subst h1
    simp [show ¬ j = H.next by omega]
  · simp [h1]
theorem IBody.left {P : Program} {f : FuncId} {args : List Value} {H : Heap} {K : Value → Heap → Prop} (h : IBody P f args H fun v H' => ∀ H2 : Heap, (∀ b, H2.get b = if b < H.next then H'.get b else none) → H'.next ≤ H2.next → K v H2) : IBody P f args H K := by
  refine IBody.drop (fun b => decide (b < H.next)) (h.mono fun v H' hk => hk _ (fun b => ?_) (Nat.le_refl _))
  simp [Heap.only]
theorem left_get {K X : Heap} {n : Nat} (hg : ∀ b, X.get b = if b < n then K.get b else none) {G : Heap} (h1 : ∀ b, b < n → K.get b = G.get b) (hn : G.next ≤ n) (hx : n ≤ X.next) (ht : X.tab = G.tab) : Eqv X G := by
  refine ⟨fun b => ?_, by omega, ht⟩
  rw [hg]
  by_cases hb : b < n
  · rw [if_pos hb, h1 b hb]
  · rw [if_neg hb, G.wf b (by omega)]
end Go.Proofs.YtoecebibhcadoaaDoor.I
