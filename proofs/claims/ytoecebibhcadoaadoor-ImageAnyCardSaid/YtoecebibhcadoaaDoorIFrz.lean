/- Rows whose cells nobody writes any more: how an own row becomes one; calls that leave the heap as it was. No condition. -/
import Derived.Test.YtoecebibhcadoaaDoorIRows
namespace Go.Proofs.YtoecebibhcadoaaDoor.I
open Go Go.RowKit
set_option linter.unusedVariables false
set_option linter.unusedSimpArgs false
mutual
inductive Cl : Value → Prop
  | plain {v : Value} (h : plain0 v = true) : Cl v
  | func {f : FuncId} {x y : Array Value} (hx : ClL x.toList) (hy : ClL y.toList) : Cl (.func (.func f) x y)
  | iface {t : TypeId} {v : Value} (h : Cl v) : Cl (.iface t v)
  | agg {x : Array Value} (h : ClL x.toList) : Cl (.agg x)
  | tuple {x : Array Value} (h : ClL x.toList) : Cl (.tuple x)
  | frow {sz : Nat} {m : Int} {xs : List Value} (h : ClE xs) : Cl (.func (.yield sz) ⟨xs⟩ ⟨[.int .i64 m]⟩)
  | fptr {off : Nat} {x : Value} (h : ClL x.cells.toList) : Cl (.func (.yield off) ⟨[x]⟩ ⟨[]⟩)
inductive ClL : List Value → Prop
  | nil : ClL []
  | cons {v : Value} {l : List Value} (h : Cl v) (hl : ClL l) : ClL (v :: l)
inductive ClE : List Value → Prop
  | nil : ClE []
  | cons {v : Value} {l : List Value} (h : ClL v.cells.toList) (hl : ClE l) : ClE (v :: l)
end
mutual
theorem VR.closed {ρ σ : Ren} (e : ∀ q i v, ρ.fix q i v → σ.fix q i v) : ∀ {v v' : Value}, VR ρ v v' → Cl v → VR σ v v'
  | _, _, .plain h, _ => .plain h
  | _, _, .ptr h, c => by cases c with | plain hp => simp [plain0] at hp
  | _, _, .row h hl hc hr, c => by cases c with | plain hp => simp [plain0] at hp
  | _, _, .away h hc hz, c => by cases c with | plain hp => simp [plain0] at hp
  | _, _, .func hx hy, c => by
    cases c with
    | plain hp => simp [plain0] at hp
    | func cx cy => exact .func (VRL.closed e hx cx) (VRL.closed e hy cy)
  | _, _, .iface h, c => by
    cases c with
    | plain hp => simp [plain0] at hp
    | iface ch => exact .iface (VR.closed e h ch)
  | _, _, .agg h, c => by
    cases c with
    | plain hp => simp [plain0] at hp
    | agg ch => exact .agg (VRL.closed e h ch)
  | _, _, .tuple h, c => by
    cases c with
    | plain hp => simp [plain0] at hp
    | tuple ch => exact .tuple (VRL.closed e h ch)
  | _, _, .frow h hl hm, c => by
    cases c with
    | plain hp => simp [plain0] at hp
    | frow ch => exact .frow (VRE.closed e h ch) hl hm
  | _, _, .frow0 hm, _ => .frow0 hm
  | _, _, .fnil hm, _ => .fnil hm
  | _, _, .fptr h hf, c => by
    cases c with
    | plain hp => simp [plain0] at hp
    | fptr ch => exact .fptr (VRL.closed e h ch) fun j y k => e _ _ _ (hf j y k)
theorem VRL.closed {ρ σ : Ren} (e : ∀ q i v, ρ.fix q i v → σ.fix q i v) : ∀ {l l' : List Value}, VRL ρ l l' → ClL l → VRL σ l l'
  | _, _, .nil, _ => .nil
  | _, _, .cons h hl, c => by
    cases c with | cons ch cl => exact .cons (VR.closed e h ch) (VRL.closed e hl cl)
theorem VRE.closed {ρ σ : Ren} (e : ∀ q i v, ρ.fix q i v → σ.fix q i v) : ∀ {sz q s : Nat} {l : List Value}, VRE ρ sz q s l → ClE l → VRE σ sz q s l
  | _, _, _, _, .nil, _ => .nil
  | _, _, _, _, .cons h hz hf ht, c => by
    cases c with | cons ch cl => exact .cons (VRL.closed e h ch) hz (fun j y k => e _ _ _ (hf j y k)) (VRE.closed e ht cl)
end
section cl
variable {v : Value} {l : List Value}
theorem Cl_bool (b : Bool) : Cl (.bool b) = True := eq_true (.plain rfl)
theorem Cl_int (k : IntKind) (n : Int) : Cl (.int k n) = True := eq_true (.plain rfl)
theorem Cl_string (s : ByteArray) : Cl (.string s) = True := eq_true (.plain rfl)
theorem Cl_nilPtr : Cl (.pointer none) = True := eq_true (.plain rfl)
theorem Cl_nilSlice : Cl (.slice none 0 0) = True := eq_true (.plain rfl)
theorem Cl_nilFunc : Cl .nilFunc = True := eq_true (.plain rfl)
theorem Cl_nilIface : Cl .nilIface = True := eq_true (.plain rfl)
theorem ClL_nil : ClL [] = True := eq_true .nil
theorem ClL_cons : ClL (v :: l) = (Cl v ∧ ClL l) := propext ⟨fun h => by cases h with | cons a b => exact ⟨a, b⟩, fun h => .cons h.1 h.2⟩
theorem ClL_append : ∀ {l m : List Value}, ClL (l ++ m) = (ClL l ∧ ClL m)
  | [], m => by simp [ClL_nil]
  | v :: l, m => by rw [List.cons_append, ClL_cons, ClL_cons, ClL_append]; simp [and_assoc]
theorem Cl_agg : Cl (.agg ⟨l⟩) = ClL l := propext ⟨fun h => by
  cases h with
  | agg a => exact a
  | plain hp => simp [plain0] at hp, fun h => .agg h⟩
theorem Cl_tuple : Cl (.tuple ⟨l⟩) = ClL l := propext ⟨fun h => by
  cases h with
  | tuple a => exact a
  | plain hp => simp [plain0] at hp, fun h => .tuple h⟩
theorem Cl_func {f : FuncId} {l m : List Value} : Cl (.func (.func f) ⟨l⟩ ⟨m⟩) = (ClL l ∧ ClL m) := propext ⟨fun h => by
  cases h with
  | plain hp => exact ⟨by simp_all [plain0], by simp_all [plain0]⟩
  | func a b => exact ⟨a, b⟩, fun h => .func h.1 h.2⟩
theorem Cl_fptr {off : Nat} {x : Value} : Cl (fptr off x) = ClL x.cells.toList := propext ⟨fun h => by
  unfold fptr at h
  cases h with
  | plain hp => simp [plain0] at hp
  | fptr a => exact a, fun h => .fptr h⟩
theorem ClE_iff : ∀ {l : List Value}, ClE l = ∀ x ∈ l, ClL x.cells.toList
  | [] => by simp [show ClE [] from .nil]
  | v :: l => by
    have ih := ClE_iff (l := l)
    refine propext ⟨fun h => ?_, fun h => .cons (h v (by simp)) (by rw [ih]; exact fun x hx => h x (by simp [hx]))⟩
    cases h with
    | cons a b =>
      rw [ih] at b
      intro x hx
      rcases List.mem_cons.1 hx with rfl | hx
      · exact a
      · exact b x hx
theorem Cl_frow {sz : Nat} {m : Int} : Cl (frow sz m l) = ∀ x ∈ l, ClL x.cells.toList := by
  rw [← ClE_iff]
  exact propext ⟨fun h => by
    unfold frow at h
    cases h with
    | frow a => exact a
    | plain hp => simp [plain0] at hp, fun h => .frow h⟩
theorem Cl_frow_map {α : Type} {sz : Nat} {m : Int} {L : List α} {f : α → Value} : Cl (frow sz m (L.map f)) = ∀ x ∈ L, ClL (f x).cells.toList := by
  rw [Cl_frow]; simp
theorem Cl_frow_nil {sz : Nat} {m : Int} : Cl (frow sz m []) = True := by rw [Cl_frow]; simp
theorem Cl_frow_cons {sz : Nat} {m : Int} {x : Value} : Cl (frow sz m (x :: l)) = (ClL x.cells.toList ∧ Cl (frow sz m l)) := by rw [Cl_frow, Cl_frow]; simp
end cl
attribute [go_sem] Cl_fptr Cl_func Cl_bool Cl_int Cl_string Cl_nilPtr Cl_nilSlice Cl_nilFunc Cl_nilIface ClL_nil ClL_cons Cl_agg Cl_tuple Cl_frow_map Cl_frow_nil Cl_frow_cons
mutual
inductive Frz (H : Heap) (S : Nat → Bool) : Value → Value → Prop
  | same (v : Value) : Frz H S v v
  | nil (sz : Nat) : Frz H S (.slice none 0 0) (frow sz 0 [])
  | mode (sz : Nat) (m : Int) (xs : List Value) : Frz H S (frow sz m xs) (frow sz 0 xs)
  | void {b o sz' c : Nat} (sz : Nat) : Frz H S (.slice (some ⟨b, o, some sz'⟩) 0 c) (frow sz 0 [])
  | row {b o sz c : Nat} {cs : List Value} {us : List Value} (hg : H.get b = some ⟨cs, true⟩) (hS : S b = true) (h : FrzE H S sz (cs.drop o) us) : Frz H S (.slice (some ⟨b, o, some sz⟩) us.length c) (frow sz 0 us)
  | agg {l m : List Value} (h : FrzL H S l m) : Frz H S (.agg ⟨l⟩) (.agg ⟨m⟩)
  | tuple {l m : List Value} (h : FrzL H S l m) : Frz H S (.tuple ⟨l⟩) (.tuple ⟨m⟩)
  | ptr {b o : Nat} {cs : List Value} {x : Value} (hg : H.get b = some ⟨cs, true⟩) (hS : S b = true) (h : FrzE H S cs.length cs [x]) : Frz H S (.pointer (some ⟨b, o, none⟩)) (fptr o x)
  | func {f : FuncId} {l m l' m' : List Value} (h : FrzL H S l l') (h' : FrzL H S m m') : Frz H S (.func (.func f) ⟨l⟩ ⟨m⟩) (.func (.func f) ⟨l'⟩ ⟨m'⟩)
inductive FrzL (H : Heap) (S : Nat → Bool) : List Value → List Value → Prop
  | nil : FrzL H S [] []
  | cons {v u : Value} {l m : List Value} (h : Frz H S v u) (hl : FrzL H S l m) : FrzL H S (v :: l) (u :: m)
inductive FrzE (H : Heap) (S : Nat → Bool) : Nat → List Value → List Value → Prop
  | nil {sz : Nat} {cs : List Value} : FrzE H S sz cs []
  | cons {sz : Nat} {cs l : List Value} {u : Value} {us : List Value} (hl : l.length = sz) (h : FrzL H S l u.cells.toList) (ht : FrzE H S sz cs us) : FrzE H S sz (l ++ cs) (u :: us)
end
theorem FrzL.same {H : Heap} {S : Nat → Bool} : ∀ l : List Value, FrzL H S l l
  | [] => .nil
  | v :: l => .cons (.same v) (FrzL.same l)
theorem FrzL.length {H : Heap} {S : Nat → Bool} : ∀ {l m : List Value}, FrzL H S l m → l.length = m.length
  | _, _, .nil => rfl
  | _, _, .cons _ h => by simp [FrzL.length h]
theorem FrzE.same {H : Heap} {S : Nat → Bool} {sz : Nat} : ∀ us : List Value, (∀ u ∈ us, u.cells.toList.length = sz) → ∀ rest, FrzE H S sz (us.flatMap (fun u => u.cells.toList) ++ rest) us
  | [], _, rest => .nil
  | u :: us, h, rest => by
    rw [List.flatMap_cons, List.append_assoc]
    exact .cons (h u (by simp)) (FrzL.same _) (FrzE.same us (fun x hx => h x (by simp [hx])) rest)
def Ren.frz (ρ : Ren) (H : Heap) (S : Nat → Bool) (w : World) : Ren :=
  ⟨ρ.to, fun q i v => ρ.fix q i v ∨ ((∃ b k s n, S b = true ∧ H.get b = some k ∧ k.own = true ∧ ρ b = some (.lies q s n)) ∧ w.cell? ⟨q, i, none⟩ = some v)⟩
section freeze
variable {B : Nat} {w0 w : World} {ρ : Ren} {H : Heap} {S : Nat → Bool}
theorem HR.frz_le (h : HR B w0 ρ H w) : Ren.Le B ρ (ρ.frz H S w) :=
  ⟨fun _ _ e => e, fun _ _ _ e => .inl e, fun q i v e => e.imp id fun ⟨⟨b, k, s, n, _, hk, ho, hb⟩, _⟩ => by
    obtain ⟨q', s', n', e', _, _, hown⟩ := h.live b k hk
    rw [hb] at e'; cases e'
    exact (hown ho).1⟩
theorem HR.frz (h : HR B w0 ρ H w) : HR B w0 (ρ.frz H S w) (H.only fun b => !S b) w := by
  have hk := h.weaken (K := H.only fun b => !S b) (Nat.le_refl _) fun b k hb => by
    unfold Heap.only at hb
    simp only at hb
    split at hb
    · exact ⟨k, hb, rfl, fun h => h⟩
    · cases hb
  refine ⟨hk.below, hk.base, hk.dom, hk.size, fun b k hb => ?_, hk.apart, fun q i v hf => ?_, fun b k q s n hb ho e i v hf => ?_, fun t ht => hk.tabs t ht, hk.pin⟩
  · obtain ⟨q, s, n, e, hl, hc, hown⟩ := hk.live b k hb
    exact ⟨q, s, n, e, hl, fun i v hv => let ⟨v', a, c⟩ := hc i v hv; ⟨v', a, c.mono h.frz_le⟩, hown⟩
  · rcases hf with hf | ⟨_, hf⟩
    · exact h.fixed q i v hf
    · exact hf
  · rcases hf with hf | ⟨⟨b', k', s', n', hS, hk', ho', hb'⟩, _⟩
    · exact hk.off b k q s n hb ho e i v hf
    · unfold Heap.only at hb
      simp only at hb
      split at hb
      · rename_i hnS
        have hne : b ≠ b' := fun e => by rw [e, hS] at hnS; cases hnS
        exact h.apart b b' k k' q s n q s' n' hne hb hk' ho e hb' rfl
      · cases hb
theorem VRL.split_app {ρ : Ren} : ∀ {l m x : List Value}, VRL ρ (l ++ m) x → ∃ y z, x = y ++ z ∧ VRL ρ l y ∧ VRL ρ m z
  | [], m, x, h => ⟨[], x, rfl, .nil, h⟩
  | v :: l, m, x, h => by
    cases h with
    | cons h1 h2 =>
      obtain ⟨y, z, rfl, a, b⟩ := VRL.split_app h2
      exact ⟨_ :: y, z, rfl, .cons h1 a, b⟩
mutual
theorem VR.frz (h : HR B w0 ρ H w) : ∀ {v u v' : Value}, Frz H S v u → VR ρ v v' → VR (ρ.frz H S w) u v'
  | _, _, _, .same v, hv => hv.mono h.frz_le
  | _, _, _, .nil sz, hv => by rw [hv.eq_of_plain0 rfl]; exact .fnil (by decide)
  | _, _, _, .mode sz m xs, hv => by
    unfold frow at hv
    cases hv with
    | plain hp => simp [plain0] at hp
    | frow a b c => exact .frow (a.mono' h.frz_le.sub) b (fun h => by cases h)
    | frow0 a => exact .frow0 (fun h => by cases h)
    | fnil a => exact .fnil (by decide)
  | _, _, _, .void sz, hv => by
    cases hv with
    | plain hp => simp [plain0] at hp
    | row a b c d => exact .frow0 (fun h => by cases h)
    | away a b c => exact .frow0 (fun h => by cases h)
  | _, _, _, .row (b := b) (o := o) (sz := sz) (cs := cs) (us := us) hg hS he, hv => by
    by_cases h0 : us = []
    · subst h0
      cases hv with
      | plain hp => simp [plain0] at hp
      | row a b c d => exact .frow0 (fun h => by cases h)
      | away a b c => exact .frow0 (fun h => by cases h)
    · have hlen : us.length ≠ 0 := fun e => h0 (List.length_eq_zero_iff.1 e)
      generalize hnn : us.length = nn at hv hlen
      cases hv with
      | plain hp => simp [plain0] at hp
      | away a b c => exact absurd rfl hlen
      | row hb hl hcc hr =>
        rename_i q s n c'
        obtain ⟨q', s', n', e', hl', hc, hown⟩ := h.live b _ hg
        rw [hb] at e'; cases e'
        have key := VRE.frz (q := q) (s := s + o) h he fun i v hi => by
          rw [List.getElem?_drop] at hi
          obtain ⟨v', a, c⟩ := hc _ _ hi
          refine ⟨v', ?_, c, ?_⟩
          · rw [show s + o + i = s + (o + i) by omega]; exact a
          · rw [show s + o + i = s + (o + i) by omega]
            exact .inr ⟨⟨b, _, s, n, hS, hg, rfl, hb⟩, a⟩
        have := VR.frow (m := 0) key (c' := c') (by omega) (fun h => by cases h)
        rw [hnn] at this; exact this
  | _, _, _, .agg hl, hv => by
    cases hv with
    | plain hp => simp [plain0] at hp
    | agg a => exact .agg (VRL.frz h hl a)
  | _, _, _, .tuple hl, hv => by
    cases hv with
    | plain hp => simp [plain0] at hp
    | tuple a => exact .tuple (VRL.frz h hl a)
  | _, _, _, .ptr (b := b) (o := o) (cs := cs) (x := x) hg hS he, hv => by
    cases hv with
    | plain hp => simp [plain0] at hp
    | ptr hb =>
      rename_i q s n
      obtain ⟨q', s', n', e', hl', hc, hown⟩ := h.live b _ hg
      rw [hb] at e'; cases e'
      have key := VRE.frz (q := q) (s := s) h he fun i v hi => by
        obtain ⟨v', a, c⟩ := hc _ _ hi
        exact ⟨v', a, c, .inr ⟨⟨b, _, s, n, hS, hg, rfl, hb⟩, a⟩⟩
      cases key with
      | cons h1 hz hf ht => exact .fptr h1 hf
  | _, _, _, .func hl hl', hv => by
    cases hv with
    | plain hp => simp [plain0] at hp
    | func a b => exact .func (VRL.frz h hl a) (VRL.frz h hl' b)
theorem VRL.frz (h : HR B w0 ρ H w) : ∀ {l m l' : List Value}, FrzL H S l m → VRL ρ l l' → VRL (ρ.frz H S w) m l'
  | _, _, _, .nil, .nil => .nil
  | _, _, _, .cons a b, .cons c d => .cons (VR.frz h a c) (VRL.frz h b d)
theorem VRE.frz (h : HR B w0 ρ H w) : ∀ {sz q s : Nat} {cs us : List Value}, FrzE H S sz cs us → (∀ (i : Nat) (v : Value), cs[i]? = some v → ∃ v', w.cell? ⟨q, s + i, none⟩ = some v' ∧ VR ρ v v' ∧ (ρ.frz H S w).fix q (s + i) v') → VRE (ρ.frz H S w) sz q s us
  | _, _, _, _, _, .nil, _ => .nil
  | sz, q, s, _, _, .cons (cs := cs) (l := l) hl hh ht, hc => by
    have hpick : ∃ ys : List Value, VRL ρ l ys ∧ ys.length = l.length ∧ ∀ j y, ys[j]? = some y → (ρ.frz H S w).fix q (s + j) y := by
      clear ht hh
      have : ∀ (l : List Value) (s : Nat), (∀ (i : Nat) (v : Value), l[i]? = some v → ∃ v', w.cell? ⟨q, s + i, none⟩ = some v' ∧ VR ρ v v' ∧ (ρ.frz H S w).fix q (s + i) v') →
          ∃ ys : List Value, VRL ρ l ys ∧ ys.length = l.length ∧ ∀ j y, ys[j]? = some y → (ρ.frz H S w).fix q (s + j) y := by
        intro l
        induction l with
        | nil => intro s _; exact ⟨[], .nil, rfl, fun j y k => by simp at k⟩
        | cons v l ih =>
          intro s hc
          obtain ⟨v', a, b, c⟩ := hc 0 v rfl
          obtain ⟨ys, d, e, f⟩ := ih (s + 1) fun i u hi => by
            have := hc (i + 1) u (by simpa using hi)
            rwa [show s + (i + 1) = s + 1 + i by omega] at this
          refine ⟨v' :: ys, .cons b d, by simp [e], fun j y k => ?_⟩
          cases j with
          | zero => simp only [List.getElem?_cons_zero, Option.some.injEq] at k; subst k; exact c
          | succ j =>
            have := f j y (by simpa using k)
            rwa [show s + 1 + j = s + (j + 1) by omega] at this
      refine this l s fun i v hi => hc i v ?_
      have hlt : i < l.length := by
        rcases Nat.lt_or_ge i l.length with h | h
        · exact h
        · rw [List.getElem?_eq_none h] at hi; cases hi
      rw [List.getElem?_append_left hlt]; exact hi
    obtain ⟨ys, a, b, c⟩ := hpick
    refine .cons (VRL.frz h hh a) (by rw [b, hl]) c (VRE.frz h ht fun i v hi => ?_)
    have := hc (l.length + i) v (by rw [List.getElem?_append_right (by omega), show l.length + i - l.length = i by omega]; exact hi)
    rw [hl] at this
    rwa [show s + (sz + i) = s + sz + i by omega] at this
end
end freeze
theorem HR.toRo {B : Nat} {w0 w : World} {ρ : Ren} {H : Heap} (h : HR B w0 ρ H w) : HR w.heap.size w ρ H.ro w := by
  have ho : ∀ b k, H.ro.get b = some k → ∃ k', H.get b = some k' ∧ k = ⟨k'.cells, false⟩ := fun b k hk => by
    simp only [Heap.ro, Option.map_eq_some_iff] at hk
    obtain ⟨k', h1, rfl⟩ := hk
    exact ⟨k', h1, rfl⟩
  refine ⟨Below.refl _ _, Nat.le_refl _, h.dom, h.size, fun b k hk => ?_, fun b b' k k' q s n q' s' n' _ h1 _ ho1 => ?_, h.fixed, fun b k q s n hk ho1 => ?_, fun t ht => (by cases ht), h.pin.later h.below h.base⟩
  · obtain ⟨k', h1, rfl⟩ := ho b k hk
    obtain ⟨q, s, n, e, hl, hc, _⟩ := h.live b k' h1
    exact ⟨q, s, n, e, hl, hc, fun h => by cases h⟩
  · obtain ⟨k', _, rfl⟩ := ho b k h1; cases ho1
  · obtain ⟨k', _, rfl⟩ := ho b k hk; cases ho1
theorem HR.back {B : Nat} {w0 w w' : World} {ρ σ : Ren} {H : Heap} (h : HR B w0 ρ H w) (hb : Below w.heap.size w w') (hf : ∀ q i v, σ.fix q i v → w'.cell? ⟨q, i, none⟩ = some v) (hl : Ren.Le w.heap.size ρ σ) :
    HR B w0 ⟨ρ.to, σ.fix⟩ H w' ∧ Ren.Le B ρ ⟨ρ.to, σ.fix⟩ := by
  have hs := h.of_same hb
  have le : Ren.Le B ρ ⟨ρ.to, σ.fix⟩ := ⟨fun _ _ e => e, hl.fix, fun q i v e => (hl.new q i v e).imp id fun e => Nat.le_trans h.base e⟩
  refine ⟨⟨hs.below, hs.base, hs.dom, hs.size, fun b k hk => ?_, hs.apart, hf, fun b k q s n hk ho e i v hfx => ?_, fun t ht => hs.tabs t ht, hs.pin⟩, le⟩
  · obtain ⟨q, s, n, e, hl', hc, hown⟩ := hs.live b k hk
    exact ⟨q, s, n, e, hl', fun i v hv => let ⟨v', a, c⟩ := hc i v hv; ⟨v', a, c.mono le⟩, hown⟩
  · rcases hl.new q i v hfx with h1 | h1
    · exact h.off b k q s n hk ho e i v h1
    · have := lt_of_size h e; omega
theorem IBody.pure {P : Program} {f : FuncId} {args : List Value} {H : Heap} {K : Value → Prop} (h : IBody P f args H.ro fun v H' => ∃ u, Frz H' (fun _ => true) v u ∧ Cl u ∧ K u) : IBody P f args H fun v H' => K v ∧ H' = H := by
  intro B w0 ρ args' w hh hargs
  refine (h w.heap.size w ρ args' w hh.toRo hargs).mono ?_
  rintro x w' ⟨ρ', v, v', H', rfl, ⟨u, hf, hc, hk⟩, hv, hr, hl, hn⟩
  have hz := hr.frz (S := fun _ => true)
  have hle := hl.trans hr.frz_le (τ := ρ'.frz H' (fun _ => true) w')
  obtain ⟨h1, h2⟩ := hh.back hr.below hz.fixed hle
  exact ⟨⟨ρ.to, (ρ'.frz H' (fun _ => true) w').fix⟩, u, v', H, rfl, ⟨hk, rfl⟩, VR.closed (ρ := ρ'.frz H' (fun _ => true) w') (σ := ⟨ρ.to, (ρ'.frz H' (fun _ => true) w').fix⟩) (fun _ _ _ e => e) (VR.frz hr hf hv) hc, h1, h2, Nat.le_refl _⟩
theorem ICalls.pure {P : Program} {f : FuncId} {args : List Value} {H : Heap} {K : Value → Prop} (h : ICalls P f args H.ro fun v H' => ∃ u, Frz H' (fun _ => true) v u ∧ Cl u ∧ K u) : ICalls P f args H fun v H' => K v ∧ H' = H := by
  intro B w0 ρ args' w hh hargs
  have fin : ∀ x w', Left w.heap.size w ρ H.ro (fun v H' => ∃ u, Frz H' (fun _ => true) v u ∧ Cl u ∧ K u) x w' → Left B w0 ρ H (fun v H' => K v ∧ H' = H) x w' := by
    rintro x w' ⟨ρ', v, v', H', rfl, ⟨u, hf, hc, hk⟩, hv, hr, hl, hn⟩
    have hz := hr.frz (S := fun _ => true)
    have hle := hl.trans hr.frz_le (τ := ρ'.frz H' (fun _ => true) w')
    obtain ⟨h1, h2⟩ := hh.back hr.below hz.fixed hle
    exact ⟨⟨ρ.to, (ρ'.frz H' (fun _ => true) w').fix⟩, u, v', H, rfl, ⟨hk, rfl⟩, VR.closed (ρ := ρ'.frz H' (fun _ => true) w') (σ := ⟨ρ.to, (ρ'.frz H' (fun _ => true) w').fix⟩) (fun _ _ _ e => e) (VR.frz hr hf hv) hc, h1, h2, Nat.le_refl _⟩
  exact (h w.heap.size w ρ args' w hh.toRo hargs).imp (fun r => ⟨r.1, r.2.mono fin⟩) fun ⟨v', w', e, r⟩ => ⟨v', w', e, fin _ _ r⟩
theorem IBody.pure' {P : Program} {f : FuncId} {args : List Value} {H : Heap} {K : Value → Prop} (h : IBody P f args H.ro fun v _ => Cl v ∧ K v) : IBody P f args H fun v H' => K v ∧ H' = H :=
  IBody.pure (h.mono fun v H' hk => ⟨v, .same v, hk.1, hk.2⟩)
theorem ICalls.view {P : Program} {f : FuncId} {args us : List Value} {H : Heap} {K : Value → Prop} (hf : FrzL H (fun _ => true) args us) (hc : ClL us) (h : ICalls P f us Heap.empty fun v _ => plain1 v = true ∧ K v) : ICalls P f args H fun v H' => K v ∧ H' = H := by
  intro B w0 ρ args' w hh hargs
  have hz := hh.frz (S := fun _ => true)
  have hr : HR w.heap.size w ⟨fun _ => none, (ρ.frz H (fun _ => true) w).fix⟩ Heap.empty w :=
    ⟨Below.refl _ _, Nat.le_refl _, (fun _ _ h => by cases h), (fun _ _ _ _ h => by cases h), (fun _ _ h => by cases h), (fun _ _ _ _ _ _ _ _ _ _ _ h => by cases h), hz.fixed, (fun _ _ _ _ _ h => by cases h), (fun _ h => by cases h), hh.pin.later hh.below hh.base⟩
  have ha : VRL ⟨fun _ => none, (ρ.frz H (fun _ => true) w).fix⟩ us args'.toList := VRL.closed (ρ := ρ.frz H (fun _ => true) w) (σ := ⟨fun _ => none, (ρ.frz H (fun _ => true) w).fix⟩) (fun _ _ _ e => e) (VRL.frz hh hf hargs) hc
  have fin : ∀ x w', Left w.heap.size w ⟨fun _ => none, (ρ.frz H (fun _ => true) w).fix⟩ Heap.empty (fun v _ => plain1 v = true ∧ K v) x w' → Left B w0 ρ H (fun v H' => K v ∧ H' = H) x w' := by
    rintro x w' ⟨ρ', v, v', H', rfl, ⟨hp, hk⟩, hv, hr', hl, hn⟩
    have := hv.eq_of_plain1 hp
    subst this
    exact ⟨ρ, v', v', H, rfl, ⟨hk, rfl⟩, VR.of_plain1 hp, hh.of_same hr'.below, Ren.Le.refl _, Nat.le_refl _⟩
  exact (h w.heap.size w _ args' w hr ha).imp (fun r => ⟨r.1, r.2.mono fin⟩) fun ⟨v', w', e, r⟩ => ⟨v', w', e, fin _ _ r⟩
theorem IWp.freeze {P : Program} {n : Nat} {c : Code} {Q : Exit → Env → Heap → Prop} {e e' : Env} {H : Heap} (S : Nat → Bool) (he : ∀ i u, e'.get i = some u → ∃ v, e.get i = some v ∧ Frz H S v u) (h : IWp P n c Q e' (H.only fun b => !S b)) : IWp P n c Q e H := by
  intro B w0 ρ a w ha hh
  have ha' : AR n (ρ.frz H S w) e' a := ⟨ha.defers, ha.size, fun i u hu => by
    obtain ⟨v, h1, h2⟩ := he i u hu
    obtain ⟨v', h3, h4⟩ := ha.slot i v h1
    exact ⟨v', h3, VR.frz hh h2 h4⟩⟩
  exact wp_mono (h B w0 _ a w ha' hh.frz) fun x a' w' g => g.later hh.frz_le (Nat.le_refl _)
end Go.Proofs.YtoecebibhcadoaaDoor.I
