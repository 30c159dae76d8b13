/- Arguments that can be read as data, as an ideal heap that may only be read. No condition. -/
import Derived.Test.YtneiiglfdhghkaaIRules
import Derived.Deep.Slices
import Derived.ChangeShapes
import Derived.WideShapes
namespace Go.Proofs.Ytneiiglfdhghkaa.I
open Go Go.RowKit
set_option linter.unusedVariables false
set_option linter.unusedSimpArgs false

/-- The types that are read: truths, numbers, texts, rows, records. -/
inductive Ty where
  | bool | int (k : IntKind) | str | row (e : Ty) (sz : Nat) | recd (fs : List Ty)

/-- What is read. -/
inductive Dt where
  | b (b : Bool) | i (n : Int) | s (s : ByteArray) | l (xs : List Dt) | r (xs : List Dt)

mutual
def isTy (P : Program) : Ty → TypeId → Bool
  | .bool, t => match P.underlying t with | some .bool => true | _ => false
  | .int k, t => match P.underlying t with | some (.int k') => decide (k = k') | _ => false
  | .str, t => match P.underlying t with | some .string => true | _ => false
  | .row e sz, t => match P.underlying t with | some (.slice e') => isTy P e e' && P.cellsOf e' == sz && sz != 0 | _ => false
  | .recd fs, t => match P.underlying t with | some (.struct fields) => isTys P fs fields.toList 0 (P.cellsOf t) | _ => false
def isTys (P : Program) : List Ty → List Field → Nat → Nat → Bool
  | [], [], off, n => off == n
  | T :: Ts, f :: fs, off, n => isTy P T f.type && f.offset == off && isTys P Ts fs (off + P.cellsOf f.type) n
  | _, _, _, _ => false
end

mutual
inductive Lay (H : Heap) : Ty → Dt → List Value → Prop
  | bool (b : Bool) : Lay H .bool (.b b) [.bool b]
  | int {k : IntKind} {n : Int} (h : (Lit.int k n).wf = true) : Lay H (.int k) (.i n) [.int k n]
  | str {s : ByteArray} (h : s.size ≤ maxLen) : Lay H .str (.s s) [.string s]
  | nil (e : Ty) (sz : Nat) : Lay H (.row e sz) (.l []) [.slice none 0 0]
  | away {e : Ty} {sz b : Nat} (h : H.get b = none) (hb : b < H.next) : Lay H (.row e sz) (.l []) [.slice (some ⟨b, 0, some sz⟩) 0 1]
  | row {e : Ty} {sz b : Nat} {xs : List Dt} {css : List (List Value)} (hn : xs ≠ []) (hm : xs.length ≤ maxLen) (h : H.get b = some ⟨css.flatten, false⟩) (hs : LayS H e xs css) (hz : ∀ c ∈ css, c.length = sz) :
      Lay H (.row e sz) (.l xs) [.slice (some ⟨b, 0, some sz⟩) xs.length 1]
  | recd {fs : List Ty} {xs : List Dt} {css : List (List Value)} (h : LayF H fs xs css) : Lay H (.recd fs) (.r xs) css.flatten
inductive LayS (H : Heap) : Ty → List Dt → List (List Value) → Prop
  | nil (e : Ty) : LayS H e [] []
  | cons {e : Ty} {x : Dt} {xs : List Dt} {c : List Value} {css : List (List Value)} (h : Lay H e x c) (hs : LayS H e xs css) : LayS H e (x :: xs) (c :: css)
inductive LayF (H : Heap) : List Ty → List Dt → List (List Value) → Prop
  | nil : LayF H [] [] []
  | cons {T : Ty} {Ts : List Ty} {x : Dt} {xs : List Dt} {c : List Value} {css : List (List Value)} (h : Lay H T x c) (hs : LayF H Ts xs css) : LayF H (T :: Ts) (x :: xs) (c :: css)
end

/-- What the one heap speaks of the other does, too; blocks that nobody speaks of stay so. -/
structure Sub (H K : Heap) : Prop where
  same : ∀ b, b < H.next → K.get b = H.get b
  next : H.next ≤ K.next

theorem Sub.refl (H : Heap) : Sub H H := ⟨fun _ _ => rfl, Nat.le_refl _⟩
theorem Sub.trans {A B C : Heap} (h : Sub A B) (k : Sub B C) : Sub A C := ⟨fun b hb => (k.same b (Nat.lt_of_lt_of_le hb h.next)).trans (h.same b hb), Nat.le_trans h.next k.next⟩
theorem Sub.get {H K : Heap} (h : Sub H K) {b : Nat} {k : Blk} (e : H.get b = some k) : K.get b = some k := by rw [h.same b (Heap.lt_of_get e)]; exact e

mutual
theorem Lay.sub {H K : Heap} (s : Sub H K) : ∀ {T : Ty} {d : Dt} {cs : List Value}, Lay H T d cs → Lay K T d cs
  | _, _, _, .bool b => .bool b
  | _, _, _, .int h => .int h
  | _, _, _, .str h => .str h
  | _, _, _, .nil e sz => .nil e sz
  | _, _, _, .away h hb => .away (by rw [s.same _ hb]; exact h) (Nat.lt_of_lt_of_le hb s.next)
  | _, _, _, .row hn hm h hs hz => .row hn hm (s.get h) (LayS.sub s hs) hz
  | _, _, _, .recd h => .recd (LayF.sub s h)
theorem LayS.sub {H K : Heap} (s : Sub H K) : ∀ {T : Ty} {d : List Dt} {cs : List (List Value)}, LayS H T d cs → LayS K T d cs
  | _, _, _, .nil e => .nil e
  | _, _, _, .cons h hs => .cons (Lay.sub s h) (LayS.sub s hs)
theorem LayF.sub {H K : Heap} (s : Sub H K) : ∀ {T : List Ty} {d : List Dt} {cs : List (List Value)}, LayF H T d cs → LayF K T d cs
  | _, _, _, .nil => .nil
  | _, _, _, .cons h hs => .cons (Lay.sub s h) (LayF.sub s hs)
end

theorem LayS.length {H : Heap} : ∀ {e : Ty} {xs : List Dt} {css : List (List Value)}, LayS H e xs css → xs.length = css.length
  | _, _, _, .nil e => rfl
  | _, _, _, .cons _ hs => by simp [LayS.length hs]

/-- A block that may be read. -/
def Heap.lies (H : Heap) (o : Option Blk) : Heap where
  get := fun b => if b = H.next then o else H.get b
  next := H.next + 1
  wf := fun b hb => by rw [if_neg (by omega)]; exact H.wf b (by omega)

theorem Heap.lies_sub (H : Heap) (o : Option Blk) : Sub H (H.lies o) := ⟨fun b hb => by simp only [Heap.lies]; rw [if_neg (by omega)], by simp [Heap.lies]⟩

theorem HR.lies {W : World} {ρ : Ren} {H : Heap} (h : HR W.heap.size W ρ H W) {cs : List Value} {q s n : Nat} {c : Array Value} {T : TypeId} {fr : Nat × Nat} (hq : W.heap[q]? = some (.cells c T fr)) (hn : c.size = n) (hl : s + cs.length ≤ n)
    (hc : ∀ (i : Nat) (v : Value), cs[i]? = some v → ∃ v', W.cell? ⟨q, s + i, none⟩ = some v' ∧ VR ρ v v') :
    HR W.heap.size W (ρ.ext H.next (.lies q s n)) (H.lies (some ⟨cs, false⟩)) W := by
  have hle : Ren.Le ρ (ρ.ext H.next (.lies q s n)) := fun b p e => by unfold Ren.ext; rw [if_neg (by have := h.dom b p e; omega)]; exact e
  have hqlt : q < W.heap.size := by
    rcases Nat.lt_or_ge q W.heap.size with h' | h'
    · exact h'
    · rw [Array.getElem?_eq_none h'] at hq; cases hq
  have hnew : (ρ.ext H.next (.lies q s n)) H.next = some (.lies q s n) := by unfold Ren.ext; rw [if_pos rfl]
  have hold : ∀ b, b ≠ H.next → (ρ.ext H.next (.lies q s n)) b = ρ b := fun b hb => by unfold Ren.ext; rw [if_neg hb]
  refine ⟨h.below, h.base, fun b p e => ?_, fun b q2 s2 n2 e => ?_, fun b k hk => ?_, fun b b' k k' q1 s1 n1 q2 s2 n2 hne h1 h2 ho e1 e2 => ?_⟩
  · simp only [Heap.lies]
    by_cases hb : b = H.next
    · omega
    · rw [hold b hb] at e; have := h.dom b p e; omega
  · by_cases hb : b = H.next
    · subst hb; rw [hnew] at e; cases e; exact ⟨c, T, fr, hq, hn⟩
    · rw [hold b hb] at e; exact h.size b q2 s2 n2 e
  · by_cases hb : b = H.next
    · subst hb
      simp only [Heap.lies, if_true, Option.some.injEq] at hk
      subst hk
      exact ⟨q, s, n, hnew, hl, fun i v hv => let ⟨v', a1, a2⟩ := hc i v hv; ⟨v', a1, a2.mono hle⟩, fun h => by cases h⟩
    · simp only [Heap.lies, if_neg hb] at hk
      obtain ⟨q2, s2, n2, e, hl2, hc2, ho⟩ := h.live b k hk
      exact ⟨q2, s2, n2, hle _ _ e, hl2, fun i v hv => let ⟨v', a1, a2⟩ := hc2 i v hv; ⟨v', a1, a2.mono hle⟩, ho⟩
  · by_cases hb : b = H.next
    · subst hb
      simp only [Heap.lies, if_true, Option.some.injEq] at h1
      subst h1; cases ho
    · simp only [Heap.lies, if_neg hb] at h1
      rw [hold b hb] at e1
      by_cases hb' : b' = H.next
      · subst hb'
        rw [hnew] at e2; cases e2
        obtain ⟨q3, s3, n3, e3, _, _, ho3⟩ := h.live b k h1
        rw [e1] at e3; cases e3
        have := (ho3 ho).1
        omega
      · simp only [Heap.lies, if_neg hb'] at h2
        rw [hold b' hb'] at e2
        exact h.apart b b' k k' q1 s1 n1 q2 s2 n2 hne h1 h2 ho e1 e2

theorem HR.noBlock {W : World} {ρ : Ren} {H : Heap} (h : HR W.heap.size W ρ H W) : HR W.heap.size W (ρ.ext H.next .away) (H.lies none) W := by
  have hle : Ren.Le ρ (ρ.ext H.next .away) := fun b p e => by unfold Ren.ext; rw [if_neg (by have := h.dom b p e; omega)]; exact e
  have hold : ∀ b, b ≠ H.next → (ρ.ext H.next .away) b = ρ b := fun b hb => by unfold Ren.ext; rw [if_neg hb]
  have hnew : (ρ.ext H.next .away) H.next = some .away := by unfold Ren.ext; rw [if_pos rfl]
  refine ⟨h.below, h.base, fun b p e => ?_, fun b q2 s2 n2 e => ?_, fun b k hk => ?_, fun b b' k k' q1 s1 n1 q2 s2 n2 hne h1 h2 ho e1 e2 => ?_⟩
  · simp only [Heap.lies]
    by_cases hb : b = H.next
    · omega
    · rw [hold b hb] at e; have := h.dom b p e; omega
  · by_cases hb : b = H.next
    · subst hb; rw [hnew] at e; cases e
    · rw [hold b hb] at e; exact h.size b q2 s2 n2 e
  · by_cases hb : b = H.next
    · subst hb; simp only [Heap.lies, if_true] at hk; cases hk
    · simp only [Heap.lies, if_neg hb] at hk
      obtain ⟨q2, s2, n2, e, hl2, hc2, ho⟩ := h.live b k hk
      exact ⟨q2, s2, n2, hle _ _ e, hl2, fun i v hv => let ⟨v', a1, a2⟩ := hc2 i v hv; ⟨v', a1, a2.mono hle⟩, ho⟩
  · have n1' : b ≠ H.next := fun hb => by subst hb; simp only [Heap.lies, if_true] at h1; cases h1
    have n2' : b' ≠ H.next := fun hb => by subst hb; simp only [Heap.lies, if_true] at h2; cases h2
    simp only [Heap.lies, if_neg n1'] at h1
    simp only [Heap.lies, if_neg n2'] at h2
    rw [hold b n1'] at e1
    rw [hold b' n2'] at e2
    exact h.apart b b' k k' q1 s1 n1 q2 s2 n2 hne h1 h2 ho e1 e2

/-- From any heap that the world shows on, there is one that also shows these cells as such a datum. -/
def Opens (W : World) (T : Ty) (cs : List Value) : Prop :=
  ∀ (ρ : Ren) (H : Heap), HR W.heap.size W ρ H W → ∃ (ρ' : Ren) (H' : Heap) (d : Dt) (ics : List Value), Ren.Le ρ ρ' ∧ Sub H H' ∧ HR W.heap.size W ρ' H' W ∧ VRL ρ' ics cs ∧ Lay H' T d ics

section
variable {HH : Type} {enc : TypeId × Value → HH} {P : Program} {W : World}

theorem VRL.flat {ρ : Ren} {cs : List Value} (h : cs.all plain0 = true) : VRL ρ cs cs := VRL.of_plain0 h

theorem opensF : ∀ (fs : List Field) (Ts : List Ty) (off n : Nat) (cs : List Value) (xs : List (DataW HH × List MemPlace)) (fuel : Nat), isTys P Ts fs off n = true → cs.length = n →
    (∀ T t c x, isTy P T t = true → DataW.trod enc P W 0 (fun _ => true) true fuel t c = some x → Opens W T c) →
    fs.mapM (fun f => DataW.trod enc P W 0 (fun _ => true) true fuel f.type ((cs.drop f.offset).take (P.cellsOf f.type))) = some xs →
    ∀ (ρ : Ren) (H : Heap), HR W.heap.size W ρ H W → ∃ (ρ' : Ren) (H' : Heap) (ds : List Dt) (css : List (List Value)), Ren.Le ρ ρ' ∧ Sub H H' ∧ HR W.heap.size W ρ' H' W ∧ VRL ρ' css.flatten (cs.drop off) ∧ LayF H' Ts ds css
  | [], [], off, n, cs, xs, fuel, ht, hl, ih, h, ρ, H, hr => by
    simp only [isTys, beq_iff_eq] at ht
    refine ⟨ρ, H, [], [], Ren.Le.refl _, Sub.refl _, hr, ?_, .nil⟩
    rw [List.drop_of_length_le (by omega)]; exact .nil
  | f :: fs, T :: Ts, off, n, cs, xs, fuel, ht, hl, ih, h, ρ, H, hr => by
    simp only [isTys, Bool.and_eq_true, beq_iff_eq] at ht
    obtain ⟨⟨ht1, ht2⟩, ht3⟩ := ht
    simp only [List.mapM_cons, Option.bind_eq_bind, Option.pure_def] at h
    obtain ⟨x, hx, h⟩ := Option.bind_eq_some_iff.mp h
    obtain ⟨ys, hys, h⟩ := Option.bind_eq_some_iff.mp h
    obtain ⟨ρ1, H1, d, ics, a1, a2, a3, a4, a5⟩ := ih T f.type _ x ht1 hx ρ H hr
    obtain ⟨ρ2, H2, ds, css, b1, b2, b3, b4, b5⟩ := opensF fs Ts (off + P.cellsOf f.type) n cs ys fuel ht3 hl ih hys ρ1 H1 a3
    refine ⟨ρ2, H2, d :: ds, ics :: css, a1.trans b1, a2.trans b2, b3, ?_, .cons (a5.sub b2) b5⟩
    rw [List.flatten_cons]
    have e : cs.drop off = (cs.drop off).take (P.cellsOf f.type) ++ cs.drop (off + P.cellsOf f.type) := by
      rw [← List.drop_drop, List.take_append_drop]
    rw [e]
    rw [ht2] at a4
    exact VRL.append (a4.mono b1) b4
  | [], _ :: _, off, n, cs, xs, fuel, ht, hl, ih, h, ρ, H, hr => by simp [isTys] at ht
  | _ :: _, [], off, n, cs, xs, fuel, ht, hl, ih, h, ρ, H, hr => by simp [isTys] at ht

theorem opensS {T : Ty} {t sz : Nat} {fuel : Nat} (hty : isTy P T t = true) (ih : ∀ T t c x, isTy P T t = true → DataW.trod enc P W 0 (fun _ => true) true fuel t c = some x → Opens W T c) (C : Nat → List Value) : ∀ (m : Nat),
    (∀ i, i < m → (C i).length = sz ∧ ∃ x, DataW.trod enc P W 0 (fun _ => true) true fuel t (C i) = some x) →
    ∀ (ρ : Ren) (H : Heap), HR W.heap.size W ρ H W → ∃ (ρ' : Ren) (H' : Heap) (ds : List Dt) (css : List (List Value)), Ren.Le ρ ρ' ∧ Sub H H' ∧ HR W.heap.size W ρ' H' W ∧ ds.length = m ∧ VRL ρ' css.flatten ((List.range m).flatMap C) ∧ LayS H' T ds css ∧ (∀ c ∈ css, c.length = sz)
  | 0, _, ρ, H, hr => ⟨ρ, H, [], [], Ren.Le.refl _, Sub.refl _, hr, rfl, .nil, .nil T, fun c hc => by cases hc⟩
  | m + 1, h, ρ, H, hr => by
    obtain ⟨ρ1, H1, ds, css, a1, a2, a3, a4, a5, a6, a7⟩ := opensS hty ih C m (fun i hi => h i (by omega)) ρ H hr
    obtain ⟨hl, x, hx⟩ := h m (by omega)
    obtain ⟨ρ2, H2, d, ics, b1, b2, b3, b4, b5⟩ := ih T t (C m) x hty hx ρ1 H1 a3
    have snoc : ∀ (ds : List Dt) (css : List (List Value)), LayS H2 T ds css → LayS H2 T (ds ++ [d]) (css ++ [ics]) := by
      intro ds
      induction ds with
      | nil => intro css h; cases h; exact .cons b5 (.nil T)
      | cons y ys ih2 => intro css h; cases h with | cons h1 h2 => exact .cons h1 (ih2 _ h2)
    refine ⟨ρ2, H2, ds ++ [d], css ++ [ics], a1.trans b1, a2.trans b2, b3, by simp [a4], ?_, snoc ds css (a6.sub b2), fun c hc => ?_⟩
    · rw [List.range_succ, List.flatMap_append, List.flatten_append]
      refine VRL.append (a5.mono b1) ?_
      simpa using b4
    · rcases List.mem_append.mp hc with hc | hc
      · exact a7 c hc
      · rw [List.mem_singleton.mp hc, b4.length]; exact hl

theorem block_of_cell {q o : Nat} {v : Value} (h : W.cell? ⟨q, o, none⟩ = some v) : ∃ c T fr, W.heap[q]? = some (.cells c T fr) ∧ o < c.size := by
  unfold World.cell? at h
  split at h
  · rename_i c T fr hq
    simp only [Option.isSome_none, Bool.false_eq_true, if_false] at h
    refine ⟨c, T, fr, hq, ?_⟩
    rcases Nat.lt_or_ge o c.size with h' | h'
    · exact h'
    · rw [Array.getElem?_eq_none h'] at h; cases h
  · cases h

theorem opens : ∀ (fuel : Nat) (T : Ty) (t : TypeId) (cs : List Value) (x : DataW HH × List MemPlace), isTy P T t = true → DataW.trod enc P W 0 (fun _ => true) true fuel t cs = some x → Opens W T cs
  | 0, T, t, cs, x, ht, h => by simp [DataW.trod] at h
  | fuel + 1, T, t, cs, x, ht, h => by
    intro ρ H hr
    cases T with
    | bool =>
      simp only [isTy] at ht
      split at ht <;> try (cases ht)
      rename_i hu
      obtain ⟨b, rfl, _⟩ := DataW.trod_bool hu h
      exact ⟨ρ, H, .b b, _, Ren.Le.refl _, Sub.refl _, hr, VRL.flat rfl, .bool b⟩
    | int k =>
      simp only [isTy] at ht
      split at ht <;> try (cases ht)
      rename_i k' hu
      obtain rfl : k = k' := by simpa using ht
      obtain ⟨n, rfl, _, hw⟩ := DataW.trod_int hu h
      exact ⟨ρ, H, .i n, _, Ren.Le.refl _, Sub.refl _, hr, VRL.flat rfl, .int hw⟩
    | str =>
      simp only [isTy] at ht
      split at ht <;> try (cases ht)
      rename_i hu
      have : ∃ s, cs = [.string s] ∧ s.size ≤ maxLen := by
        unfold DataW.trod at h
        simp only [hu] at h
        split at h <;> first
          | (rename_i e; cases e; done)
          | (rename_i e _; cases e; done)
          | (rename_i e _ _; cases e; done)
          | (split at h
             · exact ⟨_, rfl, by assumption⟩
             · cases h)
          | cases h
      obtain ⟨s, rfl, hs⟩ := this
      exact ⟨ρ, H, .s s, _, Ren.Le.refl _, Sub.refl _, hr, VRL.flat rfl, .str hs⟩
    | row e sz =>
      simp only [isTy] at ht
      split at ht <;> try (cases ht)
      rename_i e' hu
      simp only [Bool.and_eq_true, beq_iff_eq, bne_iff_ne, ne_eq] at ht
      obtain ⟨⟨he, hsz⟩, hz0⟩ := ht
      rcases DataW.trod_slice hu h with ⟨rfl, _⟩ | ⟨a, len, cap, elems, rest, n, hfu, rfl, _, hb, hl, hm, hlen, hel, hsp, _⟩
      · exact ⟨ρ, H, .l [], _, Ren.Le.refl _, Sub.refl _, hr, VRL.flat rfl, .nil e sz⟩
      · obtain rfl : fuel = n := by omega
        by_cases h0 : len = 0
        · subst h0
          have hnb := hr.noBlock
          refine ⟨_, _, .l [], [.slice (some ⟨H.next, 0, some sz⟩) 0 1], fun b p e => by unfold Ren.ext; rw [if_neg (by have := hr.dom b p e; omega)]; exact e, H.lies_sub none, hnb, .cons (.away (p := .away) (by unfold Ren.ext; rw [if_pos rfl]) (by omega) (.inl rfl)) .nil, .away (by simp [Heap.lies]) (by simp [Heap.lies])⟩
        · obtain ⟨q, o, sp⟩ := a
          have hcell : ∀ i, i < len → ∃ c x, W.cells? 0 (Addr.add ⟨q, o, sp⟩ (i * P.cellsOf e')) (P.cellsOf e') = some c ∧ DataW.trod enc P W 0 (fun _ => true) true fuel e' c = some x := fun i hi => by
            have := hel i hi
            rw [List.getElem?_eq_getElem (by omega)] at this
            obtain ⟨c, h1, h2⟩ := Option.bind_eq_some_iff.mp this
            exact ⟨c, _, h1, h2⟩
          have hcellr : ∀ j, j < cap - len → ∃ c, W.cells? 0 (Addr.add ⟨q, o, sp⟩ ((len + j) * P.cellsOf e')) (P.cellsOf e') = some c := fun j hj => by
            obtain ⟨hr1, hr2⟩ := hsp rfl
            have := hr2 j hj
            rw [List.getElem?_eq_getElem (by omega)] at this
            obtain ⟨c, h1, h2⟩ := Option.bind_eq_some_iff.mp this
            exact ⟨c, h1⟩
          -- the address has no spot
          have hsp0 : sp = none := by
            obtain ⟨c, x, h1, _⟩ := hcell 0 (by omega)
            obtain ⟨_, h3, h4⟩ := World.cells?_some h1
            have h5 := h4 0 (by omega)
            rw [List.getElem?_eq_getElem (by omega)] at h5
            simp only [Nat.zero_mul] at h5
            cases sp with
            | none => rfl
            | some k =>
              have e1 : (Addr.add (Addr.add ⟨q, o, some k⟩ 0) 0) = ⟨q, o, some k⟩ := rfl
              rw [e1] at h5
              unfold World.cell? at h5
              split at h5 <;> simp at h5
          subst hsp0
          obtain ⟨C, hC⟩ := Classical.axiomOfChoice (fun i => show ∃ c : List Value, i < len → W.cells? 0 (Addr.add ⟨q, o, none⟩ (i * P.cellsOf e')) (P.cellsOf e') = some c ∧ ∃ x, DataW.trod enc P W 0 (fun _ => true) true fuel e' c = some x from by
            by_cases hi : i < len
            · obtain ⟨c, x, h1, h2⟩ := hcell i hi; exact ⟨c, fun _ => ⟨h1, x, h2⟩⟩
            · exact ⟨[], fun h => absurd h hi⟩)
          have hClen : ∀ i, i < len → (C i).length = sz := fun i hi => by
            obtain ⟨_, h3, _⟩ := World.cells?_some (hC i hi).1
            rw [h3, hsz]
          obtain ⟨ρ1, H1, ds, css, a1, a2, a3, a4, a5, a6, a7⟩ := opensS he (fun T t c x h1 h2 => opens fuel T t c x h1 h2) C len (fun i hi => ⟨hClen i hi, (hC i hi).2⟩) ρ H hr
          -- the block
          obtain ⟨_, h3, h4⟩ := World.cells?_some (hC 0 (by omega)).1
          have h5 := h4 0 (by rw [hsz]; omega)
          rw [List.getElem?_eq_getElem (by have := hClen 0 (by omega); omega)] at h5
          simp only [Nat.zero_mul, add_off, Nat.add_zero] at h5
          obtain ⟨c, Tc, fr, hblk, hoc⟩ := block_of_cell h5
          have hflen : ∀ m, m ≤ len → ((List.range m).flatMap C).length = m * sz := fun m => by
            induction m with
            | zero => intro _; simp
            | succ m ihm => intro hm; rw [List.range_succ, List.flatMap_append, List.length_append, ihm (by omega)]; simp [hClen m (by omega), Nat.add_mul]
          have hflat : ∀ (j : Nat) (v : Value), ((List.range len).flatMap C)[j]? = some v → W.cell? ⟨q, o + j, none⟩ = some v := fun j v hj => by
            have hjl : j < len * sz := by
              rcases Nat.lt_or_ge j (len * sz) with h | h
              · exact h
              · rw [List.getElem?_eq_none (by rw [hflen len (Nat.le_refl _)]; exact h)] at hj; cases hj
            have : ∀ m, m ≤ len → ∀ (j : Nat) (v : Value), ((List.range m).flatMap C)[j]? = some v → W.cell? ⟨q, o + j, none⟩ = some v := by
              intro m
              induction m with
              | zero => intro _ j v h; simp at h
              | succ m ihm =>
                intro hm j v hj
                rw [List.range_succ, List.flatMap_append, List.getElem?_append, hflen m (by omega)] at hj
                split at hj
                · exact ihm (by omega) j v hj
                · rename_i hge
                  simp only [List.flatMap_cons, List.flatMap_nil, List.append_nil] at hj
                  have hjm : j - m * sz < sz := by
                    rcases Nat.lt_or_ge (j - m * sz) sz with h | h
                    · exact h
                    · rw [List.getElem?_eq_none (by rw [hClen m (by omega)]; exact h)] at hj; cases hj
                  obtain ⟨_, _, h6⟩ := World.cells?_some (hC m (by omega)).1
                  have h7 := h6 (j - m * sz) (by rw [hsz]; exact hjm)
                  rw [add_off, add_off, hj, hsz] at h7
                  rw [show o + j = o + m * sz + (j - m * sz) by omega]; exact h7
            exact this len (Nat.le_refl _) j v hj
          have hcapl : o + cap * sz ≤ c.size := by
            have : ∃ v, W.cell? ⟨q, o + (cap - 1) * sz + (sz - 1), none⟩ = some v := by
              by_cases hcl : cap = len
              · obtain ⟨_, h6, h7⟩ := World.cells?_some (hC (len - 1) (by omega)).1
                have h8 := h7 (sz - 1) (by rw [hsz]; omega)
                rw [List.getElem?_eq_getElem (by omega), add_off, add_off, hsz] at h8
                exact ⟨_, by rw [hcl]; exact h8⟩
              · obtain ⟨c', h9⟩ := hcellr (cap - len - 1) (by omega)
                obtain ⟨_, h6, h7⟩ := World.cells?_some h9
                have h8 := h7 (sz - 1) (by rw [hsz]; omega)
                rw [List.getElem?_eq_getElem (by omega), add_off, add_off, hsz, show len + (cap - len - 1) = cap - 1 by omega] at h8
                exact ⟨_, h8⟩
            obtain ⟨v, hv⟩ := this
            obtain ⟨c2, T2, fr2, hb2, ho2⟩ := block_of_cell hv
            rw [hblk] at hb2; cases hb2
            have : (cap - 1) * sz + sz = cap * sz := by
              have := Nat.add_mul (cap - 1) 1 sz
              rw [Nat.one_mul, show cap - 1 + 1 = cap by omega] at this
              exact this.symm
            omega
          have hlcap : len * sz ≤ cap * sz := Nat.mul_le_mul_right _ hl
          have hnew := a3.lies (cs := css.flatten) (q := q) (s := o) (n := c.size) hblk rfl (by rw [a5.length, hflen len (Nat.le_refl _)]; omega) (fun i v hv => by
            obtain ⟨v', g1, g2⟩ := a5.get i v hv
            exact ⟨v', hflat i v' g1, g2⟩)
          refine ⟨_, _, .l ds, [.slice (some ⟨H1.next, 0, some sz⟩) len 1], a1.trans (fun b p e => by unfold Ren.ext; rw [if_neg (by have := a3.dom b p e; omega)]; exact e), a2.trans (H1.lies_sub _), hnew, .cons ?_ .nil, ?_⟩
          · have := VR.row (ρ := ρ1.ext H1.next (.lies q o c.size)) (o := 0) (sz := sz) (len := len) (c := 1) (c' := cap) (by unfold Ren.ext; rw [if_pos rfl]) hl (by omega) (by omega)
            simpa using this
          · rw [← a4]
            exact .row (by intro h; rw [h] at a4; simp at a4; omega) (by omega) (by simp [Heap.lies]) (a6.sub (H1.lies_sub _)) a7
    | recd fs =>
      simp only [isTy] at ht
      split at ht <;> try (cases ht)
      rename_i fields hu
      have : cs.length = P.cellsOf t ∧ ∃ xs, fields.toList.mapM (fun f => DataW.trod enc P W 0 (fun _ => true) true fuel f.type ((cs.drop f.offset).take (P.cellsOf f.type))) = some xs := by
        unfold DataW.trod at h
        rw [hu] at h
        simp only at h
        split at h
        · rename_i hl
          obtain ⟨xs, h1, _⟩ := Option.map_eq_some_iff.mp h
          exact ⟨hl, xs, h1⟩
        · cases h
      obtain ⟨hl, xs, hxs⟩ := this
      obtain ⟨ρ1, H1, ds, css, a1, a2, a3, a4, a5⟩ := opensF fields.toList fs 0 _ cs xs fuel ht hl (fun T t c x h1 h2 => opens fuel T t c x h1 h2) hxs ρ H hr
      exact ⟨ρ1, H1, .r ds, css.flatten, a1, a2, a3, by simpa using a4, .recd a5⟩
end

end Go.Proofs.Ytneiiglfdhghkaa.I
