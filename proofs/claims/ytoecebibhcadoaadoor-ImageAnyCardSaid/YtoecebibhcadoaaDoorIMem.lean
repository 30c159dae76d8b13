/- Operations that make memory or write it, on the ideal heap and in every world that shows it. No condition. -/
import Derived.Test.YtoecebibhcadoaaDoorIOpsC
namespace Go.Proofs.YtoecebibhcadoaaDoor.I
open Go Go.RowKit
set_option linter.unusedVariables false
set_option linter.unusedSimpArgs false
def Ren.ext (ρ : Ren) (b : Nat) (p : Place) : Ren := ⟨fun j => if j = b then some p else ρ j, ρ.fix⟩
theorem Ren.ext_get (ρ : Ren) (b : Nat) (p : Place) (j : Nat) : (ρ.ext b p) j = if j = b then some p else ρ j := rfl
theorem Ren.ext_le {B : Nat} {ρ : Ren} {b : Nat} {p : Place} (h : ρ b = none) : Ren.Le B ρ (ρ.ext b p) :=
  ⟨fun j q e => by rw [Ren.ext_get, if_neg (fun e2 => by rw [e2, h] at e; cases e)]; exact e, fun _ _ _ h => h, fun _ _ _ h => .inl h⟩
theorem HR.fresh {B : Nat} {w0 w : World} {ρ : Ren} {H : Heap} (h : HR B w0 ρ H w) (p : Place) : Ren.Le B ρ (ρ.ext H.next p) := Ren.ext_le (by
  cases e : ρ H.next with
  | none => rfl
  | some q => have := h.dom _ _ e; omega)
theorem lt_of_size {B : Nat} {w0 w : World} {ρ : Ren} {H : Heap} (h : HR B w0 ρ H w) {b q s n : Nat} (e : ρ b = some (.lies q s n)) : q < w.heap.size := by
  obtain ⟨c, T, fr, hc, _⟩ := h.size b q s n e
  rcases Nat.lt_or_ge q w.heap.size with h' | h'
  · exact h'
  · rw [Array.getElem?_eq_none h'] at hc; cases hc
theorem HR.alloc {B : Nat} {w0 w : World} {ρ : Ren} {H : Heap} (h : HR B w0 ρ H w) (cs : List Value) (arr : Array Value) (T : TypeId)
    (hl : cs.length ≤ arr.size) (hc : ∀ (i : Nat) (v : Value), cs[i]? = some v → ∃ v', arr[i]? = some v' ∧ VR ρ v v') :
    HR B w0 (ρ.ext H.next (.lies w.heap.size 0 arr.size)) (H.alloc cs) (w.alloc (.cells arr T)) := by
  have hle := h.fresh (.lies w.heap.size 0 arr.size)
  have hold : ∀ b, b < H.next → (ρ.ext H.next (.lies w.heap.size 0 arr.size)) b = ρ b := fun b hb => by rw [Ren.ext_get]; rw [if_neg (by omega)]
  have hnew : (ρ.ext H.next (.lies w.heap.size 0 arr.size)) H.next = some (.lies w.heap.size 0 arr.size) := by rw [Ren.ext_get]; rw [if_pos rfl]
  have hheap : ∀ k, k < w.heap.size → (w.alloc (.cells arr T)).heap[k]? = w.heap[k]? := fun k hk => Below.heap_alloc w _ k hk
  have hhn : (w.alloc (.cells arr T)).heap[w.heap.size]? = some (.cells arr T (0, 0)) := by
    show (w.heap.push _)[w.heap.size]? = _
    simp
  refine ⟨h.below.alloc h.base _, by have := h.base; simp; omega, fun b p e => ?_, fun b q s n e => ?_, fun b k hk => ?_, fun b b' k k' q s n q' s' n' hne h1 h2 ho e1 e2 => ?_, fun q i v hf => ?_, fun b k q s n hk ho e i v hf => ?_, fun t ht => ?_, h.pin⟩
  · by_cases hb : b = H.next
    · subst hb; simp [Heap.alloc]
    · rw [Ren.ext_get, if_neg hb] at e
      have := h.dom b p e
      simp only [Heap.alloc]; omega
  · by_cases hb : b = H.next
    · subst hb
      rw [hnew] at e; cases e
      exact ⟨arr, T, (0, 0), hhn, rfl⟩
    · rw [Ren.ext_get, if_neg hb] at e
      rw [hheap q (lt_of_size h e)]
      exact h.size b q s n e
  · by_cases hb : b = H.next
    · subst hb
      rw [Heap.get_alloc_new] at hk
      cases hk
      refine ⟨w.heap.size, 0, arr.size, hnew, by simpa using hl, fun i v hv => ?_, fun _ => ⟨h.base, fun i hi => ?_⟩⟩
      · obtain ⟨v', h1, h2⟩ := hc i v hv
        refine ⟨v', ?_, h2.mono hle⟩
        simp only [World.cell?, hhn, Nat.zero_add]; simpa using h1
      · simp only [World.frozen?, fence, hhn]; simp
    · rw [Heap.get_alloc_old _ _ _ hb] at hk
      obtain ⟨q, s, n, e, hl', hcs, ho⟩ := h.live b k hk
      have hq := lt_of_size h e
      refine ⟨q, s, n, by rw [hold b (Heap.lt_of_get hk)]; exact e, hl', fun i v hv => ?_, fun hown => ⟨(ho hown).1, fun i hi => ?_⟩⟩
      · obtain ⟨v', h1, h2⟩ := hcs i v hv
        refine ⟨v', ?_, h2.mono hle⟩
        simp only [World.cell?, hheap q hq] at h1 ⊢; exact h1
      · have := (ho hown).2 i hi
        simp only [World.frozen?, fence, hheap q hq] at this ⊢; exact this
  · by_cases hb : b = H.next
    · subst hb
      rw [hnew] at e1; cases e1
      rw [Heap.get_alloc_old _ _ _ (Ne.symm hne)] at h2
      rw [hold b' (Heap.lt_of_get h2)] at e2
      have := lt_of_size h e2
      omega
    · rw [Heap.get_alloc_old _ _ _ hb] at h1
      rw [hold b (Heap.lt_of_get h1)] at e1
      by_cases hb' : b' = H.next
      · subst hb'
        rw [hnew] at e2; cases e2
        have := lt_of_size h e1
        omega
      · rw [Heap.get_alloc_old _ _ _ hb'] at h2
        rw [hold b' (Heap.lt_of_get h2)] at e2
        exact h.apart b b' k k' q s n q' s' n' hne h1 h2 ho e1 e2
  · have hf := h.fixed q i v hf
    have hq := lt_of_cell hf
    simp only [World.cell?, hheap q hq] at hf ⊢; exact hf
  · by_cases hb : b = H.next
    · subst hb
      rw [hnew] at e; cases e
      have := lt_of_cell (h.fixed _ _ _ hf)
      omega
    · rw [Heap.get_alloc_old _ _ _ hb] at hk
      rw [hold b (Heap.lt_of_get hk)] at e
      exact h.off b k q s n hk ho e i v hf
  · obtain ⟨q, es, clk, e, h1, h2, h3⟩ := h.tabs t ht
    exact ⟨q, es, clk, hle.at_ _ _ e, h1, by rw [hheap q (Array.getElem?_eq_some_iff.1 h2).1]; exact h2, h3⟩
theorem setCells_heap (q : Nat) : ∀ (vs : List Value) (o : Nat) (w : World) (k : Nat), k ≠ q → (w.setCells q o vs).heap[k]? = w.heap[k]?
  | [], _, _, _, _ => rfl
  | v :: r, o, w, k, h => by rw [World.setCells, setCells_heap q r _ _ k h, Below.heap_setCell _ _ _ _ h]
theorem setCells_block (q : Nat) : ∀ (vs : List Value) (o : Nat) (w : World) (c : Array Value) (T : TypeId) (fr : Nat × Nat), w.heap[q]? = some (.cells c T fr) →
    ∃ c', (w.setCells q o vs).heap[q]? = some (.cells c' T fr) ∧ c'.size = c.size ∧ ∀ i, c'[i]? = if o ≤ i ∧ i < o + vs.length ∧ i < c.size then vs[i - o]? else c[i]?
  | [], o, w, c, T, fr, h => ⟨c, h, rfl, fun i => by rw [if_neg (by simp; omega)]⟩
  | v :: r, o, w, c, T, fr, h => by
    have h1 : (w.setCell ⟨q, o, none⟩ v).heap[q]? = some (.cells (c.setIfInBounds o v) T fr) := by
      simp only [World.setCell, Array.getElem?_modify, if_true, h, Option.map_some]; simp
    obtain ⟨c', h2, h3, h4⟩ := setCells_block q r (o + 1) _ _ T fr h1
    refine ⟨c', h2, by simpa using h3, fun i => ?_⟩
    rw [h4 i]
    simp only [Array.size_setIfInBounds, List.length_cons, Array.getElem?_setIfInBounds]
    by_cases e1 : o + 1 ≤ i ∧ i < o + 1 + r.length ∧ i < c.size
    · rw [if_pos e1, if_pos (by omega), show i - o = (i - (o + 1)) + 1 by omega, List.getElem?_cons_succ]
    · rw [if_neg e1]
      by_cases e2 : o = i
      · subst e2
        rw [if_pos rfl]
        by_cases e3 : o < c.size
        · rw [if_pos (by omega), if_pos (by omega)]; simp
        · rw [if_neg (by omega), if_neg (by omega)]; rw [Array.getElem?_eq_none (by omega)]
      · rw [if_neg e2, if_neg (by omega)]
theorem setCells_os (q : Nat) : ∀ (vs : List Value) (o : Nat) (w : World), (w.setCells q o vs).os = w.os ∧ (w.setCells q o vs).tape = w.tape ∧ (w.setCells q o vs).output = w.output ∧ (w.setCells q o vs).heap.size = w.heap.size
  | [], _, _ => ⟨rfl, rfl, rfl, rfl⟩
  | v :: r, o, w => by
    obtain ⟨h1, h2, h3, h4⟩ := setCells_os q r (o + 1) (w.setCell ⟨q, o, none⟩ v)
    rw [World.setCells]
    exact ⟨h1, h2, h3, by rw [h4]; simp⟩
def Heap.put (H : Heap) (b o : Nat) (vs : List Value) : Option Heap :=
  match H.get b with
  | some ⟨cs, true⟩ => if o + vs.length ≤ cs.length then some (H.set b (splice cs o vs)) else none
  | _ => none
theorem HR.put {B : Nat} {w0 w : World} {ρ : Ren} {H H' : Heap} (h : HR B w0 ρ H w) {b o : Nat} {vs vs' : List Value} (hp : H.put b o vs = some H') (hv : VRL ρ vs vs') :
    ∃ q s n, ρ b = some (.lies q s n) ∧ (∀ j, j < vs'.length → (w.cell? ⟨q, s + o + j, none⟩).isSome = true) ∧ (∀ j, j < vs'.length → w.frozen? ⟨q, s + o + j, none⟩ = false) ∧
      HR B w0 ρ H' (w.setCells q (s + o) vs') := by
  unfold Heap.put at hp
  split at hp
  · rename_i cs hg
    split at hp
    · rename_i hlen
      cases hp
      obtain ⟨q, s, n, e, hl, hcs, ho⟩ := h.live b _ hg
      obtain ⟨hB, hfr⟩ := ho rfl
      obtain ⟨c, T, fr, hcell, hsz⟩ := h.size b q s n e
      simp only at hl hcs
      have hvl := hv.length
      obtain ⟨c', h1, h2, h3⟩ := setCells_block q vs' (s + o) w c T fr hcell
      obtain ⟨g1, g2, g3, g4⟩ := setCells_os q vs' (s + o) w
      have hother : ∀ k, k ≠ q → (w.setCells q (s + o) vs').heap[k]? = w.heap[k]? := fun k hk => setCells_heap q vs' _ w k hk
      refine ⟨q, s, n, e, fun j hj => ?_, fun j hj => (hfr _ (by omega)).1, ⟨?_, by rw [g4]; exact h.base, h.dom, fun b2 q2 s2 n2 e2 => ?_, fun b2 k2 hk2 => ?_, fun b1 b2 k1 k2 q1 s1 n1 q2 s2 n2 hne a1 a2 ho1 e1 e2 => ?_, fun q2 i v hf => ?_, fun b2 k2 q2 s2 n2 hk2 ho2 e2 i v hf => ?_, fun t ht => ?_, h.pin⟩⟩
      · obtain ⟨v', hv', _⟩ := hcs (o + j) (cs[o + j]'(by omega)) (List.getElem?_eq_getElem (by omega))
        rw [Nat.add_assoc, hv']; rfl
      · exact h.below.trans ⟨g1, g2, g3, by omega, fun k hk => hother k (by omega)⟩
      · by_cases hq : q2 = q
        · subst hq
          obtain ⟨c2, T2, fr2, hc2, hs2⟩ := h.size b2 q2 s2 n2 e2
          rw [hcell] at hc2; cases hc2
          exact ⟨c', T, fr, h1, by rw [h2]; exact hs2⟩
        · rw [hother q2 hq]; exact h.size b2 q2 s2 n2 e2
      · by_cases hb : b2 = b
        · subst hb
          rw [Heap.get_set_same, hg] at hk2
          simp only [Option.map_some, Option.some.injEq] at hk2
          subst hk2
          refine ⟨q, s, n, e, by simp only; rw [splice_length hlen]; exact hl, fun i v hi => ?_, fun _ => ⟨hB, fun i hi => ?_⟩⟩
          · simp only at hi
            rw [splice_get hlen] at hi
            simp only [World.cell?, h1, Option.isSome_none, Bool.false_eq_true, if_false]
            rw [h3]
            by_cases h4 : i < o
            · rw [if_pos h4] at hi
              obtain ⟨v', hv1, hv2⟩ := hcs i v hi
              simp only [World.cell?, hcell, Option.isSome_none, Bool.false_eq_true, if_false] at hv1
              exact ⟨v', by rw [if_neg (by omega)]; exact hv1, hv2⟩
            · rw [if_neg h4] at hi
              by_cases h5 : i < o + vs.length
              · rw [if_pos h5] at hi
                obtain ⟨v', hv1, hv2⟩ := hv.get (i - o) v hi
                exact ⟨v', by rw [if_pos (by omega), show s + i - (s + o) = i - o by omega]; exact hv1, hv2⟩
              · rw [if_neg h5] at hi
                obtain ⟨v', hv1, hv2⟩ := hcs i v hi
                simp only [World.cell?, hcell, Option.isSome_none, Bool.false_eq_true, if_false] at hv1
                exact ⟨v', by rw [if_neg (by omega)]; exact hv1, hv2⟩
          · have := hfr i hi
            simp only [World.frozen?, fence, hcell, h1] at this ⊢; exact this
        · rw [Heap.get_set_ne _ _ _ _ hb] at hk2
          obtain ⟨q2, s2, n2, e2, hl2, hcs2, ho2⟩ := h.live b2 k2 hk2
          have hq : q2 ≠ q := Ne.symm (h.apart b b2 _ k2 q s n q2 s2 n2 (Ne.symm hb) hg hk2 rfl e e2)
          refine ⟨q2, s2, n2, e2, hl2, fun i v hi => ?_, fun hown => ⟨(ho2 hown).1, fun i hi => ?_⟩⟩
          · obtain ⟨v', hv1, hv2⟩ := hcs2 i v hi
            refine ⟨v', ?_, hv2⟩
            simp only [World.cell?, hother q2 hq] at hv1 ⊢; exact hv1
          · have := (ho2 hown).2 i hi
            simp only [World.frozen?, fence, hother q2 hq] at this ⊢; exact this
      · have back : ∀ b3 k3, (H.set b (splice cs o vs)).get b3 = some k3 → ∃ k4, H.get b3 = some k4 ∧ k4.own = k3.own := fun b3 k3 h3' => by
          by_cases hb : b3 = b
          · subst hb
            rw [Heap.get_set_same, hg] at h3'
            simp only [Option.map_some, Option.some.injEq] at h3'
            subst h3'; exact ⟨_, hg, rfl⟩
          · rw [Heap.get_set_ne _ _ _ _ hb] at h3'; exact ⟨k3, h3', rfl⟩
        obtain ⟨k3, c1, c2⟩ := back b1 k1 a1
        obtain ⟨k4, d1, d2⟩ := back b2 k2 a2
        exact h.apart b1 b2 k3 k4 q1 s1 n1 q2 s2 n2 hne c1 d1 (by rw [c2]; exact ho1) e1 e2
      · have hq : q2 ≠ q := fun e2 => h.off b _ q s n hg rfl e i v (e2 ▸ hf)
        have hf := h.fixed q2 i v hf
        simp only [World.cell?, hother q2 hq] at hf ⊢; exact hf
      · by_cases hb : b2 = b
        · subst hb
          exact h.off b2 _ q2 s2 n2 hg rfl e2 i v hf
        · rw [Heap.get_set_ne _ _ _ _ hb] at hk2
          exact h.off b2 k2 q2 s2 n2 hk2 ho2 e2 i v hf
      · obtain ⟨q', es, clk, e', c1, c2, c3⟩ := h.tabs t ht
        have hq : q' ≠ q := fun x => by rw [x, hcell] at c2; cases c2
        exact ⟨q', es, clk, e', c1, by rw [hother q' hq]; exact c2, c3⟩
    · cases hp
  · cases hp
def one0 : Value → Bool
  | .agg _ | .tuple _ => false
  | _ => true
theorem one_of {ρ : Ren} {v v' : Value} (h : VR ρ v v') (ho : one0 v = true) : v'.oneCell' = true := by
  cases h with
  | plain hp => cases v <;> first | rfl | simp [plain0] at hp | simp [one0] at ho
  | agg _ => simp [one0] at ho
  | tuple _ => simp [one0] at ho
  | _ => rfl
theorem oneCell_of {ρ : Ren} : ∀ {l l' : List Value}, VRL ρ l l' → l.all one0 = true → ∀ v ∈ l', v.oneCell' = true
  | _, _, .nil, _, v, hv => by cases hv
  | _, _, .cons h hl, ha, v, hv => by
    simp only [List.all_cons, Bool.and_eq_true] at ha
    rcases List.mem_cons.mp hv with rfl | hv
    · exact one_of h ha.1
    · exact oneCell_of hl ha.2 v hv
def zerosOf (z : Value) (n : Nat) : List Value := ((Array.range n).map (z.cells[· % z.cells.size]!)).toList
def imem (P : Program) (op : Op) (e : Env) (H : Heap) : Option (Value × Heap) :=
  match op with
  | .box t x => (e.eval x).bind fun v => some (ptrTo H.next 0, H.alloc v.cells.toList)
  | .alloc t => (tZero P t).bind fun z => if plain1 z = true then some (ptrTo H.next 0, H.alloc z.cells.toList) else none
  | .store t x y =>
    (e.eval x).bind fun p => (e.eval y).bind fun v =>
      match p with
      | .pointer (some ⟨b, o, none⟩) =>
        if tSize P t = some v.cells.toList.length ∧ v.cells.toList.all one0 = true then (H.put b o v.cells.toList).map fun K => (undef, K) else none
      | _ => none
  | .makeSlice t l c =>
    (e.eval l).bind fun l => (e.eval c).bind fun c =>
    match l, c with
    | .int _ i, .int _ j =>
      (tElem P t).bind fun el => (tSize P el).bind fun sz => (tBytes P el).bind fun by_ => (tZero P el).bind fun z =>
        if 0 ≤ i ∧ i ≤ j ∧ j ≤ 1099511627776 ∧ by_ * j ≤ 281474976710656 ∧ z.cells.toList.all plain0 = true ∧ z.cells.toList.length = sz then
          some (.slice (some ⟨H.next, 0, some sz⟩) i.toNat 1, H.alloc (List.replicate j.toNat z.cells.toList).flatten)
        else none
    | _, _ => none
  | .buildSlice t n parts =>
    (tElem P t).bind fun el => (tSize P el).bind fun sz => (tZero P el).bind fun z => (evals e (parts.toList.map (·.2))).bind fun vs =>
      if parts.toList.map (·.1) = List.range n ∧ n * sz ≤ 16777216 ∧ (vs.all fun v => v.cells.toList.length == sz) = true then
        some (.slice (some ⟨H.next, 0, some sz⟩) n 1, H.alloc (vs.flatMap fun v => v.cells.toList))
      else none
  | _ => none
theorem flatten_get (l : List Value) : ∀ (n i : Nat), i < n * l.length → (List.replicate n l).flatten[i]? = l[i % l.length]?
  | 0, i, h => by omega
  | n + 1, i, h => by
    rw [List.replicate_succ, List.flatten_cons, List.getElem?_append]
    by_cases h1 : i < l.length
    · rw [if_pos h1, Nat.mod_eq_of_lt h1]
    · rw [if_neg h1, flatten_get l n (i - l.length) (by rw [Nat.add_mul] at h; omega)]
      congr 1
      conv => rhs; rw [show i = (i - l.length) + l.length by omega]
      rw [Nat.add_mod_right]
theorem zerosOf_eq (z : Value) (j sz : Nat) (h : z.cells.toList.length = sz) (arr : Array Value) (ha : j * sz ≠ 0 → arr = z.cells) :
    ((Array.range (j * sz)).map (arr[· % arr.size]!)).toList = (List.replicate j z.cells.toList).flatten := by
  have hlen : (List.replicate j z.cells.toList).flatten.length = j * sz := by simp [h]
  apply List.ext_getElem?
  intro i
  rcases Nat.lt_or_ge i (j * sz) with hi | hi
  · have hne : j * sz ≠ 0 := by omega
    rw [ha hne, flatten_get _ _ _ (by rw [h]; exact hi)]
    have hpos : 0 < sz := by
      rcases Nat.eq_zero_or_pos sz with h0 | h0
      · rw [h0] at hi; omega
      · exact h0
    have hsz : z.cells.size = sz := by rw [← Array.length_toList]; exact h
    have hm : i % sz < z.cells.size := by rw [hsz]; exact Nat.mod_lt _ hpos
    rw [Array.getElem?_toList, Array.getElem?_map, Array.getElem?_range, if_pos hi, Array.getElem?_toList, hsz, Array.length_toList, hsz]
    simp only [Option.map_some]
    rw [getElem!_pos z.cells _ hm, getElem?_pos z.cells _ hm]
  · rw [List.getElem?_eq_none (by simp; exact hi), List.getElem?_eq_none (by omega)]
theorem fill_seq {sz : Nat} : ∀ (vs : List Value) (k : Nat) (arr : Array Value), (vs.all fun v => v.cells.toList.length == sz) = true → (k + vs.length) * sz = arr.size →
    ∃ arr', Instr.fill (fun i => some (i * sz, sz)) arr ((List.range' k vs.length).zip vs) = some arr' ∧ arr'.toList = arr.toList.take (k * sz) ++ vs.flatMap fun v => v.cells.toList
  | [], k, arr, _, h => by
    simp only [List.length_nil, Nat.add_zero] at h
    refine ⟨arr, rfl, ?_⟩
    rw [List.flatMap_nil, List.append_nil, List.take_of_length_le (by simp; omega)]
  | v :: r, k, arr, ha, h => by
    simp only [List.all_cons, Bool.and_eq_true, beq_iff_eq] at ha
    simp only [List.length_cons] at h
    have hv : v.cells.size = sz := by rw [← Array.length_toList]; exact ha.1
    have hle : k * sz + sz + r.length * sz = arr.size := by rw [← h]; simp only [Nat.add_mul]; omega
    have e : (v.cells.zipIdx.foldl (fun (cs : Array Value) (x : Value × Nat) => cs.setIfInBounds (k * sz + x.2) x.1) arr).toList = splice arr.toList (k * sz) v.cells.toList := by
      rw [← Array.foldl_toList, Array.toList_zipIdx]
      have := foldl_splice v.cells.toList 0 (k * sz) arr (by rw [ha.1]; omega)
      simpa using this
    have hs2 : (v.cells.zipIdx.foldl (fun (cs : Array Value) (x : Value × Nat) => cs.setIfInBounds (k * sz + x.2) x.1) arr).size = arr.size := by
      rw [← Array.length_toList, e, splice_length (by rw [ha.1]; simp; omega)]; simp
    obtain ⟨arr', h1, h2⟩ := fill_seq r (k + 1) _ ha.2 (by rw [hs2, ← h]; simp only [Nat.add_mul]; omega)
    refine ⟨arr', ?_, ?_⟩
    · rw [List.length_cons, List.range'_succ, List.zip_cons_cons]
      simp only [Instr.fill]
      rw [if_neg (by rw [hv]; simp; omega)]
      exact h1
    · rw [h2, e, List.flatMap_cons, ← List.append_assoc]
      congr 1
      unfold splice
      rw [List.take_append_of_le_length (by simp [ha.1]; rw [Nat.add_mul]; omega)]
      rw [List.take_of_length_le (by simp [ha.1]; rw [Nat.add_mul]; omega)]
theorem imem_sound {P : Program} {n : Nat} {B : Nat} {w0 w : World} {ρ : Ren} {H H' : Heap} {e : Env} {a : Act} (ha : AR n ρ e a) (hh : HR B w0 ρ H w) {o : Oper} {v : Value}
    (hv : imem P o.op e H = some (v, H')) : ∃ (x : Next) (v' : Value) (w' : World) (ρ' : Ren), (execOp a.eval o).run P w = .ok x w' ∧ (x = .value v' ∨ (x = .skip ∧ v' = undef)) ∧
      VR ρ' v v' ∧ HR B w0 ρ' H' w' ∧ Ren.Le B ρ ρ' ∧ H.next ≤ H'.next := by
  obtain ⟨dst, op, type, pos, after, guard⟩ := o
  simp only at hv
  have ev {x : Operand} {u : Value} (h : e.eval x = some u) : VR ρ u (a.eval x) := Env.eval_sound ha h
  have newPtr : ∀ (ρ' : Ren) (n : Nat), ρ' H.next = some (.lies w.heap.size 0 n) → VR ρ' (ptrTo H.next 0) (.pointer (some ⟨w.heap.size, 0, none⟩)) := fun ρ' n h => by
    have := VR.ptr (ρ := ρ') (o := 0) h
    simpa [ptrTo] using this
  have extSelf : ∀ p, (ρ.ext H.next p) H.next = some p := fun p => by rw [Ren.ext_get, if_pos rfl]
  unfold imem at hv
  split at hv
  · rename_i t x
    obtain ⟨u, h1, hv⟩ := Option.bind_eq_some_iff.mp hv
    cases hv
    have hc := (ev h1).cells
    have hsz : u.cells.toList.length ≤ (a.eval x).cells.size := by rw [hc.length, Array.length_toList]; exact Nat.le_refl _
    refine ⟨_, .pointer (some ⟨w.heap.size, 0, none⟩), _, _, ?_, .inl rfl, newPtr _ _ (extSelf _), hh.alloc _ (a.eval x).cells t hsz (fun i v hv => ?_), hh.fresh _, by simp [Heap.alloc]⟩
    · simp [execOp, Instr.box, newVar, newRow]
    · obtain ⟨v', h2, h3⟩ := hc.get i v hv
      exact ⟨v', by simpa using h2, h3⟩
  · rename_i t
    obtain ⟨z, hz, hv⟩ := Option.bind_eq_some_iff.mp hv
    split at hv
    · rename_i hp
      cases hv
      have hc := (VR.of_plain1 (ρ := ρ) hp).cells
      refine ⟨_, .pointer (some ⟨w.heap.size, 0, none⟩), _, _, ?_, .inl rfl, newPtr _ _ (extSelf _), hh.alloc _ z.cells t (by simp) (fun i v hv => ?_), hh.fresh _, by simp [Heap.alloc]⟩
      · simp [execOp, Instr.alloc, run_zeroValue_of hz, newVar, newRow]
      · obtain ⟨v', h2, h3⟩ := hc.get i v hv
        exact ⟨v', by simpa using h2, h3⟩
    · cases hv
  · rename_i t x y
    replace hv := Option.bind_eq_some_iff.mp hv
    obtain ⟨p, h1, hv⟩ := hv
    replace hv := Option.bind_eq_some_iff.mp hv
    obtain ⟨u, h2, hv⟩ := hv
    split at hv
    · rename_i b o
      split at hv
      · rename_i hc
        obtain ⟨hsz, h10⟩ := hc
        obtain ⟨K, hK, hv⟩ := Option.map_eq_some_iff.mp hv
        cases hv
        have hcs := (ev h2).cells
        obtain ⟨q, s, n, hb, hc, hf, hr⟩ := hh.put hK hcs
        have hp := ev h1
        generalize hax : a.eval x = px at hp
        cases hp with
        | plain hq => simp [plain0] at hq
        | ptr hb' =>
          rw [hb] at hb'; cases hb'
          refine ⟨.skip, undef, _, ρ, ?_, .inr ⟨rfl, rfl⟩, .tuple .nil, hr, Ren.Le.refl _, ?_⟩
          · have hst := run_storeCells_cells (P := P) q (s + o) (a.eval y).cells.toList 0 w (by simpa using hc) (by simpa using hf) (oneCell_of hcs h10)
            have hsz' : (a.eval y).cells.size = u.cells.toList.length := by rw [hcs.length, Array.length_toList]
            simp only [execOp, Instr.storeAt, hax, Instr.sureAddr, storeVar, Sem.run_bind, Sem.run_pure, Result.andThen_ok, run_sizeOf_of hsz, hsz']
            simp [hst]
          · unfold Heap.put at hK
            split at hK
            · split at hK
              · cases hK; exact Nat.le_refl _
              · cases hK
            · cases hK
      · cases hv
    · cases hv
  · rename_i t l c
    replace hv := Option.bind_eq_some_iff.mp hv
    obtain ⟨l', hl, hv⟩ := hv
    replace hv := Option.bind_eq_some_iff.mp hv
    obtain ⟨c', hc, hv⟩ := hv
    split at hv
    · rename_i k i k' j
      replace hv := Option.bind_eq_some_iff.mp hv
      obtain ⟨el, hel, hv⟩ := hv
      replace hv := Option.bind_eq_some_iff.mp hv
      obtain ⟨sz, hsz, hv⟩ := hv
      replace hv := Option.bind_eq_some_iff.mp hv
      obtain ⟨by_, hby, hv⟩ := hv
      replace hv := Option.bind_eq_some_iff.mp hv
      obtain ⟨z, hz, hv⟩ := hv
      split at hv
      · rename_i hcond
        obtain ⟨c1, c2, c3, c4, c5, c6⟩ := hcond
        cases hv
        have el' := (ev hl).eq_of_plain0 rfl
        have ec' := (ev hc).eq_of_plain0 rfl
        unfold tElem at hel
        split at hel
        · rename_i el2 hu
          obtain rfl : el2 = el := by cases hel; rfl
          have hw : ∀ x : Int, 0 ≤ x → x ≤ 1099511627776 → IntKind.i64.wrap x = x := fun x h0 h1 => by
            simp [IntKind.wrap, IntKind.signed, IntKind.bits, Int.bmod]; omega
          unfold tBytes at hby
          obtain ⟨ie, hie, rfl⟩ := Option.map_eq_some_iff.mp hby
          generalize harr : ((Array.range (j.toNat * sz)).map (fun x => (if j.toNat * sz = 0 then #[] else z.cells)[x % (if j.toNat * sz = 0 then #[] else z.cells).size]!)) = arr
          have hlist : arr.toList = (List.replicate j.toNat z.cells.toList).flatten := by
            rw [← harr]
            exact zerosOf_eq z j.toNat sz c6 _ (fun h => by rw [if_neg h])
          have hasz : arr.size = j.toNat * sz := by rw [← harr]; simp
          have hpl : (List.replicate j.toNat z.cells.toList).flatten.all plain0 = true := by
            rw [List.all_eq_true]
            intro v hv
            rw [List.mem_flatten] at hv
            obtain ⟨l0, h1, h2⟩ := hv
            obtain ⟨_, rfl⟩ := List.mem_replicate.mp h1
            rw [List.all_eq_true] at c5
            exact c5 v h2
          have hal := hh.alloc (List.replicate j.toNat z.cells.toList).flatten arr el2 (by rw [← hlist]; simp) (fun i v hv => ⟨v, by rw [← Array.getElem?_toList, hlist]; exact hv, .plain (by
            rw [List.all_eq_true] at hpl
            exact hpl v (List.mem_of_getElem? hv))⟩)
          refine ⟨.value (.slice (some ⟨w.heap.size, 0, none⟩) i.toNat j.toNat), _, _, _, ?_, .inl rfl, ?_, hal, hh.fresh _, by simp [Heap.alloc]⟩
          · have h9 : ¬ ((ie.bytes : Int) * j > 2 ^ 48) := by simp; omega
            have hi64 := hw i c1 (by omega)
            have hj64 := hw j (by omega) c3
            simp only [execOp, Instr.makeSlice, Sem.run_bind, run_under_of hu, Result.andThen_ok, el', ec', asInt, asIntOf, Sem.run_pure, run_typeInfo_of hie, hi64, hj64]
            have hcond : (decide (j < 0) || decide ((ie.bytes : Int) * j > 2 ^ 48)) = false := by simp; omega
            have hcond2 : ((decide (j < 0) || decide ((ie.bytes : Int) * j > 2 ^ 48)) || decide (i < 0) || decide (i > j)) = false := by rw [hcond]; simp; omega
            simp only [hcond2, Bool.false_eq_true, if_false, run_askRoom, Result.andThen_ok, run_sizeOf_of hsz, Sem.run_bind]
            by_cases h0 : j.toNat * sz = 0
            · rw [if_pos h0] at harr
              simp only [h0, if_true, Sem.run_pure, Result.andThen_ok, Sem.run_bind, newRow, run_newObj, World.alloc_eq]
              rw [h0] at harr
              rw [harr]
            · rw [if_neg h0] at harr
              simp only [h0, if_false, Sem.run_pure, Result.andThen_ok, Sem.run_bind, run_zeroValue_of hz, newRow, run_newObj, World.alloc_eq]
              rw [harr]
          · have e1 := VR.row (ρ := ρ.ext H.next (.lies w.heap.size 0 arr.size)) (o := 0) (sz := sz) (len := i.toNat) (c := 1) (c' := j.toNat) (extSelf _) (by omega) (by omega) (by rw [hasz]; omega)
            simpa using e1
        · cases hel
      · cases hv
    · cases hv
  · rename_i t m parts
    replace hv := Option.bind_eq_some_iff.mp hv
    obtain ⟨el, hel, hv⟩ := hv
    replace hv := Option.bind_eq_some_iff.mp hv
    obtain ⟨sz, hsz, hv⟩ := hv
    replace hv := Option.bind_eq_some_iff.mp hv
    obtain ⟨z, hz, hv⟩ := hv
    replace hv := Option.bind_eq_some_iff.mp hv
    obtain ⟨vs, hvs, hv⟩ := hv
    split at hv
    · rename_i hcond
      obtain ⟨c1, c2, c3⟩ := hcond
      cases hv
      unfold tElem at hel
      split at hel
      · rename_i el2 hu
        obtain rfl : el2 = el := by cases hel; rfl
        have hrel := evals_sound ha hvs
        generalize hvs' : (parts.toList.map (·.2)).map a.eval = vs' at hrel
        have hlen : vs'.length = m := by
          rw [← hvs', List.length_map, List.length_map]
          have := congrArg List.length c1
          simpa using this
        have hparts : (parts.map fun (x : Nat × Operand) => (x.1, a.eval x.2)).toList = (List.range' 0 vs'.length).zip vs' := by
          rw [Array.toList_map, hlen, ← List.range_eq_range', ← c1, ← hvs', List.map_map]
          induction parts.toList with
          | nil => rfl
          | cons x r ih => simp [ih]
        have hall : (vs'.all fun v => v.cells.toList.length == sz) = true := by
          have : ∀ (l l' : List Value), VRL ρ l l' → (l.all fun v => v.cells.toList.length == sz) = true → (l'.all fun v => v.cells.toList.length == sz) = true := by
            intro l
            induction l with
            | nil => intro l' h _; cases h; rfl
            | cons x r ih =>
              intro l' h hx
              cases h with
              | cons h1 h2 =>
                simp only [List.all_cons, Bool.and_eq_true, beq_iff_eq] at hx ⊢
                exact ⟨by rw [← h1.cells.length]; exact hx.1, ih _ h2 hx.2⟩
          exact this _ _ hrel c3
        have hflat : VRL ρ (vs.flatMap fun v => v.cells.toList) (vs'.flatMap fun v => v.cells.toList) := by
          have : ∀ (l l' : List Value), VRL ρ l l' → VRL ρ (l.flatMap fun v => v.cells.toList) (l'.flatMap fun v => v.cells.toList) := by
            intro l
            induction l with
            | nil => intro l' h; cases h; exact .nil
            | cons x r ih =>
              intro l' h
              cases h with
              | cons h1 h2 =>
                rw [List.flatMap_cons, List.flatMap_cons]
                exact VRL.append h1.cells (ih _ h2)
          exact this _ _ hrel
        generalize hini : ((Array.range (m * sz)).map (fun x => (if m * sz = 0 then (#[] : Array Value) else z.cells)[x % (if m * sz = 0 then (#[] : Array Value) else z.cells).size]!)) = ini
        have hinis : ini.size = m * sz := by rw [← hini]; simp
        obtain ⟨arr, h1, h2⟩ := fill_seq vs' 0 ini hall (by rw [hinis, hlen, Nat.zero_add])
        simp only [Nat.zero_mul, List.take_zero, List.nil_append] at h2
        have hfl : (vs'.flatMap fun v => v.cells.toList).length = m * sz := by
          rw [← hlen]
          have : ∀ (l : List Value), (l.all fun v => v.cells.toList.length == sz) = true → (l.flatMap fun v => v.cells.toList).length = l.length * sz := by
            intro l
            induction l with
            | nil => intro _; simp
            | cons x r ih =>
              intro hx
              simp only [List.all_cons, Bool.and_eq_true, beq_iff_eq] at hx
              rw [List.flatMap_cons, List.length_append, hx.1, ih hx.2, List.length_cons, Nat.add_mul]; omega
          exact this _ hall
        have hasz : arr.size = m * sz := by rw [← Array.length_toList, h2, hfl]
        have hal := hh.alloc (vs.flatMap fun v => v.cells.toList) arr el2 (by rw [hflat.length, ← h2]; simp) (fun i v hv => by
          obtain ⟨v', g1, g2⟩ := hflat.get i v hv
          exact ⟨v', by rw [← Array.getElem?_toList, h2]; exact g1, g2⟩)
        refine ⟨.value (.slice (some ⟨w.heap.size, 0, none⟩) m m), _, _, _, ?_, .inl rfl, ?_, hal, hh.fresh _, by simp [Heap.alloc]⟩
        · have hp2 : (parts.map fun (x : Nat × Operand) => match x with | (i, x) => (i, a.eval x)).toList = (List.range' 0 vs'.length).zip vs' := hparts
          have hle : ¬ (m * sz > 2 ^ 24) := by simp; omega
          simp only [execOp, Instr.buildSlice, Sem.run_bind, run_under_of hu, Result.andThen_ok, run_sizeOf_of hsz, hle, if_false]
          by_cases h0 : m * sz = 0
          · rw [if_pos h0] at hini
            rw [h0] at hini
            simp only [h0, if_true, Sem.run_pure, Sem.run_bind, Result.andThen_ok]
            rw [hini, hp2, h1]
            simp [newRow]
          · rw [if_neg h0] at hini
            simp only [h0, if_false, Sem.run_pure, Sem.run_bind, Result.andThen_ok, run_zeroValue_of hz]
            rw [hini, hp2, h1]
            simp [newRow]
        · have e1 := VR.row (ρ := ρ.ext H.next (.lies w.heap.size 0 arr.size)) (o := 0) (sz := sz) (len := m) (c := 1) (c' := m) (extSelf _) (Nat.le_refl _) (by omega) (by rw [hasz]; omega)
          simpa using e1
      · cases hel
    · cases hv
  · cases hv
end Go.Proofs.YtoecebibhcadoaaDoor.I
