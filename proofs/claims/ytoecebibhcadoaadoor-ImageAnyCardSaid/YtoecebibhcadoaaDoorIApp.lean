/- append on the ideal heap: the cells behind one another in a new block; a row that might have been written in place is not spoken of any more. No condition. -/
import Derived.Test.YtoecebibhcadoaaDoorIMem
namespace Go.Proofs.YtoecebibhcadoaaDoor.I
open Go Go.RowKit
set_option linter.unusedVariables false
set_option linter.unusedSimpArgs false
def bytesOf (s : ByteArray) : List Value := s.data.toList.map fun b => .int .u8 (b.toNat : Int)
def irow (sz : Nat) (x : Value) (H : Heap) : Option (Nat × List Value) :=
  match x with
  | .slice none 0 0 => some (0, [])
  | .slice (some ⟨b, o, some sz'⟩) n _ => if n = 0 then some (0, []) else if sz' = sz then (H.row b o (n * sz)).map fun l => (n, l) else none
  | .string s => if sz = 1 then some (s.size, bytesOf s) else none
  | .func (.yield sz') ⟨xs⟩ ⟨[.int _ _]⟩ => if sz' = sz then some (xs.length, xs.flatMap fun x => x.cells.toList) else none
  | _ => none
def iapp (P : Program) (t : TypeId) (s x : Value) (H : Heap) : Option (Value × Heap) :=
  (tElem P t).bind fun el => (tSize P el).bind fun sz => (tBytes P el).bind fun by_ => ((tZero P el).bind fun z => if z.cells.toList.length = sz then some z else none).bind fun z => (irow sz x H).bind fun r =>
    match s with
    | .slice none 0 0 =>
      if r.1 = 0 then some (s, H)
      else if r.1 ≤ 1099511627776 ∧ (r.1 + 768) * by_ ≤ 70368744177664 then some (.slice (some ⟨H.next, 0, some sz⟩) r.1 1, H.alloc r.2) else none
    | .slice (some ⟨b, o, some sz'⟩) len c =>
      if r.1 = 0 then some (s, H)
      else if sz' = sz ∧ len + r.1 ≤ 1099511627776 ∧ (len + r.1 + 768) * by_ ≤ 70368744177664 then
        if c = 0 then some (.slice (some ⟨H.next, 0, some sz⟩) r.1 1, H.alloc r.2)
        else (if len = 0 then some [] else H.row b o (len * sz)).bind fun old =>
          match H.get b with
          | some ⟨_, true⟩ => if r.2.all one0 = true then some (.slice (some ⟨H.next, 0, some sz⟩) (len + r.1) 1, (H.kill b).alloc (old ++ r.2)) else none
          | _ => none
      else none
    | .func (.yield sz') ⟨ys⟩ ⟨[.int k m]⟩ =>
      if r.1 = 0 then some (.func (.yield sz') ⟨ys⟩ ⟨[.int k m]⟩, H)
      else if m = 2 ∧ ys = [] ∧ r.1 ≤ 1099511627776 ∧ (r.1 + 768) * by_ ≤ 70368744177664 then some (.slice (some ⟨H.next, 0, some sz⟩) r.1 1, H.alloc r.2) else none
    | _ => none
theorem growBy_le (need : Nat) : ∀ (r c : Nat), c ≤ 2 * need + 768 → Builtin.growBy need r c ≤ 2 * need + 768
  | 0, c, h => h
  | r + 1, c, h => by
    unfold Builtin.growBy
    split
    · exact h
    · exact growBy_le need r _ (by omega)
theorem nextcap_le (need c : Nat) (h : c < need) : Builtin.nextslicecap need c ≤ 2 * need + 768 := by
  unfold Builtin.nextslicecap
  split
  · omega
  · split
    · omega
    · exact growBy_le need 4 c (by omega)
theorem run_firstCells {P : Program} {B : Nat} {w0 w : World} {ρ : Ren} {H : Heap} (h : HR B w0 ρ H w) {sz : Nat} {x x' : Value} {r : Nat × List Value} (hx : VR ρ x x') (hr : irow sz x H = some r) :
    (Builtin.lenOf x').run P w = .ok r.1 w ∧ ∃ l' : List Value, VRL ρ r.2 l' ∧ r.2.length = r.1 * sz ∧ ∀ w2 : World, (∀ q o, (w.cell? ⟨q, o, none⟩).isSome = true → w2.cell? ⟨q, o, none⟩ = w.cell? ⟨q, o, none⟩) →
      (Builtin.firstCells sz r.1 x').run P w2 = .ok l'.toArray w2 := by
  unfold irow at hr
  split at hr
  · obtain rfl := hx.eq_of_plain0 rfl
    cases hr
    exact ⟨by simp [Builtin.lenOf], [], .nil, by simp, fun w2 _ => by simp [Builtin.firstCells]⟩
  · rename_i b o sz' n c
    split at hr
    · rename_i hn
      subst hn
      cases hr
      cases hx with
      | plain hp => simp [plain0] at hp
      | row hb hl hc hrm => exact ⟨by simp [Builtin.lenOf], [], .nil, by simp, fun w2 _ => by simp [Builtin.firstCells, loadCells, loadCellsFrom]⟩
      | away hb hc hz => exact ⟨by simp [Builtin.lenOf], [], .nil, by simp, fun w2 _ => by simp [Builtin.firstCells, loadCells, loadCellsFrom]⟩
    · rename_i hn
      split at hr
      · rename_i hs
        obtain ⟨l, hl, rfl⟩ := Option.map_eq_some_iff.mp hr
        obtain ⟨hlen, q, s, m, e, l', hvr, hc⟩ := h.row hl
        cases hx with
        | plain hp => simp [plain0] at hp
        | row hb hl2 hcc hrm =>
          rw [hb] at e; cases e
          refine ⟨by simp [Builtin.lenOf], l', hvr, hlen, fun w2 hw2 => ?_⟩
          simp only [Builtin.firstCells]
          exact run_loadCells_of l' (n * sz) (by rw [← hvr.length]; exact hlen) fun j v hj => by
            have := hc j v hj
            rw [hw2 _ _ (by rw [this]; rfl)]; exact this
        | away hb hcc hz => omega
      · cases hr
  · rename_i s
    obtain rfl := hx.eq_of_plain0 rfl
    split at hr
    · rename_i hs
      cases hr
      refine ⟨by simp [Builtin.lenOf], bytesOf s, VRL.of_plain0 (by simp only [bytesOf, List.all_map]; rw [List.all_eq_true]; intro _ _; rfl), by simp [bytesOf, hs], fun w2 _ => ?_⟩
      simp only [Builtin.firstCells, Sem.run_pure]
      have e1 : s.extract 0 s.size = s := by
        apply ByteArray.ext
        simp
      rw [e1]
      congr 1
      apply Array.ext'
      simp [bytesOf]
    · cases hr
  · rename_i sz' xs k m
    split at hr
    · rename_i hs
      subst hs
      cases hr
      cases hx with
      | plain hp => simp [plain0] at hp
      | frow hv hl hc =>
        obtain ⟨ys, a1, a2, a3⟩ := hv.flat
        refine ⟨by simp [Builtin.lenOf], ys, a1, by rw [a1.length, a2], fun w2 hw2 => ?_⟩
        simp only [Builtin.firstCells]
        exact run_loadCells_of ys (xs.length * sz') a2 fun j v hj => by
          have := h.fixed _ _ _ (a3 j v hj)
          rw [hw2 _ _ (by rw [this]; rfl)]; exact this
      | frow0 hc => exact ⟨by simp [Builtin.lenOf], [], .nil, by simp, fun w2 _ => by simp [Builtin.firstCells, loadCells, loadCellsFrom]⟩
      | fnil hc => exact ⟨by simp [Builtin.lenOf], [], .nil, by simp, fun w2 _ => by simp [Builtin.firstCells]⟩
    · cases hr
  · cases hr
theorem kill_live {B : Nat} {w0 w : World} {ρ : Ren} {H : Heap} (h : HR B w0 ρ H w) (b : Nat) : HR B w0 ρ (H.kill b) w :=
  h.weaken (Nat.le_refl _) fun j k hk => by
    unfold Heap.kill at hk
    simp only at hk
    split at hk
    · cases hk
    · exact ⟨k, hk, rfl, fun h => h⟩
theorem HR.reuse {B : Nat} {w0 w : World} {ρ : Ren} {H : Heap} (h : HR B w0 ρ H w) {b o q s n : Nat} {cs : List Value} (hb : H.get b = some ⟨cs, true⟩) (e : ρ b = some (.lies q s n))
    {old old' vs vs' : List Value} (ho : VRL ρ old old') (hoc : ∀ (j : Nat) (v : Value), old'[j]? = some v → w.cell? ⟨q, s + o + j, none⟩ = some v) (hv : VRL ρ vs vs') (hfit : s + o + old.length + vs.length ≤ n) :
    (∀ j, j < vs'.length → (w.cell? ⟨q, s + o + old.length + j, none⟩).isSome = true) ∧ (∀ j, j < vs'.length → w.frozen? ⟨q, s + o + old.length + j, none⟩ = false) ∧
    HR B w0 (ρ.ext H.next (.lies q (s + o) n)) ((H.kill b).alloc (old ++ vs)) (w.setCells q (s + o + old.length) vs') := by
  obtain ⟨q', s', n', e', hl, hcs, hown⟩ := h.live b _ hb
  rw [e] at e'; cases e'
  obtain ⟨hB, hfr⟩ := hown rfl
  obtain ⟨c, T, fr, hcell, hsz⟩ := h.size b q s n e
  have hvl := hv.length
  have hol := ho.length
  obtain ⟨c', h1, h2, h3⟩ := setCells_block q vs' (s + o + old.length) w c T fr hcell
  obtain ⟨g1, g2, g3, g4⟩ := setCells_os q vs' (s + o + old.length) w
  have hother : ∀ k, k ≠ q → (w.setCells q (s + o + old.length) vs').heap[k]? = w.heap[k]? := fun k hk => setCells_heap q vs' _ w k hk
  have hle : Ren.Le B ρ (ρ.ext H.next (.lies q (s + o) n)) := h.fresh _
  have hnew : (ρ.ext H.next (.lies q (s + o) n)) H.next = some (.lies q (s + o) n) := by rw [Ren.ext_get]; rw [if_pos rfl]
  have hold : ∀ b, b < H.next → (ρ.ext H.next (.lies q (s + o) n)) b = ρ b := fun b hb => by rw [Ren.ext_get]; rw [if_neg (by omega)]
  have hget : ∀ b2 k, ((H.kill b).alloc (old ++ vs)).get b2 = some k → (b2 = H.next ∧ k = ⟨old ++ vs, true⟩) ∨ (b2 ≠ H.next ∧ b2 ≠ b ∧ H.get b2 = some k) := fun b2 k hk => by
    by_cases hb2 : b2 = H.next
    · subst hb2
      have := Heap.get_alloc_new (H.kill b) (old ++ vs)
      rw [Heap.next_kill] at this
      rw [this] at hk; cases hk
      exact .inl ⟨rfl, rfl⟩
    · rw [Heap.get_alloc_old _ _ _ (by rw [Heap.next_kill]; exact hb2)] at hk
      unfold Heap.kill at hk
      simp only at hk
      split at hk
      · cases hk
      · rename_i hne; exact .inr ⟨hb2, hne, hk⟩
  refine ⟨fun j hj => ?_, fun j hj => (hfr _ (by omega)).1, ⟨?_, by rw [g4]; exact h.base, fun b2 p e2 => ?_, fun b2 q2 s2 n2 e2 => ?_, fun b2 k2 hk2 => ?_, fun b1 b2 k1 k2 q1 s1 n1 q2 s2 n2 hne a1 a2 ho1 e1 e2 => ?_, fun q2 i v hf => ?_, fun b2 k2 q2 s2 n2 hk2 ho2 e2 i v hf => ?_, fun t ht => ?_, h.pin⟩⟩
  · simp only [World.cell?, hcell, Option.isSome_none, Bool.false_eq_true, if_false]
    rw [Array.getElem?_eq_getElem (by omega)]; rfl
  · exact h.below.trans ⟨g1, g2, g3, by omega, fun k hk => hother k (by omega)⟩
  · simp only [Heap.alloc, Heap.kill]
    rw [Ren.ext_get] at e2
    split at e2
    · rename_i hb2; omega
    · have := h.dom b2 p e2; omega
  · have hsame : ∀ (q2 n2 : Nat), (∃ (c : Array Value) (T : TypeId) (fr : Nat × Nat), w.heap[q2]? = some (Obj.cells c T fr) ∧ c.size = n2) →
        ∃ (c : Array Value) (T : TypeId) (fr : Nat × Nat), (w.setCells q (s + o + old.length) vs').heap[q2]? = some (Obj.cells c T fr) ∧ c.size = n2 := fun q2 n2 hh => by
      obtain ⟨c2, T2, fr2, hc2, hs2⟩ := hh
      by_cases hq : q2 = q
      · subst hq
        rw [hcell] at hc2; cases hc2
        exact ⟨c', T, fr, h1, by rw [h2]; exact hs2⟩
      · exact ⟨c2, T2, fr2, by rw [hother q2 hq]; exact hc2, hs2⟩
    by_cases hb2 : b2 = H.next
    · subst hb2; rw [hnew] at e2; cases e2
      exact hsame q n ⟨c, T, fr, hcell, hsz⟩
    · rw [Ren.ext_get, if_neg hb2] at e2
      exact hsame q2 n2 (h.size b2 q2 s2 n2 e2)
  · rcases hget b2 k2 hk2 with ⟨rfl, rfl⟩ | ⟨hb2, hne, hk⟩
    · refine ⟨q, s + o, n, hnew, by simp only [List.length_append]; omega, fun i v hi => ?_, fun _ => ⟨hB, fun i hi => ?_⟩⟩
      · simp only at hi
        simp only [World.cell?, h1, Option.isSome_none, Bool.false_eq_true, if_false]
        rw [h3]
        rw [List.getElem?_append] at hi
        by_cases hio : i < old.length
        · rw [if_pos hio] at hi
          obtain ⟨v', hv1, hv2⟩ := ho.get i v hi
          have := hoc i v' hv1
          simp only [World.cell?, hcell, Option.isSome_none, Bool.false_eq_true, if_false] at this
          exact ⟨v', by rw [if_neg (by omega)]; exact this, hv2.mono hle⟩
        · rw [if_neg hio] at hi
          have hi2 : i - old.length < vs.length := by
            rcases Nat.lt_or_ge (i - old.length) vs.length with h | h
            · exact h
            · rw [List.getElem?_eq_none h] at hi; cases hi
          obtain ⟨v', hv1, hv2⟩ := hv.get _ v hi
          exact ⟨v', by rw [if_pos (by omega), show s + o + i - (s + o + old.length) = i - old.length by omega]; exact hv1, hv2.mono hle⟩
      · have := hfr i hi
        simp only [World.frozen?, fence, hcell, h1] at this ⊢; exact this
    · obtain ⟨q2, s2, n2, e2, hl2, hcs2, ho2⟩ := h.live b2 k2 hk
      have hq : q2 ≠ q := Ne.symm (h.apart b b2 _ k2 q s n q2 s2 n2 (Ne.symm hne) hb hk rfl e e2)
      refine ⟨q2, s2, n2, hle _ _ e2, hl2, fun i v hi => ?_, fun hown => ⟨(ho2 hown).1, fun i hi => ?_⟩⟩
      · obtain ⟨v', hv1, hv2⟩ := hcs2 i v hi
        refine ⟨v', ?_, hv2.mono hle⟩
        simp only [World.cell?, hother q2 hq] at hv1 ⊢; exact hv1
      · have := (ho2 hown).2 i hi
        simp only [World.frozen?, fence, hother q2 hq] at this ⊢; exact this
  · rcases hget b1 k1 a1 with ⟨rfl, rfl⟩ | ⟨hb1, hne1, hk1⟩
    · rw [hnew] at e1; cases e1
      rcases hget b2 k2 a2 with ⟨rfl, rfl⟩ | ⟨hb2, hne2, hk2⟩
      · exact absurd rfl hne
      · rw [hold b2 (Heap.lt_of_get hk2)] at e2
        exact h.apart b b2 _ k2 q s n q2 s2 n2 (Ne.symm hne2) hb hk2 rfl e e2
    · rw [hold b1 (Heap.lt_of_get hk1)] at e1
      rcases hget b2 k2 a2 with ⟨rfl, rfl⟩ | ⟨hb2, hne2, hk2⟩
      · rw [hnew] at e2; cases e2
        exact Ne.symm (h.apart b b1 _ k1 q s n q1 s1 n1 (Ne.symm hne1) hb hk1 rfl e e1)
      · rw [hold b2 (Heap.lt_of_get hk2)] at e2
        exact h.apart b1 b2 k1 k2 q1 s1 n1 q2 s2 n2 hne hk1 hk2 ho1 e1 e2
  · have hq : q2 ≠ q := fun e2 => h.off b _ q s n hb rfl e i v (e2 ▸ hf)
    have hf := h.fixed q2 i v hf
    simp only [World.cell?, hother q2 hq] at hf ⊢; exact hf
  · rcases hget b2 k2 hk2 with ⟨rfl, rfl⟩ | ⟨hb2, hne, hk⟩
    · rw [hnew] at e2; cases e2
      exact h.off b _ q s n hb rfl e i v hf
    · rw [hold b2 (Heap.lt_of_get hk)] at e2
      exact h.off b2 k2 q2 s2 n2 hk ho2 e2 i v hf
  · obtain ⟨q', es, clk, e', c1, c2, c3⟩ := h.tabs t ht
    have hq : q' ≠ q := fun x => by rw [x, hcell] at c2; cases c2
    exact ⟨q', es, clk, hle.at_ _ _ e', c1, by rw [hother q' hq]; exact c2, c3⟩
theorem iapp_sound {P : Program} {B : Nat} {w0 w : World} {ρ : Ren} {H H' : Heap} (hh : HR B w0 ρ H w) {t t2 ty : TypeId} (ht2 : tKind P t2 = some .slice ∨ tKind P t2 = some .string) {s s' x x' v : Value}
    (hs : VR ρ s s') (hx : VR ρ x x') (hv : iapp P t s x H = some (v, H')) :
    ∃ (v' : Value) (w' : World) (ρ' : Ren), (Builtin.append_ #[t, t2] ty #[s', x']).run P w = .ok v' w' ∧ VR ρ' v v' ∧ HR B w0 ρ' H' w' ∧ Ren.Le B ρ ρ' ∧ H.next ≤ H'.next := by
  unfold iapp at hv
  replace hv := Option.bind_eq_some_iff.mp hv
  obtain ⟨el, hel, hv⟩ := hv
  replace hv := Option.bind_eq_some_iff.mp hv
  obtain ⟨sz, hsz, hv⟩ := hv
  replace hv := Option.bind_eq_some_iff.mp hv
  obtain ⟨by_, hby, hv⟩ := hv
  replace hv := Option.bind_eq_some_iff.mp hv
  obtain ⟨z, hz0, hv⟩ := hv
  replace hv := Option.bind_eq_some_iff.mp hv
  obtain ⟨r, hr, hv⟩ := hv
  obtain ⟨z2, hz, hz1⟩ := Option.bind_eq_some_iff.mp hz0
  have hzz : z2 = z ∧ z.cells.toList.length = sz := by
    split at hz1
    · cases hz1; exact ⟨rfl, by assumption⟩
    · cases hz1
  obtain ⟨rfl, hzsz⟩ := hzz
  clear hz0 hz1
  unfold tElem at hel
  split at hel
  case h_2 => cases hel
  rename_i el2 hu
  obtain rfl : el2 = el := by cases hel; rfl
  unfold tBytes at hby
  obtain ⟨ie, hie, rfl⟩ := Option.map_eq_some_iff.mp hby
  obtain ⟨hlen, new', hnew, hnl, hfirst⟩ := run_firstCells (P := P) hh hx hr
  have hfw := hfirst w (fun _ _ _ => rfl)
  have hu2 : ∃ d, P.underlying t2 = some d ∧ ((∃ e, d = .slice e) ∨ d = .string) := by
    unfold tKind at ht2
    cases hd : P.underlying t2 with
    | none => rw [hd] at ht2; rcases ht2 with h | h <;> cases h
    | some d => exact ⟨d, rfl, by cases d <;> rw [hd] at ht2 <;> rcases ht2 with h | h <;> first | exact .inl ⟨_, rfl⟩ | exact .inr rfl | cases h⟩
  obtain ⟨d2, hd2, hd2c⟩ := hu2
  have start : ∀ (base : Option Addr) (n c : Nat), s' = .slice base n c → (Builtin.append_ #[t, t2] ty #[s', x']).run P w =
      (if n + r.1 ≤ c then (do
          let new ← Builtin.firstCells sz r.1 x'
          if let some a := base then storeCells (a.add (n * sz)) new.toList
          pure (.slice base (n + r.1) c) : Sem Value)
        else (do
          if ((n + r.1 : Nat) : Int) > IntKind.i64.max ∧ (False ∨ (← typeInfo el2).bytes = 0) then runtimePanic (.error "growslice: len out of range")
          if Builtin.nextslicecap (n + r.1) c * (← typeInfo el2).bytes > 2 ^ 48 then (do
            if !(← Builtin.mayShare sz n r.1 base x') then mark .noRoom
            unsupported (.resourceLimit "append: a slice or a string whose bytes no memory bears"))
          let newCap ← choose (.appendCap (n + r.1) c el2)
          askRoom (newCap * (← typeInfo el2).bytes)
          let old ← Builtin.firstCells sz n (.slice base n c)
          let new ← Builtin.firstCells sz r.1 x'
          let rest := Builtin.zeroCells (← zeroValue el2).cells (newCap - (n + r.1))
          pure (.slice (some (← newRow el2 (old ++ new ++ rest))) (n + r.1) newCap) : Sem Value)).run P w := fun base n c e => by
    subst e
    rcases hd2c with ⟨e2, rfl⟩ | rfl
    all_goals
      unfold Builtin.append_
      simp only [List.getElem?_toArray, List.getElem?_cons_succ, List.getElem?_cons_zero, Sem.run_bind, run_under_of hu, run_under_of hd2, Result.andThen_ok, Sem.run_pure, run_sizeOf_of hsz, Bool.false_eq_true, if_false, hlen]
      by_cases hc : n + r.1 ≤ c
      · rw [if_pos hc, if_pos hc]; simp only [Sem.run_bind]; rfl
      · rw [if_neg hc, if_neg hc]; simp only [Sem.run_bind, Bool.not_false, if_true]
  have none_ : ∀ (base : Option Addr) (n c : Nat), s' = .slice base n c → n ≤ c → r.1 = 0 → (base = none ∨ ∃ a, base = some a) → (Builtin.append_ #[t, t2] ty #[s', x']).run P w = .ok s' w := fun base n c e hc h0 hb => by
    rw [start base n c e, if_pos (by omega)]
    have hnil : new' = [] := by
      have : r.2.length = 0 := by rw [hnl, h0]; simp
      have h2 := hnew.length
      exact List.eq_nil_of_length_eq_zero (by omega)
    rw [h0] at hfw ⊢
    simp only [Sem.run_bind, hfw, Result.andThen_ok, hnil]
    subst e
    cases base <;> simp [storeCells]
  have grow : ∀ (base : Option Addr) (n c : Nat) (old old' : List Value), s' = .slice base n c → c < n + r.1 → n + r.1 ≤ 1099511627776 → (n + r.1 + 768) * ie.bytes ≤ 70368744177664 →
      VRL ρ old old' → old.length = n * sz → (∀ w2 : World, (∀ q o, (w.cell? ⟨q, o, none⟩).isSome = true → w2.cell? ⟨q, o, none⟩ = w.cell? ⟨q, o, none⟩) → (Builtin.firstCells sz n (.slice base n c)).run P w2 = .ok old'.toArray w2) →
      ∃ (v' : Value) (w' : World) (ρ' : Ren), (Builtin.append_ #[t, t2] ty #[s', x']).run P w = .ok v' w' ∧ VR ρ' (.slice (some ⟨H.next, 0, some sz⟩) (n + r.1) 1) v' ∧ HR B w0 ρ' (H.alloc (old ++ r.2)) w' ∧ Ren.Le B ρ ρ' := fun base n c old old' e hlt hb1 hb2 ho hol hold => by
    have hcap := nextcap_le (n + r.1) c hlt
    have hmul : Builtin.nextslicecap (n + r.1) c * ie.bytes ≤ (2 * (n + r.1) + 768) * ie.bytes := Nat.mul_le_mul_right _ hcap
    have hmul2 : (2 * (n + r.1) + 768) * ie.bytes ≤ 2 * ((n + r.1 + 768) * ie.bytes) := by
      rw [← Nat.mul_assoc]; exact Nat.mul_le_mul_right _ (by omega)
    generalize hN : Question.cut (.appendCap (n + r.1) c el2) (w.tape w.drawn (.appendCap (n + r.1) c el2)) = N
    have hNle : n + r.1 ≤ N := by rw [← hN]; simp only [Question.cut]; omega
    have hcells : ∀ q o, (w.cell? ⟨q, o, none⟩).isSome = true → (World.drew w).cell? ⟨q, o, none⟩ = w.cell? ⟨q, o, none⟩ := fun _ _ _ => rfl
    have h1 := hold w.drew hcells
    have h2 := hfirst w.drew hcells
    refine ⟨.slice (some ⟨w.heap.size, 0, none⟩) (n + r.1) N, w.drew.alloc (.cells (old'.toArray ++ new'.toArray ++ Builtin.zeroCells z2.cells (N - (n + r.1))) el2),
      ρ.ext H.next (.lies w.heap.size 0 (old'.toArray ++ new'.toArray ++ Builtin.zeroCells z2.cells (N - (n + r.1))).size), ?_, ?_, ?_, hh.fresh _⟩
    · rw [start base n c e, if_neg (by omega)]
      have hn1 : ¬ (((n + r.1 : Nat) : Int) > IntKind.i64.max ∧ (False ∨ ie.bytes = 0)) := fun h => by
        have := h.1; simp [IntKind.max, IntKind.signed, IntKind.bits] at this; omega
      have hn2 : ¬ (Builtin.nextslicecap (n + r.1) c * ie.bytes > 2 ^ 48) := by simp; omega
      simp only [Sem.run_bind, run_typeInfo_of hie, Result.andThen_ok, if_neg hn1, if_neg hn2, Sem.run_pure, run_choose, Question.forced, Bool.false_eq_true, if_false, World.drew_eq, hN, run_askRoom, h1, h2, run_zeroValue_of hz, newRow, run_newObj, World.alloc_eq]
      rfl
    · have hsz2 : (old'.toArray ++ new'.toArray ++ Builtin.zeroCells z2.cells (N - (n + r.1))).size = (n + r.1) * sz + (N - (n + r.1)) * z2.cells.size := by
        simp only [Array.size_append, List.size_toArray, ← ho.length, ← hnew.length, hol, hnl, Builtin.zeroCells, Array.size_map, Array.size_range]
        rw [Nat.add_mul]
      have hzs : z2.cells.size = sz := by rw [← Array.length_toList]; exact hzsz
      have hroom : (n + r.1) * sz + (N - (n + r.1)) * sz = N * sz := by rw [← Nat.add_mul]; congr 1; omega
      rw [hzs, hroom] at hsz2
      have e1 := VR.row (ρ := ρ.ext H.next (.lies w.heap.size 0 (old'.toArray ++ new'.toArray ++ Builtin.zeroCells z2.cells (N - (n + r.1))).size)) (o := 0) (sz := sz) (len := n + r.1) (c := 1) (c' := N)
        (by rw [Ren.ext_get]; rw [if_pos rfl]) hNle (by omega) (by rw [hsz2]; omega)
      simpa using e1
    · have := (HR.drew hh).alloc (old ++ r.2) (old'.toArray ++ new'.toArray ++ Builtin.zeroCells z2.cells (N - (n + r.1))) el2 (by
        simp only [List.length_append, Array.size_append, List.size_toArray, ← ho.length, ← hnew.length]; omega) (fun i v hi => by
        have hall := VRL.append ho hnew
        obtain ⟨v', g1, g2⟩ := hall.get i v hi
        refine ⟨v', ?_, g2⟩
        have hi2 : i < (old' ++ new').length := by
          rcases Nat.lt_or_ge i (old' ++ new').length with h | h
          · exact h
          · rw [List.getElem?_eq_none h] at g1; cases g1
        rw [Array.getElem?_append_left (by simpa using hi2)]
        simpa using g1)
      exact this
  split at hv
  · split at hv
    · rename_i h0
      cases hv
      have e := hs.eq_of_plain0 rfl
      exact ⟨s', w, ρ, none_ none 0 0 e (Nat.le_refl _) h0 (.inl rfl), hs, hh, Ren.Le.refl _, Nat.le_refl _⟩
    · rename_i h0
      split at hv
      · rename_i hc
        cases hv
        have e := hs.eq_of_plain0 rfl
        obtain ⟨v', w', ρ', g1, g2, g3, g4⟩ := grow none 0 0 [] [] e (by omega) (by omega) (by simpa using hc.2) .nil (by simp) (fun w2 _ => by simp [Builtin.firstCells])
        rw [Nat.zero_add] at g2
        exact ⟨v', w', ρ', g1, g2, g3, g4, by simp [Heap.alloc]⟩
      · cases hv
  · rename_i b o sz' len c
    split at hv
    · rename_i h0
      cases hv
      cases hs with
      | plain hp => simp [plain0] at hp
      | row hb hl hcc hr2 => exact ⟨_, w, ρ, none_ _ _ _ rfl hl h0 (.inr ⟨_, rfl⟩), .row hb hl hcc hr2, hh, Ren.Le.refl _, Nat.le_refl _⟩
      | away hb hcc hz3 => exact ⟨_, w, ρ, none_ _ _ _ rfl (Nat.zero_le _) h0 (.inr ⟨_, rfl⟩), .away hb hcc hz3, hh, Ren.Le.refl _, Nat.le_refl _⟩
    · rename_i h0
      split at hv
      · rename_i hcond
        obtain ⟨rfl, hb1, hb2⟩ := hcond
        split at hv
        · rename_i hc0
          cases hv
          have hlen0 : ∃ a, s' = .slice a len 0 ∧ len = 0 := by
            cases hs with
            | plain hp => simp [plain0] at hp
            | row hb hl hcc hr2 =>
              have := hcc hc0
              subst this
              exact ⟨_, rfl, by omega⟩
            | away hb hcc hz3 =>
              have := hcc hc0
              subst this
              exact ⟨_, rfl, rfl⟩
          obtain ⟨a, e, rfl⟩ := hlen0
          obtain ⟨v', w', ρ', g1, g2, g3, g4⟩ := grow a 0 0 [] [] e (by omega) (by omega) hb2 .nil (by simp) (fun w2 _ => by cases a <;> simp [Builtin.firstCells, loadCells, loadCellsFrom])
          rw [Nat.zero_add] at g2
          exact ⟨v', w', ρ', g1, g2, g3, g4, by simp [Heap.alloc]⟩
        · rename_i hc0
          replace hv := Option.bind_eq_some_iff.mp hv
          obtain ⟨old, hold, hv⟩ := hv
          split at hv
          · rename_i cs hg
            split at hv
            · rename_i hone
              cases hv
              obtain ⟨q, s, n, hρ, hsl, hcs, hown⟩ := hh.live b _ hg
              have hs2 : ∃ c', s' = .slice (some ⟨q, s + o, none⟩) len c' ∧ len ≤ c' ∧ (s + o + c' * sz' ≤ n) ∨ (∃ a, s' = .slice (some a) 0 0 ∧ len = 0) := by
                cases hs with
                | plain hp => simp [plain0] at hp
                | row hb hl hcc hr2 => rw [hρ] at hb; cases hb; exact ⟨_, .inl ⟨rfl, hl, hr2⟩⟩
                | away hb hcc hz3 =>
                  rw [hρ] at hb; cases hb
                  rcases hz3 with hz3 | hz3
                  · cases hz3
                  · subst hz3; exact ⟨0, .inr ⟨_, rfl, rfl⟩⟩
              obtain ⟨c', hs2⟩ := hs2
              have hk := kill_live hh b
              rcases hs2 with ⟨e, hl, hroom⟩ | ⟨a, e, rfl⟩
              · -- the row's cells
                have hrow : ∃ old', VRL ρ old old' ∧ old.length = len * sz' ∧ ∀ (j : Nat) (v : Value), old'[j]? = some v → w.cell? ⟨q, s + o + j, none⟩ = some v := by
                  split at hold
                  · rename_i hl0
                    cases hold
                    exact ⟨[], .nil, by simp [hl0], fun j v hj => by simp at hj⟩
                  · obtain ⟨g1, q2, s2, n2, g2, l', g3, g4⟩ := hh.row hold
                    rw [hρ] at g2; cases g2
                    exact ⟨l', g3, g1, g4⟩
                obtain ⟨old', hov, hol, hoc⟩ := hrow
                have hfo : ∀ w2 : World, (∀ q o, (w.cell? ⟨q, o, none⟩).isSome = true → w2.cell? ⟨q, o, none⟩ = w.cell? ⟨q, o, none⟩) → (Builtin.firstCells sz' len (.slice (some ⟨q, s + o, none⟩) len c')).run P w2 = .ok old'.toArray w2 := fun w2 hw2 => by
                  simp only [Builtin.firstCells]
                  exact run_loadCells_of old' (len * sz') (by rw [← hov.length]; exact hol) fun j v hj => by
                    have := hoc j v hj
                    rw [hw2 _ _ (by rw [this]; rfl)]; exact this
                by_cases hin : len + r.1 ≤ c'
                · have hm : (len + r.1) * sz' ≤ c' * sz' := Nat.mul_le_mul_right _ hin
                  rw [Nat.add_mul] at hm
                  obtain ⟨g1, g2, g3⟩ := hh.reuse hg hρ hov hoc hnew (by omega)
                  refine ⟨.slice (some ⟨q, s + o, none⟩) (len + r.1) c', _, _, ?_, ?_, g3, hh.fresh _, by simp [Heap.alloc, Heap.kill]⟩
                  · rw [start _ _ _ e, if_pos hin]
                    have hst := run_storeCells_cells (P := P) q (s + o + len * sz') new' 0 w (by rw [← hol]; simpa using g1) (by rw [← hol]; simpa using g2) (oneCell_of hnew hone)
                    rw [hol]
                    simp only [Sem.run_bind, hfw, Result.andThen_ok, add_off]
                    rw [Nat.add_zero] at hst
                    rw [hst]
                    simp
                  · have e1 := VR.row (ρ := ρ.ext H.next (.lies q (s + o) n)) (o := 0) (sz := sz') (len := len + r.1) (c := 1) (c' := c') (by rw [Ren.ext_get]; rw [if_pos rfl]) hin (by omega) (by omega)
                    simpa using e1
                · obtain ⟨v', w', ρ', g1, g2, g3, g4⟩ := grow _ _ _ old old' e (by omega) hb1 hb2 hov hol hfo
                  refine ⟨v', w', ρ', g1, g2, g3.weaken (by simp [Heap.alloc, Heap.kill]) fun j k hk => ⟨k, ?_, rfl, fun h => h⟩, g4, by simp [Heap.alloc, Heap.kill]⟩
                  unfold Heap.alloc Heap.kill at hk
                  simp only at hk
                  unfold Heap.alloc
                  simp only
                  split at hk
                  · rename_i hj; rw [if_pos hj]; exact hk
                  · rename_i hj; rw [if_neg hj]
                    split at hk
                    · cases hk
                    · exact hk
              · obtain ⟨v', w', ρ', g1, g2, g3, g4⟩ := grow _ 0 0 [] [] e (by omega) (by omega) hb2 .nil (by simp) (fun w2 _ => by simp [Builtin.firstCells, loadCells, loadCellsFrom])
                rw [if_pos rfl] at hold
                cases hold
                refine ⟨v', w', ρ', g1, g2, g3.weaken (by simp [Heap.alloc, Heap.kill]) fun j k hk => ⟨k, ?_, rfl, fun h => h⟩, g4, by simp [Heap.alloc, Heap.kill]⟩
                unfold Heap.alloc Heap.kill at hk
                simp only at hk
                unfold Heap.alloc
                simp only
                split at hk
                · rename_i hj; rw [if_pos hj]; exact hk
                · rename_i hj; rw [if_neg hj]
                  split at hk
                  · cases hk
                  · exact hk
            · cases hv
          · cases hv
      · cases hv
  · rename_i sz' ys k m
    split at hv
    · rename_i h0
      cases hv
      cases hs with
      | plain hp => simp [plain0] at hp
      | frow hb hl hcc => exact ⟨_, w, ρ, none_ _ _ _ rfl hl h0 (.inr ⟨_, rfl⟩), .frow hb hl hcc, hh, Ren.Le.refl _, Nat.le_refl _⟩
      | frow0 hcc => exact ⟨_, w, ρ, none_ _ _ _ rfl (Nat.zero_le _) h0 (.inr ⟨_, rfl⟩), .frow0 hcc, hh, Ren.Le.refl _, Nat.le_refl _⟩
      | fnil hcc => exact ⟨_, w, ρ, none_ _ _ _ rfl (Nat.le_refl _) h0 (.inl rfl), .fnil hcc, hh, Ren.Le.refl _, Nat.le_refl _⟩
    · rename_i h0
      split at hv
      · rename_i hc
        obtain ⟨rfl, rfl, hc1, hc2⟩ := hc
        cases hv
        have fin : ∀ a : Option Addr, s' = .slice a 0 0 → ∃ (v' : Value) (w' : World) (ρ' : Ren), (Builtin.append_ #[t, t2] ty #[s', x']).run P w = .ok v' w' ∧ VR ρ' (.slice (some ⟨H.next, 0, some sz⟩) r.1 1) v' ∧ HR B w0 ρ' (H.alloc r.2) w' ∧ Ren.Le B ρ ρ' ∧ H.next ≤ (H.alloc r.2).next := fun a e => by
          obtain ⟨v', w', ρ', g1, g2, g3, g4⟩ := grow a 0 0 [] [] e (by omega) (by omega) (by simpa using hc2) .nil (by simp) (fun w2 _ => by cases a <;> simp [Builtin.firstCells, loadCells, loadCellsFrom])
          rw [Nat.zero_add] at g2
          exact ⟨v', w', ρ', g1, g2, g3, g4, by simp [Heap.alloc]⟩
        cases hs with
        | plain hp => simp [plain0] at hp
        | frow hb hl hcc =>
          have := hcc rfl
          subst this
          exact fin _ rfl
        | frow0 hcc =>
          have := hcc rfl
          subst this
          exact fin _ rfl
        | fnil hcc => exact fin _ rfl
      · cases hv
  · cases hv
end Go.Proofs.YtoecebibhcadoaaDoor.I
