/- Rows that are being built: own rows from a block on; appended to, frozen; calls that answer closed values. No condition. -/
import Derived.Test.YtoecebibhcadoaaDoorIFrz
import Derived.Test.YtoecebibhcadoaaDoorIDraw
namespace Go.Proofs.YtoecebibhcadoaaDoor.I
open Go Go.RowKit
set_option linter.unusedVariables false
set_option linter.unusedSimpArgs false
theorem flat_sz {sz : Nat} : ∀ us : List Value, (∀ u ∈ us, u.cells.toList.length = sz) → (us.flatMap fun u => u.cells.toList).length = us.length * sz
  | [], _ => by simp
  | u :: us, h => by rw [List.flatMap_cons, List.length_append, h u (by simp), flat_sz us fun x hx => h x (by simp [hx]), List.length_cons, Nat.add_mul]; omega
def Bld (sz : Nat) (H : Heap) (n : Nat) (v : Value) (us : List Value) : Prop :=
  (∀ u ∈ us, u.cells.toList.length = sz) ∧ ((v = .slice none 0 0 ∧ us = []) ∨ ∃ b, n ≤ b ∧ v = .slice (some ⟨b, 0, some sz⟩) us.length 1 ∧ H.get b = some ⟨us.flatMap fun u => u.cells.toList, true⟩)
theorem Bld.nil (sz : Nat) (H : Heap) (n : Nat) : Bld sz H n (.slice none 0 0) [] := ⟨fun _ h => (by cases h), .inl ⟨rfl, rfl⟩⟩
theorem Bld.same {sz : Nat} {H K : Heap} {n : Nat} {v : Value} {us : List Value} (h : Bld sz H n v us) (hs : ∀ b k, n ≤ b → H.get b = some k → K.get b = some k) : Bld sz K n v us :=
  ⟨h.1, h.2.imp id fun ⟨b, h1, h2, h3⟩ => ⟨b, h1, h2, hs _ _ h1 h3⟩⟩
theorem Bld.alloc {sz : Nat} {H : Heap} {n : Nat} {v : Value} {us : List Value} (h : Bld sz H n v us) (cs : List Value) : Bld sz (H.alloc cs) n v us :=
  h.same fun b k _ e => by rw [Heap.get_alloc_lt _ _ _ (Heap.lt_of_get e)]; exact e
theorem Bld.le {sz : Nat} {H : Heap} {n m : Nat} {v : Value} {us : List Value} (h : Bld sz H n v us) (hm : m ≤ n) : Bld sz H m v us :=
  ⟨h.1, h.2.imp id fun ⟨b, h1, h2, h3⟩ => ⟨b, Nat.le_trans hm h1, h2, h3⟩⟩
theorem Bld.frz {sz : Nat} {H : Heap} {n : Nat} {v : Value} {us : List Value} (h : Bld sz H n v us) : Frz H (fun _ => true) v (frow sz 0 us) := by
  rcases h with ⟨h0, ⟨rfl, rfl⟩ | ⟨b, _, rfl, h3⟩⟩
  · exact .nil sz
  · refine .row h3 rfl ?_
    have := FrzE.same (H := H) (S := fun _ => true) us h0 []
    simpa using this
section app
variable {P : Program} {t e : TypeId} {sz by_ : Nat} {z : Value}
theorem irow_blk {H : Heap} {b c : Nat} {ws : List Value} {own : Bool} (hg : H.get b = some ⟨ws.flatMap fun u => u.cells.toList, own⟩) (hw : ∀ u ∈ ws, u.cells.toList.length = sz) :
    irow sz (.slice (some ⟨b, 0, some sz⟩) ws.length c) H = some (ws.length, ws.flatMap fun u => u.cells.toList) := by
  have hl := flat_sz ws hw
  rw [irow_row]
  by_cases h0 : ws.length = 0
  · rw [if_pos h0]
    have := List.length_eq_zero_iff.1 h0
    subst this; rfl
  · rw [if_neg h0, if_pos rfl, row_eq, hg]
    simp [hl]
    exact List.take_of_length_le (by rw [hl]; exact Nat.le_refl _)
theorem app_own (he : tElem P t = some e) (hs : tSize P e = some sz) (hb : tBytes P e = some by_) (hz : tZero P e = some z) (hzl : z.cells.toList.length = sz) {H : Heap} {n : Nat} {v x : Value} {us ws : List Value}
    (ho : Bld sz H n v us) (hw : ∀ u ∈ ws, u.cells.toList.length = sz) (hr : irow sz x H = some (ws.length, ws.flatMap fun u => u.cells.toList)) (h1 : (ws.flatMap fun u => u.cells.toList).all one0 = true) (hn : n ≤ H.next)
    (hl : us.length + ws.length ≤ 1099511627776) (hl2 : (us.length + ws.length + 768) * by_ ≤ 70368744177664) :
    ∃ v' H', iapp P t v x H = some (v', H') ∧ Bld sz H' n v' (us ++ ws) ∧ (∀ b, b < n → H'.get b = H.get b) ∧ H.next ≤ H'.next ∧ (∀ b, b < H.next → (∀ o s l c, v ≠ .slice (some ⟨b, o, s⟩) l c) → H'.get b = H.get b) ∧ ((v' = v ∧ H' = H ∧ ws = []) ∨ v' = .slice (some ⟨H.next, 0, some sz⟩) (us ++ ws).length 1) := by
  obtain ⟨h0, ho⟩ := ho
  have hall : ∀ u ∈ us ++ ws, u.cells.toList.length = sz := fun u hu => (List.mem_append.1 hu).elim (h0 u) (hw u)
  by_cases hW : ws = []
  · subst hW
    refine ⟨v, H, ?_, ⟨hall, by simpa using ho⟩, fun _ _ => rfl, Nat.le_refl _, fun b h _ => rfl, .inl ⟨rfl, rfl, rfl⟩⟩
    simp only [List.length_nil] at hr
    rcases ho with ⟨rfl, rfl⟩ | ⟨b, h2, rfl, h3⟩
    · simp [iapp_nil, he, hs, hb, hz, hr, hzl]
    · simp [iapp_row, he, hs, hb, hz, hr, hzl]
  · have h00 : ¬ ws.length = 0 := by simpa using hW
    rcases ho with ⟨rfl, rfl⟩ | ⟨b, h2, rfl, h3⟩
    · refine ⟨.slice (some ⟨H.next, 0, some sz⟩) ws.length 1, H.alloc (ws.flatMap fun u => u.cells.toList), ?_, ⟨hall, .inr ⟨H.next, hn, by simp, by simp [get_alloc]⟩⟩, fun b hb => by rw [get_alloc, if_neg (by omega)], by simp [next_alloc],
        fun b h _ => Heap.get_alloc_lt _ _ _ h, .inr (by simp)⟩
      simp only [List.length_nil, Nat.zero_add] at hl hl2
      simp [iapp_nil, he, hs, hb, hz, hr, hzl, hW, hl, hl2]
    · have hlt := Heap.lt_of_get h3
      refine ⟨.slice (some ⟨H.next, 0, some sz⟩) (us.length + ws.length) 1, (H.kill b).alloc ((us ++ ws).flatMap fun u => u.cells.toList), ?_, ⟨hall, .inr ⟨H.next, hn, by simp, by simp [get_alloc, next_kill]⟩⟩,
        fun b' hb => by rw [get_alloc, next_kill, if_neg (by omega), get_kill, if_neg (by omega)], by simp [next_alloc, next_kill], fun b' h hp => ?_, .inr (by simp)⟩
      · have hlen := flat_sz us h0
        have hold : (if us.length = 0 then some [] else H.row b 0 (us.length * sz)) = some (us.flatMap fun u => u.cells.toList) := by
          by_cases hL : us = []
          · subst hL; rfl
          · rw [if_neg (by simpa using hL), row_eq, h3]
            simp [hlen]
            exact List.take_of_length_le (by rw [hlen]; exact Nat.le_refl _)
        simp only [iapp_row, he, hs, hb, hz, hr, Option.bind_some, h3, hold, if_pos hzl, if_neg h00, h1]
        simp [hl, hl2]
      · have hne : b' ≠ b := fun e => hp 0 (some sz) us.length 1 (by rw [e])
        rw [get_alloc, next_kill, if_neg (by omega), get_kill, if_neg hne]
theorem app_one (he : tElem P t = some e) (hs : tSize P e = some sz) (hb : tBytes P e = some by_) (hz : tZero P e = some z) (hzl : z.cells.toList.length = sz) {H : Heap} {n : Nat} {v : Value} {us : List Value} (u : Value) (cs : List Value)
    (ho : Bld sz H n v us) (hc : u.cells.toList = cs) (hw : cs.length = sz) (h1 : cs.all one0 = true) (hn : n ≤ H.next)
    (hl : us.length + 1 ≤ 1099511627776) (hl2 : (us.length + 1 + 768) * by_ ≤ 70368744177664) :
    ∃ v' H', iapp P t v (.slice (some ⟨H.next, 0, some sz⟩) 1 1) (H.alloc cs) = some (v', H') ∧ Bld sz H' n v' (us ++ [u]) ∧ (∀ b, b < n → H'.get b = H.get b) ∧ H.next ≤ H'.next ∧ (∀ b, b < H.next → (∀ o s l c, v ≠ .slice (some ⟨b, o, s⟩) l c) → H'.get b = H.get b) ∧ v' = .slice (some ⟨H.next + 1, 0, some sz⟩) (us.length + 1) 1 := by
  subst hc
  have hr : irow sz (.slice (some ⟨H.next, 0, some sz⟩) 1 1) (H.alloc u.cells.toList) = some ([u].length, [u].flatMap fun u => u.cells.toList) :=
    irow_blk (ws := [u]) (own := true) (by rw [Heap.get_alloc_new]; simp) (by simpa using hw)
  obtain ⟨v', H', a, b, c, d, f, g⟩ := app_own he hs hb hz hzl (ho.alloc u.cells.toList) (by simpa using hw) hr (by simpa using h1) (by rw [next_alloc]; omega) (by simpa using hl) (by simpa using hl2)
  exact ⟨v', H', a, b, fun b hb => by rw [c b hb, Heap.get_alloc_lt _ _ _ (by omega)], by rw [next_alloc] at d; omega, fun b hb hv => by rw [f b (by rw [next_alloc]; omega) hv, Heap.get_alloc_lt _ _ _ hb], by
    rcases g with ⟨_, _, g⟩ | g
    · cases g
    · rw [g, next_alloc]; simp⟩
end app
def Old (H K : Heap) : Prop := (∀ b, b < H.next → K.get b = H.get b) ∧ H.next ≤ K.next
theorem Old.refl (H : Heap) : Old H H := ⟨fun _ _ => rfl, Nat.le_refl _⟩
theorem Old.trans {A B C : Heap} (h : Old A B) (k : Old B C) : Old A C := ⟨fun b hb => (k.1 b (Nat.lt_of_lt_of_le hb h.2)).trans (h.1 b hb), Nat.le_trans h.2 k.2⟩
theorem Old.some {H K : Heap} (h : Old H K) (b : Nat) (k : Blk) (e : H.get b = some k) : K.get b = some k := by rw [h.1 b (Heap.lt_of_get e)]; exact e
theorem Old.alloc {H K : Heap} (h : Old H K) (cs : List Value) : Old H (K.alloc cs) := ⟨fun b hb => by rw [Heap.get_alloc_lt _ _ _ (Nat.lt_of_lt_of_le hb h.2)]; exact h.1 b hb, by rw [next_alloc]; exact Nat.le_succ_of_le h.2⟩
theorem Old.kill {H K : Heap} (h : Old H K) {q : Nat} (hq : H.next ≤ q) : Old H (K.kill q) := ⟨fun b hb => by rw [get_kill, if_neg (by omega)]; exact h.1 b hb, h.2⟩
theorem Old.set {H K : Heap} (h : Old H K) {q : Nat} (hq : H.next ≤ q) (cs : List Value) : Old H (K.set q cs) := ⟨fun b hb => by rw [get_set, if_neg (by omega)]; exact h.1 b hb, h.2⟩
theorem IBody.ans {P : Program} {f : FuncId} {args : List Value} {H : Heap} {u : Value} (hc : Cl u) (h : ∀ H, IBody P f args H fun v H' => Frz H' (fun _ => true) v u) : IBody P f args H fun v H' => v = u ∧ H' = H :=
  IBody.pure ((h H.ro).mono fun v H' hf => ⟨u, hf, hc, rfl⟩)
theorem ICalls.ans {P : Program} {f : FuncId} {args : List Value} {H : Heap} {u : Value} (hc : Cl u) (h : ∀ H, ICalls P f args H fun v H' => Frz H' (fun _ => true) v u) : ICalls P f args H fun v H' => v = u ∧ H' = H :=
  ICalls.pure ((h H.ro).mono fun v H' hf => ⟨u, hf, hc, rfl⟩)
theorem IBody.none_or {P : Program} {f : FuncId} {sz : Nat} {m : Int} {as : List Value} {H : Heap} {K : Value → Heap → Prop} (h1 : IBody P f (.slice none 0 0 :: as) H K) (h2 : IBody P f (frow sz 1 [] :: as) H K) : IBody P f (frow sz m [] :: as) H K := by
  intro B w0 ρ args' w hh hargs
  generalize hl : args'.toList = l at hargs
  cases hargs with
  | cons hv hr =>
    unfold frow at hv
    cases hv with
    | plain hp => simp [plain0] at hp
    | frow a b c => exact h2 B w0 ρ args' w hh (by rw [hl]; exact .cons (.frow0 (fun h => by cases h)) hr)
    | frow0 a => exact h2 B w0 ρ args' w hh (by rw [hl]; exact .cons (.frow0 (fun h => by cases h)) hr)
    | fnil a => exact h1 B w0 ρ args' w hh (by rw [hl]; exact .cons (.plain rfl) hr)
theorem ICalls.freeze {P : Program} {f : FuncId} {args us : List Value} {H : Heap} {K : Value → Heap → Prop} (S : Nat → Bool) (hf : FrzL H S args us) (h : ICalls P f us (H.only fun b => !S b) K) : ICalls P f args H K := by
  intro B w0 ρ args' w hh hargs
  have fin : ∀ x w', Left B w0 (ρ.frz H S w) (H.only fun b => !S b) K x w' → Left B w0 ρ H K x w' := by
    rintro x w' ⟨ρ', v, v', H', rfl, hk, hv, hr', hl, hn⟩
    exact ⟨ρ', v, v', H', rfl, hk, hv, hr', hh.frz_le.trans hl, hn⟩
  exact (h B w0 _ args' w hh.frz (VRL.frz hh hf hargs)).imp (fun r => ⟨r.1, r.2.mono fin⟩) fun ⟨v', w', e, r⟩ => ⟨v', w', e, fin _ _ r⟩
theorem ICalls.frozen {P : Program} {f : FuncId} {args : List Value} {H : Heap} {K : Value → Heap → Prop} (h : ICalls P f args H fun v H' => ∃ S u, Frz H' S v u ∧ K u (H'.only fun b => !S b)) : ICalls P f args H K := by
  intro B w0 ρ args' w hh hargs
  have fin : ∀ x w', Left B w0 ρ H (fun v H' => ∃ S u, Frz H' S v u ∧ K u (H'.only fun b => !S b)) x w' → Left B w0 ρ H K x w' := by
    rintro x w' ⟨ρ', v, v', H', rfl, ⟨S, u, hf, hk⟩, hv, hr, hl, hn⟩
    exact ⟨ρ'.frz H' S w', u, v', _, rfl, hk, VR.frz hr hf hv, hr.frz, hl.trans hr.frz_le, hn⟩
  exact (h B w0 ρ args' w hh hargs).imp (fun r => ⟨r.1, r.2.mono fin⟩) fun ⟨v', w', e, r⟩ => ⟨v', w', e, fin _ _ r⟩
theorem ICalls.then {P : Program} {f : FuncId} {args : List Value} {H : Heap} {u : Value} {K : Value → Heap → Prop} (h : ICalls P f args H fun v H' => v = u ∧ H' = H) (k : K u H) : ICalls P f args H K :=
  h.mono fun v H' ⟨h1, h2⟩ => by rw [h1, h2]; exact k
inductive FrzEnv (H : Heap) (S : Nat → Bool) : Env → Env → Prop
  | nil : FrzEnv H S [] []
  | cons {k : Nat} {v u : Value} {e e' : Env} (h : Frz H S v u) (t : FrzEnv H S e e') : FrzEnv H S ((k, v) :: e) ((k, u) :: e')
theorem FrzEnv.get {H : Heap} {S : Nat → Bool} : ∀ {e e' : Env}, FrzEnv H S e e' → ∀ i u, Env.get e' i = some u → ∃ v, Env.get e i = some v ∧ Frz H S v u
  | _, _, .nil, i, u, h => by cases h
  | _, _, .cons (k := k) h t, i, u, hu => by
    simp only [Env.get] at hu ⊢
    split at hu
    · rename_i e; rw [if_pos e]; cases hu; exact ⟨_, rfl, h⟩
    · rename_i e; rw [if_neg e]; exact t.get i u hu
theorem IWp.freezeE {P : Program} {n : Nat} {c : Code} {Q : Exit → Env → Heap → Prop} {e e' : Env} {H : Heap} (S : Nat → Bool) (he : FrzEnv H S e e') (h : IWp P n c Q e' (H.only fun b => !S b)) : IWp P n c Q e H := IWp.freeze S he.get h
structure FrzH (H : Heap) (S : Nat → Bool) (K : Heap) : Prop where
  next : K.next = H.next
  get : ∀ b k, K.get b = some k → S b = false ∧ ∃ k', H.get b = some k' ∧ k'.own = k.own ∧ FrzL H S k'.cells k.cells
  tab : K.tab = H.tab ∨ K.tab = none
theorem FrzL.get {H : Heap} {S : Nat → Bool} : ∀ {l m : List Value}, FrzL H S l m → ∀ (i : Nat) (u : Value), m[i]? = some u → ∃ v, l[i]? = some v ∧ Frz H S v u
  | _, _, .nil, i, u, h => by simp at h
  | _, _, .cons h t, 0, u, e => by
    simp only [List.getElem?_cons_zero, Option.some.injEq] at e
    subst e; exact ⟨_, rfl, h⟩
  | _, _, .cons h t, i + 1, u, e => by
    simp only [List.getElem?_cons_succ] at e ⊢
    exact t.get i u e
theorem HR.frzC {B : Nat} {w0 w : World} {ρ : Ren} {H K : Heap} {S : Nat → Bool} (h : HR B w0 ρ H w) (hk : FrzH H S K) : HR B w0 (ρ.frz H S w) K w := by
  refine ⟨h.below, h.base, fun b p e => by rw [hk.next]; exact h.dom b p e, h.size, fun b k hb => ?_, fun b b' k k' q s n q' s' n' hne h1 h2 ho e1 e2 => ?_, h.frz.fixed, fun b k q s n hb ho e i v hf => ?_, fun t ht => hk.tab.elim (fun x => h.tabs t (x ▸ ht)) fun x => (by rw [x] at ht; cases ht), h.pin⟩
  · obtain ⟨_, k', h1, h2, h3⟩ := hk.get b k hb
    obtain ⟨q, s, n, e, hl, hc, hown⟩ := h.live b k' h1
    refine ⟨q, s, n, e, by rw [← h3.length]; exact hl, fun i v hv => ?_, fun ho => hown (by rw [h2]; exact ho)⟩
    obtain ⟨v0, h4, h5⟩ := h3.get i v hv
    obtain ⟨v', a, c⟩ := hc i v0 h4
    exact ⟨v', a, VR.frz h h5 c⟩
  · obtain ⟨_, a, a1, a2, _⟩ := hk.get b k h1
    obtain ⟨_, c, c1, _, _⟩ := hk.get b' k' h2
    exact h.apart b b' a c q s n q' s' n' hne a1 c1 (by rw [a2]; exact ho) e1 e2
  · obtain ⟨hS, k', h1, h2, h3⟩ := hk.get b k hb
    have hb' : (H.only fun b => !S b).get b = some k' := by
      show (if (!S b) = true then H.get b else none) = _
      rw [hS]; exact h1
    exact h.frz.off b k' q s n hb' (by rw [h2]; exact ho) e i v hf
theorem IWp.freezeH {P : Program} {n : Nat} {c : Code} {Q : Exit → Env → Heap → Prop} {e e' : Env} {H : Heap} (K : Heap) (S : Nat → Bool) (he : FrzEnv H S e e') (hk : FrzH H S K) (h : IWp P n c Q e' K) : IWp P n c Q e H := by
  intro B w0 ρ a w ha hh
  have ha' : AR n (ρ.frz H S w) e' a := ⟨ha.defers, ha.size, fun i u hu => by
    obtain ⟨v, h1, h2⟩ := he.get i u hu
    obtain ⟨v', h3, h4⟩ := ha.slot i v h1
    exact ⟨v', h3, VR.frz hh h2 h4⟩⟩
  exact wp_mono (h B w0 _ a w ha' (hh.frzC hk)) fun x a' w' g => g.later hh.frz_le (by rw [hk.next]; exact Nat.le_refl _)
def Heap.ofL (H : Heap) (l : List (Nat × List Value)) : Heap where
  get := fun b => if b < H.next then (l.lookup b).map fun cs => ⟨cs, true⟩ else none
  next := H.next
  tab := H.tab
  wf := fun b hb => by rw [if_neg (by omega)]
theorem Heap.ofL_get (H : Heap) (l : List (Nat × List Value)) (b : Nat) : (H.ofL l).get b = if b < H.next then (l.lookup b).map (fun cs => ⟨cs, true⟩) else none := rfl
theorem Heap.ofL_next (H : Heap) (l : List (Nat × List Value)) : (H.ofL l).next = H.next := rfl
theorem FrzH.ofL {H : Heap} {S : Nat → Bool} : ∀ (l : List (Nat × List Value)), (∀ b cs, (b, cs) ∈ l → S b = false ∧ ∃ cs', H.get b = some ⟨cs', true⟩ ∧ FrzL H S cs' cs) → FrzH H S (H.ofL l) := fun l hl => by
  refine ⟨rfl, fun b k hb => ?_, .inl rfl⟩
  rw [Heap.ofL_get] at hb
  split at hb
  · simp only [Option.map_eq_some_iff] at hb
    obtain ⟨cs, h1, rfl⟩ := hb
    have hm : (b, cs) ∈ l := by
      clear hl
      induction l with
      | nil => cases h1
      | cons x r ih =>
        obtain ⟨k, c⟩ := x
        rw [List.lookup_cons] at h1
        split at h1
        · rename_i e
          cases h1
          have : b = k := by simpa using e
          subst this; simp
        · exact List.mem_cons_of_mem _ (ih h1)
    obtain ⟨h2, cs', h3, h4⟩ := hl b cs hm
    exact ⟨h2, _, h3, rfl, h4⟩
  · cases hb
theorem only_kill (H : Heap) (b : Nat) : (H.only fun j => !(j == b)) = H.kill b := by
  refine Heap.ext' (fun j => ?_) rfl rfl
  simp only [Heap.only, get_kill]
  by_cases h : j = b <;> simp [h]
theorem ICalls.freeze1 {P : Program} {f : FuncId} {args us : List Value} {H : Heap} {K : Value → Heap → Prop} (b : Nat) (hf : FrzL H (fun j => j == b) args us) (h : ICalls P f us (H.kill b) K) : ICalls P f args H K :=
  ICalls.freeze (fun j => j == b) hf (by rw [only_kill]; exact h)
theorem ICalls.as {P : Program} {f : FuncId} {args us : List Value} {H : Heap} {K : Value → Heap → Prop} (hf : FrzL H (fun _ => false) args us) (h : ICalls P f us H K) : ICalls P f args H K :=
  ICalls.freeze (fun _ => false) hf (by rw [show (H.only fun b => !false) = H from Heap.ext' (fun j => by simp [Heap.only]) rfl rfl]; exact h)
theorem frz_lit {H : Heap} {sz : Nat} {cs : List Value} (us : List Value) {b : Nat} (hg : H.get b = some ⟨cs, true⟩) (hc : (us.flatMap fun u => u.cells.toList) = cs) (hz : ∀ u ∈ us, u.cells.toList.length = sz) {n : Nat} (hn : us.length = n) {c : Nat} {S : Nat → Bool} (hS : S b = true) :
    Frz H S (.slice (some ⟨b, 0, some sz⟩) n c) (frow sz 0 us) := by
  subst hn hc
  refine .row hg hS ?_
  have := FrzE.same (H := H) (S := S) us hz []
  simpa using this
section frz
variable {H : Heap} {S : Nat → Bool}
theorem Frz_refl (v : Value) : Frz H S v v = True := eq_true (.same v)
theorem Frz_nilrow (sz : Nat) : Frz H S (.slice none 0 0) (frow sz 0 []) = True := eq_true (.nil sz)
theorem Frz_mode (sz : Nat) (m : Int) (xs : List Value) : Frz H S (frow sz m xs) (frow sz 0 xs) = True := eq_true (.mode sz m xs)
theorem FrzL_nil : FrzL H S [] [] = True := eq_true .nil
theorem FrzL_cons {v u : Value} {l m : List Value} : FrzL H S (v :: l) (u :: m) = (Frz H S v u ∧ FrzL H S l m) := propext ⟨fun h => by cases h with | cons a b => exact ⟨a, b⟩, fun h => .cons h.1 h.2⟩
theorem Frz_tuple {l m : List Value} : Frz H S (.tuple ⟨l⟩) (.tuple ⟨m⟩) = FrzL H S l m := propext ⟨fun h => by
  cases h with
  | same => exact FrzL.same _
  | tuple a => exact a, fun h => .tuple h⟩
theorem Frz_agg {l m : List Value} : Frz H S (.agg ⟨l⟩) (.agg ⟨m⟩) = FrzL H S l m := propext ⟨fun h => by
  cases h with
  | same => exact FrzL.same _
  | agg a => exact a, fun h => .agg h⟩
end frz
attribute [go_sem] Frz_refl Frz_mode Frz_nilrow FrzL_nil FrzL_cons Frz_tuple Frz_agg
theorem alloc_set_same (H : Heap) (cs ds : List Value) : (H.alloc cs).set H.next ds = H.alloc ds := by
  refine Heap.ext' (fun j => ?_) rfl rfl
  simp only [get_set, get_alloc]
  by_cases h : j = H.next
  · subst h; simp
  · simp [h]
theorem alloc_set_lt (H : Heap) {b : Nat} (h : b < H.next) (cs ds : List Value) : (H.alloc cs).set b ds = (H.set b ds).alloc cs := alloc_set H h cs ds
theorem alloc_set_eq (H : Heap) {b : Nat} (h : b = H.next) (cs ds : List Value) : (H.alloc cs).set b ds = H.alloc ds := by subst h; exact alloc_set_same H cs ds
attribute [go_sem] alloc_set_same alloc_set_lt alloc_set_eq
abbrev ints (k : IntKind) (L : List Int) : Value := frow 1 0 (L.map (Value.int k))
abbrev byts (L : List Int) : Value := frow 1 0 (L.map (Value.int .u8))
theorem map_flat (k : IntKind) (L : List Int) : ((L.map (Value.int k)).flatMap fun u => u.cells.toList) = L.map (Value.int k) := by
  induction L with
  | nil => rfl
  | cons n r ih => rw [List.map_cons, List.flatMap_cons, ih]; rfl
theorem map_one (k : IntKind) (L : List Int) : (L.map (Value.int k)).all one0 = true := by simp [one0]
theorem map_sz (k : IntKind) (L : List Int) : ∀ u ∈ L.map (Value.int k), u.cells.toList.length = 1 := by simp [Value.cells]
theorem cl_ints (k : IntKind) (sz : Nat) (m : Int) (L : List Int) : Cl (frow sz m (L.map (Value.int k))) = True := by
  rw [Cl_frow_map]; simp [Value.cells, ClL_cons, ClL_nil, Cl_int]
theorem cl_intss (k : IntKind) (sz : Nat) (m : Int) (L : List (List Int)) : Cl (frow sz m (L.map (ints k))) = True := by
  rw [Cl_frow_map]
  exact eq_true fun x _ => by rw [show (ints k x).cells.toList = [ints k x] from rfl, ClL_cons]; exact ⟨by rw [cl_ints]; trivial, by rw [ClL_nil]; trivial⟩
attribute [go_sem ↓] cl_ints cl_intss
theorem map_drop' {α β : Type} (f : α → β) (L : List α) (n : Nat) : (L.map f).drop n = (L.drop n).map f := List.map_drop.symm
theorem map_take' {α β : Type} (f : α → β) (L : List α) (n : Nat) : (L.map f).take n = (L.take n).map f := List.map_take.symm
attribute [go_sem] map_drop' map_take' byts ints
end Go.Proofs.YtoecebibhcadoaaDoor.I
