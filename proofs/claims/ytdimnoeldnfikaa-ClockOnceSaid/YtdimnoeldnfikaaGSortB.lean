/- slices.SortFunc on an own row of the ideal heap: a sorted permutation, by the kit's contract of the world. No condition. -/
import Derived.Test.YtdimnoeldnfikaaIRules
import Derived.Shelf.SlSortCmp.WholeK
namespace Go.Proofs.Ytdimnoeldnfikaa.I
open Go Go.RowKit Go.Sort Go.Shelf
set_option linter.unusedVariables false
set_option linter.unusedSimpArgs false

theorem flatMap_at {α : Type} [Inhabited α] (enc : α → List Value) (k : Nat) (hk : ∀ x, (enc x).length = k) : ∀ (d : List α) (i : Nat), i < d.length * k → (d.flatMap enc)[i]? = (enc (d[i / k]!))[i % k]?
  | [], i, h => by simp at h
  | x :: l, i, h => by
    have k0 : 0 < k := by
      rcases Nat.eq_zero_or_pos k with e | e
      · subst e; simp at h
      · exact e
    rw [List.flatMap_cons, List.getElem?_append, hk]
    by_cases c : i < k
    · rw [if_pos c, Nat.div_eq_of_lt c, Nat.mod_eq_of_lt c]; rfl
    · rw [if_neg c, flatMap_at enc k hk l (i - k) (by simp only [List.length_cons, Nat.add_mul] at h; omega)]
      have e1 : i / k = (i - k) / k + 1 := by rw [Nat.div_eq_sub_div k0 (by omega)]
      have e2 : i % k = (i - k) % k := Nat.mod_eq_sub_mod (by omega)
      rw [e1, e2]; rfl

theorem flatMap_len {α : Type} (enc : α → List Value) (k : Nat) (hk : ∀ x, (enc x).length = k) : ∀ (d : List α), (d.flatMap enc).length = d.length * k
  | [] => by simp
  | x :: l => by rw [List.flatMap_cons, List.length_append, hk, flatMap_len enc k hk l, List.length_cons, Nat.add_mul]; omega

theorem flatK_list {α : Type} [Inhabited α] (enc : α → List Value) (k : Nat) (hk : ∀ x, (enc x).length = k) (d : List α) : (flatK enc k d.toArray).toList = d.flatMap enc := by
  apply List.ext_getElem?
  intro i
  by_cases h : i < d.length * k
  · have h' : i < d.toArray.size * k := by simpa using h
    have hi : i < (flatK enc k d.toArray).size := by simpa using h
    have k0 : 0 < k := by
      rcases Nat.eq_zero_or_pos k with e | e
      · subst e; simp at h
      · exact e
    rw [flatMap_at enc k hk d i h, Array.getElem?_toList, Array.getElem?_eq_getElem hi]
    have := get_flatK enc k d.toArray i h'
    rw [getElem!_pos _ i hi] at this
    rw [this, List.getElem!_toArray, getElem!_pos _ (i % k) (by rw [hk]; exact Nat.mod_lt _ k0), List.getElem?_eq_getElem]
  · rw [List.getElem?_eq_none (by simpa using h), List.getElem?_eq_none (by rw [flatMap_len enc k hk]; omega)]

theorem setMany_all : ∀ (vs : List Value) (F : Array Value) (s : Nat), s + vs.length = F.size → setMany F s vs = ⟨F.toList.take s ++ vs⟩
  | [], F, s, h => by
    rw [setMany]
    obtain ⟨l⟩ := F
    simp at h ⊢
    rw [List.take_of_length_le (by omega)]
  | v :: r, F, s, h => by
    rw [setMany, setMany_all r _ (s + 1) (by simp at h ⊢; omega)]
    congr 1
    obtain ⟨l⟩ := F
    simp at h ⊢
    have hs : s < l.length := by omega
    rw [List.take_succ_eq_append_getElem (by simpa using hs), List.take_set, List.getElem_set_self, List.set_eq_of_length_le (by simp; omega)]
    simp

theorem below_grow (w : World) (n : Nat) (os : Array Obj) : RowKit.Below w.heap.size w (grow (Go.Sort.ahead w n) os) :=
  ⟨rfl, rfl, rfl, by simp, fun k hk => heap_grow_old _ _ (by simpa using hk)⟩

theorem below_grow' (w : World) (os : Array Obj) : RowKit.Below w.heap.size w (grow w os) :=
  ⟨rfl, rfl, rfl, by simp, fun k hk => heap_grow_old _ _ hk⟩

theorem perm_of_permIn {α : Type} [Inhabited α] {d d' : Array α} (h : PermIn 0 d.size d d') : d'.toList.Perm d.toList := by
  obtain ⟨h1, _, h3⟩ := h
  rwa [Array.extract_eq_self_of_le (by omega), Array.extract_eq_self_of_le (by omega)] at h3

theorem pairwise_of_sortedIn {α : Type} [Inhabited α] {lt : α → α → Bool} {d : Array α} (n : Nat) (hn : n = d.size) (h : SortedIn lt 0 n d) : d.toList.Pairwise fun x y => lt y x = false := by
  rw [List.pairwise_iff_getElem]
  intro i j hi hj hij
  have := h i j (by omega) hij (by simpa [hn] using hj)
  rwa [getElem!_pos d j (by simpa using hj), getElem!_pos d i (by simpa using hi)] at this

/-- The sort, of a row of some elements that hold no address. -/
theorem sort_calls {P : Program} {σ : Go.Shelf.Ren} {α : Type} [Inhabited α] (L : SlLaysF0.n6 P σ) (k : Nat) (aE : ∀ w, (isAgg (σ.t 24)).run P w = .ok true w) (zE : ∀ w, (Go.sizeOf (σ.t 24)).run P w = .ok k w)
    (enc : α → List Value) (hk : ∀ x, (enc x).length = k) (hp : ∀ x, (enc x).all plain0 = true) (h1 : ∀ x, ∀ v ∈ enc x, v.oneCell' = true) (cf : α → α → Int) (hO : SWO (ltOf cf)) (g : Nat)
    (eg : ∀ args w, (callFunc g args).run P w = .ok (.enter g args) w) (hcmp : ∀ blk off size w, CmpLays P g #[] enc k cf blk off size w) (he : ∀ args w, (callFunc (σ.f 6) args).run P w = .ok (.enter (σ.f 6) args) w)
    {H : Heap} {b c : Nat} {d : List α} (hH : H.get b = some ⟨d.flatMap enc, true⟩) (hd : d ≠ []) (hsz : d.length < 4611686018427387904) :
    ICalls P (σ.f 6) [.slice (some ⟨b, 0, some k⟩) d.length c, .func (.func g) #[] #[]] H fun v H' => v = .tuple ⟨[]⟩ ∧ ∃ d' : List α, d'.Perm d ∧ d'.Pairwise (fun x y => ltOf cf y x = false) ∧ H' = H.set b (d'.flatMap enc) := by
  intro B w0 ρ args' w hh hargs
  refine .inl ⟨he _ _, ?_⟩
  obtain ⟨args⟩ := args'
  have hargs' : VRL ρ [.slice (some ⟨b, 0, some k⟩) d.length c, .func (.func g) #[] #[]] args := hargs
  cases hargs' with
  | cons ha hr =>
  cases hr with
  | cons hf hn =>
  cases hn
  cases hf with
  | plain hq => simp [plain0] at hq
  | func hx hy =>
  rename_i x' y'
  obtain ⟨x'⟩ := x'
  obtain ⟨y'⟩ := y'
  cases hx
  cases hy
  have hd' : 0 < d.length := List.length_pos_iff.mpr hd
  generalize hlen : d.length = len at ha
  cases ha with
  | plain hq => simp [plain0] at hq
  | away e hc hz => omega
  | row e hl hc hrr =>
  rename_i q s n c'
  subst hlen
  obtain ⟨q2, s2, n2, e2, hlive, hcells, hown⟩ := hh.live b _ hH
  rw [e] at e2
  cases e2
  simp only at hlive hcells hown
  obtain ⟨hBq, hfr⟩ := hown trivial
  have hlt : q < w.heap.size := lt_of_size hh e
  have hfl := flatMap_len enc k hk d
  have hH0 : HoldsK enc k w q s d.toArray := by
    intro j hj
    have hj' : j < d.length * k := by simpa using hj
    have hg : (d.flatMap enc)[j]? = some ((flatK enc k d.toArray)[j]!) := by
      rw [← flatK_list enc k hk d, Array.getElem?_toList, Array.getElem?_eq_getElem hj, getElem!_pos _ j hj]
    obtain ⟨v', h2, h3⟩ := hcells j _ hg
    have hpl : plain0 ((flatK enc k d.toArray)[j]!) = true := by
      have hm := List.mem_of_getElem? hg
      obtain ⟨x, _, hx⟩ := List.mem_flatMap.mp hm
      exact List.all_eq_true.mp (hp x) _ hx
    rw [h3.eq_of_plain0 hpl] at h2
    exact ⟨h2, (hfr (s + j) (by omega)).1⟩
  have hcon := AnyQ.slices_SortFunc (P := P) L k aE zE enc hk h1 cf hO g #[] q s c' d.toArray w eg (hcmp _ _ _ _) hH0 hlt (by simpa using hsz)
  have hcon' : Calls P (σ.f 6) ⟨[.slice (some ⟨q, s + 0, none⟩) d.length c', .func (.func g) ⟨[]⟩ ⟨[]⟩]⟩ w fun e w' =>
      e = .returned (.tuple #[]) ∧ ∃ d' n os, PermIn 0 d.toArray.size d.toArray d' ∧ SortedIn (ltOf cf) 0 d.toArray.size d' ∧ w' = sortWorldK enc k w q s n d' os := by
    simpa using hcon
  refine hcon'.mono ?_
  rintro _ w' ⟨rfl, d', m, os, hpm, hso, rfl⟩
  have hsize : d'.size = d.length := by simpa using hpm.1
  have hput : H.put b 0 (d'.toList.flatMap enc) = some (H.set b (d'.toList.flatMap enc)) := by
    unfold Heap.put
    rw [hH]
    have hl2 := flatMap_len enc k hk d'.toList
    simp only [Array.length_toList, hsize] at hl2
    simp only
    rw [if_pos (by omega)]
    congr 2
    unfold splice
    simp only [List.take_zero, List.nil_append, Nat.zero_add]
    rw [List.drop_of_length_le (by omega), List.append_nil]
  have hpl' : (d'.toList.flatMap enc).all plain0 = true := by
    rw [List.all_eq_true]
    intro v hv
    obtain ⟨x, _, hx⟩ := List.mem_flatMap.mp hv
    exact List.all_eq_true.mp (hp x) _ hx
  have hh' : HR B w0 ρ H (Go.Sort.ahead w m) := hh.of_same ⟨rfl, rfl, rfl, Nat.le_refl _, fun _ _ => rfl⟩
  obtain ⟨q3, s3, n3, e3, _, _, hr3⟩ := hh'.put hput (VRL.of_plain0 hpl')
  rw [e] at e3
  cases e3
  have hw : sortWorldK enc k w q s m d' os = grow ((Go.Sort.ahead w m).setCells q (s + 0) (d'.toList.flatMap enc)) os := by
    unfold sortWorldK
    congr 1
    have hself : putRow id (Go.Sort.ahead w m) q s (flatK enc k d.toArray) = Go.Sort.ahead w m := putRow_self id _ _ _ _ hH0
    have hfl2 : (d'.toList.flatMap enc).length = (flatK enc k d.toArray).size := by
      rw [flatMap_len enc k hk]; simp [hsize]
    have := setCells_putRow (Go.Sort.ahead w m) q s (d'.toList.flatMap enc) 0 (flatK enc k d.toArray) (by omega)
    rw [hself, setMany_all _ _ 0 (by omega)] at this
    rw [this]
    unfold putRowK
    congr 1
    have := flatK_list enc k hk d'.toList
    simp only [Array.toArray_toList] at this
    rw [← this]
    simp
  rw [hw]
  refine ⟨ρ, .tuple ⟨[]⟩, _, _, rfl, ⟨rfl, d'.toList, by simpa using perm_of_permIn hpm, pairwise_of_sortedIn _ (by simp [hsize]) hso, rfl⟩, .tuple .nil, hr3.of_same (below_grow' _ _), Ren.Le.refl _, Nat.le_refl _⟩

end Go.Proofs.Ytdimnoeldnfikaa.I
