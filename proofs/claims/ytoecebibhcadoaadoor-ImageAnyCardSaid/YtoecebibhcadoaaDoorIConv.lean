/- Conversions of byte rows: to a text; to their own type (a constant's bytes, which the model marks). No condition. -/
import Derived.Test.YtoecebibhcadoaaDoorIApp
import Derived.Laws.BytesString
namespace Go.Proofs.YtoecebibhcadoaaDoor.I
open Go Go.RowKit
set_option linter.unusedVariables false
set_option linter.unusedSimpArgs false
def u8s : List Value → Option (List Int)
  | [] => some []
  | .int .u8 n :: r => (u8s r).map (n :: ·)
  | _ => none
theorem u8s_map : ∀ ns : List Int, u8s (ns.map (Value.int .u8)) = some ns
  | [] => rfl
  | n :: r => by simp [u8s, u8s_map r]
theorem u8s_spec : ∀ {l : List Value} {ns : List Int}, u8s l = some ns → l = ns.map (Value.int .u8)
  | [], ns, h => by cases h; rfl
  | v :: r, ns, h => by
    unfold u8s at h
    split at h
    · rename_i h1; cases h1
    · rename_i n r' h1
      cases h1
      obtain ⟨m, h2, rfl⟩ := Option.map_eq_some_iff.mp h
      rw [u8s_spec h2]; rfl
    · cases h
theorem u8_flat (ns : List Int) : ((ns.map (Value.int .u8)).flatMap fun x => x.cells.toList) = ns.map (Value.int .u8) := by
  induction ns with
  | nil => rfl
  | cons n r ih => rw [List.map_cons, List.flatMap_cons, ih]; rfl
def strOf (ns : List Int) : ByteArray := ns.foldl (fun r n => r.push (UInt8.ofNat n.toNat)) ByteArray.empty
def isU8 (P : Program) (t : TypeId) : Bool :=
  match P.underlying t with
  | some (.slice e) => (match P.underlying e with | some (.int .u8) => true | _ => false)
  | _ => false
def isRowT (P : Program) (t : TypeId) : Bool := match P.underlying t with | some (.slice _) => true | _ => false
def iconvm (P : Program) (s t : TypeId) (u : Value) (H : Heap) : Option (Value × Heap) :=
  if isU8 P s = true then
    match u with
    | .slice none 0 0 => if tKind P t = some .string then some (.string .empty, H) else none
    | .slice (some ⟨b, o, some sz⟩) len c =>
      if tKind P t = some .string then (if len = 0 then some (.string .empty, H) else if sz = 1 then ((H.row b o len).bind u8s).map fun ns => (.string (strOf ns), H) else none)
      else if s = t ∧ len ≠ 0 then (match H.get b with | some ⟨_, true⟩ => some (.slice (some ⟨b, o, some sz⟩) len c, H) | _ => none)
      else none
    | .func (.yield 1) ⟨xs⟩ ⟨[.int _ _]⟩ => if tKind P t = some .string then (u8s xs).map fun ns => (.string (strOf ns), H) else none
    | _ => none
  else none
theorem iconvm_same {P : Program} {s t : TypeId} {u v : Value} {H H' : Heap} (h : iconvm P s t u H = some (v, H')) : H' = H := by
  unfold iconvm at h
  split at h
  · split at h
    · split at h
      · cases h; rfl
      · cases h
    · split at h
      · split at h
        · cases h; rfl
        · split at h
          · obtain ⟨_, _, h⟩ := Option.map_eq_some_iff.mp h
            cases h; rfl
          · cases h
      · split at h
        · split at h
          · cases h; rfl
          · cases h
        · cases h
    · split at h
      · obtain ⟨_, _, h⟩ := Option.map_eq_some_iff.mp h
        cases h; rfl
      · cases h
    · cases h
  · cases h
theorem VRL.of_plain0s {ρ : Ren} : ∀ {ns : List Int} {l : List Value}, VRL ρ (ns.map (Value.int .u8)) l → l = ns.map (Value.int .u8)
  | [], l, h => by cases h; rfl
  | n :: r, l, h => by
    cases h with
    | cons h1 h2 => rw [h1.eq_of_plain0 rfl, VRL.of_plain0s h2]; rfl
theorem HR.mark {B : Nat} {w0 w : World} {ρ : Ren} {H : Heap} (h : HR B w0 ρ H w) {b : Nat} {k : Blk} {q s n : Nat} (hb : H.get b = some k) (hk : k.own = true) (e : ρ b = some (.lies q s n)) : HR B w0 ρ H (w.freeze ⟨q, n, none⟩ 1) := by
  obtain ⟨c, T, fr, hcell, hsz⟩ := h.size b q s n e
  obtain ⟨q1, s1, n1, e1, _, _, ho⟩ := h.live b k hb
  rw [e] at e1
  cases e1
  obtain ⟨hB, hfr⟩ := ho hk
  have hother : ∀ j, j ≠ q → (w.freeze ⟨q, n, none⟩ 1).heap[j]? = w.heap[j]? := fun j hj => by
    unfold World.freeze
    rw [if_neg (by decide)]
    simp only [Array.getElem?_modify, if_neg (Ne.symm hj)]
  have hsame : (w.freeze ⟨q, n, none⟩ 1).heap[q]? = some (.cells c T (if fr.1 == fr.2 then (n, n + 1) else (min fr.1 n, max fr.2 (n + 1)))) := by
    unfold World.freeze
    rw [if_neg (by decide)]
    simp only [Array.getElem?_modify, if_true, hcell, Option.map_some]
  have hsize : (w.freeze ⟨q, n, none⟩ 1).heap.size = w.heap.size := by
    unfold World.freeze
    rw [if_neg (by decide)]
    simp
  have hos : (w.freeze ⟨q, n, none⟩ 1).os = w.os ∧ (w.freeze ⟨q, n, none⟩ 1).tape = w.tape ∧ (w.freeze ⟨q, n, none⟩ 1).output = w.output := by
    unfold World.freeze
    rw [if_neg (by decide)]
    exact ⟨rfl, rfl, rfl⟩
  refine ⟨h.below.trans ⟨hos.1, hos.2.1, hos.2.2, by omega, fun j hj => hother j (by omega)⟩, by rw [hsize]; exact h.base, h.dom, fun b2 q2 s2 n2 e2 => ?_, fun b2 k2 hk2 => ?_, h.apart, fun q2 i v hf => ?_, h.off, fun t ht => ?_, h.pin⟩
  · by_cases hq : q2 = q
    · subst hq
      obtain ⟨c2, T2, fr2, hc2, hs2⟩ := h.size b2 q2 s2 n2 e2
      rw [hcell] at hc2; cases hc2
      exact ⟨_, _, _, hsame, hs2⟩
    · rw [hother q2 hq]; exact h.size b2 q2 s2 n2 e2
  · obtain ⟨q2, s2, n2, e2, hl2, hcs2, ho2⟩ := h.live b2 k2 hk2
    refine ⟨q2, s2, n2, e2, hl2, fun i v hi => ?_, fun hown => ⟨(ho2 hown).1, fun i hi => ?_⟩⟩
    · obtain ⟨v', h1, h2⟩ := hcs2 i v hi
      refine ⟨v', ?_, h2⟩
      by_cases hq : q2 = q
      · subst hq; simp only [World.cell?, hcell, hsame] at h1 ⊢; exact h1
      · simp only [World.cell?, hother q2 hq] at h1 ⊢; exact h1
    · by_cases hq : q2 = q
      · subst hq
        obtain ⟨c2, T2, fr2, hc2, hs2⟩ := h.size b2 q2 s2 n2 e2
        rw [hcell] at hc2; cases hc2
        have hn : n2 = n := by omega
        subst hn
        have hne : 0 < n2 := by omega
        have hf0 := (hfr 0 hne).2
        simp only [fence, hcell, decide_eq_true_eq] at hf0
        have hge : fr.1 = fr.2 ∨ n2 ≤ fr.1 := by
          rcases Nat.lt_or_ge fr.1 n2 with h5 | h5
          · have h6 := (hfr fr.1 h5).1
            simp only [World.frozen?, hcell, Bool.and_eq_false_iff, decide_eq_false_iff_not] at h6
            omega
          · exact .inr h5
        simp only [World.frozen?, fence, hsame, Bool.and_eq_false_iff, decide_eq_false_iff_not, decide_eq_true_eq]
        by_cases h7 : fr.1 = fr.2
        · rw [if_pos (by simpa using h7)]
          simp only
          omega
        · rw [if_neg (by simpa using h7)]
          simp only
          omega
      · have := (ho2 hown).2 i hi
        simp only [World.frozen?, fence, hother q2 hq] at this ⊢; exact this
  · have hf := h.fixed q2 i v hf
    by_cases hq : q2 = q
    · subst hq; simp only [World.cell?, hcell, hsame] at hf ⊢; exact hf
    · simp only [World.cell?, hother q2 hq] at hf ⊢; exact hf
  · obtain ⟨q', es, clk, e', c1, c2, c3⟩ := h.tabs t ht
    have hq : q' ≠ q := fun x => by rw [x, hcell] at c2; cases c2
    exact ⟨q', es, clk, e', c1, by rw [hother q' hq]; exact c2, c3⟩
theorem iconvm_sound {P : Program} {B : Nat} {w0 w : World} {ρ : Ren} {H H' : Heap} {s t : TypeId} {u u' v : Value} (hh : HR B w0 ρ H w) (hx : VR ρ u u') (hv : iconvm P s t u H = some (v, H')) :
    ∃ v' w', (convert s t u').run P w = .ok v' w' ∧ VR ρ v v' ∧ HR B w0 ρ H' w' := by
  unfold iconvm at hv
  split at hv
  · rename_i hu8
    unfold isU8 at hu8
    split at hu8
    · rename_i el hs
      split at hu8
      · rename_i he
        have strT : tKind P t = some .string → P.underlying t = some .string := fun hk => by
          unfold tKind at hk; split at hk <;> try (cases hk)
          assumption
        split at hv
        · obtain rfl := hx.eq_of_plain0 rfl
          split at hv
          · rename_i hk
            cases hv
            exact ⟨_, w, by rw [run_convert_bytes_string w s t el none 0 0 hs he (strT hk)]; rfl, .plain rfl, hh⟩
          · cases hv
        · rename_i b o sz len c
          split at hv
          · rename_i hk
            split at hv
            · rename_i hl
              cases hv
              subst hl
              have fin : ∀ (a : Addr) (c' : Nat), (convert s t (.slice (some a) 0 c')).run P w = .ok (.string .empty) w := fun a c' => by
                rw [run_convert_bytes_string w s t el (some a) 0 c' hs he (strT hk), run_bytesToString w a 0 c' [] rfl]
                rfl
              cases hx with
              | plain hp => simp [plain0] at hp
              | row h1 h2 h3 h4 => exact ⟨_, w, fin _ _, .plain rfl, hh⟩
              | away h1 h2 h3 => exact ⟨_, w, fin _ _, .plain rfl, hh⟩
            · rename_i hl
              split at hv
              · rename_i hz
                obtain ⟨ns, hns, hv⟩ := Option.map_eq_some_iff.mp hv
                cases hv
                obtain ⟨l, hrow, hns⟩ := Option.bind_eq_some_iff.mp hns
                have hl2 := u8s_spec hns
                subst hl2
                obtain ⟨hlen, q, s', n, e, l', hl', hc⟩ := hh.row hrow
                have hl3 := hl'.of_plain0s
                subst hl3
                cases hx with
                | plain hp => simp [plain0] at hp
                | row h1 h2 h3 h4 =>
                  rw [e] at h1
                  cases h1
                  refine ⟨_, w, ?_, .plain rfl, hh⟩
                  rw [run_convert_bytes_string w s t el _ len _ hs he (strT hk), run_bytesToString w _ len _ ns (run_loadCells_of (ns.map (Value.int .u8)) len hlen hc)]
                  rfl
                | away h1 h2 h3 => exact absurd rfl hl
              · cases hv
          · split at hv
            · rename_i hc
              obtain ⟨rfl, hl⟩ := hc
              split at hv
              · rename_i cs hg
                cases hv
                cases hx with
                | plain hp => simp [plain0] at hp
                | row h1 h2 h3 h4 =>
                  rename_i q s' n c'
                  obtain ⟨c0, T, fr, hcell, hsz⟩ := hh.size b q s' n h1
                  refine ⟨_, w.freeze ⟨q, n, none⟩ 1, ?_, .row h1 h2 h3 h4, hh.mark hg rfl h1⟩
                  have hshape : w.shape? q = some (T, n) := by unfold World.shape?; rw [hcell]; simp only [hsz]
                  simp [convert, run_underlying hs, run_underlying he, markStringish, hshape]
                | away h1 h2 h3 => exact absurd rfl hl
              · cases hv
            · cases hv
        · rename_i xs k m
          split at hv
          · rename_i hk
            obtain ⟨ns, hns, hv⟩ := Option.map_eq_some_iff.mp hv
            cases hv
            have hl2 := u8s_spec hns
            cases hx with
            | plain hp => simp [plain0] at hp
            | frow h1 h2 h3 =>
              obtain ⟨ys, a1, a2, a3⟩ := h1.flat
              rw [hl2, u8_flat] at a1
              have hl3 := a1.of_plain0s
              subst hl3
              refine ⟨_, w, ?_, .plain rfl, hh⟩
              rw [run_convert_bytes_string w s t el _ _ _ hs he (strT hk), run_bytesToString w _ _ _ ns (run_loadCells_of (ns.map (Value.int .u8)) _ (by rw [hl2]) (fun j v hj => hh.fixed _ _ _ (a3 j v hj)))]
              rfl
            | frow0 h3 =>
              cases ns with
              | nil =>
                refine ⟨_, w, ?_, .plain rfl, hh⟩
                rw [run_convert_bytes_string w s t el _ 0 _ hs he (strT hk), run_bytesToString w _ 0 _ [] rfl]
                rfl
              | cons n r => cases hl2
            | fnil h3 =>
              cases ns with
              | cons n r => cases hl2
              | nil => exact ⟨_, w, by rw [run_convert_bytes_string w s t el none 0 0 hs he (strT hk)]; rfl, .plain rfl, hh⟩
          · cases hv
        · cases hv
      · cases hu8
    · cases hu8
  · cases hv
end Go.Proofs.YtoecebibhcadoaaDoor.I
