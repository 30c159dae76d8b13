/- What a wheel's Due answers, on the ideal heap. No condition. -/
import Derived.Test.YtdimnoeldnfikaaGWheel
namespace Go.Proofs.Ytdimnoeldnfikaa.I
open Go Go.RowKit Go.Maps
set_option linter.unusedVariables false
set_option linter.unusedSimpArgs false

/-- What is due at a time, in order. -/
structure DueL (D : Dat) (now : Int) (ks : List Int) : Prop where
  nd : ks.Nodup
  mem : ∀ x, x ∈ ks ↔ (Maps.has D (.int .i64 x) = true ∧ atI D x ≤ now)
  wf : ∀ x ∈ ks, (Lit.int .i64 x).wf = true
  ord : ks.Pairwise fun x y => dueLt D y x = false

theorem dueW (H : Heap) (b t n : Nat) (D : Dat) (now : Int) (hb : H.get b = some ⟨[.map (some t)], true⟩) (ht : H.tab = some (wTab t n D)) (hn : n ≤ 1000000) :
    ICalls Try.prog 18 [ptrTo b 0, .int .i64 now] H fun u H' => ∃ ks, u = frow 1 0 (ks.map (Value.int .i64)) ∧ DueL D now ks ∧ ks.length ≤ n ∧ H' = H.setTab (some (wTab t n (delL D ks))) := by
  refine IBody.calls (by kernel_rfl) ?_
  intro B w0 ρ args' w hh hargs
  obtain ⟨args⟩ := args'
  have hargs' : VRL ρ [ptrTo b 0, .int .i64 now] args := hargs
  cases hargs' with
  | cons hp h2 =>
  cases h2 with
  | cons hx h3 =>
  cases h3
  obtain ⟨q, s, r, rfl, c0, hr, hown⟩ := hh.wheel hb ht hp
  rw [vr_int hx]
  refine (wDue q s r n D now w c0 hown hn).mono ?_
  rintro e w' ⟨ks, v, rfl, k1, k2, k3, k4, k5, k6, k7, k8⟩
  have hh' := hh.turn ht hr k7 k6
  rcases k8 with ⟨rfl, rfl⟩ | ⟨g, cap, rfl, hc, hg, hcell⟩
  · exact ⟨ρ, frow 1 0 [], _, _, rfl, ⟨[], rfl, ⟨k1, k2, k3, k4⟩, k5, rfl⟩, .fnil (by decide), hh', Ren.Le.refl _, Nat.le_refl _⟩
  · have hle : Ren.Le B ρ ⟨ρ.to, fun q i v => ρ.fix q i v ∨ (q = g ∧ w'.cell? ⟨g, i, none⟩ = some v)⟩ :=
      ⟨fun _ _ e => e, fun _ _ _ e => .inl e, fun q i v e => e.imp id fun e => by rw [e.1]; exact Nat.le_trans hh.base hg⟩
    refine ⟨⟨ρ.to, fun q i v => ρ.fix q i v ∨ (q = g ∧ w'.cell? ⟨g, i, none⟩ = some v)⟩, frow 1 0 (ks.map (Value.int .i64)), _, _, rfl, ⟨ks, rfl, ⟨k1, k2, k3, k4⟩, k5, rfl⟩, ?_, ⟨hh'.below, hh'.base, hh'.dom, hh'.size, fun b k hk => ?_, hh'.apart, fun q i v hf => ?_, fun b k q s n hk ho e i v hf => ?_, hh'.tabs⟩, hle, Nat.le_refl _⟩
    · have hv : VRE ⟨ρ.to, fun q i v => ρ.fix q i v ∨ (q = g ∧ w'.cell? ⟨g, i, none⟩ = some v)⟩ 1 g 0 (ks.map (Value.int .i64)) := VRE.of_get fun i x hx => by
        rw [List.getElem?_map, Option.map_eq_some_iff] at hx
        obtain ⟨y, hy, rfl⟩ := hx
        refine ⟨[.int .i64 y], VRL.of_plain0 rfl, rfl, fun j z hz => ?_⟩
        match j with
        | 0 =>
          simp at hz; subst hz
          refine .inr ⟨rfl, ?_⟩
          have := hcell i y hy
          simpa using this
        | j + 1 => simp at hz
      have := VR.frow (m := 0) hv (c' := cap) (by simpa using hc) (fun h => by cases h)
      simpa [frow] using this
    · obtain ⟨q, s, n', e, hl, hcs, ho⟩ := hh'.live b k hk
      exact ⟨q, s, n', e, hl, fun i v hv => let ⟨v', a, c⟩ := hcs i v hv; ⟨v', a, c.mono hle⟩, ho⟩
    · rcases hf with hf | ⟨rfl, hf⟩
      · exact hh'.fixed q i v hf
      · exact hf
    · rcases hf with hf | ⟨rfl, hf⟩
      · exact hh'.off b k q s n hk ho e i v hf
      · have := lt_of_size hh e; omega

end Go.Proofs.Ytdimnoeldnfikaa.I
