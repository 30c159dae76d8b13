/- Bytes that are laid. No condition. -/
import Derived.Test.YtoecebibhcadoaaDoorGBytes
namespace Go.Proofs.YtoecebibhcadoaaDoor.I
open Go Go.RowKit
set_option linter.unusedVariables false
set_option linter.unusedSimpArgs false
def WrAt (H : Heap) (b : Nat) (r : Option Nat) (L : List Int) : Prop :=
  (r = none ∧ L = [] ∧ H.get b = some ⟨[.slice none 0 0], true⟩) ∨ ∃ q, r = some q ∧ q ≠ b ∧ H.get b = some ⟨[.slice (some ⟨q, 0, some 1⟩) L.length 1], true⟩ ∧ H.get q = some ⟨L.map (Value.int .u8), true⟩
structure Step (H K : Heap) (b : Nat) (r r' : Option Nat) : Prop where
  get : ∀ j, j < H.next → j ≠ b → r ≠ some j → K.get j = H.get j
  row : r' = r ∨ ∃ q, r' = some q ∧ H.next ≤ q
  next : H.next ≤ K.next
theorem Step.refl (H : Heap) (b : Nat) (r : Option Nat) : Step H H b r r := ⟨fun _ _ _ _ => rfl, .inl rfl, Nat.le_refl _⟩
theorem Step.trans {A B C : Heap} {b : Nat} {r s t : Option Nat} (h : Step A B b r s) (k : Step B C b s t) : Step A C b r t := by
  refine ⟨fun j hj hb hr => ?_, ?_, Nat.le_trans h.next k.next⟩
  · rw [k.get j (Nat.lt_of_lt_of_le hj h.next) hb, h.get j hj hb hr]
    rcases h.row with rfl | ⟨q, rfl, hq⟩
    · exact hr
    · intro e; cases e; omega
  · rcases k.row with rfl | ⟨q, rfl, hq⟩
    · exact h.row
    · exact .inr ⟨q, rfl, Nat.le_trans h.next hq⟩
theorem Step.lit (H : Heap) (b : Nat) (r : Option Nat) (cs : List Value) : Step H ((H.alloc cs).kill H.next) b r r :=
  ⟨fun j hj _ _ => by rw [get_kill, if_neg (by omega), Heap.get_alloc_lt _ _ _ hj], .inl rfl, by rw [next_kill, next_alloc]; omega⟩
theorem WrAt.lt {H : Heap} {b : Nat} {r : Option Nat} {L : List Int} (h : WrAt H b r L) : b < H.next ∧ ∀ q, r = some q → q < H.next := by
  rcases h with ⟨rfl, _, hg⟩ | ⟨q, rfl, _, hg, hq⟩
  · exact ⟨Heap.lt_of_get hg, fun q h => by cases h⟩
  · exact ⟨Heap.lt_of_get hg, fun q' h => by cases h; exact Heap.lt_of_get hq⟩
theorem WrAt.same {H K : Heap} {b : Nat} {r : Option Nat} {L : List Int} (h : WrAt H b r L) (hs : ∀ j, j < H.next → K.get j = H.get j) : WrAt K b r L := by
  have hl := h.lt
  rcases h with ⟨rfl, rfl, hg⟩ | ⟨q, rfl, hne, hg, hq⟩
  · exact .inl ⟨rfl, rfl, by rw [hs b hl.1]; exact hg⟩
  · exact .inr ⟨q, rfl, hne, by rw [hs b hl.1]; exact hg, by rw [hs q (hl.2 q rfl)]; exact hq⟩
theorem WrAt.lit {H : Heap} {b : Nat} {r : Option Nat} {L : List Int} (h : WrAt H b r L) (cs : List Value) : WrAt ((H.alloc cs).kill H.next) b r L :=
  h.same fun j hj => by rw [get_kill, if_neg (by omega), Heap.get_alloc_lt _ _ _ hj]
theorem wLay (H : Heap) (b : Nat) (r : Option Nat) (L M : List Int) (m : Int) (hw : WrAt H b r L) (hl : L.length + M.length ≤ 1000000) :
    ICalls Tryd.prog 44 [ptrTo b 0, frow 1 m (M.map (Value.int .u8))] H fun v H' => v = ptrTo b 0 ∧ ∃ r', WrAt H' b r' (L ++ M) ∧ Step H H' b r r' := by
  have hlt := hw.lt
  obtain ⟨u, hg, hb, hu⟩ : ∃ u, H.get b = some ⟨[u], true⟩ ∧ Bld 1 H 0 u (L.map (Value.int .u8)) ∧ (∀ o s l c, u ≠ .slice (some ⟨b, o, s⟩) l c) := by
    rcases hw with ⟨rfl, rfl, hg⟩ | ⟨q, rfl, hne, hg, hq⟩
    · exact ⟨_, hg, Bld.nil 1 H 0, by simp⟩
    · exact ⟨_, hg, ⟨map_sz .u8 _, .inr ⟨q, Nat.zero_le _, by simp, by rw [map_flat]; exact hq⟩⟩, fun o s l c e => by cases e; exact hne rfl⟩
  obtain ⟨v, K, e, b1, b2, b3, b4, b5⟩ := app_own (P := Tryd.prog) (t := 23) (e := 5) (sz := 1) (by_ := 1) (z := .int .u8 0) (ws := M.map (Value.int .u8)) (x := frow 1 m (M.map (Value.int .u8))) (by kernel_rfl) (by kernel_rfl) (by kernel_rfl) (by kernel_rfl) rfl hb (map_sz .u8 _) (by simp [irow_frow]) (by rw [map_flat]; exact map_one .u8 _) (Nat.zero_le _) (by simp; omega) (by simp; omega)
  have hkb := b4 b hlt.1 hu
  rw [hg] at hkb
  have hstep : ∀ v r', (r' = r ∨ ∃ q, r' = some q ∧ H.next ≤ q) → Step H (K.set b [v]) b r r' := fun v r' hr => ⟨fun j hj hb hrj => by
    rw [get_set, if_neg hb]
    refine b4 j hj fun o s l c hu => ?_
    rcases hw with ⟨rfl, rfl, hg2⟩ | ⟨q, rfl, hne, hg2, hq⟩
    · rw [hg] at hg2; cases hg2; cases hu
    · rw [hg] at hg2; cases hg2; cases hu; exact hrj rfl, hr, by rw [next_set]; exact b3⟩
  refine IBody.calls (by kernel_rfl) ?_
  rcases b1 with ⟨_, ⟨rfl, hn⟩ | ⟨q, _, rfl, hq⟩⟩
  · have hL : L = [] ∧ M = [] := by simpa using hn
    obtain ⟨rfl, rfl⟩ := hL
    have hr : r = none := by
      rcases hw with ⟨rfl, _⟩ | ⟨q, rfl, hne, hg2, hq⟩
      · rfl
      · rcases b5 with ⟨h, _, _⟩ | h
        · rw [hg] at hg2; cases hg2; cases h
        · cases h
    simp only [List.map_nil] at e
    refine IBody.of Tryd.func44 rfl (by rw [Tryd.ntmps44]; simp) ?_
    rw [Tryd.ntmps44]
    have Kp : Kept [[0,1],[0,1,6],[],[0],[4],[]] := ⟨⟩
    iterate 6 (refine Kp.s ?_; clear Kp; intro Kp; simp [go_sem, -getElem?_pos, -List.map_take, -List.map_drop, IntWalk.iteOmega, IntWalk.toNatUp, hg, e, hkb])
    exact ⟨r, .inl ⟨hr, rfl, by simp [get_set, hkb]⟩, hstep _ _ (.inl rfl)⟩
  · rw [← List.map_append, map_flat] at hq
    have hrow : (some q = r ∧ q ≠ b) ∨ q = H.next := by
      rcases b5 with ⟨h, rfl, _⟩ | h
      · rcases hw with ⟨rfl, rfl, hg2⟩ | ⟨q2, rfl, hne, hg2, hq2⟩
        · rw [hg] at hg2; cases hg2; cases h
        · rw [hg] at hg2
          simp only [Option.some.injEq, Blk.mk.injEq, List.cons.injEq, and_true] at hg2
          rw [hg2] at h
          simp only [Value.slice.injEq, Option.some.injEq, Addr.mk.injEq] at h
          exact .inl ⟨by rw [h.1.1], by rw [h.1.1]; exact hne⟩
      · simp only [Value.slice.injEq, Option.some.injEq, Addr.mk.injEq] at h
        exact .inr h.1.1
    have hqb : q ≠ b := by
      rcases hrow with ⟨_, h⟩ | h
      · exact h
      · have := hlt.1; omega
    refine IBody.of Tryd.func44 rfl (by rw [Tryd.ntmps44]; simp) ?_
    rw [Tryd.ntmps44]
    have Kp : Kept [[0,1],[0,1,6],[],[0],[4],[]] := ⟨⟩
    iterate 6 (refine Kp.s ?_; clear Kp; intro Kp; simp [go_sem, -getElem?_pos, -List.map_take, -List.map_drop, IntWalk.iteOmega, IntWalk.toNatUp, hg, e, hkb])
    refine ⟨some q, .inr ⟨q, rfl, hqb, by simp [get_set, hkb], by rw [get_set, if_neg hqb, hq]⟩, hstep _ _ ?_⟩
    rcases hrow with ⟨h, _⟩ | h
    · exact .inl h
    · exact .inr ⟨_, rfl, by omega⟩
theorem wLit (H : Heap) (b : Nat) (r : Option Nat) (L M : List Int) (hw : WrAt H b r L) (hl : L.length + M.length ≤ 1000000) (cs : List Value) (hc : cs = M.map (Value.int .u8)) (n : Nat) (hn : M.length = n) :
    ICalls Tryd.prog 44 [ptrTo b 0, .slice (some ⟨H.next, 0, some 1⟩) n 1] (H.alloc cs) fun v H' => v = ptrTo b 0 ∧ ∃ r', WrAt H' b r' (L ++ M) ∧ Step H H' b r r' := by
  subst hc hn
  refine ICalls.freeze1 H.next (.cons (.same _) (.cons (frz_lit (M.map (Value.int .u8)) (Heap.get_alloc_new _ _) (map_flat _ _) (map_sz .u8 _) (by simp) (by simp)) .nil)) ((wLay _ b r L M 0 (hw.lit _) hl).mono fun v H' ⟨h1, r', h2, h3⟩ => ⟨h1, r', h2, (Step.lit H b r _).trans h3⟩)
theorem wByte (H : Heap) (b : Nat) (r : Option Nat) (L : List Int) (x : Int) (hw : WrAt H b r L) (hl : L.length ≤ 900000) :
    ICalls Tryd.prog 22 [ptrTo b 0, .int .u8 x] H fun v H' => v = ptrTo b 0 ∧ ∃ r', WrAt H' b r' (L ++ [x]) ∧ Step H H' b r r' := by
  have c1 := wLit H b r L [x] hw (by simp; omega) _ rfl 1 rfl
  refine IBody.calls (by kernel_rfl) ?_
  refine IBody.of Tryd.func22 rfl (by rw [Tryd.ntmps22]; simp) ?_
  rw [Tryd.ntmps22]
  have Kp : Kept [[0,1],[4]] := ⟨⟩
  iterate 2 (refine Kp.s ?_; clear Kp; intro Kp; simp [go_sem, -getElem?_pos, -List.map_take, -List.map_drop, IntWalk.iteOmega, IntWalk.toNatUp])
  refine ICalls.mono (c1) ?_
  rintro v H1 ⟨rfl, h1⟩
  try simp [go_sem, -getElem?_pos, -List.map_take, -List.map_drop, IntWalk.iteOmega, IntWalk.toNatUp]
  refine IWp.one [] ?_
  simp [go_sem, -getElem?_pos, -List.map_take, -List.map_drop, IntWalk.iteOmega, IntWalk.toNatUp]
  exact h1
theorem wFlag (H : Heap) (b : Nat) (r : Option Nat) (L : List Int) (x : Bool) (hw : WrAt H b r L) (hl : L.length ≤ 900000) :
    ICalls Tryd.prog 33 [ptrTo b 0, .bool x] H fun v H' => v = ptrTo b 0 ∧ ∃ r', WrAt H' b r' (L ++ [if x then 1 else 0]) ∧ Step H H' b r r' := by
  have c1 := wLit H b r L [1] hw (by simp; omega) _ rfl 1 rfl
  have c2 := wLit H b r L [0] hw (by simp; omega) _ rfl 1 rfl
  refine IBody.calls (by kernel_rfl) ?_
  cases x with
  | true =>
    refine IBody.of Tryd.func33 rfl (by rw [Tryd.ntmps33]; simp) ?_
    rw [Tryd.ntmps33]
    have Kp : Kept [[0,1],[0,5],[],[4]] := ⟨⟩
    iterate 4 (refine Kp.s ?_; clear Kp; intro Kp; simp [go_sem, -getElem?_pos, -List.map_take, -List.map_drop, IntWalk.iteOmega, IntWalk.toNatUp])
    refine ICalls.mono (c1) ?_
    rintro v H1 ⟨rfl, h1⟩
    try simp [go_sem, -getElem?_pos, -List.map_take, -List.map_drop, IntWalk.iteOmega, IntWalk.toNatUp]
    refine IWp.one [] ?_
    simp [go_sem, -getElem?_pos, -List.map_take, -List.map_drop, IntWalk.iteOmega, IntWalk.toNatUp]
    exact h1
  | false =>
    refine IBody.of Tryd.func33 rfl (by rw [Tryd.ntmps33]; simp) ?_
    rw [Tryd.ntmps33]
    have Kp : Kept [[0,1],[0,5],[],[0],[4]] := ⟨⟩
    iterate 5 (refine Kp.s ?_; clear Kp; intro Kp; simp [go_sem, -getElem?_pos, -List.map_take, -List.map_drop, IntWalk.iteOmega, IntWalk.toNatUp])
    refine ICalls.mono (c2) ?_
    rintro v H1 ⟨rfl, h1⟩
    try simp [go_sem, -getElem?_pos, -List.map_take, -List.map_drop, IntWalk.iteOmega, IntWalk.toNatUp]
    refine IWp.one [] ?_
    simp [go_sem, -getElem?_pos, -List.map_take, -List.map_drop, IntWalk.iteOmega, IntWalk.toNatUp]
    exact h1
def i4 (n : Int) : List Int := [n / 16777216 % 256, n / 65536 % 256, n / 256 % 256, n % 256]
theorem i4_bs (n : Int) : Bs (i4 n) := fun x hx => by simp [i4] at hx; omega
theorem u8_mod (n : Int) : IntKind.u8.wrap n = n % 256 := by rw [IntKind.wrap_u8]
theorem wInt (H : Heap) (b : Nat) (r : Option Nat) (L : List Int) (x : Int) (hw : WrAt H b r L) (hl : L.length ≤ 900000) :
    ICalls Tryd.prog 25 [ptrTo b 0, .int .i64 x] H fun v H' => v = ptrTo b 0 ∧ ∃ r', WrAt H' b r' (L ++ i4 x) ∧ Step H H' b r r' := by
  have c1 := wLit H b r L (i4 x) hw (by simp [i4]; omega) _ rfl 4 rfl
  simp only [i4, List.map_cons, List.map_nil] at c1
  refine IBody.calls (by kernel_rfl) ?_
  refine IBody.of Tryd.func25 rfl (by rw [Tryd.ntmps25]; simp) ?_
  rw [Tryd.ntmps25]
  have Kp : Kept [[0,1],[4]] := ⟨⟩
  iterate 2 (refine Kp.s ?_; clear Kp; intro Kp; simp [go_sem, -getElem?_pos, -List.map_take, -List.map_drop, IntWalk.iteOmega, IntWalk.toNatUp, u8_mod, Int.fdiv_eq_ediv_of_nonneg])
  refine ICalls.mono (c1) ?_
  rintro v H1 ⟨rfl, h1⟩
  try simp [go_sem, -getElem?_pos, -List.map_take, -List.map_drop, IntWalk.iteOmega, IntWalk.toNatUp, u8_mod, Int.fdiv_eq_ediv_of_nonneg]
  refine IWp.one [] ?_
  simp [go_sem, -getElem?_pos, -List.map_take, -List.map_drop, IntWalk.iteOmega, IntWalk.toNatUp, u8_mod, Int.fdiv_eq_ediv_of_nonneg]
  exact h1
def WrV (H : Heap) (b : Nat) (L : List Int) : Prop :=
  ∃ ob, (L = [] ∧ H.get b = some ⟨[.slice none 0 0], ob⟩) ∨ ∃ q oq, H.get b = some ⟨[.slice (some ⟨q, 0, some 1⟩) L.length 1], ob⟩ ∧ H.get q = some ⟨L.map (Value.int .u8), oq⟩
theorem WrAt.wrv {H : Heap} {b : Nat} {r : Option Nat} {L : List Int} (h : WrAt H b r L) : WrV H b L := by
  rcases h with ⟨_, h1, h2⟩ | ⟨q, _, _, h1, h2⟩
  · exact ⟨true, .inl ⟨h1, h2⟩⟩
  · exact ⟨true, .inr ⟨q, true, h1, h2⟩⟩
theorem WrV.ro {H : Heap} {b : Nat} {L : List Int} (h : WrV H b L) : WrV H.ro b L := by
  obtain ⟨ob, ⟨h1, h2⟩ | ⟨q, oq, h1, h2⟩⟩ := h
  · exact ⟨false, .inl ⟨h1, by simp [Heap.ro, h2]⟩⟩
  · exact ⟨false, .inr ⟨q, false, by simp [Heap.ro, h1], by simp [Heap.ro, h2]⟩⟩
theorem wBytes_own (H : Heap) (b : Nat) (L : List Int) (hw : WrV H b L) (hl : L.length ≤ 1000000) :
    ICalls Tryd.prog 35 [ptrTo b 0] H fun v H' => Bld 1 H' H.next v (L.map (Value.int .u8)) ∧ Old H H' := by
  refine IBody.calls (by kernel_rfl) ?_
  obtain ⟨ob, ⟨rfl, h2⟩ | ⟨q, oq, h1, h2⟩⟩ := hw
  · have c1 := ICalls.as (.cons (.nil 1) .nil) (clone_own H 0 [] (by simp))
    refine IBody.of Tryd.func35 rfl (by rw [Tryd.ntmps35]; simp) ?_
    rw [Tryd.ntmps35]
    have Kp : Kept [[0],[0,4],[],[0],[2]] := ⟨⟩
    iterate 5 (refine Kp.s ?_; clear Kp; intro Kp; simp [go_sem, -getElem?_pos, -List.map_take, -List.map_drop, IntWalk.iteOmega, IntWalk.toNatUp, h2])
    refine ICalls.mono (c1) ?_
    rintro v H1 h
    try simp [go_sem, -getElem?_pos, -List.map_take, -List.map_drop, IntWalk.iteOmega, IntWalk.toNatUp, h2]
    refine IWp.one [] ?_
    simp [go_sem, -getElem?_pos, -List.map_take, -List.map_drop, IntWalk.iteOmega, IntWalk.toNatUp, h2]
    exact h
  · have c1 := clone_blk H q oq L hl h2
    refine IBody.of Tryd.func35 rfl (by rw [Tryd.ntmps35]; simp) ?_
    rw [Tryd.ntmps35]
    have Kp : Kept [[0],[0,4],[],[0],[2]] := ⟨⟩
    iterate 5 (refine Kp.s ?_; clear Kp; intro Kp; simp [go_sem, -getElem?_pos, -List.map_take, -List.map_drop, IntWalk.iteOmega, IntWalk.toNatUp, h1])
    refine ICalls.mono (c1) ?_
    rintro v H1 h
    try simp [go_sem, -getElem?_pos, -List.map_take, -List.map_drop, IntWalk.iteOmega, IntWalk.toNatUp, h1]
    refine IWp.one [] ?_
    simp [go_sem, -getElem?_pos, -List.map_take, -List.map_drop, IntWalk.iteOmega, IntWalk.toNatUp, h1]
    exact h
theorem wBytes (H : Heap) (b : Nat) (L : List Int) (hw : WrV H b L) (hl : L.length ≤ 1000000) :
    ICalls Tryd.prog 35 [ptrTo b 0] H fun v H' => v = byts L ∧ H' = H :=
  ICalls.pure ((wBytes_own H.ro b L hw.ro hl).mono fun v H' h => ⟨_, h.1.frz, by simp [go_sem], rfl⟩)
theorem refFlag (H : Heap) (x : Bool) : ICalls Tryd.prog 40 [.bool x] H fun v H' => v = .int .u8 (if x then 1 else 0) ∧ H' = H := by
  refine IBody.calls (by kernel_rfl) ?_
  cases x with
  | true =>
    refine IBody.of Tryd.func40 rfl (by rw [Tryd.ntmps40]; simp) ?_
    rw [Tryd.ntmps40]
    have Kp : Kept [[0],[3],[],[2],[]] := ⟨⟩
    iterate 5 (refine Kp.s ?_; clear Kp; intro Kp; simp [go_sem, -getElem?_pos, -List.map_take, -List.map_drop, IntWalk.iteOmega, IntWalk.toNatUp])
  | false =>
    refine IBody.of Tryd.func40 rfl (by rw [Tryd.ntmps40]; simp) ?_
    rw [Tryd.ntmps40]
    have Kp : Kept [[0],[3],[],[],[2],[]] := ⟨⟩
    iterate 6 (refine Kp.s ?_; clear Kp; intro Kp; simp [go_sem, -getElem?_pos, -List.map_take, -List.map_drop, IntWalk.iteOmega, IntWalk.toNatUp])
theorem i4_ref (n : Int) (h : -9223372036854775808 ≤ n ∧ n < 9223372036854775808) : ∃ x : Int, IntKind.u32.wrap ((IntKind.u64.wrap n).tmod 4294967296) = x ∧ 0 ≤ x ∧ x < 4294967296 ∧ [x / 16777216, x / 65536 % 256, x / 256 % 256, x % 256] = i4 n := by
  have e : IntKind.u64.wrap n = n % 18446744073709551616 := by simp [IntKind.wrap, IntKind.bits, IntKind.signed]
  refine ⟨n % 4294967296, ?_, by omega, by omega, ?_⟩
  · rw [e, Int.tmod_eq_emod_of_nonneg (by omega), IntWalk.u32_in _ (by omega)]; omega
  · simp only [i4, List.cons.injEq, and_true]; omega
theorem refInt (H : Heap) (n : Int) (hn : -9223372036854775808 ≤ n ∧ n < 9223372036854775808) : ICalls Tryd.prog 39 [.int .i64 n] H fun v H' => v = byts (i4 n) ∧ H' = H := by
  obtain ⟨x, h1, h2, h3, h4⟩ := i4_ref n hn
  refine ICalls.ans (by simp [go_sem]) fun H => IBody.calls (by kernel_rfl) ?_
  have t0 : x.tdiv 16777216 = x / 16777216 := Int.tdiv_eq_ediv_of_nonneg (by omega)
  have t1 : x.tdiv 65536 = x / 65536 := Int.tdiv_eq_ediv_of_nonneg (by omega)
  have t2 : x.tdiv 256 = x / 256 := Int.tdiv_eq_ediv_of_nonneg (by omega)
  have m1 : (x / 65536).tmod 256 = x / 65536 % 256 := Int.tmod_eq_emod_of_nonneg (by omega)
  have m2 : (x / 256).tmod 256 = x / 256 % 256 := Int.tmod_eq_emod_of_nonneg (by omega)
  have m3 : x.tmod 256 = x % 256 := Int.tmod_eq_emod_of_nonneg (by omega)
  have w0 := IntWalk.u32_in (x / 16777216) (by omega)
  have w1 := IntWalk.u32_in (x / 65536) (by omega)
  have w2 := IntWalk.u32_in (x / 256) (by omega)
  have v0 := IntWalk.u8_in (x / 16777216) (by omega)
  have v1 := IntWalk.u8_in (x / 65536 % 256) (by omega)
  have v2 := IntWalk.u8_in (x / 256 % 256) (by omega)
  have v3 := IntWalk.u8_in (x % 256) (by omega)
  refine IBody.of Tryd.func39 rfl (by rw [Tryd.ntmps39]; simp) ?_
  rw [Tryd.ntmps39]
  have Kp : Kept [[0],[3],[2],[]] := ⟨⟩
  iterate 4 (refine Kp.s ?_; clear Kp; intro Kp; simp [go_sem, -getElem?_pos, -List.map_take, -List.map_drop, IntWalk.iteOmega, IntWalk.toNatUp, h1, t0, t1, t2, m1, m2, m3, w0, w1, w2, v0, v1, v2, v3])
  rw [← h4]
  exact frz_lit ([x / 16777216, x / 65536 % 256, x / 256 % 256, x % 256].map (Value.int .u8)) (by simp [go_sem]) rfl (map_sz .u8 _) rfl (by simp)
end Go.Proofs.YtoecebibhcadoaaDoor.I
