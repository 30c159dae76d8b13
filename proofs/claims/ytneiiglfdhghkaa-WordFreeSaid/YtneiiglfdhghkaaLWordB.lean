/- The laws of words that lay and read again: their bodies. No condition. -/
import Derived.Test.YtneiiglfdhghkaaLWord
import Derived.Test.YtneiiglfdhghkaaILaw
namespace Go.Proofs.Ytneiiglfdhghkaa.I
open Go Go.RowKit
set_option linter.unusedVariables false
set_option linter.unusedSimpArgs false

structure Item where
  k : Int
  n : Int
def Item.cells (x : Item) : List Value := [.int .u8 x.k, .int .i64 x.n]
def Item.val (x : Item) : Value := .agg ⟨x.cells⟩
theorem Item.val_cells (x : Item) : x.val.cells = ⟨x.cells⟩ := rfl
def Item.wf (x : Item) : Prop := (0 ≤ x.k ∧ x.k < 256) ∧ (-9223372036854775808 ≤ x.n ∧ x.n < 9223372036854775808)
theorem Item.cl (x : Item) : ClL x.cells := by
  simp [Item.cells, ClL_cons, ClL_nil, ClL_append, Cl_int, Cl_bool, Cl_string, cl_ints, Cl_frow_map]
theorem Item.cl_row (sz : Nat) (m : Int) (L : List Item) : Cl (frow sz m (L.map Item.val)) = True := by
  rw [Cl_frow_map]; simp [Item.val_cells, Item.cl]
theorem Item.cl_val (x : Item) : Cl x.val = True := by
  unfold Item.val; rw [Cl_agg]; simp [Item.cl]
def Item.ty : Ty := .recd [.int .u8, .int .i64]
theorem Item.ofLay {d : Dt} {cs : List Value} (h : Lay Item.ty d cs) : ∃ x : Item, cs = x.cells ∧ x.wf := by
  cases h with
  | recd h =>
    obtain _ | ⟨h0, h⟩ := h
    obtain _ | ⟨h1, h⟩ := h
    cases h
    obtain ⟨a0, rfl, w0⟩ := lay_int h0
    obtain ⟨a1, rfl, w1⟩ := lay_int h1
    exact ⟨⟨a0, a1⟩, by simp [Item.cells], ⟨wf_u8 w0, wf_i64 w1⟩⟩
theorem Item.ofLayS : ∀ {xs : List Dt} {vs : List Value}, LayS Item.ty xs vs → ∃ L : List Item, vs = L.map Item.val ∧ ∀ x ∈ L, x.wf
  | _, _, .nil _ => ⟨[], rfl, fun _ h => (by cases h)⟩
  | _, _, .one hr _ _ => by cases hr
  | _, _, .recs hr h hs => by
    obtain ⟨x, rfl, hx⟩ := Item.ofLay h
    obtain ⟨L, rfl, hw⟩ := Item.ofLayS hs
    exact ⟨x :: L, rfl, fun y hy => by
      rcases List.mem_cons.1 hy with rfl | hy
      · exact hx
      · exact hw y hy⟩
theorem Item.ofV {d : Dt} {v : Value} (h : LayV Item.ty d v) : ∃ x : Item, v = x.val ∧ x.wf := by
  obtain ⟨cs, rfl, h2⟩ := layV_rec h
  obtain ⟨x, rfl, hx⟩ := Item.ofLay h2
  exact ⟨x, rfl, hx⟩
theorem Item.ofRow {d : Dt} {v : Value} {k : Nat} (h : LayV (.row Item.ty k) d v) : ∃ L : List Item, v = frow k 0 (L.map Item.val) ∧ (∀ x ∈ L, x.wf) ∧ L.length ≤ maxLen := by
  obtain ⟨xs, vs, rfl, hs, hl⟩ := layV_row h
  obtain ⟨L, rfl, hw⟩ := Item.ofLayS hs
  exact ⟨L, rfl, hw, by simpa using hl⟩

def Item.bytes (x : Item) : List Int := if x.k % 3 = 0 then [x.n % 256] else if x.k % 3 = 1 then [if 0 < x.n then 1 else 0] else i4 x.n
def layB (L : List Item) : List Int := L.flatMap Item.bytes
theorem layB_take (L : List Item) (i : Nat) (h : i < L.length) : layB (L.take (i + 1)) = layB (L.take i) ++ L[i].bytes := by
  unfold layB; rw [List.take_succ_eq_append_getElem h, List.flatMap_append]; simp
theorem Item.bytes_len (x : Item) : x.bytes.length ≤ 4 := by
  unfold Item.bytes; split
  · simp
  · split
    · simp
    · simp [i4]
theorem layB_len (L : List Item) : (layB L).length ≤ 4 * L.length := by
  induction L with
  | nil => simp [layB]
  | cons x L ih =>
    have h : layB (x :: L) = x.bytes ++ layB L := by simp [layB]
    have := x.bytes_len
    rw [h, List.length_append, List.length_cons]; omega
theorem Item.bytes_bs (x : Item) : Bs x.bytes := by
  unfold Item.bytes; split
  · intro y hy; simp at hy; omega
  · split
    · intro y hy; simp at hy; split at hy <;> omega
    · exact i4_bs _
theorem layB_bs (L : List Item) : Bs (layB L) := fun y hy => by
  obtain ⟨x, _, hx⟩ := List.mem_flatMap.1 hy
  exact x.bytes_bs y hx

/-- A writer and an own row beside it. -/
structure Two (K : Heap) (b : Nat) (r : Option Nat) (v : Value) (X Y : List Int) : Prop where
  w : WrAt K b r X
  p : Bld 1 K (b + 1) v (Y.map (Value.int .u8))
  sep : ∀ q, r = some q → ∀ o s l c, v ≠ .slice (some ⟨q, o, s⟩) l c

theorem Bld.block {sz : Nat} {H : Heap} {n : Nat} {v : Value} {us : List Value} (h : Bld sz H n v us) {q o l c : Nat} {s : Option Nat} (e : v = .slice (some ⟨q, o, s⟩) l c) : n ≤ q ∧ q < H.next := by
  rcases h.2 with ⟨rfl, _⟩ | ⟨b, h1, rfl, h3⟩
  · cases e
  · cases e; exact ⟨h1, Heap.lt_of_get h3⟩

theorem Two.lay {K K1 : Heap} {b : Nat} {r r1 : Option Nat} {v : Value} {X X' Y : List Int} (h : Two K b r v X Y) (hw : WrAt K1 b r1 X') (s : Step K K1 b r r1) : Two K1 b r1 v X' Y := by
  refine ⟨hw, ⟨h.p.1, h.p.2.imp id ?_⟩, ?_⟩
  · rintro ⟨j, h1, h2, h3⟩
    exact ⟨j, h1, h2, by rw [s.get j (Heap.lt_of_get h3) (by omega) (fun hr => h.sep j hr _ _ _ _ h2)]; exact h3⟩
  · intro q hq o s' l c e
    have hb := h.p.block e
    rcases s.row with rfl | ⟨q', rfl, hq'⟩
    · exact h.sep q hq _ _ _ _ e
    · cases hq; omega

theorem Two.app {K K2 : Heap} {b : Nat} {r : Option Nat} {v v2 : Value} {X Y Y' : List Int} (h : Two K b r v X Y) (hp : Bld 1 K2 (b + 1) v2 (Y'.map (Value.int .u8))) (hf : ∀ j, j < K.next → (∀ o s l c, v ≠ .slice (some ⟨j, o, s⟩) l c) → K2.get j = K.get j)
    (hv : v2 = v ∨ ∃ q l, K.next ≤ q ∧ v2 = .slice (some ⟨q, 0, some 1⟩) l 1) : Two K2 b r v2 X Y' := by
  have hlt := h.w.lt
  have hb : ∀ o s l c, v ≠ .slice (some ⟨b, o, s⟩) l c := fun o s l c e => by have := (h.p.block e).1; omega
  refine ⟨?_, hp, fun q hq o s l c e => ?_⟩
  · rcases h.w with ⟨rfl, rfl, hg⟩ | ⟨q, rfl, hne, hg, hq⟩
    · exact .inl ⟨rfl, rfl, by rw [hf b hlt.1 hb]; exact hg⟩
    · exact .inr ⟨q, rfl, hne, by rw [hf b hlt.1 hb]; exact hg, by rw [hf q (hlt.2 q rfl) (h.sep q rfl)]; exact hq⟩
  · rcases hv with rfl | ⟨q', l', h1, rfl⟩
    · exact h.sep q hq _ _ _ _ e
    · cases e; have := hlt.2 _ hq; omega

theorem Two.one {K : Heap} {b : Nat} {r : Option Nat} {v : Value} {X Y : List Int} (x : Int) (h : Two K b r v X Y) (hl : Y.length ≤ 900000) :
    ∃ v' K', iapp Try.prog 22 v (.slice (some ⟨K.next, 0, some 1⟩) 1 1) (K.alloc [.int .u8 x]) = some (v', K') ∧ Two K' b r v' X (Y ++ [x]) := by
  have hb := h.w.lt.1
  obtain ⟨v', K', e, b1, b2, b3, b4, b5⟩ := app_one (P := Try.prog) (t := 22) (e := 5) (sz := 1) (by_ := 1) (z := .int .u8 0) (by kernel_rfl) (by kernel_rfl) (by kernel_rfl) (by kernel_rfl) rfl (.int .u8 x) [.int .u8 x] h.p rfl rfl rfl (by omega) (by simp; omega) (by simp; omega)
  exact ⟨v', K', e, h.app (by simpa using b1) b4 (.inr ⟨_, _, Nat.le_succ _, b5⟩)⟩

theorem Two.more {K : Heap} {b : Nat} {r : Option Nat} {v : Value} {X Y : List Int} (M : List Int) (h : Two K b r v X Y) (hl : Y.length + M.length ≤ 900000) :
    ∃ v' K', iapp Try.prog 22 v (byts M) K = some (v', K') ∧ Two K' b r v' X (Y ++ M) := by
  have hb := h.w.lt.1
  obtain ⟨v', K', e, b1, b2, b3, b4, b5⟩ := app_own (P := Try.prog) (t := 22) (e := 5) (sz := 1) (by_ := 1) (z := .int .u8 0) (ws := M.map (Value.int .u8)) (x := byts M) (by kernel_rfl) (by kernel_rfl) (by kernel_rfl) (by kernel_rfl) rfl h.p (map_sz .u8 _) (by simp [irow_frow]) (by rw [map_flat]; exact map_one .u8 _) (by omega) (by simp; omega) (by simp; omega)
  refine ⟨v', K', e, h.app (by simpa using b1) b4 ?_⟩
  rcases b5 with ⟨h1, _, _⟩ | h1
  · exact .inl h1
  · exact .inr ⟨_, _, Nat.le_refl _, h1⟩

theorem lay (H : Heap) (L : List Item) (hL : L.length ≤ 1000) (hW : ∀ x ∈ L, x.wf) :
    ICalls Try.prog 23 [frow 2 0 (L.map Item.val)] H fun v H' => v = .tuple #[byts (layB L), byts (layB L)] ∧ H' = H := by
  refine ICalls.ans (by simp [go_sem]) fun H => IBody.calls (by kernel_rfl) ?_
  refine IBody.of Try.func23 rfl (by rw [Try.ntmps23]; simp) ?_
  rw [Try.ntmps23]
  refine IWp.seq ?_
  refine IWp.run [0] ?_
  simp [go_sem, -getElem?_pos, -List.map_take, -List.map_drop, List.getElem?_cons_zero, List.getElem?_cons_succ, Go.IntWalk.iteOmega, Go.IntWalk.toNatUp]
  refine IWp.seq ?_
  refine IWp.run [0, 4] ?_
  simp [go_sem, -getElem?_pos, -List.map_take, -List.map_drop, List.getElem?_cons_zero, List.getElem?_cons_succ, Go.IntWalk.iteOmega, Go.IntWalk.toNatUp]
  refine IWp.seq ?_
  refine IWp.run [0, 4, 5] ?_
  simp [go_sem, -getElem?_pos, -List.map_take, -List.map_drop, List.getElem?_cons_zero, List.getElem?_cons_succ, Go.IntWalk.iteOmega, Go.IntWalk.toNatUp]
  refine IWp.seq ?_
  refine IWp.seq ?_
  refine IWp.run [0, 4, 5, 6] ?_
  simp [go_sem, -getElem?_pos, -List.map_take, -List.map_drop, List.getElem?_cons_zero, List.getElem?_cons_succ, Go.IntWalk.iteOmega, Go.IntWalk.toNatUp]
  refine IWp.block ?_
  -- LOOP live [0, 4, 5, 6]
  refine IWp.loop (fun j e K => ∃ (i : Nat) (r : Option Nat) (v : Value), j = L.length - i ∧ i ≤ L.length ∧ e = [(0, frow 2 0 (L.map Item.val)), (4, ptrTo H.next 0), (5, v), (6, .int .i64 (i : Int))] ∧ Two K H.next r v (layB (L.take i)) (layB (L.take i))) L.length
    ⟨0, none, _, rfl, Nat.zero_le _, rfl, ⟨.inl ⟨rfl, rfl, by simp [go_sem]⟩, Bld.nil _ _ _, fun q h => (by cases h)⟩⟩ ?_
  rintro j e K ⟨i, r, v, rfl, hi, rfl, hT⟩
  by_cases hlt : i < L.length
  · have w1 := IntWalk.i64_in ((i : Int) + 1) (by omega)
    have hx := hW _ (List.getElem_mem hlt)
    have hlen := layB_len (L.take i)
    rw [List.length_take, Nat.min_eq_left hi] at hlen
    have hs1 := layB_take L i hlt
    have hge := List.getElem?_eq_getElem hlt
    generalize layB (L.take i) = X at hT hlen hs1
    obtain ⟨hk, hn⟩ := hx
    have ht : L[i].k.tmod 3 = L[i].k % 3 := Int.tmod_eq_emod_of_nonneg (by omega)
    generalize L[i] = x at hk hn ht hge hs1
    have hcase : x.k % 3 = 0 ∨ x.k % 3 = 1 ∨ (¬ x.k % 3 = 0 ∧ ¬ x.k % 3 = 1) := by omega
    rcases hcase with h0 | h0 | ⟨h0, h1⟩
    · have hbx : x.bytes = [x.n % 256] := by simp [Item.bytes, h0]
      refine IWp.seq ?_
      refine IWp.seq ?_
      refine IWp.run [0, 4, 5, 6, 12] ?_
      simp [go_sem, -getElem?_pos, -List.map_take, -List.map_drop, List.getElem?_cons_zero, List.getElem?_cons_succ, Go.IntWalk.iteOmega, Go.IntWalk.toNatUp, hlt, w1, hge, ht, h0, Item.val, Item.cells, u8_mod, show (i : Int) < L.length by omega, show ¬ ((i : Int) < 0) by omega]
      refine IWp.cond ?_
      simp [go_sem, -getElem?_pos, -List.map_take, -List.map_drop, List.getElem?_cons_zero, List.getElem?_cons_succ, Go.IntWalk.iteOmega, Go.IntWalk.toNatUp, hlt, w1, hge, ht, h0, Item.val, Item.cells, u8_mod, show (i : Int) < L.length by omega, show ¬ ((i : Int) < 0) by omega]
      refine IWp.trim [0, 4, 5, 6] (IWp.skip ?_)
      simp [go_sem, -getElem?_pos, -List.map_take, -List.map_drop, List.getElem?_cons_zero, List.getElem?_cons_succ, Go.IntWalk.iteOmega, Go.IntWalk.toNatUp, hlt, w1, hge, ht, h0, Item.val, Item.cells, u8_mod, show (i : Int) < L.length by omega, show ¬ ((i : Int) < 0) by omega]
      refine IWp.seq ?_
      refine IWp.block ?_
      refine IWp.seq ?_
      refine IWp.run [0, 4, 5, 6, 20] ?_
      simp [go_sem, -getElem?_pos, -List.map_take, -List.map_drop, List.getElem?_cons_zero, List.getElem?_cons_succ, Go.IntWalk.iteOmega, Go.IntWalk.toNatUp, hlt, w1, hge, ht, h0, Item.val, Item.cells, u8_mod, show (i : Int) < L.length by omega, show ¬ ((i : Int) < 0) by omega]
      refine IWp.block ?_
      refine IWp.seq ?_
      refine IWp.run [0, 4, 5, 6, 20, 36] ?_
      simp [go_sem, -getElem?_pos, -List.map_take, -List.map_drop, List.getElem?_cons_zero, List.getElem?_cons_succ, Go.IntWalk.iteOmega, Go.IntWalk.toNatUp, hlt, w1, hge, ht, h0, Item.val, Item.cells, u8_mod, show (i : Int) < L.length by omega, show ¬ ((i : Int) < 0) by omega]
      refine IWp.cond ?_
      simp [go_sem, -getElem?_pos, -List.map_take, -List.map_drop, List.getElem?_cons_zero, List.getElem?_cons_succ, Go.IntWalk.iteOmega, Go.IntWalk.toNatUp, hlt, w1, hge, ht, h0, Item.val, Item.cells, u8_mod, show (i : Int) < L.length by omega, show ¬ ((i : Int) < 0) by omega]
      refine IWp.seq ?_
      refine IWp.run [0, 4, 5, 6] ?_
      simp [go_sem, -getElem?_pos, -List.map_take, -List.map_drop, List.getElem?_cons_zero, List.getElem?_cons_succ, Go.IntWalk.iteOmega, Go.IntWalk.toNatUp, hlt, w1, hge, ht, h0, Item.val, Item.cells, u8_mod, show (i : Int) < L.length by omega, show ¬ ((i : Int) < 0) by omega]
      refine ICalls.mono (wByte K H.next r X (x.n % 256) hT.w (by omega)) ?_
      rintro v1 K1 ⟨rfl, r1, hw1, s1⟩
      obtain ⟨v2, K2, e2, hT2⟩ := (hT.lay hw1 s1).one (x.n % 256) (by omega)
      try simp [go_sem, -getElem?_pos, -List.map_take, -List.map_drop, List.getElem?_cons_zero, List.getElem?_cons_succ, Go.IntWalk.iteOmega, Go.IntWalk.toNatUp, hlt, w1, hge, ht, h0, Item.val, Item.cells, u8_mod, show (i : Int) < L.length by omega, show ¬ ((i : Int) < 0) by omega, e2]
      refine IWp.run [0, 4, 5, 6] ?_
      simp [go_sem, -getElem?_pos, -List.map_take, -List.map_drop, List.getElem?_cons_zero, List.getElem?_cons_succ, Go.IntWalk.iteOmega, Go.IntWalk.toNatUp, hlt, w1, hge, ht, h0, Item.val, Item.cells, u8_mod, show (i : Int) < L.length by omega, show ¬ ((i : Int) < 0) by omega, e2]
      refine IWp.run [0, 4, 5, 6] ?_
      simp [go_sem, -getElem?_pos, -List.map_take, -List.map_drop, List.getElem?_cons_zero, List.getElem?_cons_succ, Go.IntWalk.iteOmega, Go.IntWalk.toNatUp, hlt, w1, hge, ht, h0, Item.val, Item.cells, u8_mod, show (i : Int) < L.length by omega, show ¬ ((i : Int) < 0) by omega, e2]
      exact ⟨L.length - (i + 1), by omega, i + 1, rfl, by omega, r1, by rw [hs1, hbx]; exact ⟨v2, ⟨rfl, rfl⟩, hT2⟩⟩
    · have hbx : x.bytes = [if 0 < x.n then 1 else 0] := by simp [Item.bytes, h0]
      have hd : (if decide (0 < x.n) = true then (1 : Int) else 0) = if 0 < x.n then 1 else 0 := by simp
      refine IWp.seq ?_
      refine IWp.seq ?_
      refine IWp.run [0, 4, 5, 6, 12] ?_
      simp [go_sem, -getElem?_pos, -List.map_take, -List.map_drop, List.getElem?_cons_zero, List.getElem?_cons_succ, Go.IntWalk.iteOmega, Go.IntWalk.toNatUp, hlt, w1, hge, ht, h0, Item.val, Item.cells, u8_mod, show (i : Int) < L.length by omega, show ¬ ((i : Int) < 0) by omega]
      refine IWp.cond ?_
      simp [go_sem, -getElem?_pos, -List.map_take, -List.map_drop, List.getElem?_cons_zero, List.getElem?_cons_succ, Go.IntWalk.iteOmega, Go.IntWalk.toNatUp, hlt, w1, hge, ht, h0, Item.val, Item.cells, u8_mod, show (i : Int) < L.length by omega, show ¬ ((i : Int) < 0) by omega]
      refine IWp.trim [0, 4, 5, 6] (IWp.skip ?_)
      simp [go_sem, -getElem?_pos, -List.map_take, -List.map_drop, List.getElem?_cons_zero, List.getElem?_cons_succ, Go.IntWalk.iteOmega, Go.IntWalk.toNatUp, hlt, w1, hge, ht, h0, Item.val, Item.cells, u8_mod, show (i : Int) < L.length by omega, show ¬ ((i : Int) < 0) by omega]
      refine IWp.seq ?_
      refine IWp.block ?_
      refine IWp.seq ?_
      refine IWp.run [0, 4, 5, 6, 20] ?_
      simp [go_sem, -getElem?_pos, -List.map_take, -List.map_drop, List.getElem?_cons_zero, List.getElem?_cons_succ, Go.IntWalk.iteOmega, Go.IntWalk.toNatUp, hlt, w1, hge, ht, h0, Item.val, Item.cells, u8_mod, show (i : Int) < L.length by omega, show ¬ ((i : Int) < 0) by omega]
      refine IWp.block ?_
      refine IWp.seq ?_
      refine IWp.run [0, 4, 5, 6, 20, 36] ?_
      simp [go_sem, -getElem?_pos, -List.map_take, -List.map_drop, List.getElem?_cons_zero, List.getElem?_cons_succ, Go.IntWalk.iteOmega, Go.IntWalk.toNatUp, hlt, w1, hge, ht, h0, Item.val, Item.cells, u8_mod, show (i : Int) < L.length by omega, show ¬ ((i : Int) < 0) by omega]
      refine IWp.cond ?_
      simp [go_sem, -getElem?_pos, -List.map_take, -List.map_drop, List.getElem?_cons_zero, List.getElem?_cons_succ, Go.IntWalk.iteOmega, Go.IntWalk.toNatUp, hlt, w1, hge, ht, h0, Item.val, Item.cells, u8_mod, show (i : Int) < L.length by omega, show ¬ ((i : Int) < 0) by omega]
      refine IWp.seq ?_
      refine IWp.run [0, 4, 5, 6, 55] ?_
      simp [go_sem, -getElem?_pos, -List.map_take, -List.map_drop, List.getElem?_cons_zero, List.getElem?_cons_succ, Go.IntWalk.iteOmega, Go.IntWalk.toNatUp, hlt, w1, hge, ht, h0, Item.val, Item.cells, u8_mod, show (i : Int) < L.length by omega, show ¬ ((i : Int) < 0) by omega]
      refine IWp.cond ?_
      simp [go_sem, -getElem?_pos, -List.map_take, -List.map_drop, List.getElem?_cons_zero, List.getElem?_cons_succ, Go.IntWalk.iteOmega, Go.IntWalk.toNatUp, hlt, w1, hge, ht, h0, Item.val, Item.cells, u8_mod, show (i : Int) < L.length by omega, show ¬ ((i : Int) < 0) by omega]
      refine IWp.seq ?_
      refine IWp.run [0, 4, 5, 6] ?_
      simp [go_sem, -getElem?_pos, -List.map_take, -List.map_drop, List.getElem?_cons_zero, List.getElem?_cons_succ, Go.IntWalk.iteOmega, Go.IntWalk.toNatUp, hlt, w1, hge, ht, h0, Item.val, Item.cells, u8_mod, show (i : Int) < L.length by omega, show ¬ ((i : Int) < 0) by omega]
      refine ICalls.mono (wFlag K H.next r X (decide (0 < x.n)) hT.w (by omega)) ?_
      rintro v1 K1 ⟨rfl, r1, hw1, s1⟩
      try simp [go_sem, -getElem?_pos, -List.map_take, -List.map_drop, List.getElem?_cons_zero, List.getElem?_cons_succ, Go.IntWalk.iteOmega, Go.IntWalk.toNatUp, hlt, w1, hge, ht, h0, Item.val, Item.cells, u8_mod, show (i : Int) < L.length by omega, show ¬ ((i : Int) < 0) by omega]
      refine IWp.run [0, 4, 5, 6] ?_
      simp [go_sem, -getElem?_pos, -List.map_take, -List.map_drop, List.getElem?_cons_zero, List.getElem?_cons_succ, Go.IntWalk.iteOmega, Go.IntWalk.toNatUp, hlt, w1, hge, ht, h0, Item.val, Item.cells, u8_mod, show (i : Int) < L.length by omega, show ¬ ((i : Int) < 0) by omega]
      refine ICalls.mono (refFlag _ _) ?_
      rintro v _ ⟨rfl, rfl⟩
      obtain ⟨v2, K2, e2, hT2⟩ := (hT.lay hw1 s1).one (if decide (0 < x.n) = true then 1 else 0) (by omega); simp only [decide_eq_true_eq] at e2 hT2
      try simp [go_sem, -getElem?_pos, -List.map_take, -List.map_drop, List.getElem?_cons_zero, List.getElem?_cons_succ, Go.IntWalk.iteOmega, Go.IntWalk.toNatUp, hlt, w1, hge, ht, h0, Item.val, Item.cells, u8_mod, show (i : Int) < L.length by omega, show ¬ ((i : Int) < 0) by omega, e2]
      refine IWp.run [0, 4, 5, 6] ?_
      simp [go_sem, -getElem?_pos, -List.map_take, -List.map_drop, List.getElem?_cons_zero, List.getElem?_cons_succ, Go.IntWalk.iteOmega, Go.IntWalk.toNatUp, hlt, w1, hge, ht, h0, Item.val, Item.cells, u8_mod, show (i : Int) < L.length by omega, show ¬ ((i : Int) < 0) by omega, e2]
      exact ⟨L.length - (i + 1), by omega, i + 1, rfl, by omega, r1, by rw [hs1, hbx]; exact ⟨v2, ⟨rfl, rfl⟩, hT2⟩⟩
    · have hbx : x.bytes = i4 x.n := by simp [Item.bytes, h0, h1]
      refine IWp.seq ?_
      refine IWp.seq ?_
      refine IWp.run [0, 4, 5, 6, 12] ?_
      simp [go_sem, -getElem?_pos, -List.map_take, -List.map_drop, List.getElem?_cons_zero, List.getElem?_cons_succ, Go.IntWalk.iteOmega, Go.IntWalk.toNatUp, hlt, w1, hge, ht, h0, h1, Item.val, Item.cells, u8_mod, show (i : Int) < L.length by omega, show ¬ ((i : Int) < 0) by omega]
      refine IWp.cond ?_
      simp [go_sem, -getElem?_pos, -List.map_take, -List.map_drop, List.getElem?_cons_zero, List.getElem?_cons_succ, Go.IntWalk.iteOmega, Go.IntWalk.toNatUp, hlt, w1, hge, ht, h0, h1, Item.val, Item.cells, u8_mod, show (i : Int) < L.length by omega, show ¬ ((i : Int) < 0) by omega]
      refine IWp.trim [0, 4, 5, 6] (IWp.skip ?_)
      simp [go_sem, -getElem?_pos, -List.map_take, -List.map_drop, List.getElem?_cons_zero, List.getElem?_cons_succ, Go.IntWalk.iteOmega, Go.IntWalk.toNatUp, hlt, w1, hge, ht, h0, h1, Item.val, Item.cells, u8_mod, show (i : Int) < L.length by omega, show ¬ ((i : Int) < 0) by omega]
      refine IWp.seq ?_
      refine IWp.block ?_
      refine IWp.seq ?_
      refine IWp.run [0, 4, 5, 6, 20] ?_
      simp [go_sem, -getElem?_pos, -List.map_take, -List.map_drop, List.getElem?_cons_zero, List.getElem?_cons_succ, Go.IntWalk.iteOmega, Go.IntWalk.toNatUp, hlt, w1, hge, ht, h0, h1, Item.val, Item.cells, u8_mod, show (i : Int) < L.length by omega, show ¬ ((i : Int) < 0) by omega]
      refine IWp.block ?_
      refine IWp.seq ?_
      refine IWp.run [0, 4, 5, 6, 20, 36] ?_
      simp [go_sem, -getElem?_pos, -List.map_take, -List.map_drop, List.getElem?_cons_zero, List.getElem?_cons_succ, Go.IntWalk.iteOmega, Go.IntWalk.toNatUp, hlt, w1, hge, ht, h0, h1, Item.val, Item.cells, u8_mod, show (i : Int) < L.length by omega, show ¬ ((i : Int) < 0) by omega]
      refine IWp.cond ?_
      simp [go_sem, -getElem?_pos, -List.map_take, -List.map_drop, List.getElem?_cons_zero, List.getElem?_cons_succ, Go.IntWalk.iteOmega, Go.IntWalk.toNatUp, hlt, w1, hge, ht, h0, h1, Item.val, Item.cells, u8_mod, show (i : Int) < L.length by omega, show ¬ ((i : Int) < 0) by omega]
      refine IWp.seq ?_
      refine IWp.run [0, 4, 5, 6, 55] ?_
      simp [go_sem, -getElem?_pos, -List.map_take, -List.map_drop, List.getElem?_cons_zero, List.getElem?_cons_succ, Go.IntWalk.iteOmega, Go.IntWalk.toNatUp, hlt, w1, hge, ht, h0, h1, Item.val, Item.cells, u8_mod, show (i : Int) < L.length by omega, show ¬ ((i : Int) < 0) by omega]
      refine IWp.cond ?_
      simp [go_sem, -getElem?_pos, -List.map_take, -List.map_drop, List.getElem?_cons_zero, List.getElem?_cons_succ, Go.IntWalk.iteOmega, Go.IntWalk.toNatUp, hlt, w1, hge, ht, h0, h1, Item.val, Item.cells, u8_mod, show (i : Int) < L.length by omega, show ¬ ((i : Int) < 0) by omega]
      refine IWp.seq ?_
      refine IWp.run [0, 4, 5, 6] ?_
      simp [go_sem, -getElem?_pos, -List.map_take, -List.map_drop, List.getElem?_cons_zero, List.getElem?_cons_succ, Go.IntWalk.iteOmega, Go.IntWalk.toNatUp, hlt, w1, hge, ht, h0, h1, Item.val, Item.cells, u8_mod, show (i : Int) < L.length by omega, show ¬ ((i : Int) < 0) by omega]
      refine ICalls.mono (wInt K H.next r X x.n hT.w (by omega)) ?_
      rintro v1 K1 ⟨rfl, r1, hw1, s1⟩
      try simp [go_sem, -getElem?_pos, -List.map_take, -List.map_drop, List.getElem?_cons_zero, List.getElem?_cons_succ, Go.IntWalk.iteOmega, Go.IntWalk.toNatUp, hlt, w1, hge, ht, h0, h1, Item.val, Item.cells, u8_mod, show (i : Int) < L.length by omega, show ¬ ((i : Int) < 0) by omega]
      refine IWp.run [0, 4, 5, 6] ?_
      simp [go_sem, -getElem?_pos, -List.map_take, -List.map_drop, List.getElem?_cons_zero, List.getElem?_cons_succ, Go.IntWalk.iteOmega, Go.IntWalk.toNatUp, hlt, w1, hge, ht, h0, h1, Item.val, Item.cells, u8_mod, show (i : Int) < L.length by omega, show ¬ ((i : Int) < 0) by omega]
      refine ICalls.mono (refInt _ x.n (by omega)) ?_
      rintro v _ ⟨rfl, rfl⟩
      obtain ⟨v2, K2, e2, hT2⟩ := (hT.lay hw1 s1).more (i4 x.n) (by simp [i4]; omega)
      try simp [go_sem, -getElem?_pos, -List.map_take, -List.map_drop, List.getElem?_cons_zero, List.getElem?_cons_succ, Go.IntWalk.iteOmega, Go.IntWalk.toNatUp, hlt, w1, hge, ht, h0, h1, Item.val, Item.cells, u8_mod, show (i : Int) < L.length by omega, show ¬ ((i : Int) < 0) by omega, e2]
      refine IWp.run [0, 4, 5, 6] ?_
      simp [go_sem, -getElem?_pos, -List.map_take, -List.map_drop, List.getElem?_cons_zero, List.getElem?_cons_succ, Go.IntWalk.iteOmega, Go.IntWalk.toNatUp, hlt, w1, hge, ht, h0, h1, Item.val, Item.cells, u8_mod, show (i : Int) < L.length by omega, show ¬ ((i : Int) < 0) by omega, e2]
      exact ⟨L.length - (i + 1), by omega, i + 1, rfl, by omega, r1, by rw [hs1, hbx]; exact ⟨v2, ⟨rfl, rfl⟩, hT2⟩⟩
  · have hlB := layB_len L
    rw [List.take_of_length_le (by omega)] at hT
    refine IWp.seq ?_
    refine IWp.seq ?_
    refine IWp.run [0, 4, 5, 6, 12] ?_
    simp [go_sem, -getElem?_pos, -List.map_take, -List.map_drop, List.getElem?_cons_zero, List.getElem?_cons_succ, Go.IntWalk.iteOmega, Go.IntWalk.toNatUp, show ¬ ((i : Int) < L.length) by omega]
    refine IWp.cond ?_
    simp [go_sem, -getElem?_pos, -List.map_take, -List.map_drop, List.getElem?_cons_zero, List.getElem?_cons_succ, Go.IntWalk.iteOmega, Go.IntWalk.toNatUp, show ¬ ((i : Int) < L.length) by omega]
    refine IWp.trim [4, 5] (IWp.exit ?_)
    simp [go_sem, -getElem?_pos, -List.map_take, -List.map_drop, List.getElem?_cons_zero, List.getElem?_cons_succ, Go.IntWalk.iteOmega, Go.IntWalk.toNatUp, show ¬ ((i : Int) < L.length) by omega]
    refine IWp.seq ?_
    refine IWp.run [2, 3] ?_
    simp [go_sem, -getElem?_pos, -List.map_take, -List.map_drop, List.getElem?_cons_zero, List.getElem?_cons_succ, Go.IntWalk.iteOmega, Go.IntWalk.toNatUp, show ¬ ((i : Int) < L.length) by omega]
    refine ICalls.mono (wBytes _ _ _ hT.w.wrv (by omega)) ?_
    rintro v _ ⟨rfl, rfl⟩
    try simp [go_sem, -getElem?_pos, -List.map_take, -List.map_drop, List.getElem?_cons_zero, List.getElem?_cons_succ, Go.IntWalk.iteOmega, Go.IntWalk.toNatUp, show ¬ ((i : Int) < L.length) by omega]
    refine IWp.ret ?_
    simp [go_sem, -getElem?_pos, -List.map_take, -List.map_drop, List.getElem?_cons_zero, List.getElem?_cons_succ, Go.IntWalk.iteOmega, Go.IntWalk.toNatUp, show ¬ ((i : Int) < L.length) by omega, Try.results23]
    exact hT.p.frz

def lowN (n : Int) : Int := be4 (n / 16777216 % 256) (n / 65536 % 256) (n / 256 % 256) (n % 256)
theorem low (H : Heap) (n : Int) (hn : -9223372036854775808 ≤ n ∧ n < 9223372036854775808) : ICalls Try.prog 39 [.int .i64 n] H fun v H' => v = .int .i64 (lowN n) ∧ H' = H := by
  refine IBody.calls (by kernel_rfl) ?_
  have hm : n.tmod 4294967296 = if 0 ≤ n ∨ n % 4294967296 = 0 then n % 4294967296 else n % 4294967296 - 4294967296 := by
    rw [Int.tmod_eq_emod]; split <;> split <;> omega
  have hbe : lowN n = if 2147483648 ≤ n % 4294967296 then n % 4294967296 - 4294967296 else n % 4294967296 := by
    unfold lowN be4; split <;> split <;> omega
  obtain ⟨t, hte⟩ : ∃ t, n.tmod 4294967296 = t := ⟨_, rfl⟩
  rw [hte] at hm
  by_cases h1 : 2147483648 ≤ t
  · have w1 := IntWalk.i64_in (t - 4294967296) (by split at hm <;> omega)
    have h2 : ¬ (t - 4294967296 < -2147483648) := by omega
    have h3 : lowN n = t - 4294967296 := by rw [hbe]; split at hm <;> split <;> omega
    refine IBody.of Try.func39 rfl (by rw [Try.ntmps39]; simp) ?_
    rw [Try.ntmps39]
    refine IWp.seq ?_
    refine IWp.run [0] ?_
    simp [go_sem, -getElem?_pos, -List.map_take, -List.map_drop, List.getElem?_cons_zero, List.getElem?_cons_succ, Go.IntWalk.iteOmega, Go.IntWalk.toNatUp, hte, h1, w1, h2, h3]
    refine IWp.seq ?_
    refine IWp.run [0] ?_
    simp [go_sem, -getElem?_pos, -List.map_take, -List.map_drop, List.getElem?_cons_zero, List.getElem?_cons_succ, Go.IntWalk.iteOmega, Go.IntWalk.toNatUp, hte, h1, w1, h2, h3]
    refine IWp.seq ?_
    refine IWp.seq ?_
    refine IWp.run [0, 6] ?_
    simp [go_sem, -getElem?_pos, -List.map_take, -List.map_drop, List.getElem?_cons_zero, List.getElem?_cons_succ, Go.IntWalk.iteOmega, Go.IntWalk.toNatUp, hte, h1, w1, h2, h3]
    refine IWp.cond ?_
    simp [go_sem, -getElem?_pos, -List.map_take, -List.map_drop, List.getElem?_cons_zero, List.getElem?_cons_succ, Go.IntWalk.iteOmega, Go.IntWalk.toNatUp, hte, h1, w1, h2, h3]
    refine IWp.run [0] ?_
    simp [go_sem, -getElem?_pos, -List.map_take, -List.map_drop, List.getElem?_cons_zero, List.getElem?_cons_succ, Go.IntWalk.iteOmega, Go.IntWalk.toNatUp, hte, h1, w1, h2, h3]
    refine IWp.seq ?_
    refine IWp.seq ?_
    refine IWp.run [0, 10] ?_
    simp [go_sem, -getElem?_pos, -List.map_take, -List.map_drop, List.getElem?_cons_zero, List.getElem?_cons_succ, Go.IntWalk.iteOmega, Go.IntWalk.toNatUp, hte, h1, w1, h2, h3]
    refine IWp.cond ?_
    simp [go_sem, -getElem?_pos, -List.map_take, -List.map_drop, List.getElem?_cons_zero, List.getElem?_cons_succ, Go.IntWalk.iteOmega, Go.IntWalk.toNatUp, hte, h1, w1, h2, h3]
    refine IWp.trim [0] (IWp.skip ?_)
    simp [go_sem, -getElem?_pos, -List.map_take, -List.map_drop, List.getElem?_cons_zero, List.getElem?_cons_succ, Go.IntWalk.iteOmega, Go.IntWalk.toNatUp, hte, h1, w1, h2, h3]
    refine IWp.seq ?_
    refine IWp.run [2] ?_
    simp [go_sem, -getElem?_pos, -List.map_take, -List.map_drop, List.getElem?_cons_zero, List.getElem?_cons_succ, Go.IntWalk.iteOmega, Go.IntWalk.toNatUp, hte, h1, w1, h2, h3]
    refine IWp.ret ?_
    simp [go_sem, -getElem?_pos, -List.map_take, -List.map_drop, List.getElem?_cons_zero, List.getElem?_cons_succ, Go.IntWalk.iteOmega, Go.IntWalk.toNatUp, hte, h1, w1, h2, h3, Try.results39]
  · by_cases h2 : t < -2147483648
    · have w1 := IntWalk.i64_in (t + 4294967296) (by split at hm <;> omega)
      have h3 : lowN n = t + 4294967296 := by rw [hbe]; split at hm <;> split <;> omega
      refine IBody.of Try.func39 rfl (by rw [Try.ntmps39]; simp) ?_
      rw [Try.ntmps39]
      refine IWp.seq ?_
      refine IWp.run [0] ?_
      simp [go_sem, -getElem?_pos, -List.map_take, -List.map_drop, List.getElem?_cons_zero, List.getElem?_cons_succ, Go.IntWalk.iteOmega, Go.IntWalk.toNatUp, hte, h1, w1, h2, h3]
      refine IWp.seq ?_
      refine IWp.run [0] ?_
      simp [go_sem, -getElem?_pos, -List.map_take, -List.map_drop, List.getElem?_cons_zero, List.getElem?_cons_succ, Go.IntWalk.iteOmega, Go.IntWalk.toNatUp, hte, h1, w1, h2, h3]
      refine IWp.seq ?_
      refine IWp.seq ?_
      refine IWp.run [0, 6] ?_
      simp [go_sem, -getElem?_pos, -List.map_take, -List.map_drop, List.getElem?_cons_zero, List.getElem?_cons_succ, Go.IntWalk.iteOmega, Go.IntWalk.toNatUp, hte, h1, w1, h2, h3]
      refine IWp.cond ?_
      simp [go_sem, -getElem?_pos, -List.map_take, -List.map_drop, List.getElem?_cons_zero, List.getElem?_cons_succ, Go.IntWalk.iteOmega, Go.IntWalk.toNatUp, hte, h1, w1, h2, h3]
      refine IWp.trim [0] (IWp.skip ?_)
      simp [go_sem, -getElem?_pos, -List.map_take, -List.map_drop, List.getElem?_cons_zero, List.getElem?_cons_succ, Go.IntWalk.iteOmega, Go.IntWalk.toNatUp, hte, h1, w1, h2, h3]
      refine IWp.seq ?_
      refine IWp.seq ?_
      refine IWp.run [0, 10] ?_
      simp [go_sem, -getElem?_pos, -List.map_take, -List.map_drop, List.getElem?_cons_zero, List.getElem?_cons_succ, Go.IntWalk.iteOmega, Go.IntWalk.toNatUp, hte, h1, w1, h2, h3]
      refine IWp.cond ?_
      simp [go_sem, -getElem?_pos, -List.map_take, -List.map_drop, List.getElem?_cons_zero, List.getElem?_cons_succ, Go.IntWalk.iteOmega, Go.IntWalk.toNatUp, hte, h1, w1, h2, h3]
      refine IWp.run [0] ?_
      simp [go_sem, -getElem?_pos, -List.map_take, -List.map_drop, List.getElem?_cons_zero, List.getElem?_cons_succ, Go.IntWalk.iteOmega, Go.IntWalk.toNatUp, hte, h1, w1, h2, h3]
      refine IWp.seq ?_
      refine IWp.run [2] ?_
      simp [go_sem, -getElem?_pos, -List.map_take, -List.map_drop, List.getElem?_cons_zero, List.getElem?_cons_succ, Go.IntWalk.iteOmega, Go.IntWalk.toNatUp, hte, h1, w1, h2, h3]
      refine IWp.ret ?_
      simp [go_sem, -getElem?_pos, -List.map_take, -List.map_drop, List.getElem?_cons_zero, List.getElem?_cons_succ, Go.IntWalk.iteOmega, Go.IntWalk.toNatUp, hte, h1, w1, h2, h3, Try.results39]
    · have h3 : lowN n = t := by rw [hbe]; split at hm <;> split <;> omega
      refine IBody.of Try.func39 rfl (by rw [Try.ntmps39]; simp) ?_
      rw [Try.ntmps39]
      refine IWp.seq ?_
      refine IWp.run [0] ?_
      simp [go_sem, -getElem?_pos, -List.map_take, -List.map_drop, List.getElem?_cons_zero, List.getElem?_cons_succ, Go.IntWalk.iteOmega, Go.IntWalk.toNatUp, hte, h1, h2, h3]
      refine IWp.seq ?_
      refine IWp.run [0] ?_
      simp [go_sem, -getElem?_pos, -List.map_take, -List.map_drop, List.getElem?_cons_zero, List.getElem?_cons_succ, Go.IntWalk.iteOmega, Go.IntWalk.toNatUp, hte, h1, h2, h3]
      refine IWp.seq ?_
      refine IWp.seq ?_
      refine IWp.run [0, 6] ?_
      simp [go_sem, -getElem?_pos, -List.map_take, -List.map_drop, List.getElem?_cons_zero, List.getElem?_cons_succ, Go.IntWalk.iteOmega, Go.IntWalk.toNatUp, hte, h1, h2, h3]
      refine IWp.cond ?_
      simp [go_sem, -getElem?_pos, -List.map_take, -List.map_drop, List.getElem?_cons_zero, List.getElem?_cons_succ, Go.IntWalk.iteOmega, Go.IntWalk.toNatUp, hte, h1, h2, h3]
      refine IWp.trim [0] (IWp.skip ?_)
      simp [go_sem, -getElem?_pos, -List.map_take, -List.map_drop, List.getElem?_cons_zero, List.getElem?_cons_succ, Go.IntWalk.iteOmega, Go.IntWalk.toNatUp, hte, h1, h2, h3]
      refine IWp.seq ?_
      refine IWp.seq ?_
      refine IWp.run [0, 10] ?_
      simp [go_sem, -getElem?_pos, -List.map_take, -List.map_drop, List.getElem?_cons_zero, List.getElem?_cons_succ, Go.IntWalk.iteOmega, Go.IntWalk.toNatUp, hte, h1, h2, h3]
      refine IWp.cond ?_
      simp [go_sem, -getElem?_pos, -List.map_take, -List.map_drop, List.getElem?_cons_zero, List.getElem?_cons_succ, Go.IntWalk.iteOmega, Go.IntWalk.toNatUp, hte, h1, h2, h3]
      refine IWp.trim [0] (IWp.skip ?_)
      simp [go_sem, -getElem?_pos, -List.map_take, -List.map_drop, List.getElem?_cons_zero, List.getElem?_cons_succ, Go.IntWalk.iteOmega, Go.IntWalk.toNatUp, hte, h1, h2, h3]
      refine IWp.seq ?_
      refine IWp.run [2] ?_
      simp [go_sem, -getElem?_pos, -List.map_take, -List.map_drop, List.getElem?_cons_zero, List.getElem?_cons_succ, Go.IntWalk.iteOmega, Go.IntWalk.toNatUp, hte, h1, h2, h3]
      refine IWp.ret ?_
      simp [go_sem, -getElem?_pos, -List.map_take, -List.map_drop, List.getElem?_cons_zero, List.getElem?_cons_succ, Go.IntWalk.iteOmega, Go.IntWalk.toNatUp, hte, h1, h2, h3, Try.results39]

theorem drop_cons {L : List Int} {a b c : List Int} {k : Nat} (h : L = a ++ (b ++ c)) (hk : a.length = k) : (∀ i, i < b.length → (Rd.mk L k 0).at_ i = b.getD i 0) ∧ k + b.length ≤ L.length := by
  subst hk h
  refine ⟨fun i hi => ?_, by simp⟩
  simp only [Rd.at_, List.getD_eq_getElem?_getD]
  rw [List.getElem?_append_right (by omega), List.getElem?_append_left (by omega)]
  congr 2; omega

theorem layB_split (L : List Item) (i : Nat) (h : i < L.length) : layB L = layB (L.take i) ++ (L[i].bytes ++ layB (L.drop (i + 1))) := by
  unfold layB
  rw [← List.flatMap_cons, ← List.drop_eq_getElem_cons h, ← List.flatMap_append, List.take_append_drop]

theorem wordBack_law (H : Heap) (L : List Item) (hW : ∀ x ∈ L, x.wf) : IBody Try.prog 11 [frow 2 0 (L.map Item.val)] H fun v _ => v = .bool true := by
  by_cases hl : 60 < L.length
  · skip
    refine IBody.of Try.func11 rfl (by rw [Try.ntmps11]; simp) ?_
    rw [Try.ntmps11]
    refine IWp.seq ?_
    refine IWp.run [0] ?_
    simp [go_sem, -getElem?_pos, -List.map_take, -List.map_drop, List.getElem?_cons_zero, List.getElem?_cons_succ, Go.IntWalk.iteOmega, Go.IntWalk.toNatUp, show (60 : Int) < L.length by omega]
    refine IWp.seq ?_
    refine IWp.seq ?_
    refine IWp.run [0, 16] ?_
    simp [go_sem, -getElem?_pos, -List.map_take, -List.map_drop, List.getElem?_cons_zero, List.getElem?_cons_succ, Go.IntWalk.iteOmega, Go.IntWalk.toNatUp, show (60 : Int) < L.length by omega]
    refine ICalls.mono (lays _) ?_
    rintro v H ⟨rfl, rfl⟩
    try simp [go_sem, -getElem?_pos, -List.map_take, -List.map_drop, List.getElem?_cons_zero, List.getElem?_cons_succ, Go.IntWalk.iteOmega, Go.IntWalk.toNatUp, show (60 : Int) < L.length by omega]
    refine IWp.cond ?_
    simp [go_sem, -getElem?_pos, -List.map_take, -List.map_drop, List.getElem?_cons_zero, List.getElem?_cons_succ, Go.IntWalk.iteOmega, Go.IntWalk.toNatUp, show (60 : Int) < L.length by omega]
    refine IWp.seq ?_
    refine IWp.run [2] ?_
    simp [go_sem, -getElem?_pos, -List.map_take, -List.map_drop, List.getElem?_cons_zero, List.getElem?_cons_succ, Go.IntWalk.iteOmega, Go.IntWalk.toNatUp, show (60 : Int) < L.length by omega]
    refine ICalls.mono (lays _) ?_
    rintro v H ⟨rfl, rfl⟩
    try simp [go_sem, -getElem?_pos, -List.map_take, -List.map_drop, List.getElem?_cons_zero, List.getElem?_cons_succ, Go.IntWalk.iteOmega, Go.IntWalk.toNatUp, show (60 : Int) < L.length by omega]
    refine IWp.ret ?_
    simp [go_sem, -getElem?_pos, -List.map_take, -List.map_drop, List.getElem?_cons_zero, List.getElem?_cons_succ, Go.IntWalk.iteOmega, Go.IntWalk.toNatUp, show (60 : Int) < L.length by omega, Try.results11]
  · have hlB := layB_len L
    have hBs := layB_bs L
    refine IBody.of Try.func11 rfl (by rw [Try.ntmps11]; simp) ?_
    rw [Try.ntmps11]
    refine IWp.seq ?_
    refine IWp.run [0] ?_
    simp [go_sem, -getElem?_pos, -List.map_take, -List.map_drop, List.getElem?_cons_zero, List.getElem?_cons_succ, Go.IntWalk.iteOmega, Go.IntWalk.toNatUp, show ¬ (60 : Int) < L.length by omega]
    refine IWp.seq ?_
    refine IWp.seq ?_
    refine IWp.run [0, 16] ?_
    simp [go_sem, -getElem?_pos, -List.map_take, -List.map_drop, List.getElem?_cons_zero, List.getElem?_cons_succ, Go.IntWalk.iteOmega, Go.IntWalk.toNatUp, show ¬ (60 : Int) < L.length by omega]
    refine ICalls.mono (lays _) ?_
    rintro v H ⟨rfl, rfl⟩
    try simp [go_sem, -getElem?_pos, -List.map_take, -List.map_drop, List.getElem?_cons_zero, List.getElem?_cons_succ, Go.IntWalk.iteOmega, Go.IntWalk.toNatUp, show ¬ (60 : Int) < L.length by omega]
    refine IWp.cond ?_
    simp [go_sem, -getElem?_pos, -List.map_take, -List.map_drop, List.getElem?_cons_zero, List.getElem?_cons_succ, Go.IntWalk.iteOmega, Go.IntWalk.toNatUp, show ¬ (60 : Int) < L.length by omega]
    refine IWp.trim [0] (IWp.skip ?_)
    simp [go_sem, -getElem?_pos, -List.map_take, -List.map_drop, List.getElem?_cons_zero, List.getElem?_cons_succ, Go.IntWalk.iteOmega, Go.IntWalk.toNatUp, show ¬ (60 : Int) < L.length by omega]
    refine IWp.seq ?_
    refine IWp.run [0, 3, 4] ?_
    simp [go_sem, -getElem?_pos, -List.map_take, -List.map_drop, List.getElem?_cons_zero, List.getElem?_cons_succ, Go.IntWalk.iteOmega, Go.IntWalk.toNatUp, show ¬ (60 : Int) < L.length by omega]
    refine ICalls.mono (lay _ L (by omega) hW) ?_
    rintro v H ⟨rfl, rfl⟩
    try simp [go_sem, -getElem?_pos, -List.map_take, -List.map_drop, List.getElem?_cons_zero, List.getElem?_cons_succ, Go.IntWalk.iteOmega, Go.IntWalk.toNatUp, show ¬ (60 : Int) < L.length by omega]
    refine IWp.seq ?_
    refine IWp.seq ?_
    refine IWp.run [0, 3, 26] ?_
    simp [go_sem, -getElem?_pos, -List.map_take, -List.map_drop, List.getElem?_cons_zero, List.getElem?_cons_succ, Go.IntWalk.iteOmega, Go.IntWalk.toNatUp, show ¬ (60 : Int) < L.length by omega]
    refine ICalls.mono (refBytes _ 0 0 _ _ (by omega)) ?_
    rintro v H ⟨rfl, rfl⟩
    try simp [go_sem, -getElem?_pos, -List.map_take, -List.map_drop, List.getElem?_cons_zero, List.getElem?_cons_succ, Go.IntWalk.iteOmega, Go.IntWalk.toNatUp, show ¬ (60 : Int) < L.length by omega]
    refine IWp.cond ?_
    simp [go_sem, -getElem?_pos, -List.map_take, -List.map_drop, List.getElem?_cons_zero, List.getElem?_cons_succ, Go.IntWalk.iteOmega, Go.IntWalk.toNatUp, show ¬ (60 : Int) < L.length by omega]
    refine IWp.trim [0, 3] (IWp.skip ?_)
    simp [go_sem, -getElem?_pos, -List.map_take, -List.map_drop, List.getElem?_cons_zero, List.getElem?_cons_succ, Go.IntWalk.iteOmega, Go.IntWalk.toNatUp, show ¬ (60 : Int) < L.length by omega]
    refine IWp.seq ?_
    refine IWp.run [0, 5] ?_
    simp [go_sem, -getElem?_pos, -List.map_take, -List.map_drop, List.getElem?_cons_zero, List.getElem?_cons_succ, Go.IntWalk.iteOmega, Go.IntWalk.toNatUp, show ¬ (60 : Int) < L.length by omega]
    refine ICalls.mono (newReader _ 0 _ (by omega)) ?_
    rintro v _ ⟨rfl, rfl⟩
    try simp [go_sem, -getElem?_pos, -List.map_take, -List.map_drop, List.getElem?_cons_zero, List.getElem?_cons_succ, Go.IntWalk.iteOmega, Go.IntWalk.toNatUp, show ¬ (60 : Int) < L.length by omega]
    refine IWp.seq ?_
    refine IWp.seq ?_
    refine IWp.run [0, 5, 6] ?_
    simp [go_sem, -getElem?_pos, -List.map_take, -List.map_drop, List.getElem?_cons_zero, List.getElem?_cons_succ, Go.IntWalk.iteOmega, Go.IntWalk.toNatUp, show ¬ (60 : Int) < L.length by omega]
    refine IWp.block ?_
    -- LOOP live [0, 5, 6]
    refine IWp.loop (fun j e K => ∃ i : Nat, j = L.length - i ∧ i ≤ L.length ∧ e = [(0, frow 2 0 (L.map Item.val)), (5, ptrTo H.next 0), (6, .int .i64 (i : Int))] ∧ K = H.alloc (Rd.cells ⟨layB L, (layB (L.take i)).length, 0⟩)) L.length ⟨0, rfl, Nat.zero_le _, rfl, rfl⟩ ?_
    rintro j e K ⟨i, rfl, hi, rfl, rfl⟩
    have hok : (Rd.mk (layB L) (layB (L.take i)).length 0).ok := ⟨by
      have : layB L = layB (L.take i) ++ layB (L.drop i) := by unfold layB; rw [← List.flatMap_append, List.take_append_drop]
      show (layB (L.take i)).length ≤ (layB L).length
      rw [this]; simp, by show (layB L).length ≤ _; omega, hBs⟩
    by_cases hlt : i < L.length
    · have w1 := IntWalk.i64_in ((i : Int) + 1) (by omega)
      have hx := hW _ (List.getElem_mem hlt)
      have hs1 := layB_take L i hlt
      have hge := List.getElem?_eq_getElem hlt
      have hsp := layB_split L i hlt
      obtain ⟨hat, hroom⟩ := drop_cons hsp rfl
      obtain ⟨hk, hn⟩ := hx
      have ht : L[i].k.tmod 3 = L[i].k % 3 := Int.tmod_eq_emod_of_nonneg (by omega)
      generalize L[i] = x at hk hn ht hge hs1 hat hroom
      have hlen1 : (layB (L.take (i + 1))).length = (layB (L.take i)).length + x.bytes.length := by rw [hs1, List.length_append]
      generalize hs : Rd.mk (layB L) (layB (L.take i)).length 0 = s at hat hok
      have hse : s.e = 0 := by rw [← hs]
      have hsL : s.L = layB L := by rw [← hs]
      have hsp2 : s.pos = (layB (L.take i)).length := by rw [← hs]
      have hcase : x.k % 3 = 0 ∨ x.k % 3 = 1 ∨ (¬ x.k % 3 = 0 ∧ ¬ x.k % 3 = 1) := by omega
      rcases hcase with h0 | h0 | ⟨h0, h1⟩
      · have hbx : x.bytes = [x.n % 256] := by simp [Item.bytes, h0]
        rw [hbx] at hat hroom hlen1
        have ha0 := hat 0 (by simp)
        have e1 := Rd.byte_eq (s := s) hse (by rw [hsL, hsp2]; simpa using hroom)
        rw [ha0] at e1
        refine IWp.seq ?_
        refine IWp.seq ?_
        refine IWp.run [0, 5, 6, 32] ?_
        simp [go_sem, -getElem?_pos, -List.map_take, -List.map_drop, List.getElem?_cons_zero, List.getElem?_cons_succ, Go.IntWalk.iteOmega, Go.IntWalk.toNatUp, hlt, w1, hge, ht, h0, e1, Item.val, Item.cells, u8_mod, show (i : Int) < L.length by omega, show ¬ ((i : Int) < 0) by omega]
        refine IWp.cond ?_
        simp [go_sem, -getElem?_pos, -List.map_take, -List.map_drop, List.getElem?_cons_zero, List.getElem?_cons_succ, Go.IntWalk.iteOmega, Go.IntWalk.toNatUp, hlt, w1, hge, ht, h0, e1, Item.val, Item.cells, u8_mod, show (i : Int) < L.length by omega, show ¬ ((i : Int) < 0) by omega]
        refine IWp.trim [0, 5, 6] (IWp.skip ?_)
        simp [go_sem, -getElem?_pos, -List.map_take, -List.map_drop, List.getElem?_cons_zero, List.getElem?_cons_succ, Go.IntWalk.iteOmega, Go.IntWalk.toNatUp, hlt, w1, hge, ht, h0, e1, Item.val, Item.cells, u8_mod, show (i : Int) < L.length by omega, show ¬ ((i : Int) < 0) by omega]
        refine IWp.seq ?_
        refine IWp.block ?_
        refine IWp.seq ?_
        refine IWp.run [0, 5, 6] ?_
        simp [go_sem, -getElem?_pos, -List.map_take, -List.map_drop, List.getElem?_cons_zero, List.getElem?_cons_succ, Go.IntWalk.iteOmega, Go.IntWalk.toNatUp, hlt, w1, hge, ht, h0, e1, Item.val, Item.cells, u8_mod, show (i : Int) < L.length by omega, show ¬ ((i : Int) < 0) by omega]
        refine IWp.seq ?_
        refine IWp.seq ?_
        refine IWp.run [0, 5, 6, 40] ?_
        simp [go_sem, -getElem?_pos, -List.map_take, -List.map_drop, List.getElem?_cons_zero, List.getElem?_cons_succ, Go.IntWalk.iteOmega, Go.IntWalk.toNatUp, hlt, w1, hge, ht, h0, e1, Item.val, Item.cells, u8_mod, show (i : Int) < L.length by omega, show ¬ ((i : Int) < 0) by omega]
        refine IWp.block ?_
        refine IWp.seq ?_
        refine IWp.run [0, 5, 6, 40, 50] ?_
        simp [go_sem, -getElem?_pos, -List.map_take, -List.map_drop, List.getElem?_cons_zero, List.getElem?_cons_succ, Go.IntWalk.iteOmega, Go.IntWalk.toNatUp, hlt, w1, hge, ht, h0, e1, Item.val, Item.cells, u8_mod, show (i : Int) < L.length by omega, show ¬ ((i : Int) < 0) by omega]
        refine IWp.cond ?_
        simp [go_sem, -getElem?_pos, -List.map_take, -List.map_drop, List.getElem?_cons_zero, List.getElem?_cons_succ, Go.IntWalk.iteOmega, Go.IntWalk.toNatUp, hlt, w1, hge, ht, h0, e1, Item.val, Item.cells, u8_mod, show (i : Int) < L.length by omega, show ¬ ((i : Int) < 0) by omega]
        refine IWp.draw [0, 5, 6, 7] [] (.val 0 (.val 2 (.val 3 (.val 4 (.val 5 (.val 6 (.val 7 (.eff 1 (.val 8 (.val 9 .done)) .done)))))))) follows (by kernel_rfl) ?_
        simp [go_sem, -getElem?_pos, -List.map_take, -List.map_drop, List.getElem?_cons_zero, List.getElem?_cons_succ, Go.IntWalk.iteOmega, Go.IntWalk.toNatUp, hlt, w1, hge, ht, h0, e1, Item.val, Item.cells, u8_mod, show (i : Int) < L.length by omega, show ¬ ((i : Int) < 0) by omega]
        refine ICalls.mono (rByte _ _ s hok (by simp [go_sem, Go.IntWalk.iteOmega])) ?_
        rintro v _ ⟨rfl, rfl⟩
        try simp [go_sem, -getElem?_pos, -List.map_take, -List.map_drop, List.getElem?_cons_zero, List.getElem?_cons_succ, Go.IntWalk.iteOmega, Go.IntWalk.toNatUp, hlt, w1, hge, ht, h0, e1, Item.val, Item.cells, u8_mod, show (i : Int) < L.length by omega, show ¬ ((i : Int) < 0) by omega]
        refine IWp.seq ?_
        refine IWp.run [0, 5, 6, 73] ?_
        simp [go_sem, -getElem?_pos, -List.map_take, -List.map_drop, List.getElem?_cons_zero, List.getElem?_cons_succ, Go.IntWalk.iteOmega, Go.IntWalk.toNatUp, hlt, w1, hge, ht, h0, e1, Item.val, Item.cells, u8_mod, show (i : Int) < L.length by omega, show ¬ ((i : Int) < 0) by omega]
        refine IWp.cond ?_
        simp [go_sem, -getElem?_pos, -List.map_take, -List.map_drop, List.getElem?_cons_zero, List.getElem?_cons_succ, Go.IntWalk.iteOmega, Go.IntWalk.toNatUp, hlt, w1, hge, ht, h0, e1, Item.val, Item.cells, u8_mod, show (i : Int) < L.length by omega, show ¬ ((i : Int) < 0) by omega]
        refine IWp.trim [0, 5, 6] (IWp.skip ?_)
        simp [go_sem, -getElem?_pos, -List.map_take, -List.map_drop, List.getElem?_cons_zero, List.getElem?_cons_succ, Go.IntWalk.iteOmega, Go.IntWalk.toNatUp, hlt, w1, hge, ht, h0, e1, Item.val, Item.cells, u8_mod, show (i : Int) < L.length by omega, show ¬ ((i : Int) < 0) by omega]
        refine IWp.run [0, 5, 6] ?_
        simp [go_sem, -getElem?_pos, -List.map_take, -List.map_drop, List.getElem?_cons_zero, List.getElem?_cons_succ, Go.IntWalk.iteOmega, Go.IntWalk.toNatUp, hlt, w1, hge, ht, h0, e1, Item.val, Item.cells, u8_mod, show (i : Int) < L.length by omega, show ¬ ((i : Int) < 0) by omega]
        exact ⟨L.length - (i + 1), by omega, i + 1, rfl, by omega, rfl, by rw [hlen1, hsL, hsp2, hse]; rfl⟩
      · have hbx : x.bytes = [if 0 < x.n then 1 else 0] := by simp [Item.bytes, h0]
        rw [hbx] at hat hroom hlen1
        have ha0 := hat 0 (by simp)
        simp only [List.getD_cons_zero] at ha0
        have e1 := Rd.flag_eq (s := s) hse (by rw [hsL, hsp2]; simpa using hroom) (by rw [ha0]; split <;> decide)
        rw [ha0] at e1
        have hd : decide ((if 0 < x.n then (1 : Int) else 0) = 1) = decide (0 < x.n) := by split <;> simp_all
        rw [hd] at e1
        refine IWp.seq ?_
        refine IWp.seq ?_
        refine IWp.run [0, 5, 6, 32] ?_
        simp [go_sem, -getElem?_pos, -List.map_take, -List.map_drop, List.getElem?_cons_zero, List.getElem?_cons_succ, Go.IntWalk.iteOmega, Go.IntWalk.toNatUp, hlt, w1, hge, ht, h0, e1, Item.val, Item.cells, u8_mod, show (i : Int) < L.length by omega, show ¬ ((i : Int) < 0) by omega]
        refine IWp.cond ?_
        simp [go_sem, -getElem?_pos, -List.map_take, -List.map_drop, List.getElem?_cons_zero, List.getElem?_cons_succ, Go.IntWalk.iteOmega, Go.IntWalk.toNatUp, hlt, w1, hge, ht, h0, e1, Item.val, Item.cells, u8_mod, show (i : Int) < L.length by omega, show ¬ ((i : Int) < 0) by omega]
        refine IWp.trim [0, 5, 6] (IWp.skip ?_)
        simp [go_sem, -getElem?_pos, -List.map_take, -List.map_drop, List.getElem?_cons_zero, List.getElem?_cons_succ, Go.IntWalk.iteOmega, Go.IntWalk.toNatUp, hlt, w1, hge, ht, h0, e1, Item.val, Item.cells, u8_mod, show (i : Int) < L.length by omega, show ¬ ((i : Int) < 0) by omega]
        refine IWp.seq ?_
        refine IWp.block ?_
        refine IWp.seq ?_
        refine IWp.run [0, 5, 6] ?_
        simp [go_sem, -getElem?_pos, -List.map_take, -List.map_drop, List.getElem?_cons_zero, List.getElem?_cons_succ, Go.IntWalk.iteOmega, Go.IntWalk.toNatUp, hlt, w1, hge, ht, h0, e1, Item.val, Item.cells, u8_mod, show (i : Int) < L.length by omega, show ¬ ((i : Int) < 0) by omega]
        refine IWp.seq ?_
        refine IWp.seq ?_
        refine IWp.run [0, 5, 6, 40] ?_
        simp [go_sem, -getElem?_pos, -List.map_take, -List.map_drop, List.getElem?_cons_zero, List.getElem?_cons_succ, Go.IntWalk.iteOmega, Go.IntWalk.toNatUp, hlt, w1, hge, ht, h0, e1, Item.val, Item.cells, u8_mod, show (i : Int) < L.length by omega, show ¬ ((i : Int) < 0) by omega]
        refine IWp.block ?_
        refine IWp.seq ?_
        refine IWp.run [0, 5, 6, 40, 50] ?_
        simp [go_sem, -getElem?_pos, -List.map_take, -List.map_drop, List.getElem?_cons_zero, List.getElem?_cons_succ, Go.IntWalk.iteOmega, Go.IntWalk.toNatUp, hlt, w1, hge, ht, h0, e1, Item.val, Item.cells, u8_mod, show (i : Int) < L.length by omega, show ¬ ((i : Int) < 0) by omega]
        refine IWp.cond ?_
        simp [go_sem, -getElem?_pos, -List.map_take, -List.map_drop, List.getElem?_cons_zero, List.getElem?_cons_succ, Go.IntWalk.iteOmega, Go.IntWalk.toNatUp, hlt, w1, hge, ht, h0, e1, Item.val, Item.cells, u8_mod, show (i : Int) < L.length by omega, show ¬ ((i : Int) < 0) by omega]
        refine IWp.seq ?_
        refine IWp.run [0, 5, 6, 61] ?_
        simp [go_sem, -getElem?_pos, -List.map_take, -List.map_drop, List.getElem?_cons_zero, List.getElem?_cons_succ, Go.IntWalk.iteOmega, Go.IntWalk.toNatUp, hlt, w1, hge, ht, h0, e1, Item.val, Item.cells, u8_mod, show (i : Int) < L.length by omega, show ¬ ((i : Int) < 0) by omega]
        refine IWp.cond ?_
        simp [go_sem, -getElem?_pos, -List.map_take, -List.map_drop, List.getElem?_cons_zero, List.getElem?_cons_succ, Go.IntWalk.iteOmega, Go.IntWalk.toNatUp, hlt, w1, hge, ht, h0, e1, Item.val, Item.cells, u8_mod, show (i : Int) < L.length by omega, show ¬ ((i : Int) < 0) by omega]
        refine IWp.draw [0, 5, 6, 7] [] (.val 0 (.val 2 (.val 3 (.val 4 (.val 5 (.val 6 (.val 7 (.eff 1 (.val 8 (.val 9 .done)) .done)))))))) follows (by kernel_rfl) ?_
        simp [go_sem, -getElem?_pos, -List.map_take, -List.map_drop, List.getElem?_cons_zero, List.getElem?_cons_succ, Go.IntWalk.iteOmega, Go.IntWalk.toNatUp, hlt, w1, hge, ht, h0, e1, Item.val, Item.cells, u8_mod, show (i : Int) < L.length by omega, show ¬ ((i : Int) < 0) by omega]
        refine ICalls.mono (rFlag _ _ s hok (by simp [go_sem, Go.IntWalk.iteOmega])) ?_
        rintro v _ ⟨rfl, rfl⟩
        try simp [go_sem, -getElem?_pos, -List.map_take, -List.map_drop, List.getElem?_cons_zero, List.getElem?_cons_succ, Go.IntWalk.iteOmega, Go.IntWalk.toNatUp, hlt, w1, hge, ht, h0, e1, Item.val, Item.cells, u8_mod, show (i : Int) < L.length by omega, show ¬ ((i : Int) < 0) by omega]
        refine IWp.seq ?_
        refine IWp.run [0, 5, 6, 73] ?_
        simp [go_sem, -getElem?_pos, -List.map_take, -List.map_drop, List.getElem?_cons_zero, List.getElem?_cons_succ, Go.IntWalk.iteOmega, Go.IntWalk.toNatUp, hlt, w1, hge, ht, h0, e1, Item.val, Item.cells, u8_mod, show (i : Int) < L.length by omega, show ¬ ((i : Int) < 0) by omega]
        refine IWp.cond ?_
        simp [go_sem, -getElem?_pos, -List.map_take, -List.map_drop, List.getElem?_cons_zero, List.getElem?_cons_succ, Go.IntWalk.iteOmega, Go.IntWalk.toNatUp, hlt, w1, hge, ht, h0, e1, Item.val, Item.cells, u8_mod, show (i : Int) < L.length by omega, show ¬ ((i : Int) < 0) by omega]
        refine IWp.trim [0, 5, 6] (IWp.skip ?_)
        simp [go_sem, -getElem?_pos, -List.map_take, -List.map_drop, List.getElem?_cons_zero, List.getElem?_cons_succ, Go.IntWalk.iteOmega, Go.IntWalk.toNatUp, hlt, w1, hge, ht, h0, e1, Item.val, Item.cells, u8_mod, show (i : Int) < L.length by omega, show ¬ ((i : Int) < 0) by omega]
        refine IWp.run [0, 5, 6] ?_
        simp [go_sem, -getElem?_pos, -List.map_take, -List.map_drop, List.getElem?_cons_zero, List.getElem?_cons_succ, Go.IntWalk.iteOmega, Go.IntWalk.toNatUp, hlt, w1, hge, ht, h0, e1, Item.val, Item.cells, u8_mod, show (i : Int) < L.length by omega, show ¬ ((i : Int) < 0) by omega]
        exact ⟨L.length - (i + 1), by omega, i + 1, rfl, by omega, rfl, by rw [hlen1, hsL, hsp2, hse]; rfl⟩
      · have hbx : x.bytes = i4 x.n := by simp [Item.bytes, h0, h1]
        rw [hbx] at hat hroom hlen1
        have e1 := Rd.int_eq (s := s) hse (by rw [hsL, hsp2]; simpa [i4] using hroom)
        have hlow : be4 (s.at_ 0) (s.at_ 1) (s.at_ 2) (s.at_ 3) = lowN x.n := by
          rw [hat 0 (by simp [i4]), hat 1 (by simp [i4]), hat 2 (by simp [i4]), hat 3 (by simp [i4])]; rfl
        rw [hlow] at e1
        refine IWp.seq ?_
        refine IWp.seq ?_
        refine IWp.run [0, 5, 6, 32] ?_
        simp [go_sem, -getElem?_pos, -List.map_take, -List.map_drop, List.getElem?_cons_zero, List.getElem?_cons_succ, Go.IntWalk.iteOmega, Go.IntWalk.toNatUp, hlt, w1, hge, ht, h0, h1, e1, Item.val, Item.cells, u8_mod, show (i : Int) < L.length by omega, show ¬ ((i : Int) < 0) by omega]
        refine IWp.cond ?_
        simp [go_sem, -getElem?_pos, -List.map_take, -List.map_drop, List.getElem?_cons_zero, List.getElem?_cons_succ, Go.IntWalk.iteOmega, Go.IntWalk.toNatUp, hlt, w1, hge, ht, h0, h1, e1, Item.val, Item.cells, u8_mod, show (i : Int) < L.length by omega, show ¬ ((i : Int) < 0) by omega]
        refine IWp.trim [0, 5, 6] (IWp.skip ?_)
        simp [go_sem, -getElem?_pos, -List.map_take, -List.map_drop, List.getElem?_cons_zero, List.getElem?_cons_succ, Go.IntWalk.iteOmega, Go.IntWalk.toNatUp, hlt, w1, hge, ht, h0, h1, e1, Item.val, Item.cells, u8_mod, show (i : Int) < L.length by omega, show ¬ ((i : Int) < 0) by omega]
        refine IWp.seq ?_
        refine IWp.block ?_
        refine IWp.seq ?_
        refine IWp.run [0, 5, 6] ?_
        simp [go_sem, -getElem?_pos, -List.map_take, -List.map_drop, List.getElem?_cons_zero, List.getElem?_cons_succ, Go.IntWalk.iteOmega, Go.IntWalk.toNatUp, hlt, w1, hge, ht, h0, h1, e1, Item.val, Item.cells, u8_mod, show (i : Int) < L.length by omega, show ¬ ((i : Int) < 0) by omega]
        refine IWp.seq ?_
        refine IWp.seq ?_
        refine IWp.run [0, 5, 6, 40] ?_
        simp [go_sem, -getElem?_pos, -List.map_take, -List.map_drop, List.getElem?_cons_zero, List.getElem?_cons_succ, Go.IntWalk.iteOmega, Go.IntWalk.toNatUp, hlt, w1, hge, ht, h0, h1, e1, Item.val, Item.cells, u8_mod, show (i : Int) < L.length by omega, show ¬ ((i : Int) < 0) by omega]
        refine IWp.block ?_
        refine IWp.seq ?_
        refine IWp.run [0, 5, 6, 40, 50] ?_
        simp [go_sem, -getElem?_pos, -List.map_take, -List.map_drop, List.getElem?_cons_zero, List.getElem?_cons_succ, Go.IntWalk.iteOmega, Go.IntWalk.toNatUp, hlt, w1, hge, ht, h0, h1, e1, Item.val, Item.cells, u8_mod, show (i : Int) < L.length by omega, show ¬ ((i : Int) < 0) by omega]
        refine IWp.cond ?_
        simp [go_sem, -getElem?_pos, -List.map_take, -List.map_drop, List.getElem?_cons_zero, List.getElem?_cons_succ, Go.IntWalk.iteOmega, Go.IntWalk.toNatUp, hlt, w1, hge, ht, h0, h1, e1, Item.val, Item.cells, u8_mod, show (i : Int) < L.length by omega, show ¬ ((i : Int) < 0) by omega]
        refine IWp.seq ?_
        refine IWp.run [0, 5, 6, 61] ?_
        simp [go_sem, -getElem?_pos, -List.map_take, -List.map_drop, List.getElem?_cons_zero, List.getElem?_cons_succ, Go.IntWalk.iteOmega, Go.IntWalk.toNatUp, hlt, w1, hge, ht, h0, h1, e1, Item.val, Item.cells, u8_mod, show (i : Int) < L.length by omega, show ¬ ((i : Int) < 0) by omega]
        refine IWp.cond ?_
        simp [go_sem, -getElem?_pos, -List.map_take, -List.map_drop, List.getElem?_cons_zero, List.getElem?_cons_succ, Go.IntWalk.iteOmega, Go.IntWalk.toNatUp, hlt, w1, hge, ht, h0, h1, e1, Item.val, Item.cells, u8_mod, show (i : Int) < L.length by omega, show ¬ ((i : Int) < 0) by omega]
        refine IWp.draw [0, 5, 6, 7] [] (.val 0 (.val 2 (.val 3 (.val 4 (.val 5 (.val 6 (.eff 1 (.eff 7 (.val 8 (.val 9 .done)) .done) .done))))))) follows (by kernel_rfl) ?_
        simp [go_sem, -getElem?_pos, -List.map_take, -List.map_drop, List.getElem?_cons_zero, List.getElem?_cons_succ, Go.IntWalk.iteOmega, Go.IntWalk.toNatUp, hlt, w1, hge, ht, h0, h1, e1, Item.val, Item.cells, u8_mod, show (i : Int) < L.length by omega, show ¬ ((i : Int) < 0) by omega]
        refine ICalls.mono (rInt _ _ s hok (by simp [go_sem, Go.IntWalk.iteOmega])) ?_
        rintro v _ ⟨rfl, rfl⟩
        try simp [go_sem, -getElem?_pos, -List.map_take, -List.map_drop, List.getElem?_cons_zero, List.getElem?_cons_succ, Go.IntWalk.iteOmega, Go.IntWalk.toNatUp, hlt, w1, hge, ht, h0, h1, e1, Item.val, Item.cells, u8_mod, show (i : Int) < L.length by omega, show ¬ ((i : Int) < 0) by omega]
        refine ICalls.mono (low _ x.n (by omega)) ?_
        rintro v _ ⟨rfl, rfl⟩
        try simp [go_sem, -getElem?_pos, -List.map_take, -List.map_drop, List.getElem?_cons_zero, List.getElem?_cons_succ, Go.IntWalk.iteOmega, Go.IntWalk.toNatUp, hlt, w1, hge, ht, h0, h1, e1, Item.val, Item.cells, u8_mod, show (i : Int) < L.length by omega, show ¬ ((i : Int) < 0) by omega]
        refine IWp.seq ?_
        refine IWp.run [0, 5, 6, 73] ?_
        simp [go_sem, -getElem?_pos, -List.map_take, -List.map_drop, List.getElem?_cons_zero, List.getElem?_cons_succ, Go.IntWalk.iteOmega, Go.IntWalk.toNatUp, hlt, w1, hge, ht, h0, h1, e1, Item.val, Item.cells, u8_mod, show (i : Int) < L.length by omega, show ¬ ((i : Int) < 0) by omega]
        refine IWp.cond ?_
        simp [go_sem, -getElem?_pos, -List.map_take, -List.map_drop, List.getElem?_cons_zero, List.getElem?_cons_succ, Go.IntWalk.iteOmega, Go.IntWalk.toNatUp, hlt, w1, hge, ht, h0, h1, e1, Item.val, Item.cells, u8_mod, show (i : Int) < L.length by omega, show ¬ ((i : Int) < 0) by omega]
        refine IWp.trim [0, 5, 6] (IWp.skip ?_)
        simp [go_sem, -getElem?_pos, -List.map_take, -List.map_drop, List.getElem?_cons_zero, List.getElem?_cons_succ, Go.IntWalk.iteOmega, Go.IntWalk.toNatUp, hlt, w1, hge, ht, h0, h1, e1, Item.val, Item.cells, u8_mod, show (i : Int) < L.length by omega, show ¬ ((i : Int) < 0) by omega]
        refine IWp.run [0, 5, 6] ?_
        simp [go_sem, -getElem?_pos, -List.map_take, -List.map_drop, List.getElem?_cons_zero, List.getElem?_cons_succ, Go.IntWalk.iteOmega, Go.IntWalk.toNatUp, hlt, w1, hge, ht, h0, h1, e1, Item.val, Item.cells, u8_mod, show (i : Int) < L.length by omega, show ¬ ((i : Int) < 0) by omega]
        exact ⟨L.length - (i + 1), by omega, i + 1, rfl, by omega, rfl, by rw [hlen1, hsL, hsp2, hse]; rfl⟩
    · rw [List.take_of_length_le (by omega)] at hok ⊢
      have e4 : (Rd.mk (layB L) (layB L).length 0).left = 0 := by rw [Rd.left_ok rfl]; simp
      have e5 : (Rd.mk (layB L) (layB L).length 0).ending = (0, 0) := by simp [Rd.ending, e4, Rd.fault]
      refine IWp.seq ?_
      refine IWp.seq ?_
      refine IWp.run [0, 5, 6, 32] ?_
      simp [go_sem, -getElem?_pos, -List.map_take, -List.map_drop, List.getElem?_cons_zero, List.getElem?_cons_succ, Go.IntWalk.iteOmega, Go.IntWalk.toNatUp, show ¬ ((i : Int) < L.length) by omega, e4, e5]
      refine IWp.cond ?_
      simp [go_sem, -getElem?_pos, -List.map_take, -List.map_drop, List.getElem?_cons_zero, List.getElem?_cons_succ, Go.IntWalk.iteOmega, Go.IntWalk.toNatUp, show ¬ ((i : Int) < L.length) by omega, e4, e5]
      refine IWp.trim [5] (IWp.exit ?_)
      simp [go_sem, -getElem?_pos, -List.map_take, -List.map_drop, List.getElem?_cons_zero, List.getElem?_cons_succ, Go.IntWalk.iteOmega, Go.IntWalk.toNatUp, show ¬ ((i : Int) < L.length) by omega, e4, e5]
      refine IWp.seq ?_
      refine IWp.run [5, 8, 9] ?_
      simp [go_sem, -getElem?_pos, -List.map_take, -List.map_drop, List.getElem?_cons_zero, List.getElem?_cons_succ, Go.IntWalk.iteOmega, Go.IntWalk.toNatUp, show ¬ ((i : Int) < L.length) by omega, e4, e5]
      refine ICalls.mono (rEnd _ _ _ hok (by simp [go_sem, Go.IntWalk.iteOmega])) ?_
      rintro v H ⟨rfl, rfl⟩
      try simp [go_sem, -getElem?_pos, -List.map_take, -List.map_drop, List.getElem?_cons_zero, List.getElem?_cons_succ, Go.IntWalk.iteOmega, Go.IntWalk.toNatUp, show ¬ ((i : Int) < L.length) by omega, e4, e5]
      refine IWp.seq ?_
      refine IWp.run [2] ?_
      simp [go_sem, -getElem?_pos, -List.map_take, -List.map_drop, List.getElem?_cons_zero, List.getElem?_cons_succ, Go.IntWalk.iteOmega, Go.IntWalk.toNatUp, show ¬ ((i : Int) < L.length) by omega, e4, e5]
      refine ICalls.mono (rLeft _ _ _ hok (by simp [go_sem, Go.IntWalk.iteOmega])) ?_
      rintro v H ⟨rfl, rfl⟩
      try simp [go_sem, -getElem?_pos, -List.map_take, -List.map_drop, List.getElem?_cons_zero, List.getElem?_cons_succ, Go.IntWalk.iteOmega, Go.IntWalk.toNatUp, show ¬ ((i : Int) < L.length) by omega, e4, e5]
      refine IWp.ret ?_
      simp [go_sem, -getElem?_pos, -List.map_take, -List.map_drop, List.getElem?_cons_zero, List.getElem?_cons_succ, Go.IntWalk.iteOmega, Go.IntWalk.toNatUp, show ¬ ((i : Int) < L.length) by omega, e4, e5, Try.results11]

end Go.Proofs.Ytneiiglfdhghkaa.I
