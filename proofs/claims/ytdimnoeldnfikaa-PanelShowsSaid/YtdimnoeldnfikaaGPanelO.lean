/- Lights by numbers, as the program and the document have them. No condition. -/
import Derived.Test.YtdimnoeldnfikaaGPanelT
namespace Go.Proofs.Ytdimnoeldnfikaa.I
open Go Go.RowKit
set_option linter.unusedVariables false
set_option linter.unusedSimpArgs false

structure One where
  p : Int
  state : Int
  stage : Int
  since : Int
  deriving DecidableEq
def One.cells (x : One) : List Value := [.int .u8 x.p, .int .u8 x.state, .int .u8 x.stage, .int .u16 x.since]
def One.val (x : One) : Value := .agg ⟨x.cells⟩
theorem One.val_cells (x : One) : x.val.cells = ⟨x.cells⟩ := rfl
def One.wf (x : One) : Prop := (0 ≤ x.p ∧ x.p < 256) ∧ (0 ≤ x.state ∧ x.state < 256) ∧ (0 ≤ x.stage ∧ x.stage < 256) ∧ (0 ≤ x.since ∧ x.since < 65536)
theorem One.cl (x : One) : ClL x.cells := by
  simp [One.cells, ClL_cons, ClL_nil, ClL_append, Cl_int, Cl_bool, Cl_string, ↓cl_ints, Cl_frow_map]
theorem One.cl_row (sz : Nat) (m : Int) (L : List One) : Cl (frow sz m (L.map One.val)) = True := by
  rw [Cl_frow_map]; simp [One.val_cells, One.cl]
theorem One.cl_val (x : One) : Cl x.val = True := by
  unfold One.val; rw [Cl_agg]; simp [One.cl]
def One.ok (x : One) : Prop := (0 ≤ x.p ∧ x.p < 256) ∧ (0 ≤ x.state ∧ x.state < 256) ∧ (0 ≤ x.stage ∧ x.stage < 256) ∧ (0 ≤ x.since ∧ x.since < 65536)
instance : Inhabited One := ⟨⟨0, 0, 0, 0⟩⟩
def lifeOf (x : One) : Life := ⟨decide (x.state % 2 = 1), decide (0 < x.state % 4), decide (4 < x.state % 8), x.since, x.stage % 4⟩
def lightOf (turn : Bool) (i : Nat) (x : One) : Light := ⟨if turn = true then 40 - (i : Int) else i, 1 + x.p % 3, lifeOf x⟩
def ofP (turn : Bool) (l : List One) (n : Nat) : List Light := (List.range n).map fun k => lightOf turn k (l.getD k default)
def ofL (turn : Bool) (l : List One) : List Light := ofP turn l (min l.length 20)
theorem ofP_len (turn : Bool) (l : List One) (n : Nat) : (ofP turn l n).length = n := by unfold ofP; simp
theorem ofL_len (turn : Bool) (l : List One) : (ofL turn l).length ≤ 20 := by unfold ofL; rw [ofP_len]; omega
theorem ofP_snoc (turn : Bool) (l : List One) {n : Nat} (h : n < l.length) : ofP turn l (n + 1) = ofP turn l n ++ [lightOf turn n l[n]] := by
  unfold ofP
  rw [List.range_succ, List.map_append, List.map_singleton, List.getD_eq_getElem?_getD, List.getElem?_eq_getElem h]; rfl
theorem ofP_nodup (turn : Bool) (l : List One) (n : Nat) : ((ofP turn l n).map Light.cond).Nodup := by
  unfold ofP
  rw [List.map_map]
  unfold List.Nodup
  rw [List.pairwise_map]
  refine (List.nodup_range (n := n)).imp ?_
  intro x y hne e
  simp only [Function.comp, lightOf] at e
  cases turn <;> simp at e <;> omega
theorem ofL_nodup (turn : Bool) (l : List One) : ((ofL turn l).map Light.cond).Nodup := ofP_nodup turn l _

/-- Not of one block. -/
def Diff (v w : Value) : Prop := ∀ b o s l c o' s' l' c', v = .slice (some ⟨b, o, s⟩) l c → w ≠ .slice (some ⟨b, o', s'⟩) l' c'
theorem Bld.keep {sz n : Nat} {H K : Heap} {v w : Value} {us : List Value} (h : Bld sz H n v us) (hd : Diff v w) (hk : ∀ b, b < H.next → (∀ o s l c, w ≠ .slice (some ⟨b, o, s⟩) l c) → K.get b = H.get b) : Bld sz K n v us := by
  refine ⟨h.1, h.2.imp id fun ⟨b, h1, h2, h3⟩ => ⟨b, h1, h2, ?_⟩⟩
  rw [hk b (Heap.lt_of_get h3) (fun o s l c => hd b _ _ _ _ _ _ _ _ h2)]; exact h3
theorem Bld.lt {sz n : Nat} {H : Heap} {v : Value} {us : List Value} (h : Bld sz H n v us) {b o : Nat} {s : Option Nat} {l c : Nat} (e : v = .slice (some ⟨b, o, s⟩) l c) : b < H.next := by
  rcases h.2 with ⟨h1, _⟩ | ⟨b', h1, h2, h3⟩
  · rw [h1] at e; cases e
  · rw [h2] at e; cases e; exact Heap.lt_of_get h3

set_option maxRecDepth 100000 in
set_option maxHeartbeats 4000000 in
theorem ofC (H : Heap) (l : List One) (turn : Bool) (hl : l.length ≤ 1000000) (hw : ∀ x ∈ l, x.ok) : ICalls Try.prog 32 [frow 4 0 (l.map One.val), .bool turn] H fun v H' => v = .tuple ⟨[frow 7 0 ((ofL turn l).map Light.val), frow 7 0 ((ofL turn l).map Light.val)]⟩ ∧ H' = H := by
  refine ICalls.ans (by
    rw [Cl_tuple, ClL_cons, ClL_cons, ClL_nil]
    have : Cl (frow 7 0 ((ofL turn l).map Light.val)) := by simp [go_sem]; exact fun y _ => Light.cl y
    exact ⟨this, this, trivial⟩) fun H => IBody.calls (by kernel_rfl) ?_
  refine IBody.of Try.func32 rfl (by rw [Try.ntmps32]; simp) ?_
  rw [Try.ntmps32]
  refine IWp.seq ?_
  refine IWp.run [0, 1] ?_
  simp [go_sem, -getElem?_pos, -List.map_take, -List.map_drop, List.getElem?_cons_zero, List.getElem?_cons_succ, Go.IntWalk.iteOmega, Go.IntWalk.toNatUp]
  refine IWp.seq ?_
  refine IWp.run [0, 1, 6] ?_
  simp [go_sem, -getElem?_pos, -List.map_take, -List.map_drop, List.getElem?_cons_zero, List.getElem?_cons_succ, Go.IntWalk.iteOmega, Go.IntWalk.toNatUp]
  refine IWp.seq ?_
  refine IWp.run [0, 1, 6, 7] ?_
  simp [go_sem, -getElem?_pos, -List.map_take, -List.map_drop, List.getElem?_cons_zero, List.getElem?_cons_succ, Go.IntWalk.iteOmega, Go.IntWalk.toNatUp]
  refine IWp.seq ?_
  refine IWp.seq ?_
  refine IWp.run [0, 1, 6, 7, 8] ?_
  simp [go_sem, -getElem?_pos, -List.map_take, -List.map_drop, List.getElem?_cons_zero, List.getElem?_cons_succ, Go.IntWalk.iteOmega, Go.IntWalk.toNatUp]
  refine IWp.block ?_
  -- LOOP live [0, 1, 6, 7, 8]
  refine IWp.loop (fun q e K => ∃ (i : Nat) (v w : Value), q = l.length - i ∧ i ≤ l.length ∧ i ≤ 20 ∧ Bld 7 K H.next v ((ofP turn l i).map Light.val) ∧ Bld 7 K H.next w ((ofP turn l i).map Light.val) ∧ Diff v w ∧ H.next ≤ K.next ∧ e = [(0, frow 4 0 (l.map One.val)), (1, .bool turn), (6, v), (7, w), (8, .int .i64 (i : Int))]) l.length ⟨0, .slice none 0 0, .slice none 0 0, rfl, Nat.zero_le _, Nat.zero_le _, Bld.nil _ _ _, Bld.nil _ _ _, fun _ _ _ _ _ _ _ _ _ e => (by cases e), Nat.le_refl _, by simp [go_sem]⟩ ?_
  rintro q e K ⟨i, v, w, rfl, hi, hi20, hv, hu, hd, hK, rfl⟩
  have wi := IntWalk.i64_in ((i : Int) + 1) (by omega)
  have wj := IntWalk.i64_in (40 - (i : Int)) (by omega)
  have wii := IntWalk.i64_in (i : Int) (by omega)
  have fin : ¬ (i < l.length ∧ i < 20) → ofP turn l i = ofL turn l := fun h => by unfold ofL; congr 1; omega
  by_cases hlt : i < l.length
  case neg =>
    rw [fin (fun h => hlt h.1)] at hv hu
    refine IWp.seq ?_
    refine IWp.seq ?_
    refine IWp.run [0, 1, 6, 7, 8, 19] ?_
    simp [go_sem, -getElem?_pos, -List.map_take, -List.map_drop, List.getElem?_cons_zero, List.getElem?_cons_succ, Go.IntWalk.iteOmega, Go.IntWalk.toNatUp, hlt]
    refine IWp.cond ?_
    simp [go_sem, -getElem?_pos, -List.map_take, -List.map_drop, List.getElem?_cons_zero, List.getElem?_cons_succ, Go.IntWalk.iteOmega, Go.IntWalk.toNatUp, hlt]
    refine IWp.trim [6, 7] (IWp.exit ?_)
    simp [go_sem, -getElem?_pos, -List.map_take, -List.map_drop, List.getElem?_cons_zero, List.getElem?_cons_succ, Go.IntWalk.iteOmega, Go.IntWalk.toNatUp, hlt]
    refine IWp.seq ?_
    refine IWp.run [4, 5] ?_
    simp [go_sem, -getElem?_pos, -List.map_take, -List.map_drop, List.getElem?_cons_zero, List.getElem?_cons_succ, Go.IntWalk.iteOmega, Go.IntWalk.toNatUp, hlt]
    refine IWp.ret ?_
    simp [go_sem, -getElem?_pos, -List.map_take, -List.map_drop, List.getElem?_cons_zero, List.getElem?_cons_succ, Go.IntWalk.iteOmega, Go.IntWalk.toNatUp, hlt, Try.results32]
    exact ⟨hv.frz, hu.frz⟩
  by_cases h20 : i < 20
  case neg =>
    rw [fin (fun h => h20 h.2)] at hv hu
    refine IWp.seq ?_
    refine IWp.seq ?_
    refine IWp.run [0, 1, 6, 7, 8, 19] ?_
    simp [go_sem, -getElem?_pos, -List.map_take, -List.map_drop, List.getElem?_cons_zero, List.getElem?_cons_succ, Go.IntWalk.iteOmega, Go.IntWalk.toNatUp, hlt, h20]
    refine IWp.cond ?_
    simp [go_sem, -getElem?_pos, -List.map_take, -List.map_drop, List.getElem?_cons_zero, List.getElem?_cons_succ, Go.IntWalk.iteOmega, Go.IntWalk.toNatUp, hlt, h20]
    refine IWp.trim [6, 7] (IWp.exit ?_)
    simp [go_sem, -getElem?_pos, -List.map_take, -List.map_drop, List.getElem?_cons_zero, List.getElem?_cons_succ, Go.IntWalk.iteOmega, Go.IntWalk.toNatUp, hlt, h20]
    refine IWp.seq ?_
    refine IWp.run [4, 5] ?_
    simp [go_sem, -getElem?_pos, -List.map_take, -List.map_drop, List.getElem?_cons_zero, List.getElem?_cons_succ, Go.IntWalk.iteOmega, Go.IntWalk.toNatUp, hlt, h20]
    refine IWp.ret ?_
    simp [go_sem, -getElem?_pos, -List.map_take, -List.map_drop, List.getElem?_cons_zero, List.getElem?_cons_succ, Go.IntWalk.iteOmega, Go.IntWalk.toNatUp, hlt, h20, Try.results32]
    exact ⟨hv.frz, hu.frz⟩
  have gi : (l.map One.val)[i]? = some (l[i]).val := by simp [hlt]
  have hs := ofP_snoc turn l hlt
  have hx := hw l[i] (List.getElem_mem hlt)
  generalize l[i] = x at *
  have hlen := ofP_len turn l i
  obtain ⟨⟨p1, p2⟩, ⟨s1, s2⟩, ⟨t1, t2⟩, ⟨c1, c2⟩⟩ := hx
  have m1 : x.state.tmod 2 = x.state % 2 := Int.tmod_eq_emod_of_nonneg s1
  have m2 : x.state.tmod 4 = x.state % 4 := Int.tmod_eq_emod_of_nonneg s1
  have m3 : x.state.tmod 8 = x.state % 8 := Int.tmod_eq_emod_of_nonneg s1
  have m4 : x.stage.tmod 4 = x.stage % 4 := Int.tmod_eq_emod_of_nonneg t1
  have m5 : x.p.tmod 3 = x.p % 3 := Int.tmod_eq_emod_of_nonneg p1
  have u1 := IntWalk.u8_in (x.state % 2) (by omega)
  have u2 := IntWalk.u8_in (x.state % 4) (by omega)
  have u3 := IntWalk.u8_in (x.state % 8) (by omega)
  have u4 := IntWalk.u8_in (x.stage % 4) (by omega)
  have u5 := IntWalk.u8_in (x.p % 3) (by omega)
  have u6 := IntWalk.u8_in (1 + x.p % 3) (by omega)
  have u7 := IntWalk.i64_in (x.stage % 4) (by omega)
  have u8 := IntWalk.i64_in x.since (by omega)
  have hone : x.cells = [.int .u8 x.p, .int .u8 x.state, .int .u8 x.stage, .int .u16 x.since] := rfl
  obtain ⟨K1, hK1⟩ : ∃ K1, K1 = (K.alloc [.int .u8 x.p, .int .u8 x.state, .int .u8 x.stage, .int .u16 x.since]).alloc (lifeOf x).cells := ⟨_, rfl⟩
  have hu1 : Bld 7 K1 H.next w ((ofP turn l i).map Light.val) := by rw [hK1]; exact hu.alloc2 _ _
  have hv1 : Bld 7 K1 H.next v ((ofP turn l i).map Light.val) := by rw [hK1]; exact hv.alloc2 _ _
  have hn1 : K1.next = K.next + 1 + 1 := by rw [hK1]; rfl
  have hl1 : K1.get (K.next + 1) = some ⟨(lifeOf x).cells, true⟩ := by rw [hK1]; exact Heap.get_alloc_new _ _
  have ho1 : K1.get K.next = some ⟨x.cells, true⟩ := by rw [hK1]; simp [get_alloc, next_alloc, One.cells]
  obtain ⟨w', H1, e1, b1, s1', n1, f1, q1⟩ := app_one (P := Try.prog) (t := 54) (e := 102) (sz := 7) (by_ := 40) (z := .agg ⟨[.int .i64 0, .int .u8 0, .bool false, .bool false, .bool false, .int .i64 0, .int .i64 0]⟩) (by kernel_rfl) (by kernel_rfl) (by kernel_rfl) (by kernel_rfl) rfl (lightOf turn i x).val (lightOf turn i x).cells hu1 rfl rfl rfl (by omega) (by simp; omega) (by simp; omega)
  have hv2 : Bld 7 H1 H.next v ((ofP turn l i).map Light.val) := hv1.keep hd f1
  have hl2 : H1.get (K.next + 1) = some ⟨(lifeOf x).cells, true⟩ := by rw [f1 (K.next + 1) (by omega) (fun o s l c e => by have := hu.lt e; omega)]; exact hl1
  have ho2 : H1.get K.next = some ⟨x.cells, true⟩ := by rw [f1 K.next (by omega) (fun o s l c e => by have := hu.lt e; omega)]; exact ho1
  obtain ⟨v', H2, e2, b2, s2', n2, f2, q2⟩ := app_one (P := Try.prog) (t := 53) (e := 69) (sz := 7) (by_ := 40) (z := .agg ⟨[.int .i64 0, .int .u8 0, .bool false, .bool false, .bool false, .int .i64 0, .int .i64 0]⟩) (by kernel_rfl) (by kernel_rfl) (by kernel_rfl) (by kernel_rfl) rfl (lightOf turn i x).val (lightOf turn i x).cells hv2 rfl rfl rfl (by omega) (by simp; omega) (by simp; omega)
  have hd2 : Diff w' v := by
    intro b o s l c o' s' l' c' e e3
    have h1 := hv1.lt e3
    rw [q1] at e; cases e; omega
  have hw2 := b1.keep hd2 (fun b hb hne => f2 b hb hne)
  rw [← List.map_singleton, ← List.map_append, ← hs] at b2 hw2
  have hd3 : Diff v' w' := by
    intro b o s l c o' s' l' c' e e3
    have h1 := b1.lt e3
    rw [q2] at e; cases e; omega
  simp only [Light.cells, Life.cells, lightOf, lifeOf, List.cons_append, List.nil_append] at e1 e2
  simp only [Life.cells, lifeOf] at hl2
  rw [hone] at ho2
  rw [hK1] at e1
  simp only [next_alloc, Life.cells, lifeOf] at e1
  cases turn with
  | false =>
    simp only [Bool.false_eq_true, if_false] at e1 e2
    refine IWp.seq ?_
    refine IWp.seq ?_
    refine IWp.run [0, 1, 6, 7, 8, 19] ?_
    simp [go_sem, -getElem?_pos, -List.map_take, -List.map_drop, List.getElem?_cons_zero, List.getElem?_cons_succ, Go.IntWalk.iteOmega, Go.IntWalk.toNatUp, hlt, h20, gi, wi, wj, wii, m1, m2, m3, m4, m5, u1, u2, u3, u4, u5, u6, u7, u8, One.val, One.cells, e1, e2, hl2, ho2]
    refine IWp.cond ?_
    simp [go_sem, -getElem?_pos, -List.map_take, -List.map_drop, List.getElem?_cons_zero, List.getElem?_cons_succ, Go.IntWalk.iteOmega, Go.IntWalk.toNatUp, hlt, h20, gi, wi, wj, wii, m1, m2, m3, m4, m5, u1, u2, u3, u4, u5, u6, u7, u8, One.val, One.cells, e1, e2, hl2, ho2]
    refine IWp.trim [0, 1, 6, 7, 8] (IWp.skip ?_)
    simp [go_sem, -getElem?_pos, -List.map_take, -List.map_drop, List.getElem?_cons_zero, List.getElem?_cons_succ, Go.IntWalk.iteOmega, Go.IntWalk.toNatUp, hlt, h20, gi, wi, wj, wii, m1, m2, m3, m4, m5, u1, u2, u3, u4, u5, u6, u7, u8, One.val, One.cells, e1, e2, hl2, ho2]
    refine IWp.seq ?_
    refine IWp.block ?_
    refine IWp.seq ?_
    refine IWp.run [0, 1, 6, 7, 8, 9] ?_
    simp [go_sem, -getElem?_pos, -List.map_take, -List.map_drop, List.getElem?_cons_zero, List.getElem?_cons_succ, Go.IntWalk.iteOmega, Go.IntWalk.toNatUp, hlt, h20, gi, wi, wj, wii, m1, m2, m3, m4, m5, u1, u2, u3, u4, u5, u6, u7, u8, One.val, One.cells, e1, e2, hl2, ho2]
    refine IWp.seq ?_
    refine IWp.run [0, 1, 6, 7, 8, 9, 10] ?_
    simp [go_sem, -getElem?_pos, -List.map_take, -List.map_drop, List.getElem?_cons_zero, List.getElem?_cons_succ, Go.IntWalk.iteOmega, Go.IntWalk.toNatUp, hlt, h20, gi, wi, wj, wii, m1, m2, m3, m4, m5, u1, u2, u3, u4, u5, u6, u7, u8, One.val, One.cells, e1, e2, hl2, ho2]
    refine IWp.seq ?_
    refine IWp.seq ?_
    refine IWp.run [0, 1, 6, 7, 8, 9, 10, 27] ?_
    simp [go_sem, -getElem?_pos, -List.map_take, -List.map_drop, List.getElem?_cons_zero, List.getElem?_cons_succ, Go.IntWalk.iteOmega, Go.IntWalk.toNatUp, hlt, h20, gi, wi, wj, wii, m1, m2, m3, m4, m5, u1, u2, u3, u4, u5, u6, u7, u8, One.val, One.cells, e1, e2, hl2, ho2]
    refine IWp.cond ?_
    simp [go_sem, -getElem?_pos, -List.map_take, -List.map_drop, List.getElem?_cons_zero, List.getElem?_cons_succ, Go.IntWalk.iteOmega, Go.IntWalk.toNatUp, hlt, h20, gi, wi, wj, wii, m1, m2, m3, m4, m5, u1, u2, u3, u4, u5, u6, u7, u8, One.val, One.cells, e1, e2, hl2, ho2]
    refine IWp.trim [0, 1, 6, 7, 8, 9, 10] (IWp.skip ?_)
    simp [go_sem, -getElem?_pos, -List.map_take, -List.map_drop, List.getElem?_cons_zero, List.getElem?_cons_succ, Go.IntWalk.iteOmega, Go.IntWalk.toNatUp, hlt, h20, gi, wi, wj, wii, m1, m2, m3, m4, m5, u1, u2, u3, u4, u5, u6, u7, u8, One.val, One.cells, e1, e2, hl2, ho2]
    refine IWp.seq ?_
    refine IWp.run [0, 1, 6, 7, 8, 9, 10, 11] ?_
    simp [go_sem, -getElem?_pos, -List.map_take, -List.map_drop, List.getElem?_cons_zero, List.getElem?_cons_succ, Go.IntWalk.iteOmega, Go.IntWalk.toNatUp, hlt, h20, gi, wi, wj, wii, m1, m2, m3, m4, m5, u1, u2, u3, u4, u5, u6, u7, u8, One.val, One.cells, e1, e2, hl2, ho2]
    refine IWp.seq ?_
    refine IWp.run [0, 1, 6, 7, 8, 9, 10, 11] ?_
    simp [go_sem, -getElem?_pos, -List.map_take, -List.map_drop, List.getElem?_cons_zero, List.getElem?_cons_succ, Go.IntWalk.iteOmega, Go.IntWalk.toNatUp, hlt, h20, gi, wi, wj, wii, m1, m2, m3, m4, m5, u1, u2, u3, u4, u5, u6, u7, u8, One.val, One.cells, e1, e2, hl2, ho2]
    refine IWp.run [0, 1, 6, 7, 8] ?_
    simp [go_sem, -getElem?_pos, -List.map_take, -List.map_drop, List.getElem?_cons_zero, List.getElem?_cons_succ, Go.IntWalk.iteOmega, Go.IntWalk.toNatUp, hlt, h20, gi, wi, wj, wii, m1, m2, m3, m4, m5, u1, u2, u3, u4, u5, u6, u7, u8, One.val, One.cells, e1, e2, hl2, ho2]
    refine IWp.run [0, 1, 6, 7, 8] ?_
    simp [go_sem, -getElem?_pos, -List.map_take, -List.map_drop, List.getElem?_cons_zero, List.getElem?_cons_succ, Go.IntWalk.iteOmega, Go.IntWalk.toNatUp, hlt, h20, gi, wi, wj, wii, m1, m2, m3, m4, m5, u1, u2, u3, u4, u5, u6, u7, u8, One.val, One.cells, e1, e2, hl2, ho2]
    exact ⟨l.length - (i + 1), by omega, i + 1, rfl, by omega, by omega, v', b2, w', hw2, hd3, by omega, rfl, rfl, by omega⟩
  | true =>
    simp only [if_true] at e1 e2
    refine IWp.seq ?_
    refine IWp.seq ?_
    refine IWp.run [0, 1, 6, 7, 8, 19] ?_
    simp [go_sem, -getElem?_pos, -List.map_take, -List.map_drop, List.getElem?_cons_zero, List.getElem?_cons_succ, Go.IntWalk.iteOmega, Go.IntWalk.toNatUp, hlt, h20, gi, wi, wj, wii, m1, m2, m3, m4, m5, u1, u2, u3, u4, u5, u6, u7, u8, One.val, One.cells, e1, e2, hl2, ho2]
    refine IWp.cond ?_
    simp [go_sem, -getElem?_pos, -List.map_take, -List.map_drop, List.getElem?_cons_zero, List.getElem?_cons_succ, Go.IntWalk.iteOmega, Go.IntWalk.toNatUp, hlt, h20, gi, wi, wj, wii, m1, m2, m3, m4, m5, u1, u2, u3, u4, u5, u6, u7, u8, One.val, One.cells, e1, e2, hl2, ho2]
    refine IWp.trim [0, 1, 6, 7, 8] (IWp.skip ?_)
    simp [go_sem, -getElem?_pos, -List.map_take, -List.map_drop, List.getElem?_cons_zero, List.getElem?_cons_succ, Go.IntWalk.iteOmega, Go.IntWalk.toNatUp, hlt, h20, gi, wi, wj, wii, m1, m2, m3, m4, m5, u1, u2, u3, u4, u5, u6, u7, u8, One.val, One.cells, e1, e2, hl2, ho2]
    refine IWp.seq ?_
    refine IWp.block ?_
    refine IWp.seq ?_
    refine IWp.run [0, 1, 6, 7, 8, 9] ?_
    simp [go_sem, -getElem?_pos, -List.map_take, -List.map_drop, List.getElem?_cons_zero, List.getElem?_cons_succ, Go.IntWalk.iteOmega, Go.IntWalk.toNatUp, hlt, h20, gi, wi, wj, wii, m1, m2, m3, m4, m5, u1, u2, u3, u4, u5, u6, u7, u8, One.val, One.cells, e1, e2, hl2, ho2]
    refine IWp.seq ?_
    refine IWp.run [0, 1, 6, 7, 8, 9, 10] ?_
    simp [go_sem, -getElem?_pos, -List.map_take, -List.map_drop, List.getElem?_cons_zero, List.getElem?_cons_succ, Go.IntWalk.iteOmega, Go.IntWalk.toNatUp, hlt, h20, gi, wi, wj, wii, m1, m2, m3, m4, m5, u1, u2, u3, u4, u5, u6, u7, u8, One.val, One.cells, e1, e2, hl2, ho2]
    refine IWp.seq ?_
    refine IWp.seq ?_
    refine IWp.run [0, 1, 6, 7, 8, 9, 10, 27] ?_
    simp [go_sem, -getElem?_pos, -List.map_take, -List.map_drop, List.getElem?_cons_zero, List.getElem?_cons_succ, Go.IntWalk.iteOmega, Go.IntWalk.toNatUp, hlt, h20, gi, wi, wj, wii, m1, m2, m3, m4, m5, u1, u2, u3, u4, u5, u6, u7, u8, One.val, One.cells, e1, e2, hl2, ho2]
    refine IWp.cond ?_
    simp [go_sem, -getElem?_pos, -List.map_take, -List.map_drop, List.getElem?_cons_zero, List.getElem?_cons_succ, Go.IntWalk.iteOmega, Go.IntWalk.toNatUp, hlt, h20, gi, wi, wj, wii, m1, m2, m3, m4, m5, u1, u2, u3, u4, u5, u6, u7, u8, One.val, One.cells, e1, e2, hl2, ho2]
    refine IWp.run [0, 1, 6, 7, 8, 9, 10] ?_
    simp [go_sem, -getElem?_pos, -List.map_take, -List.map_drop, List.getElem?_cons_zero, List.getElem?_cons_succ, Go.IntWalk.iteOmega, Go.IntWalk.toNatUp, hlt, h20, gi, wi, wj, wii, m1, m2, m3, m4, m5, u1, u2, u3, u4, u5, u6, u7, u8, One.val, One.cells, e1, e2, hl2, ho2]
    refine IWp.seq ?_
    refine IWp.run [0, 1, 6, 7, 8, 9, 10, 11] ?_
    simp [go_sem, -getElem?_pos, -List.map_take, -List.map_drop, List.getElem?_cons_zero, List.getElem?_cons_succ, Go.IntWalk.iteOmega, Go.IntWalk.toNatUp, hlt, h20, gi, wi, wj, wii, m1, m2, m3, m4, m5, u1, u2, u3, u4, u5, u6, u7, u8, One.val, One.cells, e1, e2, hl2, ho2]
    refine IWp.seq ?_
    refine IWp.run [0, 1, 6, 7, 8, 9, 10, 11] ?_
    simp [go_sem, -getElem?_pos, -List.map_take, -List.map_drop, List.getElem?_cons_zero, List.getElem?_cons_succ, Go.IntWalk.iteOmega, Go.IntWalk.toNatUp, hlt, h20, gi, wi, wj, wii, m1, m2, m3, m4, m5, u1, u2, u3, u4, u5, u6, u7, u8, One.val, One.cells, e1, e2, hl2, ho2]
    refine IWp.run [0, 1, 6, 7, 8] ?_
    simp [go_sem, -getElem?_pos, -List.map_take, -List.map_drop, List.getElem?_cons_zero, List.getElem?_cons_succ, Go.IntWalk.iteOmega, Go.IntWalk.toNatUp, hlt, h20, gi, wi, wj, wii, m1, m2, m3, m4, m5, u1, u2, u3, u4, u5, u6, u7, u8, One.val, One.cells, e1, e2, hl2, ho2]
    refine IWp.run [0, 1, 6, 7, 8] ?_
    simp [go_sem, -getElem?_pos, -List.map_take, -List.map_drop, List.getElem?_cons_zero, List.getElem?_cons_succ, Go.IntWalk.iteOmega, Go.IntWalk.toNatUp, hlt, h20, gi, wi, wj, wii, m1, m2, m3, m4, m5, u1, u2, u3, u4, u5, u6, u7, u8, One.val, One.cells, e1, e2, hl2, ho2]
    exact ⟨l.length - (i + 1), by omega, i + 1, rfl, by omega, by omega, v', b2, w', hw2, hd3, by omega, rfl, rfl, by omega⟩

end Go.Proofs.Ytdimnoeldnfikaa.I
