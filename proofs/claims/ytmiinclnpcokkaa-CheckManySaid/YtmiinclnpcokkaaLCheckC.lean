/- As many signals, rules and slots as may be, and one more: the law's body. No condition. -/
import Derived.Test.YtmiinclnpcokkaaLCheck
import Derived.Test.YtmiinclnpcokkaaLTableD
namespace Go.Proofs.Ytmiinclnpcokkaa.I
open Go Go.RowKit
set_option linter.unusedVariables false
set_option linter.unusedSimpArgs false

def sigZ : Sig := ⟨0, 0⟩
def ruleM : Rule := ⟨6, 0, 0, 0, 0, 0, 1, false, []⟩
def manyC (s r t : Nat) : Config := ⟨List.replicate s sigZ, List.replicate r ruleM, ((List.range r).map fun i : Nat => (i : Int)) :: List.replicate (t - 1) [], 1, 1, 1, 33, 1, 1, false, 1⟩

theorem many_right (s r t : Nat) (h1 : 1 ≤ s ∧ s ≤ 10) (h2 : 1 ≤ r ∧ r ≤ 40) (h3 : 1 ≤ t ∧ t ≤ 70) : ((firstS (manyC s r t)).1 = 0) ↔ (s ≤ 8 ∧ r ≤ 32 ∧ t ≤ 64) := by
  obtain ⟨c, hc⟩ : ∃ c, c = manyC s r t := ⟨_, rfl⟩
  have hs : c.sigs.length = s := by rw [hc]; simp [manyC]
  have hr : c.rules.length = r := by rw [hc]; simp [manyC]
  have ht : c.table.length = t := by rw [hc]; simp [manyC]; omega
  rw [← hc]
  have a0 : AllTo c 0 := .zero
  have hh0 : holdsS c 0 0 = inS c.sigs.length 1 8 := rfl
  by_cases t1 : s ≤ 8
  case neg =>
    rw [a0.bad (by omega) (show 0 < 1 by omega) .zero (by rw [hh0, hs]; exact inS_not.2 (by omega))]
    simp; omega
  have a1 := a0.one rfl (by rw [hh0, hs]; exact inS_iff.2 (by omega))
  have a2 : AllTo c 2 := a1.next fun j hj => by
    have hj : j < c.sigs.length := hj
    have : holdsS c 1 j = sigB c.sigs[j] := by simp [holdsS, List.getElem?_eq_getElem hj]
    rw [this]
    have : c.sigs[j] = sigZ := by subst hc; simp [manyC]
    rw [this]; rfl
  have hh2 : holdsS c 2 0 = inS c.rules.length 1 32 := rfl
  by_cases t2 : r ≤ 32
  case neg =>
    rw [a2.bad (by omega) (show 0 < 1 by omega) .zero (by rw [hh2, hr]; exact inS_not.2 (by omega))]
    simp; omega
  have a3 := a2.one rfl (by rw [hh2, hr]; exact inS_iff.2 (by omega))
  have hrule : ∀ n, 3 ≤ n ∧ n ≤ 9 → ∀ j, j < placesS c n → holdsS c n j = true := fun n hn j hj => by
    have hj2 : j < c.rules.length := by
      have : n = 3 ∨ n = 4 ∨ n = 5 ∨ n = 6 ∨ n = 7 ∨ n = 8 ∨ n = 9 := by omega
      rcases this with rfl | rfl | rfl | rfl | rfl | rfl | rfl <;> exact hj
    rw [(holdsS_rule c hn (List.getElem?_eq_getElem hj2)).1, show c.rules[j] = ruleM by subst hc; simp [manyC], hs]
    have : n = 3 ∨ n = 4 ∨ n = 5 ∨ n = 6 ∨ n = 7 ∨ n = 8 ∨ n = 9 := by omega
    rcases this with rfl | rfl | rfl | rfl | rfl | rfl | rfl
    · rfl
    · exact inS_iff.2 (show 0 ≤ (0 : Int) ∧ (0 : Int) ≤ (s : Int) - 1 by omega)
    all_goals rfl
  have a10 : AllTo c 10 := fun m hm j hj => by
    by_cases h : m < 3
    · exact a3 m h j hj
    · exact hrule m (by omega) j hj
  have hh10 : holdsS c 10 0 = inS c.table.length 1 64 := rfl
  by_cases t3 : t ≤ 64
  case neg =>
    rw [a10.bad (by omega) (show 0 < 1 by omega) .zero (by rw [hh10, ht]; exact inS_not.2 (by omega))]
    simp; omega
  have a11 := a10.one rfl (by rw [hh10, ht]; exact inS_iff.2 (by omega))
  have a12 : AllTo c 12 := a11.next fun j hj => by
    have hj : j < c.table.length := hj
    have : holdsS c 11 j = decide (SlotOk c.rules.length c.table[j]) := by simp [holdsS, List.getElem?_eq_getElem hj]
    rw [this, hr]
    refine decide_eq_true ?_
    subst hc
    cases j with
    | zero =>
      show SlotOk r ((List.range r).map fun i : Nat => (i : Int))
      refine ⟨fun x hx => ?_, ?_⟩
      · obtain ⟨i, hi, rfl⟩ := List.mem_map.1 hx
        have := List.mem_range.1 hi
        omega
      · exact List.Pairwise.map _ (fun a b (hab : a ≠ b) e => hab (by omega)) List.nodup_range
    | succ j =>
      have : (manyC s r t).table[j + 1] = [] := by simp [manyC]
      rw [this]; exact SlotOk.nil _
  have a13 : AllTo c 13 := a12.next fun j hj => by
    have hj : j < c.rules.length := hj
    show standsS c.table j = true
    rw [standsS_iff]
    subst hc
    exact ⟨_, List.mem_cons_self .., List.mem_map.2 ⟨j, List.mem_range.2 (by omega), rfl⟩⟩
  have a14 : AllTo c 14 := a13.next fun j hj => by
    have hj : j < 3 := hj
    subst hc
    have : j = 0 ∨ j = 1 ∨ j = 2 := by omega
    rcases this with rfl | rfl | rfl <;> rfl
  have hent : entriesS c.table = r := by
    subst hc
    simp [manyC, entriesS]
  have a15 := a14.one rfl (show holdsS c 14 0 = true by
    show (inS c.drain 1 64 && decide ((entriesS c.table : Int) < c.drain * c.table.length)) = true
    rw [hent, ht, show c.drain = 33 by rw [hc]; rfl]
    rw [show inS 33 1 64 = true from rfl, Bool.true_and]
    exact decide_eq_true (by omega))
  have a16 := a15.one rfl (show holdsS c 15 0 = true by subst hc; rfl)
  have a17 := a16.one rfl (show holdsS c 16 0 = true by subst hc; rfl)
  rw [a17.all]
  simp; omega

theorem many_sized (s r t : Nat) (h1 : 1 ≤ s ∧ s ≤ 10) (h2 : 1 ≤ r ∧ r ≤ 40) (h3 : 1 ≤ t ∧ t ≤ 70) : Sized (manyC s r t) := by
  refine ⟨by simp [manyC]; omega, by simp [manyC]; omega, by simp [manyC]; omega, fun x hx => ?_, fun x hx => ?_⟩
  · rcases List.mem_cons.1 hx with rfl | hx
    · simp; omega
    · rw [(List.mem_replicate.1 hx).2]; simp
  · rw [(List.mem_replicate.1 hx).2]; simp [ruleM]


def CM (sv rv tv : Value) : List Value := [sv, rv, tv, .int .i64 1, .int .i64 1, .int .i64 1, .int .i64 33, .int .i64 1, .int .i64 1, .bool false, .int .i64 1]

def rzM : Value := .agg ⟨[.int .u8 6, .int .i64 0, .int .i64 0, .int .i64 0, .int .i64 0, .int .i64 0, .int .u8 1, .bool false, .slice none 0 0]⟩
theorem frzM (H : Heap) (S : Nat → Bool) : ∀ n, FrzE H S 9 ((List.replicate n rzM).flatMap fun u => u.cells.toList) ((List.replicate n ruleM).map Rule.val)
  | 0 => .nil
  | n + 1 => by
    rw [List.replicate_succ, List.replicate_succ, List.flatMap_cons, List.map_cons]
    exact .cons rfl (.cons (.same _) (.cons (.same _) (.cons (.same _) (.cons (.same _) (.cons (.same _) (.cons (.same _) (.cons (.same _) (.cons (.same _) (.cons (.nil 2) .nil))))))))) (frzM H S n)
theorem frzN (H : Heap) (S : Nat → Bool) : ∀ n, FrzE H S 1 ((List.replicate n (Value.slice none 0 0)).flatMap fun u => u.cells.toList) ((List.replicate n ([] : List Int)).map (ints .i64))
  | 0 => .nil
  | n + 1 => by
    rw [List.replicate_succ, List.replicate_succ, List.flatMap_cons, List.map_cons]
    exact .cons rfl (.cons (.nil 1) .nil) (frzN H S n)

set_option maxHeartbeats 1000000 in
theorem checkMany_law (H : Heap) (sg ru sl : Int) (w0 : 0 ≤ sg ∧ sg < 256) (w1 : 0 ≤ ru ∧ ru < 256) (w2 : 0 ≤ sl ∧ sl < 256) :
    IBody Try.prog 13 [.int .u8 sg, .int .u8 ru, .int .u8 sl] H fun v _ => v = .bool true := by
  obtain ⟨s, hs⟩ : ∃ s : Nat, 1 + sg % 10 = s := ⟨(1 + sg % 10).toNat, by omega⟩
  obtain ⟨r, hr⟩ : ∃ r : Nat, 1 + ru % 40 = r := ⟨(1 + ru % 40).toNat, by omega⟩
  obtain ⟨t, ht⟩ : ∃ t : Nat, 1 + sl % 70 = t := ⟨(1 + sl % 70).toNat, by omega⟩
  have hright := many_right s r t (by omega) (by omega) (by omega)
  have hsz := many_sized s r t (by omega) (by omega) (by omega)
  refine IBody.of Try.func13 rfl (by rw [Try.ntmps13]; simp) ?_
  rw [Try.ntmps13]
  refine IWp.seq ?_
  refine IWp.run [0, 1, 2] ?_
  simp [go_sem, -getElem?_pos, -List.map_take, -List.map_drop, List.getElem?_cons_zero, List.getElem?_cons_succ, Go.IntWalk.iteOmega, Go.IntWalk.toNatUp]
  refine IWp.seq ?_
  refine IWp.seq ?_
  refine IWp.run [0, 1, 2, 14] ?_
  simp [go_sem, -getElem?_pos, -List.map_take, -List.map_drop, List.getElem?_cons_zero, List.getElem?_cons_succ, Go.IntWalk.iteOmega, Go.IntWalk.toNatUp]
  refine ICalls.then (nothing _) ?_
  try simp [go_sem, -getElem?_pos, -List.map_take, -List.map_drop, List.getElem?_cons_zero, List.getElem?_cons_succ, Go.IntWalk.iteOmega, Go.IntWalk.toNatUp]
  refine IWp.cond ?_
  simp [go_sem, -getElem?_pos, -List.map_take, -List.map_drop, List.getElem?_cons_zero, List.getElem?_cons_succ, Go.IntWalk.iteOmega, Go.IntWalk.toNatUp]
  refine IWp.trim [0, 1, 2] (IWp.skip ?_)
  simp [go_sem, -getElem?_pos, -List.map_take, -List.map_drop, List.getElem?_cons_zero, List.getElem?_cons_succ, Go.IntWalk.iteOmega, Go.IntWalk.toNatUp]
  refine IWp.seq ?_
  refine IWp.run [0, 1, 2, 7] ?_
  simp [go_sem, -getElem?_pos, -List.map_take, -List.map_drop, List.getElem?_cons_zero, List.getElem?_cons_succ, Go.IntWalk.iteOmega, Go.IntWalk.toNatUp]
  -- CUT live [1, 2, 7]
  have hg := Heap.get_alloc_new H (CM (.slice none 0 0) (.slice none 0 0) (.slice none 0 0))
  have hn := Heap.next_alloc H (CM (.slice none 0 0) (.slice none 0 0) (.slice none 0 0))
  simp only [CM] at hg hn
  generalize H.next = cb at *
  generalize H.alloc _ = H1 at *
  refine IWp.cut (fun e K => e = [(1, .int .u8 ru), (2, .int .u8 sl), (7, ptrTo cb 0)] ∧ ∃ sv, K.get cb = some ⟨CM sv (.slice none 0 0) (.slice none 0 0), true⟩ ∧ Bld 2 K (cb + 1) sv (List.replicate s sigZ.val) ∧ cb + 1 ≤ K.next) ?_ ?_
  · skip
    refine IWp.seq ?_
    refine IWp.run [0, 1, 2, 7, 8] ?_
    simp [go_sem, -getElem?_pos, -List.map_take, -List.map_drop, List.getElem?_cons_zero, List.getElem?_cons_succ, Go.IntWalk.iteOmega, Go.IntWalk.toNatUp]
    refine IWp.block ?_
    -- LOOP live [0, 1, 2, 7, 8]
    obtain ⟨Z, hZ⟩ : ∃ Z : Nat → Heap → Prop, Z = fun i K => ∃ sv, K.get cb = some ⟨CM sv (.slice none 0 0) (.slice none 0 0), true⟩ ∧ Bld 2 K (cb + 1) sv (List.replicate i sigZ.val) ∧ cb + 1 ≤ K.next := ⟨_, rfl⟩
    refine IWp.loop (fun q e K => ∃ i : Nat, q = s - i ∧ i ≤ s ∧ e = [(0, .int .u8 sg), (1, .int .u8 ru), (2, .int .u8 sl), (7, ptrTo cb 0), (8, .int .i64 (i : Int))] ∧ Z i K) s ⟨0, rfl, Nat.zero_le _, by simp [go_sem], by rw [hZ]; exact ⟨_, hg, Bld.nil _ _ _, by omega⟩⟩ ?_
    rintro q e K ⟨i, rfl, hi, rfl, hz⟩
    rw [hZ] at hz
    obtain ⟨sv, z1, z2, z3⟩ := hz
    have z1' := z1
    simp only [CM] at z1'
    by_cases hlt : i < s
    · obtain ⟨sv', K5, e5, b5, o5, n5, f5, x5⟩ := app_one (P := Try.prog) (t := 28) (e := 60) (sz := 2) (by_ := 16) (z := .agg ⟨[.int .i64 0, .int .i64 0]⟩) (by kernel_rfl) (by kernel_rfl) (by kernel_rfl) (by kernel_rfl) rfl sigZ.val [.int .i64 0, .int .i64 0] z2 rfl rfl (by simp [one0]) z3 (by simp; omega) (by simp; omega)
      have u3 := (o5 cb (by omega)).trans z1'
      subst x5
      have hfin : Z (i + 1) (K5.set cb (CM (.slice (some ⟨K.next + 1, 0, some 2⟩) (i + 1) 1) (.slice none 0 0) (.slice none 0 0))) := by
        rw [hZ]
        rw [List.length_replicate] at b5
        refine ⟨.slice (some ⟨K.next + 1, 0, some 2⟩) (i + 1) 1, by rw [get_set, if_pos rfl, u3]; rfl, ?_, by show cb + 1 ≤ K5.next; omega⟩
        rw [List.replicate_succ']
        exact b5.same fun j k hj hk => by rw [get_set, if_neg (by omega)]; exact hk
      simp only [CM] at hfin
      rw [List.length_replicate] at e5
      have hcK := Heap.lt_of_get z1
      refine IWp.seq ?_
      refine IWp.seq ?_
      refine IWp.run [0, 1, 2, 7, 8, 22] ?_
      simp (disch := omega) [go_sem, -getElem?_pos, -List.map_take, -List.map_drop, List.getElem?_cons_zero, List.getElem?_cons_succ, Go.IntWalk.iteOmega, Go.IntWalk.toNatUp, Go.IntWalk.i64_in, Go.IntWalk.u8_in, Go.IntWalk.i64_quo, Go.IntWalk.u8_quo, Go.IntWalk.rem_in, z1', u3, e5, get_alloc, hfin, show (i : Int) < 1 + sg % 10 by omega, show ¬ cb = K.next by omega]
      refine IWp.cond ?_
      simp (disch := omega) [go_sem, -getElem?_pos, -List.map_take, -List.map_drop, List.getElem?_cons_zero, List.getElem?_cons_succ, Go.IntWalk.iteOmega, Go.IntWalk.toNatUp, Go.IntWalk.i64_in, Go.IntWalk.u8_in, Go.IntWalk.i64_quo, Go.IntWalk.u8_quo, Go.IntWalk.rem_in, z1', u3, e5, get_alloc, hfin, show (i : Int) < 1 + sg % 10 by omega, show ¬ cb = K.next by omega]
      refine IWp.trim [0, 1, 2, 7, 8] (IWp.skip ?_)
      simp (disch := omega) [go_sem, -getElem?_pos, -List.map_take, -List.map_drop, List.getElem?_cons_zero, List.getElem?_cons_succ, Go.IntWalk.iteOmega, Go.IntWalk.toNatUp, Go.IntWalk.i64_in, Go.IntWalk.u8_in, Go.IntWalk.i64_quo, Go.IntWalk.u8_quo, Go.IntWalk.rem_in, z1', u3, e5, get_alloc, hfin, show (i : Int) < 1 + sg % 10 by omega, show ¬ cb = K.next by omega]
      refine IWp.seq ?_
      refine IWp.block ?_
      refine IWp.run [0, 1, 2, 7, 8] ?_
      simp (disch := omega) [go_sem, -getElem?_pos, -List.map_take, -List.map_drop, List.getElem?_cons_zero, List.getElem?_cons_succ, Go.IntWalk.iteOmega, Go.IntWalk.toNatUp, Go.IntWalk.i64_in, Go.IntWalk.u8_in, Go.IntWalk.i64_quo, Go.IntWalk.u8_quo, Go.IntWalk.rem_in, z1', u3, e5, get_alloc, hfin, show (i : Int) < 1 + sg % 10 by omega, show ¬ cb = K.next by omega]
      refine IWp.run [0, 1, 2, 7, 8] ?_
      simp (disch := omega) [go_sem, -getElem?_pos, -List.map_take, -List.map_drop, List.getElem?_cons_zero, List.getElem?_cons_succ, Go.IntWalk.iteOmega, Go.IntWalk.toNatUp, Go.IntWalk.i64_in, Go.IntWalk.u8_in, Go.IntWalk.i64_quo, Go.IntWalk.u8_quo, Go.IntWalk.rem_in, z1', u3, e5, get_alloc, hfin, show (i : Int) < 1 + sg % 10 by omega, show ¬ cb = K.next by omega]
      exact ⟨s - (i + 1), by omega, i + 1, rfl, by omega, by omega, hfin⟩
    · have hie : i = s := by omega
      subst hie
      refine IWp.seq ?_
      refine IWp.seq ?_
      refine IWp.run [0, 1, 2, 7, 8, 22] ?_
      simp (disch := omega) [go_sem, -getElem?_pos, -List.map_take, -List.map_drop, List.getElem?_cons_zero, List.getElem?_cons_succ, Go.IntWalk.iteOmega, Go.IntWalk.toNatUp, Go.IntWalk.i64_in, Go.IntWalk.u8_in, Go.IntWalk.i64_quo, Go.IntWalk.u8_quo, Go.IntWalk.rem_in, show ¬ (i : Int) < 1 + sg % 10 by omega]
      refine IWp.cond ?_
      simp (disch := omega) [go_sem, -getElem?_pos, -List.map_take, -List.map_drop, List.getElem?_cons_zero, List.getElem?_cons_succ, Go.IntWalk.iteOmega, Go.IntWalk.toNatUp, Go.IntWalk.i64_in, Go.IntWalk.u8_in, Go.IntWalk.i64_quo, Go.IntWalk.u8_quo, Go.IntWalk.rem_in, show ¬ (i : Int) < 1 + sg % 10 by omega]
      refine IWp.trim [1, 2, 7] (IWp.exit ?_)
      simp (disch := omega) [go_sem, -getElem?_pos, -List.map_take, -List.map_drop, List.getElem?_cons_zero, List.getElem?_cons_succ, Go.IntWalk.iteOmega, Go.IntWalk.toNatUp, Go.IntWalk.i64_in, Go.IntWalk.u8_in, Go.IntWalk.i64_quo, Go.IntWalk.u8_quo, Go.IntWalk.rem_in, show ¬ (i : Int) < 1 + sg % 10 by omega]
      exact ⟨sv, z1, z2, z3⟩
  rintro e K ⟨rfl, sv, k1, k2, k3⟩
  obtain ⟨K2, hf2, g2, _, n2⟩ := FrzH.one (S := fun j => decide (cb < j)) (b := cb) (cs' := CM (frow 2 0 (List.replicate s sigZ.val)) (.slice none 0 0) (.slice none 0 0)) (by simp) k1 (.cons (k2.frzW fun b hb => by simp; omega) (FrzL.same _))
  refine IWp.freezeH K2 _ (.cons (.same _) (.cons (.same _) (.cons (.same _) .nil))) hf2 ?_
  clear hf2 k1 k2 hg hn
  rw [← n2] at k3
  clear n2
  refine IWp.seq ?_
  refine IWp.run [1, 2, 7, 9] ?_
  simp [go_sem, -getElem?_pos, -List.map_take, -List.map_drop, List.getElem?_cons_zero, List.getElem?_cons_succ, Go.IntWalk.iteOmega, Go.IntWalk.toNatUp]
  -- CUT live [2, 7, 9]
  obtain ⟨sv, hsv⟩ : ∃ sv, sv = frow 2 0 (List.replicate s sigZ.val) := ⟨_, rfl⟩
  rw [← hsv] at g2
  obtain ⟨Z, hZ⟩ : ∃ Z : Nat → Value → Heap → Prop, Z = fun i al K => ∃ rv, K.get cb = some ⟨CM sv rv (.slice none 0 0), true⟩ ∧ Bld 9 K (cb + 1) rv (List.replicate i rzM) ∧ Bld 1 K (cb + 1) al (((List.range i).map fun i : Nat => (i : Int)).map (Value.int .i64)) ∧ cb + 1 ≤ K.next ∧ (∀ q o s l c o' s' l' c', rv = .slice (some ⟨q, o, s⟩) l c → al = .slice (some ⟨q, o', s'⟩) l' c' → False) := ⟨_, rfl⟩
  refine IWp.cut (fun e K => ∃ al, e = [(2, .int .u8 sl), (7, ptrTo cb 0), (9, al)] ∧ Z r al K) ?_ ?_
  · skip
    refine IWp.seq ?_
    refine IWp.run [1, 2, 7, 9, 10] ?_
    simp [go_sem, -getElem?_pos, -List.map_take, -List.map_drop, List.getElem?_cons_zero, List.getElem?_cons_succ, Go.IntWalk.iteOmega, Go.IntWalk.toNatUp]
    refine IWp.block ?_
    -- LOOP live [1, 2, 7, 9, 10]
    refine IWp.loop (fun q e K => ∃ i : Nat, q = r - i ∧ i ≤ r ∧ ∃ al, e = [(1, .int .u8 ru), (2, .int .u8 sl), (7, ptrTo cb 0), (9, al), (10, .int .i64 (i : Int))] ∧ Z i al K) r ⟨0, rfl, Nat.zero_le _, .slice none 0 0, by simp [go_sem], by rw [hZ]; exact ⟨.slice none 0 0, g2, Bld.nil _ _ _, Bld.nil _ _ _, by omega, fun _ _ _ _ _ _ _ _ _ h => (by cases h)⟩⟩ ?_
    rintro q e K ⟨i, rfl, hi, al, rfl, hz⟩
    by_cases hlt : i < r
    case neg =>
      have hie : i = r := by omega
      subst hie
      refine IWp.seq ?_
      refine IWp.seq ?_
      refine IWp.run [1, 2, 7, 9, 10, 36] ?_
      simp (disch := omega) [go_sem, -getElem?_pos, -List.map_take, -List.map_drop, List.getElem?_cons_zero, List.getElem?_cons_succ, Go.IntWalk.iteOmega, Go.IntWalk.toNatUp, Go.IntWalk.i64_in, Go.IntWalk.u8_in, Go.IntWalk.i64_quo, Go.IntWalk.u8_quo, Go.IntWalk.rem_in, show ¬ (i : Int) < 1 + ru % 40 by omega]
      refine IWp.cond ?_
      simp (disch := omega) [go_sem, -getElem?_pos, -List.map_take, -List.map_drop, List.getElem?_cons_zero, List.getElem?_cons_succ, Go.IntWalk.iteOmega, Go.IntWalk.toNatUp, Go.IntWalk.i64_in, Go.IntWalk.u8_in, Go.IntWalk.i64_quo, Go.IntWalk.u8_quo, Go.IntWalk.rem_in, show ¬ (i : Int) < 1 + ru % 40 by omega]
      refine IWp.trim [2, 7, 9] (IWp.exit ?_)
      simp (disch := omega) [go_sem, -getElem?_pos, -List.map_take, -List.map_drop, List.getElem?_cons_zero, List.getElem?_cons_succ, Go.IntWalk.iteOmega, Go.IntWalk.toNatUp, Go.IntWalk.i64_in, Go.IntWalk.u8_in, Go.IntWalk.i64_quo, Go.IntWalk.u8_quo, Go.IntWalk.rem_in, show ¬ (i : Int) < 1 + ru % 40 by omega]
      exact hz
    rw [hZ] at hz
    obtain ⟨rv, z1, z2, z3, z4, z5⟩ := hz
    have z1' := z1
    simp only [CM] at z1'
    have hcK := Heap.lt_of_get z1
    obtain ⟨rv', K5, e5, b5, o5, n5, f5, x5⟩ := app_one (P := Try.prog) (t := 29) (e := 49) (sz := 9) (by_ := 80) (z := .agg ⟨[.int .u8 0, .int .i64 0, .int .i64 0, .int .i64 0, .int .i64 0, .int .i64 0, .int .u8 0, .bool false, .slice none 0 0]⟩) (by kernel_rfl) (by kernel_rfl) (by kernel_rfl) (by kernel_rfl) rfl rzM [.int .u8 6, .int .i64 0, .int .i64 0, .int .i64 0, .int .i64 0, .int .i64 0, .int .u8 1, .bool false, .slice none 0 0] z2 rfl rfl (by simp [one0]) z4 (by simp; omega) (by simp; omega)
    have u3 := (o5 cb (by omega)).trans z1'
    subst x5
    rw [List.length_replicate] at e5 b5
    have hq5 : K.next + 1 < K5.next := by
      rcases b5.2 with ⟨h, _⟩ | ⟨b, _, h1, h2⟩
      · cases h
      · injection h1 with h1; injection h1 with h1; injection h1 with h1
        subst h1; exact Heap.lt_of_get h2
    obtain ⟨K6, hK6⟩ : ∃ K6, K6 = K5.set cb (CM sv (.slice (some ⟨K.next + 1, 0, some 9⟩) (i + 1) 1) (.slice none 0 0)) := ⟨_, rfl⟩
    have g6 : K6.get cb = some ⟨CM sv (.slice (some ⟨K.next + 1, 0, some 9⟩) (i + 1) 1) (.slice none 0 0), true⟩ := by rw [hK6, get_set, if_pos rfl, u3]; rfl
    have n6 : K6.next = K5.next := by rw [hK6]; rfl
    have b6 : Bld 9 K6 (cb + 1) (.slice (some ⟨K.next + 1, 0, some 9⟩) (i + 1) 1) (List.replicate (i + 1) rzM) := by
      rw [List.replicate_succ']
      exact b5.same fun j k hj hk => by rw [hK6, get_set, if_neg (by omega)]; exact hk
    have a6 : Bld 1 K6 (cb + 1) al (((List.range i).map fun i : Nat => (i : Int)).map (Value.int .i64)) := ⟨z3.1, z3.2.imp id fun ⟨b, h1, h2, h3⟩ => ⟨b, h1, h2, by rw [hK6, get_set, if_neg (by omega), f5 b (Heap.lt_of_get h3) (fun o s l c e => z5 _ _ _ _ _ _ _ _ _ e h2), h3]⟩⟩
    have hal : ∀ q o s l c, al = .slice (some ⟨q, o, s⟩) l c → q < K.next := fun q o s l c h => by
      rcases z3.2 with ⟨e, _⟩ | ⟨b, _, e, h3⟩
      · rw [e] at h; cases h
      · rw [e] at h; injection h with h; injection h with h; injection h with h
        subst h; exact Heap.lt_of_get h3
    obtain ⟨al', K7, e7, b7, o7, n7, f7, x7⟩ := app_one (P := Try.prog) (t := 36) (e := 3) (sz := 1) (by_ := 8) (z := .int .i64 0) (by kernel_rfl) (by kernel_rfl) (by kernel_rfl) (by kernel_rfl) rfl (.int .i64 (i : Int)) [.int .i64 (i : Int)] a6 rfl rfl (by simp [one0]) (by omega) (by simp; omega) (by simp; omega)
    subst x7
    have hfin : Z (i + 1) (.slice (some ⟨K6.next + 1, 0, some 1⟩) (i + 1) 1) K7 := by
      rw [hZ]
      simp only [List.length_map, List.length_range] at b7
      refine ⟨.slice (some ⟨K.next + 1, 0, some 9⟩) (i + 1) 1, (o7 cb (by omega)).trans g6, ⟨b6.1, b6.2.imp id fun ⟨b, h1, h2, h3⟩ => ⟨b, h1, h2, ?_⟩⟩, ?_, by omega, fun q o s l c o' s' l' c' h1 h2 => ?_⟩
      · rw [List.range_succ, List.map_append, List.map_append]; exact b7
      · injection h1 with h1; injection h1 with h1; injection h1 with h1
        injection h2 with h2; injection h2 with h2; injection h2 with h2
        omega
      · injection h2 with h2; injection h2 with h2; injection h2 with h2
        subst h2
        rw [f7 _ (by omega) (fun o s l c h => by have := hal _ _ _ _ _ h; omega), h3]
    simp only [List.length_map, List.length_range] at e7
    rw [n6] at e7 hfin
    rw [hK6] at e7
    simp only [CM] at e7
    have hbl : ¬ cb = K.next := by omega
    refine IWp.seq ?_
    refine IWp.seq ?_
    refine IWp.run [1, 2, 7, 9, 10, 36] ?_
    simp (disch := omega) [go_sem, -getElem?_pos, -List.map_take, -List.map_drop, List.getElem?_cons_zero, List.getElem?_cons_succ, Go.IntWalk.iteOmega, Go.IntWalk.toNatUp, Go.IntWalk.i64_in, Go.IntWalk.u8_in, Go.IntWalk.i64_quo, Go.IntWalk.u8_quo, Go.IntWalk.rem_in, z1', u3, e5, e7, get_alloc, hbl, show (i : Int) < 1 + ru % 40 by omega]
    refine IWp.cond ?_
    simp (disch := omega) [go_sem, -getElem?_pos, -List.map_take, -List.map_drop, List.getElem?_cons_zero, List.getElem?_cons_succ, Go.IntWalk.iteOmega, Go.IntWalk.toNatUp, Go.IntWalk.i64_in, Go.IntWalk.u8_in, Go.IntWalk.i64_quo, Go.IntWalk.u8_quo, Go.IntWalk.rem_in, z1', u3, e5, e7, get_alloc, hbl, show (i : Int) < 1 + ru % 40 by omega]
    refine IWp.trim [1, 2, 7, 9, 10] (IWp.skip ?_)
    simp (disch := omega) [go_sem, -getElem?_pos, -List.map_take, -List.map_drop, List.getElem?_cons_zero, List.getElem?_cons_succ, Go.IntWalk.iteOmega, Go.IntWalk.toNatUp, Go.IntWalk.i64_in, Go.IntWalk.u8_in, Go.IntWalk.i64_quo, Go.IntWalk.u8_quo, Go.IntWalk.rem_in, z1', u3, e5, e7, get_alloc, hbl, show (i : Int) < 1 + ru % 40 by omega]
    refine IWp.seq ?_
    refine IWp.block ?_
    refine IWp.seq ?_
    refine IWp.run [1, 2, 7, 9, 10] ?_
    simp (disch := omega) [go_sem, -getElem?_pos, -List.map_take, -List.map_drop, List.getElem?_cons_zero, List.getElem?_cons_succ, Go.IntWalk.iteOmega, Go.IntWalk.toNatUp, Go.IntWalk.i64_in, Go.IntWalk.u8_in, Go.IntWalk.i64_quo, Go.IntWalk.u8_quo, Go.IntWalk.rem_in, z1', u3, e5, e7, get_alloc, hbl, show (i : Int) < 1 + ru % 40 by omega]
    refine IWp.run [1, 2, 7, 9, 10] ?_
    simp (disch := omega) [go_sem, -getElem?_pos, -List.map_take, -List.map_drop, List.getElem?_cons_zero, List.getElem?_cons_succ, Go.IntWalk.iteOmega, Go.IntWalk.toNatUp, Go.IntWalk.i64_in, Go.IntWalk.u8_in, Go.IntWalk.i64_quo, Go.IntWalk.u8_quo, Go.IntWalk.rem_in, z1', u3, e5, e7, get_alloc, hbl, show (i : Int) < 1 + ru % 40 by omega]
    refine IWp.run [1, 2, 7, 9, 10] ?_
    simp (disch := omega) [go_sem, -getElem?_pos, -List.map_take, -List.map_drop, List.getElem?_cons_zero, List.getElem?_cons_succ, Go.IntWalk.iteOmega, Go.IntWalk.toNatUp, Go.IntWalk.i64_in, Go.IntWalk.u8_in, Go.IntWalk.i64_quo, Go.IntWalk.u8_quo, Go.IntWalk.rem_in, z1', u3, e5, e7, get_alloc, hbl, show (i : Int) < 1 + ru % 40 by omega]
    exact ⟨r - (i + 1), by omega, i + 1, rfl, by omega, _, ⟨rfl, by omega⟩, hfin⟩
  rintro e K ⟨al, rfl, hz⟩
  rw [hZ] at hz
  obtain ⟨rv, z1, z2, z3, z4, z5⟩ := hz
  obtain ⟨K3, hf3, g3, _, n3⟩ := FrzH.one (S := fun j => decide (cb < j)) (b := cb) (cs' := CM sv (frow 9 0 ((List.replicate r ruleM).map Rule.val)) (.slice none 0 0)) (by simp) z1 (.cons (.same _) (.cons (by
    rcases z2.2 with ⟨_, h⟩ | ⟨b, h1, h2, h3⟩
    · simp at h; omega
    · rw [h2]
      have := Frz.row (S := fun j => decide (cb < j)) (o := 0) (sz := 9) (c := 1) h3 (by simp; omega) (by rw [List.drop_zero]; exact frzM K (fun j => decide (cb < j)) r)
      simpa using this) (FrzL.same _)))
  refine IWp.freezeH K3 _ (.cons (.same _) (.cons (.same _) (.cons (z3.frzW fun b hb => by simp; omega) .nil))) hf3 ?_
  clear hf3 z1 z2 z3 z5 g2 k3
  rw [← n3] at z4
  clear n3
  clear hZ
  -- CUT live [7, 9]
  obtain ⟨rv, hrv⟩ : ∃ rv, rv = frow 9 0 ((List.replicate r ruleM).map Rule.val) := ⟨_, rfl⟩
  obtain ⟨al, hal⟩ : ∃ al, al = frow 1 0 (((List.range r).map fun i : Nat => (i : Int)).map (Value.int .i64)) := ⟨_, rfl⟩
  rw [← hrv] at g3
  rw [← hal]
  obtain ⟨Y, hY⟩ : ∃ Y : Nat → Heap → Prop, Y = fun i K => ∃ tv, K.get cb = some ⟨CM sv rv tv, true⟩ ∧ Bld 1 K (cb + 1) tv (List.replicate i (.slice none 0 0)) ∧ cb + 1 ≤ K.next := ⟨_, rfl⟩
  refine IWp.cut (fun e K => e = [(7, ptrTo cb 0), (9, al)] ∧ Y t K) ?_ ?_
  · skip
    refine IWp.seq ?_
    refine IWp.run [2, 7, 9, 11] ?_
    simp [go_sem, -getElem?_pos, -List.map_take, -List.map_drop, List.getElem?_cons_zero, List.getElem?_cons_succ, Go.IntWalk.iteOmega, Go.IntWalk.toNatUp]
    refine IWp.block ?_
    -- LOOP live [2, 7, 9, 11]
    refine IWp.loop (fun q e K => ∃ i : Nat, q = t - i ∧ i ≤ t ∧ e = [(2, .int .u8 sl), (7, ptrTo cb 0), (9, al), (11, .int .i64 (i : Int))] ∧ Y i K) t ⟨0, rfl, Nat.zero_le _, by simp [go_sem], by rw [hY]; exact ⟨.slice none 0 0, g3, Bld.nil _ _ _, by omega⟩⟩ ?_
    rintro q e K ⟨i, rfl, hi, rfl, hz⟩
    by_cases hlt : i < t
    case neg =>
      have hie : i = t := by omega
      subst hie
      refine IWp.seq ?_
      refine IWp.seq ?_
      refine IWp.run [2, 7, 9, 11, 54] ?_
      simp (disch := omega) [go_sem, -getElem?_pos, -List.map_take, -List.map_drop, List.getElem?_cons_zero, List.getElem?_cons_succ, Go.IntWalk.iteOmega, Go.IntWalk.toNatUp, Go.IntWalk.i64_in, Go.IntWalk.u8_in, Go.IntWalk.i64_quo, Go.IntWalk.u8_quo, Go.IntWalk.rem_in, show ¬ (i : Int) < 1 + sl % 70 by omega]
      refine IWp.cond ?_
      simp (disch := omega) [go_sem, -getElem?_pos, -List.map_take, -List.map_drop, List.getElem?_cons_zero, List.getElem?_cons_succ, Go.IntWalk.iteOmega, Go.IntWalk.toNatUp, Go.IntWalk.i64_in, Go.IntWalk.u8_in, Go.IntWalk.i64_quo, Go.IntWalk.u8_quo, Go.IntWalk.rem_in, show ¬ (i : Int) < 1 + sl % 70 by omega]
      refine IWp.trim [7, 9] (IWp.exit ?_)
      simp (disch := omega) [go_sem, -getElem?_pos, -List.map_take, -List.map_drop, List.getElem?_cons_zero, List.getElem?_cons_succ, Go.IntWalk.iteOmega, Go.IntWalk.toNatUp, Go.IntWalk.i64_in, Go.IntWalk.u8_in, Go.IntWalk.i64_quo, Go.IntWalk.u8_quo, Go.IntWalk.rem_in, show ¬ (i : Int) < 1 + sl % 70 by omega]
      exact hz
    rw [hY] at hz
    obtain ⟨tv, z1, z2, z3⟩ := hz
    have z1' := z1
    simp only [CM] at z1'
    have hcK := Heap.lt_of_get z1
    obtain ⟨tv', K5, e5, b5, o5, n5, f5, x5⟩ := app_one (P := Try.prog) (t := 30) (e := 36) (sz := 1) (by_ := 24) (z := .slice none 0 0) (by kernel_rfl) (by kernel_rfl) (by kernel_rfl) (by kernel_rfl) rfl (.slice none 0 0) [.slice none 0 0] z2 rfl rfl rfl z3 (by simp; omega) (by simp; omega)
    have u3 := (o5 cb (by omega)).trans z1'
    subst x5
    rw [List.length_replicate] at e5 b5
    have hfin : Y (i + 1) (K5.set cb (CM sv rv (.slice (some ⟨K.next + 1, 0, some 1⟩) (i + 1) 1))) := by
      rw [hY]
      refine ⟨.slice (some ⟨K.next + 1, 0, some 1⟩) (i + 1) 1, by rw [get_set, if_pos rfl, u3]; rfl, ?_, by show cb + 1 ≤ K5.next; omega⟩
      rw [List.replicate_succ']
      exact b5.same fun j k hj hk => by rw [get_set, if_neg (by omega)]; exact hk
    simp only [CM] at hfin
    have hbl : ¬ cb = K.next := by omega
    refine IWp.seq ?_
    refine IWp.seq ?_
    refine IWp.run [2, 7, 9, 11, 54] ?_
    simp (disch := omega) [go_sem, -getElem?_pos, -List.map_take, -List.map_drop, List.getElem?_cons_zero, List.getElem?_cons_succ, Go.IntWalk.iteOmega, Go.IntWalk.toNatUp, Go.IntWalk.i64_in, Go.IntWalk.u8_in, Go.IntWalk.i64_quo, Go.IntWalk.u8_quo, Go.IntWalk.rem_in, z1', u3, e5, get_alloc, hfin, hbl, show (i : Int) < 1 + sl % 70 by omega]
    refine IWp.cond ?_
    simp (disch := omega) [go_sem, -getElem?_pos, -List.map_take, -List.map_drop, List.getElem?_cons_zero, List.getElem?_cons_succ, Go.IntWalk.iteOmega, Go.IntWalk.toNatUp, Go.IntWalk.i64_in, Go.IntWalk.u8_in, Go.IntWalk.i64_quo, Go.IntWalk.u8_quo, Go.IntWalk.rem_in, z1', u3, e5, get_alloc, hfin, hbl, show (i : Int) < 1 + sl % 70 by omega]
    refine IWp.trim [2, 7, 9, 11] (IWp.skip ?_)
    simp (disch := omega) [go_sem, -getElem?_pos, -List.map_take, -List.map_drop, List.getElem?_cons_zero, List.getElem?_cons_succ, Go.IntWalk.iteOmega, Go.IntWalk.toNatUp, Go.IntWalk.i64_in, Go.IntWalk.u8_in, Go.IntWalk.i64_quo, Go.IntWalk.u8_quo, Go.IntWalk.rem_in, z1', u3, e5, get_alloc, hfin, hbl, show (i : Int) < 1 + sl % 70 by omega]
    refine IWp.seq ?_
    refine IWp.block ?_
    refine IWp.run [2, 7, 9, 11] ?_
    simp (disch := omega) [go_sem, -getElem?_pos, -List.map_take, -List.map_drop, List.getElem?_cons_zero, List.getElem?_cons_succ, Go.IntWalk.iteOmega, Go.IntWalk.toNatUp, Go.IntWalk.i64_in, Go.IntWalk.u8_in, Go.IntWalk.i64_quo, Go.IntWalk.u8_quo, Go.IntWalk.rem_in, z1', u3, e5, get_alloc, hfin, hbl, show (i : Int) < 1 + sl % 70 by omega]
    refine IWp.run [2, 7, 9, 11] ?_
    simp (disch := omega) [go_sem, -getElem?_pos, -List.map_take, -List.map_drop, List.getElem?_cons_zero, List.getElem?_cons_succ, Go.IntWalk.iteOmega, Go.IntWalk.toNatUp, Go.IntWalk.i64_in, Go.IntWalk.u8_in, Go.IntWalk.i64_quo, Go.IntWalk.u8_quo, Go.IntWalk.rem_in, z1', u3, e5, get_alloc, hfin, hbl, show (i : Int) < 1 + sl % 70 by omega]
    exact ⟨t - (i + 1), by omega, i + 1, rfl, by omega, by omega, hfin⟩
  rintro e K ⟨rfl, hz⟩
  rw [hY] at hz
  obtain ⟨tv, z1, z2, z3⟩ := hz
  obtain ⟨tb, tb1, rfl, tb3⟩ : ∃ tb, cb + 1 ≤ tb ∧ tv = .slice (some ⟨tb, 0, some 1⟩) t 1 ∧ K.get tb = some ⟨.slice none 0 0 :: List.replicate (t - 1) (.slice none 0 0), true⟩ := by
    rcases z2.2 with ⟨_, h⟩ | ⟨b, h1, h2, h3⟩
    · simp at h; omega
    · refine ⟨b, h1, by simpa using h2, ?_⟩
      rw [h3, ← List.replicate_succ, show t - 1 + 1 = t by omega]
      congr 2
      clear h2 h3 z1 z2 z3
      generalize t = n
      induction n with
      | zero => rfl
      | succ n ih => rw [List.replicate_succ, List.flatMap_cons, ih]; rfl
  have z1' := z1
  simp only [CM] at z1'
  have htn : ¬ t = 0 := by omega
  subst hal
  refine IWp.seq ?_
  refine IWp.run [7] ?_
  simp [go_sem, -getElem?_pos, -List.map_take, -List.map_drop, List.getElem?_cons_zero, List.getElem?_cons_succ, Go.IntWalk.iteOmega, Go.IntWalk.toNatUp, z1', tb3, htn, show cb ≠ tb from by omega, show (0 : Int) < t by omega, show 0 < t by omega, show 1 ≤ t - 1 + 1 by omega]
  refine IWp.seq ?_
  obtain ⟨K4, hK4⟩ : ∃ K4, K4 = K.set tb (frow 1 0 ((List.range r).map (Value.int .i64 ∘ fun i : Nat => (i : Int))) :: List.replicate (t - 1) (.slice none 0 0)) := ⟨_, rfl⟩
  rw [← hK4]
  rw [show frow 1 0 ((List.range r).map (Value.int .i64 ∘ fun i : Nat => (i : Int))) = ints .i64 ((List.range r).map fun i : Nat => (i : Int)) by rw [ints, List.map_map]] at hK4
  have g4 : K4.get cb = some ⟨CM sv rv (.slice (some ⟨tb, 0, some 1⟩) t 1), true⟩ := by rw [hK4, get_set, if_neg (by omega), z1]
  have t4 : K4.get tb = some ⟨ints .i64 ((List.range r).map fun i : Nat => (i : Int)) :: List.replicate (t - 1) (.slice none 0 0), true⟩ := by rw [hK4, get_set, if_pos rfl, tb3]; rfl
  have hfn := frzN K4 (fun j => decide (cb < j)) (t - 1)
  rw [show ((List.replicate (t - 1) (Value.slice none 0 0)).flatMap fun u => u.cells.toList) = List.replicate (t - 1) (Value.slice none 0 0) by
    generalize t - 1 = n
    induction n with
    | zero => rfl
    | succ n ih => rw [List.replicate_succ, List.flatMap_cons, ih]; rfl] at hfn
  obtain ⟨K5, hf5, k5, _, _⟩ := FrzH.one (S := fun j => decide (cb < j)) (b := cb) (cs' := (manyC s r t).cells) (by simp) g4 (by
    unfold CM
    rw [hsv, hrv]
    show FrzL K4 _ _ (frow 2 0 ((List.replicate s sigZ).map Sig.val) :: frow 9 0 ((List.replicate r ruleM).map Rule.val) :: frow 1 0 ((((List.range r).map fun i : Nat => (i : Int)) :: List.replicate (t - 1) []).map (ints .i64)) :: _)
    refine .cons (by rw [List.map_replicate]; exact .same _) (.cons (.same _) (.cons ?_ (FrzL.same _)))
    have := Frz.row (S := fun j => decide (cb < j)) (o := 0) (sz := 1) (c := 1) (us := (((List.range r).map fun i : Nat => (i : Int)) :: List.replicate (t - 1) []).map (ints .i64)) t4 (by simp; omega) (by
      rw [List.drop_zero, List.map_cons]
      exact FrzE.cons (l := [_]) rfl (.cons (.same _) .nil) hfn)
    rw [show ((((List.range r).map fun i : Nat => (i : Int)) :: List.replicate (t - 1) []).map (ints .i64)).length = t by simp; omega] at this
    exact this)
  refine IWp.freezeH K5 _ (.cons (.same _) .nil) hf5 ?_
  clear hf5 hfn
  have c1 := fun K => sameC K (manyC s r t) hsz
  have c2 := fun K => rightC K (manyC s r t) hsz
  have l1 : (manyC s r t).sigs.length = s := by simp [manyC]
  have l2 : (manyC s r t).rules.length = r := by simp [manyC]
  have l3 : (manyC s r t).table.length = t := by simp [manyC]; omega
  generalize manyC s r t = c at *
  simp only [Config.val, Config.cells] at c1 c2 k5
  have hdec : decide ((firstS c).1 = 0) = decide (s ≤ 8 ∧ r ≤ 32 ∧ t ≤ 64) := decide_eq_decide.2 hright
  rw [hdec] at c2
  by_cases t1 : s ≤ 8
  case neg =>
    rw [decide_eq_false (show ¬ (s ≤ 8 ∧ r ≤ 32 ∧ t ≤ 64) by omega)] at c2
    refine IWp.run [7, 12] ?_
    simp [go_sem, -getElem?_pos, -List.map_take, -List.map_drop, List.getElem?_cons_zero, List.getElem?_cons_succ, Go.IntWalk.iteOmega, Go.IntWalk.toNatUp, k5, l1, l2, l3, t1, show ¬ (s : Int) ≤ 8 by omega]
    refine IWp.seq ?_
    refine IWp.run [6] ?_
    simp [go_sem, -getElem?_pos, -List.map_take, -List.map_drop, List.getElem?_cons_zero, List.getElem?_cons_succ, Go.IntWalk.iteOmega, Go.IntWalk.toNatUp, k5, l1, l2, l3, t1, show ¬ (s : Int) ≤ 8 by omega]
    refine ICalls.then (c1 _) ?_
    try simp [go_sem, -getElem?_pos, -List.map_take, -List.map_drop, List.getElem?_cons_zero, List.getElem?_cons_succ, Go.IntWalk.iteOmega, Go.IntWalk.toNatUp, k5, l1, l2, l3, t1, show ¬ (s : Int) ≤ 8 by omega]
    refine ICalls.then (c2 _) ?_
    try simp [go_sem, -getElem?_pos, -List.map_take, -List.map_drop, List.getElem?_cons_zero, List.getElem?_cons_succ, Go.IntWalk.iteOmega, Go.IntWalk.toNatUp, k5, l1, l2, l3, t1, show ¬ (s : Int) ≤ 8 by omega]
    refine IWp.ret ?_
    simp [go_sem, -getElem?_pos, -List.map_take, -List.map_drop, List.getElem?_cons_zero, List.getElem?_cons_succ, Go.IntWalk.iteOmega, Go.IntWalk.toNatUp, k5, l1, l2, l3, t1, show ¬ (s : Int) ≤ 8 by omega, Try.results13]
  by_cases t2 : r ≤ 32
  case neg =>
    rw [decide_eq_false (show ¬ (s ≤ 8 ∧ r ≤ 32 ∧ t ≤ 64) by omega)] at c2
    refine IWp.run [7, 12] ?_
    simp [go_sem, -getElem?_pos, -List.map_take, -List.map_drop, List.getElem?_cons_zero, List.getElem?_cons_succ, Go.IntWalk.iteOmega, Go.IntWalk.toNatUp, k5, l1, l2, l3, t1, t2, show (s : Int) ≤ 8 by omega, show ¬ (r : Int) ≤ 32 by omega]
    refine IWp.seq ?_
    refine IWp.run [6] ?_
    simp [go_sem, -getElem?_pos, -List.map_take, -List.map_drop, List.getElem?_cons_zero, List.getElem?_cons_succ, Go.IntWalk.iteOmega, Go.IntWalk.toNatUp, k5, l1, l2, l3, t1, t2, show (s : Int) ≤ 8 by omega, show ¬ (r : Int) ≤ 32 by omega]
    refine ICalls.then (c1 _) ?_
    try simp [go_sem, -getElem?_pos, -List.map_take, -List.map_drop, List.getElem?_cons_zero, List.getElem?_cons_succ, Go.IntWalk.iteOmega, Go.IntWalk.toNatUp, k5, l1, l2, l3, t1, t2, show (s : Int) ≤ 8 by omega, show ¬ (r : Int) ≤ 32 by omega]
    refine ICalls.then (c2 _) ?_
    try simp [go_sem, -getElem?_pos, -List.map_take, -List.map_drop, List.getElem?_cons_zero, List.getElem?_cons_succ, Go.IntWalk.iteOmega, Go.IntWalk.toNatUp, k5, l1, l2, l3, t1, t2, show (s : Int) ≤ 8 by omega, show ¬ (r : Int) ≤ 32 by omega]
    refine IWp.ret ?_
    simp [go_sem, -getElem?_pos, -List.map_take, -List.map_drop, List.getElem?_cons_zero, List.getElem?_cons_succ, Go.IntWalk.iteOmega, Go.IntWalk.toNatUp, k5, l1, l2, l3, t1, t2, show (s : Int) ≤ 8 by omega, show ¬ (r : Int) ≤ 32 by omega, Try.results13]
  by_cases t3 : t ≤ 64
  case neg =>
    rw [decide_eq_false (show ¬ (s ≤ 8 ∧ r ≤ 32 ∧ t ≤ 64) by omega)] at c2
    refine IWp.run [7, 12] ?_
    simp [go_sem, -getElem?_pos, -List.map_take, -List.map_drop, List.getElem?_cons_zero, List.getElem?_cons_succ, Go.IntWalk.iteOmega, Go.IntWalk.toNatUp, k5, l1, l2, l3, t1, t2, t3, show (s : Int) ≤ 8 by omega, show (r : Int) ≤ 32 by omega, show ¬ (t : Int) ≤ 64 by omega]
    refine IWp.seq ?_
    refine IWp.run [6] ?_
    simp [go_sem, -getElem?_pos, -List.map_take, -List.map_drop, List.getElem?_cons_zero, List.getElem?_cons_succ, Go.IntWalk.iteOmega, Go.IntWalk.toNatUp, k5, l1, l2, l3, t1, t2, t3, show (s : Int) ≤ 8 by omega, show (r : Int) ≤ 32 by omega, show ¬ (t : Int) ≤ 64 by omega]
    refine ICalls.then (c1 _) ?_
    try simp [go_sem, -getElem?_pos, -List.map_take, -List.map_drop, List.getElem?_cons_zero, List.getElem?_cons_succ, Go.IntWalk.iteOmega, Go.IntWalk.toNatUp, k5, l1, l2, l3, t1, t2, t3, show (s : Int) ≤ 8 by omega, show (r : Int) ≤ 32 by omega, show ¬ (t : Int) ≤ 64 by omega]
    refine ICalls.then (c2 _) ?_
    try simp [go_sem, -getElem?_pos, -List.map_take, -List.map_drop, List.getElem?_cons_zero, List.getElem?_cons_succ, Go.IntWalk.iteOmega, Go.IntWalk.toNatUp, k5, l1, l2, l3, t1, t2, t3, show (s : Int) ≤ 8 by omega, show (r : Int) ≤ 32 by omega, show ¬ (t : Int) ≤ 64 by omega]
    refine IWp.ret ?_
    simp [go_sem, -getElem?_pos, -List.map_take, -List.map_drop, List.getElem?_cons_zero, List.getElem?_cons_succ, Go.IntWalk.iteOmega, Go.IntWalk.toNatUp, k5, l1, l2, l3, t1, t2, t3, show (s : Int) ≤ 8 by omega, show (r : Int) ≤ 32 by omega, show ¬ (t : Int) ≤ 64 by omega, Try.results13]
  rw [decide_eq_true (show s ≤ 8 ∧ r ≤ 32 ∧ t ≤ 64 by omega)] at c2
  refine IWp.run [7, 12] ?_
  simp [go_sem, -getElem?_pos, -List.map_take, -List.map_drop, List.getElem?_cons_zero, List.getElem?_cons_succ, Go.IntWalk.iteOmega, Go.IntWalk.toNatUp, k5, l1, l2, l3, t1, t2, t3, show (s : Int) ≤ 8 by omega, show (r : Int) ≤ 32 by omega, show (t : Int) ≤ 64 by omega]
  refine IWp.seq ?_
  refine IWp.run [6] ?_
  simp [go_sem, -getElem?_pos, -List.map_take, -List.map_drop, List.getElem?_cons_zero, List.getElem?_cons_succ, Go.IntWalk.iteOmega, Go.IntWalk.toNatUp, k5, l1, l2, l3, t1, t2, t3, show (s : Int) ≤ 8 by omega, show (r : Int) ≤ 32 by omega, show (t : Int) ≤ 64 by omega]
  refine ICalls.then (c1 _) ?_
  try simp [go_sem, -getElem?_pos, -List.map_take, -List.map_drop, List.getElem?_cons_zero, List.getElem?_cons_succ, Go.IntWalk.iteOmega, Go.IntWalk.toNatUp, k5, l1, l2, l3, t1, t2, t3, show (s : Int) ≤ 8 by omega, show (r : Int) ≤ 32 by omega, show (t : Int) ≤ 64 by omega]
  refine ICalls.then (c2 _) ?_
  try simp [go_sem, -getElem?_pos, -List.map_take, -List.map_drop, List.getElem?_cons_zero, List.getElem?_cons_succ, Go.IntWalk.iteOmega, Go.IntWalk.toNatUp, k5, l1, l2, l3, t1, t2, t3, show (s : Int) ≤ 8 by omega, show (r : Int) ≤ 32 by omega, show (t : Int) ≤ 64 by omega]
  refine IWp.ret ?_
  simp [go_sem, -getElem?_pos, -List.map_take, -List.map_drop, List.getElem?_cons_zero, List.getElem?_cons_succ, Go.IntWalk.iteOmega, Go.IntWalk.toNatUp, k5, l1, l2, l3, t1, t2, t3, show (s : Int) ≤ 8 by omega, show (r : Int) ≤ 32 by omega, show (t : Int) ≤ 64 by omega, Try.results13]

end Go.Proofs.Ytmiinclnpcokkaa.I
