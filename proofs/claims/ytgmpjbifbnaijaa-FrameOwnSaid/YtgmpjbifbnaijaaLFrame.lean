/- Frames: what the laws ask. No condition. -/
import Derived.Test.YtgmpjbifbnaijaaGFeed
import Derived.Test.YtgmpjbifbnaijaaPScan
namespace Go.Proofs.Ytgmpjbifbnaijaa.I
open Go Go.RowKit
set_option linter.unusedVariables false
set_option linter.unusedSimpArgs false

structure Part where
  kind : Int
  p : List Int
  at_ : Int
  turn : Int
def Part.cells (x : Part) : List Value := [.int .u8 x.kind, frow 1 0 (x.p.map (Value.int .u8)), .int .u8 x.at_, .int .u8 x.turn]
def Part.val (x : Part) : Value := .agg ⟨x.cells⟩
theorem Part.val_cells (x : Part) : x.val.cells = ⟨x.cells⟩ := rfl
def Part.wf (x : Part) : Prop := (0 ≤ x.kind ∧ x.kind < 256) ∧ ((∀ n ∈ x.p, 0 ≤ n ∧ n < 256) ∧ x.p.length ≤ maxLen) ∧ (0 ≤ x.at_ ∧ x.at_ < 256) ∧ (0 ≤ x.turn ∧ x.turn < 256)
theorem Part.cl (x : Part) : ClL x.cells := by
  simp [Part.cells, ClL_cons, ClL_nil, ClL_append, Cl_int, Cl_bool, Cl_string, cl_ints, Cl_frow_map, Value.cells]
theorem Part.cl_row (sz : Nat) (m : Int) (L : List Part) : Cl (frow sz m (L.map Part.val)) = True := by
  rw [Cl_frow_map]; simp [Part.val_cells, Part.cl]
theorem Part.cl_val (x : Part) : Cl x.val = True := by
  unfold Part.val; rw [Cl_agg]; simp [Part.cl]

/-- What is told is written no more. -/
theorem feedF (H : Heap) (b : Nat) (r : Option Nat) (L M : List Int) (lost : Nat) (x : Value) (h : ScAt H b r L lost) (hx : irow 1 x H = some (M.length, M.map (Value.int .u8))) (hl : L.length + M.length ≤ 50000) (hlost : lost ≤ 1000000000) (hB : Bs (L ++ M)) :
    ICalls Try.prog 17 [ptrTo b 0, x] H fun v H' => v = frow 1 0 ((scanS (L ++ M)).1.map byts) ∧ ∃ r', ScAt H' b r' (scanS (L ++ M)).2.2 (lost + (scanS (L ++ M)).2.1) ∧ Step H H' b r r' := by
  have hlt := h.lt
  refine ICalls.frozen ((feed H b r L M lost x h hx hl hlost hB).mono ?_)
  rintro v H' ⟨mid, r', h1, h2, h3, h4, h5⟩
  have ho : ∀ j, (j < H.next ∨ mid ≤ j) → (H'.only fun j => !(decide (H.next ≤ j) && decide (j < mid))).get j = H'.get j := fun j hj => by
    simp only [Heap.only]
    rw [if_pos]
    rcases hj with hj | hj
    · simp; omega
    · simp; omega
  refine ⟨fun j => decide (H.next ≤ j) && decide (j < mid), _, h2.frz fun j g1 g2 => by simp [g1, g2], rfl, r', h1.same fun j hj => ?_, ⟨fun j hj hb hr => ?_, h3.row, h3.next⟩⟩
  · rcases hj with rfl | hj
    · exact ho _ (.inl hlt.1)
    · exact ho _ (.inr (h4 j hj))
  · rw [ho j (.inl hj)]; exact h3.get j hj hb hr

theorem getD_bs {L : List Int} (h : Bs L) (i : Nat) : 0 ≤ L.getD i 0 ∧ L.getD i 0 < 256 := by
  by_cases hi : i < L.length
  · rw [List.getD_eq_getElem?_getD, List.getElem?_eq_getElem hi]; exact h _ (List.getElem_mem hi)
  · rw [List.getD_eq_getElem?_getD, List.getElem?_eq_none (by omega)]; simp
theorem byts_inj {a b : List Int} : byts a = byts b ↔ a = b := by
  refine ⟨fun h => ?_, fun h => by rw [h]⟩
  simp only [byts, frow, Value.func.injEq, Array.mk.injEq, true_and, and_true] at h
  have : ∀ {a b : List Int}, a.map (Value.int .u8) = b.map (Value.int .u8) → a = b := by
    intro a
    induction a with
    | nil => intro b h; cases b <;> simp_all
    | cons x a ih => intro b h; cases b with
      | nil => cases h
      | cons y b => simp only [List.map_cons, List.cons.injEq, Value.int.injEq, true_and] at h; rw [h.1, ih h.2]
  exact this h

theorem same (H : Heap) (m k : Int) (A B : List (List Int)) (hA : A.length ≤ 1000000) (hs : ∀ x ∈ A, x.length ≤ 1000000) :
    ICalls Try.prog 16 [frow 1 m (A.map byts), frow 1 k (B.map byts)] H fun v H' => v = .bool (decide (A = B)) ∧ H' = H := by
  refine IBody.calls (by kernel_rfl) ?_
  by_cases hlen : A.length = B.length
  · skip
    refine IBody.of Try.func16 rfl (by rw [Try.ntmps16]; simp) ?_
    rw [Try.ntmps16]
    refine IWp.seq ?_
    refine IWp.run [0, 1] ?_
    simp [go_sem, -getElem?_pos, -List.map_take, -List.map_drop, List.getElem?_cons_zero, List.getElem?_cons_succ, Go.IntWalk.iteOmega, Go.IntWalk.toNatUp, hlen]
    refine IWp.seq ?_
    refine IWp.seq ?_
    refine IWp.run [0, 1, 10] ?_
    simp [go_sem, -getElem?_pos, -List.map_take, -List.map_drop, List.getElem?_cons_zero, List.getElem?_cons_succ, Go.IntWalk.iteOmega, Go.IntWalk.toNatUp, hlen]
    refine IWp.cond ?_
    simp [go_sem, -getElem?_pos, -List.map_take, -List.map_drop, List.getElem?_cons_zero, List.getElem?_cons_succ, Go.IntWalk.iteOmega, Go.IntWalk.toNatUp, hlen]
    refine IWp.trim [0, 1] (IWp.skip ?_)
    simp [go_sem, -getElem?_pos, -List.map_take, -List.map_drop, List.getElem?_cons_zero, List.getElem?_cons_succ, Go.IntWalk.iteOmega, Go.IntWalk.toNatUp, hlen]
    refine IWp.seq ?_
    refine IWp.seq ?_
    refine IWp.run [0, 1, 5] ?_
    simp [go_sem, -getElem?_pos, -List.map_take, -List.map_drop, List.getElem?_cons_zero, List.getElem?_cons_succ, Go.IntWalk.iteOmega, Go.IntWalk.toNatUp, hlen]
    refine IWp.block ?_
    -- LOOP live [0, 1, 5]
    refine IWp.loop (fun j e K => ∃ i : Nat, j = A.length - i ∧ i ≤ A.length ∧ e = [(0, frow 1 m (A.map byts)), (1, frow 1 k (B.map byts)), (5, .int .i64 (i : Int))] ∧ K = H ∧ A.take i = B.take i) A.length ⟨0, rfl, Nat.zero_le _, rfl, rfl, rfl⟩ ?_
    rintro j e K ⟨i, rfl, hi, rfl, rfl, hpre⟩
    by_cases hlt : i < A.length
    · have hltB : i < B.length := by omega
      have w1 := IntWalk.i64_in ((i : Int) + 1) (by omega)
      have ga : (A.map byts)[i]? = some (byts A[i]) := by simp [hlt]
      have gb : (B.map byts)[i]? = some (byts B[i]) := by simp [hltB]
      have hl := hs A[i] (List.getElem_mem hlt)
      by_cases he : A[i] = B[i]
      · rw [he] at ga hl
        refine IWp.seq ?_
        refine IWp.seq ?_
        refine IWp.run [0, 1, 5, 14] ?_
        simp [go_sem, -getElem?_pos, -List.map_take, -List.map_drop, List.getElem?_cons_zero, List.getElem?_cons_succ, Go.IntWalk.iteOmega, Go.IntWalk.toNatUp, hlt, hltB, ga, gb, w1, show ¬ ((i : Int) < 0) by omega, show (i : Int) < B.length by omega]
        refine IWp.cond ?_
        simp [go_sem, -getElem?_pos, -List.map_take, -List.map_drop, List.getElem?_cons_zero, List.getElem?_cons_succ, Go.IntWalk.iteOmega, Go.IntWalk.toNatUp, hlt, hltB, ga, gb, w1, show ¬ ((i : Int) < 0) by omega, show (i : Int) < B.length by omega]
        refine IWp.trim [0, 1, 5] (IWp.skip ?_)
        simp [go_sem, -getElem?_pos, -List.map_take, -List.map_drop, List.getElem?_cons_zero, List.getElem?_cons_succ, Go.IntWalk.iteOmega, Go.IntWalk.toNatUp, hlt, hltB, ga, gb, w1, show ¬ ((i : Int) < 0) by omega, show (i : Int) < B.length by omega]
        refine IWp.seq ?_
        refine IWp.block ?_
        refine IWp.seq ?_
        refine IWp.draw [0, 1, 5, 26] [] (.val 0 (.val 1 (.val 2 (.ld 3 [8, 9] (.val 4 (.val 5 (.val 6 (.ld 7 [8, 9] (.eff 8 (.val 9 .done) .done))))))))) follows (by kernel_rfl) ?_
        simp [go_sem, -getElem?_pos, -List.map_take, -List.map_drop, List.getElem?_cons_zero, List.getElem?_cons_succ, Go.IntWalk.iteOmega, Go.IntWalk.toNatUp, hlt, hltB, ga, gb, w1, show ¬ ((i : Int) < 0) by omega, show (i : Int) < B.length by omega]
        refine ICalls.mono (refBytes _ 0 0 B[i] B[i] hl) ?_
        rintro v _ ⟨rfl, rfl⟩
        try simp [go_sem, -getElem?_pos, -List.map_take, -List.map_drop, List.getElem?_cons_zero, List.getElem?_cons_succ, Go.IntWalk.iteOmega, Go.IntWalk.toNatUp, hlt, hltB, ga, gb, w1, show ¬ ((i : Int) < 0) by omega, show (i : Int) < B.length by omega]
        refine IWp.cond ?_
        simp [go_sem, -getElem?_pos, -List.map_take, -List.map_drop, List.getElem?_cons_zero, List.getElem?_cons_succ, Go.IntWalk.iteOmega, Go.IntWalk.toNatUp, hlt, hltB, ga, gb, w1, show ¬ ((i : Int) < 0) by omega, show (i : Int) < B.length by omega]
        refine IWp.trim [0, 1, 5] (IWp.skip ?_)
        simp [go_sem, -getElem?_pos, -List.map_take, -List.map_drop, List.getElem?_cons_zero, List.getElem?_cons_succ, Go.IntWalk.iteOmega, Go.IntWalk.toNatUp, hlt, hltB, ga, gb, w1, show ¬ ((i : Int) < 0) by omega, show (i : Int) < B.length by omega]
        refine IWp.run [0, 1, 5] ?_
        simp [go_sem, -getElem?_pos, -List.map_take, -List.map_drop, List.getElem?_cons_zero, List.getElem?_cons_succ, Go.IntWalk.iteOmega, Go.IntWalk.toNatUp, hlt, hltB, ga, gb, w1, show ¬ ((i : Int) < 0) by omega, show (i : Int) < B.length by omega]
        exact ⟨A.length - (i + 1), by omega, i + 1, rfl, by omega, rfl, by rw [List.take_succ_eq_append_getElem hlt, List.take_succ_eq_append_getElem hltB, hpre, he]⟩
      · skip
        refine IWp.seq ?_
        refine IWp.seq ?_
        refine IWp.run [0, 1, 5, 14] ?_
        simp [go_sem, -getElem?_pos, -List.map_take, -List.map_drop, List.getElem?_cons_zero, List.getElem?_cons_succ, Go.IntWalk.iteOmega, Go.IntWalk.toNatUp, hlt, hltB, ga, gb, w1, show ¬ ((i : Int) < 0) by omega, show (i : Int) < B.length by omega]
        refine IWp.cond ?_
        simp [go_sem, -getElem?_pos, -List.map_take, -List.map_drop, List.getElem?_cons_zero, List.getElem?_cons_succ, Go.IntWalk.iteOmega, Go.IntWalk.toNatUp, hlt, hltB, ga, gb, w1, show ¬ ((i : Int) < 0) by omega, show (i : Int) < B.length by omega]
        refine IWp.trim [0, 1, 5] (IWp.skip ?_)
        simp [go_sem, -getElem?_pos, -List.map_take, -List.map_drop, List.getElem?_cons_zero, List.getElem?_cons_succ, Go.IntWalk.iteOmega, Go.IntWalk.toNatUp, hlt, hltB, ga, gb, w1, show ¬ ((i : Int) < 0) by omega, show (i : Int) < B.length by omega]
        refine IWp.seq ?_
        refine IWp.block ?_
        refine IWp.seq ?_
        refine IWp.draw [0, 1, 5, 26] [] (.val 0 (.val 1 (.val 2 (.ld 3 [8, 9] (.val 4 (.val 5 (.val 6 (.ld 7 [8, 9] (.eff 8 (.val 9 .done) .done))))))))) follows (by kernel_rfl) ?_
        simp [go_sem, -getElem?_pos, -List.map_take, -List.map_drop, List.getElem?_cons_zero, List.getElem?_cons_succ, Go.IntWalk.iteOmega, Go.IntWalk.toNatUp, hlt, hltB, ga, gb, w1, show ¬ ((i : Int) < 0) by omega, show (i : Int) < B.length by omega]
        refine ICalls.mono (refBytes _ 0 0 A[i] B[i] hl) ?_
        rintro v _ ⟨rfl, rfl⟩
        try simp [go_sem, -getElem?_pos, -List.map_take, -List.map_drop, List.getElem?_cons_zero, List.getElem?_cons_succ, Go.IntWalk.iteOmega, Go.IntWalk.toNatUp, hlt, hltB, ga, gb, w1, show ¬ ((i : Int) < 0) by omega, show (i : Int) < B.length by omega, he]
        refine IWp.cond ?_
        simp [go_sem, -getElem?_pos, -List.map_take, -List.map_drop, List.getElem?_cons_zero, List.getElem?_cons_succ, Go.IntWalk.iteOmega, Go.IntWalk.toNatUp, hlt, hltB, ga, gb, w1, show ¬ ((i : Int) < 0) by omega, show (i : Int) < B.length by omega, he]
        refine IWp.seq ?_
        refine IWp.run [4] ?_
        simp [go_sem, -getElem?_pos, -List.map_take, -List.map_drop, List.getElem?_cons_zero, List.getElem?_cons_succ, Go.IntWalk.iteOmega, Go.IntWalk.toNatUp, hlt, hltB, ga, gb, w1, show ¬ ((i : Int) < 0) by omega, show (i : Int) < B.length by omega, he]
        refine IWp.ret ?_
        simp [go_sem, -getElem?_pos, -List.map_take, -List.map_drop, List.getElem?_cons_zero, List.getElem?_cons_succ, Go.IntWalk.iteOmega, Go.IntWalk.toNatUp, hlt, hltB, ga, gb, w1, show ¬ ((i : Int) < 0) by omega, show (i : Int) < B.length by omega, he, Try.results16]
        exact fun e => he (by subst e; rfl)
    · skip
      refine IWp.seq ?_
      refine IWp.seq ?_
      refine IWp.run [0, 1, 5, 14] ?_
      simp [go_sem, -getElem?_pos, -List.map_take, -List.map_drop, List.getElem?_cons_zero, List.getElem?_cons_succ, Go.IntWalk.iteOmega, Go.IntWalk.toNatUp, show ¬ ((i : Int) < B.length) by omega]
      refine IWp.cond ?_
      simp [go_sem, -getElem?_pos, -List.map_take, -List.map_drop, List.getElem?_cons_zero, List.getElem?_cons_succ, Go.IntWalk.iteOmega, Go.IntWalk.toNatUp, show ¬ ((i : Int) < B.length) by omega]
      refine IWp.trim [] (IWp.exit ?_)
      simp [go_sem, -getElem?_pos, -List.map_take, -List.map_drop, List.getElem?_cons_zero, List.getElem?_cons_succ, Go.IntWalk.iteOmega, Go.IntWalk.toNatUp, show ¬ ((i : Int) < B.length) by omega]
      refine IWp.seq ?_
      refine IWp.run [4] ?_
      simp [go_sem, -getElem?_pos, -List.map_take, -List.map_drop, List.getElem?_cons_zero, List.getElem?_cons_succ, Go.IntWalk.iteOmega, Go.IntWalk.toNatUp, show ¬ ((i : Int) < B.length) by omega]
      refine IWp.ret ?_
      simp [go_sem, -getElem?_pos, -List.map_take, -List.map_drop, List.getElem?_cons_zero, List.getElem?_cons_succ, Go.IntWalk.iteOmega, Go.IntWalk.toNatUp, show ¬ ((i : Int) < B.length) by omega, Try.results16]
      rw [← List.take_of_length_le (show A.length ≤ i by omega), hpre, List.take_of_length_le (by omega)]
  · skip
    refine IBody.of Try.func16 rfl (by rw [Try.ntmps16]; simp) ?_
    rw [Try.ntmps16]
    refine IWp.seq ?_
    refine IWp.run [0, 1] ?_
    simp [go_sem, -getElem?_pos, -List.map_take, -List.map_drop, List.getElem?_cons_zero, List.getElem?_cons_succ, Go.IntWalk.iteOmega, Go.IntWalk.toNatUp, hlen, show ¬ ((A.length : Int) = B.length) by omega]
    refine IWp.seq ?_
    refine IWp.seq ?_
    refine IWp.run [0, 1, 10] ?_
    simp [go_sem, -getElem?_pos, -List.map_take, -List.map_drop, List.getElem?_cons_zero, List.getElem?_cons_succ, Go.IntWalk.iteOmega, Go.IntWalk.toNatUp, hlen, show ¬ ((A.length : Int) = B.length) by omega]
    refine IWp.cond ?_
    simp [go_sem, -getElem?_pos, -List.map_take, -List.map_drop, List.getElem?_cons_zero, List.getElem?_cons_succ, Go.IntWalk.iteOmega, Go.IntWalk.toNatUp, hlen, show ¬ ((A.length : Int) = B.length) by omega]
    refine IWp.seq ?_
    refine IWp.run [4] ?_
    simp [go_sem, -getElem?_pos, -List.map_take, -List.map_drop, List.getElem?_cons_zero, List.getElem?_cons_succ, Go.IntWalk.iteOmega, Go.IntWalk.toNatUp, hlen, show ¬ ((A.length : Int) = B.length) by omega]
    refine IWp.ret ?_
    simp [go_sem, -getElem?_pos, -List.map_take, -List.map_drop, List.getElem?_cons_zero, List.getElem?_cons_succ, Go.IntWalk.iteOmega, Go.IntWalk.toNatUp, hlen, show ¬ ((A.length : Int) = B.length) by omega, Try.results16]
    exact fun e => hlen (by rw [e])

theorem few (H : Heap) (m : Int) (l : List Part) :
    ICalls Try.prog 10 [frow 4 m (l.map Part.val)] H fun v H' => v = .bool (decide (l.length ≤ 12)) ∧ H' = H := by
  refine IBody.calls (by kernel_rfl) ?_
  have e : ((l.length : Int) ≤ 12) = (l.length ≤ 12) := propext (by omega)
  refine IBody.of Try.func10 rfl (by rw [Try.ntmps10]; simp) ?_
  rw [Try.ntmps10]
  refine IWp.seq ?_
  refine IWp.run [0] ?_
  simp [go_sem, -getElem?_pos, -List.map_take, -List.map_drop, List.getElem?_cons_zero, List.getElem?_cons_succ, Go.IntWalk.iteOmega, Go.IntWalk.toNatUp, e]
  refine IWp.seq ?_
  refine IWp.run [2] ?_
  simp [go_sem, -getElem?_pos, -List.map_take, -List.map_drop, List.getElem?_cons_zero, List.getElem?_cons_succ, Go.IntWalk.iteOmega, Go.IntWalk.toNatUp, e]
  refine IWp.ret ?_
  simp [go_sem, -getElem?_pos, -List.map_take, -List.map_drop, List.getElem?_cons_zero, List.getElem?_cons_succ, Go.IntWalk.iteOmega, Go.IntWalk.toNatUp, e, Try.results10]

/-- A frame that isn't whole yet: it may become one. -/
theorem lookS_part (q : List Int) (h1 : 1 ≤ q.length) (h2 : q.length ≤ 32) (k : Nat) (hk : k < q.length + 5) : lookS ((frameB q).take k) = (0, 0) := by
  have hl : ((frameB q).take k).length = k := by rw [List.length_take, frameB_length]; omega
  have g : ∀ i, i < k → ((frameB q).take k).getD i 0 = (frameB q).getD i 0 := fun i hi => by simp [List.getD_eq_getElem?_getD, List.getElem?_take, hi]
  have g0 : (frameB q).getD 0 0 = 85 := by simp [frameB_eq]
  have g1 : (frameB q).getD 1 0 = 170 := by simp [frameB_eq]
  have g2 : (frameB q).getD 2 0 = (q.length : Int) := by simp [frameB_eq]
  unfold lookS
  by_cases k0 : k ≤ 0
  · rw [if_pos (by omega)]
  rw [if_neg (by omega), if_neg (not_not_intro (by rw [g 0 (by omega), g0]))]
  by_cases k1 : k ≤ 1
  · rw [if_pos (by omega)]
  rw [if_neg (by omega), if_neg (not_not_intro (by rw [g 1 (by omega), g1]))]
  by_cases k2 : k ≤ 2
  · rw [if_pos (by omega)]
  rw [if_neg (by omega), if_neg (not_not_intro (by rw [g 2 (by omega), g2]; omega)), g 2 (by omega), g2, if_pos (by omega)]
theorem scanS_part (q : List Int) (h1 : 1 ≤ q.length) (h2 : q.length ≤ 32) (k : Nat) (hk : k < q.length + 5) : scanS ((frameB q).take k) = ([], 0, (frameB q).take k) := scanS_wait (by rw [lookS_part q h1 h2 k hk])
theorem scanS_one (q : List Int) (h1 : 1 ≤ q.length) (h2 : q.length ≤ 32) : scanS (frameB q) = ([q], 0, []) := by
  have := scanS_frames [q] (by simp; omega)
  simpa using this
theorem frameB_bs {q : List Int} (h : Bs q) (hl : q.length ≤ 200) : Bs (frameB q) := fun x hx => by
  rcases List.mem_append.1 hx with hx | hx
  · simp at hx; omega
  · exact closed_bs (h.cons (by omega)) x hx
theorem Bs.drop {L : List Int} (h : Bs L) (n : Nat) : Bs (L.drop n) := fun x hx => h x (List.mem_of_mem_drop hx)
theorem Bs.app {L M : List Int} (h : Bs L) (k : Bs M) : Bs (L ++ M) := fun x hx => (List.mem_append.1 hx).elim (h x) (k x)

theorem irow_byts (m : Int) (M : List Int) (H : Heap) : irow 1 (frow 1 m (M.map (Value.int .u8))) H = some (M.length, M.map (Value.int .u8)) := by
  rw [irow_frow]; simp [map_flat]

theorem told (H : Heap) : ICalls Try.prog 9 [] H fun v H' => v = .bool true ∧ H' = H := by
  refine ICalls.ans (by simp [go_sem]) fun H => IBody.calls (by kernel_rfl) ?_
  have hB : Bs [7, 8] := by intro x hx; simp at hx; omega
  have hF := frameB_bs hB (by simp)
  have hFl : (frameB [7, 8]).length = 7 := by rw [frameB_length]; rfl
  have w1 := IntWalk.i64_in 6 (by omega)
  refine IBody.of Try.func9 rfl (by rw [Try.ntmps9]; simp) ?_
  rw [Try.ntmps9]
  refine IWp.seq ?_
  refine IWp.run [] ?_
  simp [go_sem, -getElem?_pos, -List.map_take, -List.map_drop, List.getElem?_cons_zero, List.getElem?_cons_succ, Go.IntWalk.iteOmega, Go.IntWalk.toNatUp]
  refine IWp.seq ?_
  refine IWp.run [1] ?_
  simp [go_sem, -getElem?_pos, -List.map_take, -List.map_drop, List.getElem?_cons_zero, List.getElem?_cons_succ, Go.IntWalk.iteOmega, Go.IntWalk.toNatUp]
  refine ICalls.mono (scNew H) ?_
  rintro v H1 ⟨rfl, h1, o1⟩
  try simp [go_sem, -getElem?_pos, -List.map_take, -List.map_drop, List.getElem?_cons_zero, List.getElem?_cons_succ, Go.IntWalk.iteOmega, Go.IntWalk.toNatUp]
  refine IWp.seq ?_
  refine IWp.run [1, 2] ?_
  simp [go_sem, -getElem?_pos, -List.map_take, -List.map_drop, List.getElem?_cons_zero, List.getElem?_cons_succ, Go.IntWalk.iteOmega, Go.IntWalk.toNatUp]
  -- PATH LEFT ['C', 'F']
  refine ICalls.freeze1 H1.next (.cons (frz_lit ([(7 : Int), 8].map (Value.int .u8)) (by simp [go_sem]) rfl (map_sz .u8 _) rfl (by simp)) .nil) ((frame _ 0 [7, 8] (by simp) hB).mono ?_)
  rintro v _ ⟨rfl, rfl⟩
  have h1' : ScAt ((H1.alloc [.int .u8 7, .int .u8 8]).kill H1.next) H.next none [] 0 := h1.same fun j hj => by
    have := h1.lt
    have hj' : j < H1.next := hj.elim (fun e => e ▸ this.1) (fun e => by cases e)
    rw [get_kill, if_neg (by omega), Heap.get_alloc_lt _ _ _ hj']
  generalize (H1.alloc [.int .u8 7, .int .u8 8]).kill H1.next = H2 at h1'
  generalize hFF : frameB [7, 8] = F at *
  simp [go_sem]
  refine IWp.seq ?_
  refine IWp.seq ?_
  refine IWp.run [1, 2, 10] ?_
  simp [go_sem, -getElem?_pos, -List.map_take, -List.map_drop, List.getElem?_cons_zero, List.getElem?_cons_succ, Go.IntWalk.iteOmega, Go.IntWalk.toNatUp, hFl]
  refine IWp.cond ?_
  simp [go_sem, -getElem?_pos, -List.map_take, -List.map_drop, List.getElem?_cons_zero, List.getElem?_cons_succ, Go.IntWalk.iteOmega, Go.IntWalk.toNatUp, hFl]
  refine IWp.trim [1, 2] (IWp.skip ?_)
  simp [go_sem, -getElem?_pos, -List.map_take, -List.map_drop, List.getElem?_cons_zero, List.getElem?_cons_succ, Go.IntWalk.iteOmega, Go.IntWalk.toNatUp, hFl]
  refine IWp.seq ?_
  refine IWp.seq ?_
  refine IWp.run [1, 2, 3] ?_
  simp [go_sem, -getElem?_pos, -List.map_take, -List.map_drop, List.getElem?_cons_zero, List.getElem?_cons_succ, Go.IntWalk.iteOmega, Go.IntWalk.toNatUp, hFl]
  refine IWp.block ?_
  -- LOOP live [1, 2, 3]
  refine IWp.loop (fun j e K => ∃ (i : Nat) (r : Option Nat), j = 6 - i ∧ i ≤ 6 ∧ ScAt K H.next r (F.take i) 0 ∧ e = [(1, ptrTo H.next 0), (2, byts F), (3, .int .i64 (i : Int))]) 6 ⟨0, none, rfl, Nat.zero_le _, by simpa using h1', by simp [go_sem]⟩ ?_
  rintro j e K ⟨i, r, rfl, hi, hs, rfl⟩
  have w2 := IntWalk.i64_in ((i : Int) + 1) (by omega)
  have hS : ∀ k, k < 7 → scanS (F.take k) = ([], 0, F.take k) := fun k hk => by rw [← hFF]; exact scanS_part [7, 8] (by simp) (by simp) k (by simp; omega)
  by_cases h6 : i < 6
  · have hf := feedF K H.next r (F.take i) ((F.drop i).take 1) 0 (frow 1 0 (((F.drop i).take 1).map (Value.int .u8))) hs (irow_byts _ _ _) (by simp; omega) (by omega) (by rw [← List.take_add]; exact hF.take _)
    rw [← List.take_add, hS (i + 1) (by omega)] at hf
    have e1 : i + 1 - i = 1 := by omega
    refine IWp.seq ?_
    refine IWp.seq ?_
    refine IWp.run [1, 2, 3, 15] ?_
    simp [go_sem, -getElem?_pos, -List.map_take, -List.map_drop, List.getElem?_cons_zero, List.getElem?_cons_succ, Go.IntWalk.iteOmega, Go.IntWalk.toNatUp, hFl, w1, w2, h6, e1, show (i : Int) < 6 by omega, show (i : Int) ≤ 7 by omega, show (i : Int) + 1 ≤ 7 by omega, show (i : Int) ≤ i + 1 by omega]
    refine IWp.cond ?_
    simp [go_sem, -getElem?_pos, -List.map_take, -List.map_drop, List.getElem?_cons_zero, List.getElem?_cons_succ, Go.IntWalk.iteOmega, Go.IntWalk.toNatUp, hFl, w1, w2, h6, e1, show (i : Int) < 6 by omega, show (i : Int) ≤ 7 by omega, show (i : Int) + 1 ≤ 7 by omega, show (i : Int) ≤ i + 1 by omega]
    refine IWp.trim [1, 2, 3] (IWp.skip ?_)
    simp [go_sem, -getElem?_pos, -List.map_take, -List.map_drop, List.getElem?_cons_zero, List.getElem?_cons_succ, Go.IntWalk.iteOmega, Go.IntWalk.toNatUp, hFl, w1, w2, h6, e1, show (i : Int) < 6 by omega, show (i : Int) ≤ 7 by omega, show (i : Int) + 1 ≤ 7 by omega, show (i : Int) ≤ i + 1 by omega]
    refine IWp.seq ?_
    refine IWp.block ?_
    refine IWp.seq ?_
    refine IWp.run [1, 2, 3, 26] ?_
    simp [go_sem, -getElem?_pos, -List.map_take, -List.map_drop, List.getElem?_cons_zero, List.getElem?_cons_succ, Go.IntWalk.iteOmega, Go.IntWalk.toNatUp, hFl, w1, w2, h6, e1, show (i : Int) < 6 by omega, show (i : Int) ≤ 7 by omega, show (i : Int) + 1 ≤ 7 by omega, show (i : Int) ≤ i + 1 by omega]
    refine ICalls.mono (hf) ?_
    rintro u K2 ⟨rfl, r2, s2, t2⟩
    try simp [go_sem, -getElem?_pos, -List.map_take, -List.map_drop, List.getElem?_cons_zero, List.getElem?_cons_succ, Go.IntWalk.iteOmega, Go.IntWalk.toNatUp, hFl, w1, w2, h6, e1, show (i : Int) < 6 by omega, show (i : Int) ≤ 7 by omega, show (i : Int) + 1 ≤ 7 by omega, show (i : Int) ≤ i + 1 by omega]
    refine IWp.cond ?_
    simp [go_sem, -getElem?_pos, -List.map_take, -List.map_drop, List.getElem?_cons_zero, List.getElem?_cons_succ, Go.IntWalk.iteOmega, Go.IntWalk.toNatUp, hFl, w1, w2, h6, e1, show (i : Int) < 6 by omega, show (i : Int) ≤ 7 by omega, show (i : Int) + 1 ≤ 7 by omega, show (i : Int) ≤ i + 1 by omega]
    refine IWp.trim [1, 2, 3] (IWp.skip ?_)
    simp [go_sem, -getElem?_pos, -List.map_take, -List.map_drop, List.getElem?_cons_zero, List.getElem?_cons_succ, Go.IntWalk.iteOmega, Go.IntWalk.toNatUp, hFl, w1, w2, h6, e1, show (i : Int) < 6 by omega, show (i : Int) ≤ 7 by omega, show (i : Int) + 1 ≤ 7 by omega, show (i : Int) ≤ i + 1 by omega]
    refine IWp.run [1, 2, 3] ?_
    simp [go_sem, -getElem?_pos, -List.map_take, -List.map_drop, List.getElem?_cons_zero, List.getElem?_cons_succ, Go.IntWalk.iteOmega, Go.IntWalk.toNatUp, hFl, w1, w2, h6, e1, show (i : Int) < 6 by omega, show (i : Int) ≤ 7 by omega, show (i : Int) + 1 ≤ 7 by omega, show (i : Int) ≤ i + 1 by omega]
    exact ⟨6 - (i + 1), by omega, i + 1, rfl, by omega, ⟨r2, s2⟩, by omega⟩
  · have hi6 : i = 6 := by omega
    subst hi6
    have hf := feedF K H.next r (F.take 6) (F.drop 6) 0 (frow 1 0 ((F.drop 6).map (Value.int .u8))) hs (irow_byts _ _ _) (by simp; omega) (by omega) (by rw [List.take_append_drop]; exact hF)
    rw [List.take_append_drop, ← hFF, scanS_one [7, 8] (by simp) (by simp), hFF] at hf
    have htk : (F.drop 6).take 1 = F.drop 6 := List.take_of_length_le (by simp [hFl])
    refine IWp.seq ?_
    refine IWp.seq ?_
    refine IWp.run [1, 2, 3, 15] ?_
    simp [go_sem, -getElem?_pos, -List.map_take, -List.map_drop, List.getElem?_cons_zero, List.getElem?_cons_succ, Go.IntWalk.iteOmega, Go.IntWalk.toNatUp, hFl, w1, htk]
    refine IWp.cond ?_
    simp [go_sem, -getElem?_pos, -List.map_take, -List.map_drop, List.getElem?_cons_zero, List.getElem?_cons_succ, Go.IntWalk.iteOmega, Go.IntWalk.toNatUp, hFl, w1, htk]
    refine IWp.trim [1, 2] (IWp.exit ?_)
    simp [go_sem, -getElem?_pos, -List.map_take, -List.map_drop, List.getElem?_cons_zero, List.getElem?_cons_succ, Go.IntWalk.iteOmega, Go.IntWalk.toNatUp, hFl, w1, htk]
    refine IWp.seq ?_
    refine IWp.run [1, 4] ?_
    simp [go_sem, -getElem?_pos, -List.map_take, -List.map_drop, List.getElem?_cons_zero, List.getElem?_cons_succ, Go.IntWalk.iteOmega, Go.IntWalk.toNatUp, hFl, w1, htk]
    refine ICalls.mono (hf) ?_
    rintro u K2 ⟨rfl, r2, s2, t2⟩
    try simp [go_sem, -getElem?_pos, -List.map_take, -List.map_drop, List.getElem?_cons_zero, List.getElem?_cons_succ, Go.IntWalk.iteOmega, Go.IntWalk.toNatUp, hFl, w1, htk]
    refine IWp.seq ?_
    refine IWp.run [0] ?_
    simp [go_sem, -getElem?_pos, -List.map_take, -List.map_drop, List.getElem?_cons_zero, List.getElem?_cons_succ, Go.IntWalk.iteOmega, Go.IntWalk.toNatUp, hFl, w1, htk]
    -- CALL (call {(value (func 12)), [t40, t41], [26, 26]})
    refine ICalls.freeze1 K2.next (.cons (.same _) (.cons (frz_lit ([(7 : Int), 8].map (Value.int .u8)) (by simp [go_sem]) rfl (map_sz .u8 _) rfl (by simp)) .nil)) ((refBytes _ 0 0 [7, 8] [7, 8] (by simp)).mono ?_)
    rintro v _ ⟨rfl, rfl⟩
    have s3 : ScAt ((K2.alloc [.int .u8 7, .int .u8 8]).kill K2.next) H.next r2 [] 0 := s2.same fun j hj => by
      have := s2.lt
      have hj' : j < K2.next := hj.elim (fun e => e ▸ this.1) (fun e => this.2 j e)
      rw [get_kill, if_neg (by omega), Heap.get_alloc_lt _ _ _ hj']
    simp [go_sem]
    refine ICalls.mono (scLost _ _ _ _ _ s3) ?_
    rintro v _ ⟨rfl, rfl⟩
    simp [go_sem]
    refine ICalls.mono (scHeld _ _ _ _ _ s3) ?_
    rintro v _ ⟨rfl, rfl⟩
    simp [go_sem]
    refine IWp.ret ?_
    simp [go_sem, -getElem?_pos, -List.map_take, -List.map_drop, List.getElem?_cons_zero, List.getElem?_cons_succ, Go.IntWalk.iteOmega, Go.IntWalk.toNatUp, Try.results9]

/-! ### streams -/
def pieceS (x : Part) : List Int := if 32 < x.p.length then x.p.take 32 else if x.p.length = 0 then [x.turn] else x.p
theorem pieceS_len (x : Part) : 1 ≤ (pieceS x).length ∧ (pieceS x).length ≤ 32 := by
  unfold pieceS
  split
  · simp; omega
  split
  · simp
  · omega
theorem pieceS_bs {x : Part} (h : x.wf) : Bs (pieceS x) := by
  unfold pieceS
  split
  · exact Bs.take h.2.1.1 _
  split
  · intro y hy; simp at hy; subst hy; exact h.2.2.2
  · exact h.2.1.1

/-- What of a part stands in a stream. -/
def xor8 (a b : Int) : Int := ((BitVec.ofInt 8 a ^^^ BitVec.ofInt 8 b : BitVec 8).toNat : Int)
def partS (x : Part) : List Int :=
  if x.kind % 4 = 1 then pieceS x
  else if x.kind % 4 = 2 then (frameB (pieceS x)).set (x.at_ % (frameB (pieceS x)).length).toNat (xor8 ((frameB (pieceS x)).getD (x.at_ % (frameB (pieceS x)).length).toNat 0) x.turn)
  else if x.kind % 4 = 3 then (frameB (pieceS x)).take (x.at_ % ((frameB (pieceS x)).length + 1)).toNat
  else frameB (pieceS x)
def streamS (l : List Part) : List Int := l.flatMap partS
theorem xor8_bs (a b : Int) : 0 ≤ xor8 a b ∧ xor8 a b < 256 := by
  unfold xor8
  have := (BitVec.ofInt 8 a ^^^ BitVec.ofInt 8 b : BitVec 8).isLt
  omega
theorem partS_bs {x : Part} (h : x.wf) : Bs (partS x) := by
  have hF := frameB_bs (pieceS_bs h) (by have := pieceS_len x; omega)
  unfold partS
  split
  · exact pieceS_bs h
  split
  · intro y hy
    rcases List.mem_or_eq_of_mem_set hy with hy | rfl
    · exact hF y hy
    · exact xor8_bs _ _
  split
  · exact hF.take _
  · exact hF
theorem partS_len (x : Part) : (partS x).length ≤ 37 := by
  have := pieceS_len x
  unfold partS
  split
  · omega
  split
  · rw [List.length_set, frameB_length]; omega
  split
  · rw [List.length_take, frameB_length]; omega
  · rw [frameB_length]; omega
theorem streamS_bs {l : List Part} (h : ∀ x ∈ l, x.wf) : Bs (streamS l) := fun y hy => by
  obtain ⟨x, hx, hy⟩ := List.mem_flatMap.1 hy
  exact partS_bs (h x hx) y hy
theorem flat_len {α : Type} (f : α → List Int) (k : Nat) (h : ∀ x, (f x).length ≤ k) : ∀ l : List α, (l.flatMap f).length ≤ k * l.length
  | [] => by simp
  | x :: l => by
    have := flat_len f k h l
    have := h x
    rw [List.flatMap_cons, List.length_append, List.length_cons, Nat.mul_succ]; omega
theorem streamS_len (l : List Part) : (streamS l).length ≤ 37 * l.length := flat_len partS 37 partS_len l
theorem streamS_snoc (l : List Part) (i : Nat) (h : i < l.length) : streamS (l.take (i + 1)) = streamS (l.take i) ++ partS l[i] := by
  unfold streamS; rw [List.take_succ_eq_append_getElem h, List.flatMap_append, List.flatMap_cons, List.flatMap_nil, List.append_nil]

theorem tmod_nat {a : Int} {n : Nat} (h0 : 0 ≤ a) (hn : 0 < n) : a.tmod n = ((a % n).toNat : Int) ∧ (a % n).toNat < n := by
  have h1 := Int.emod_nonneg a (show (n : Int) ≠ 0 by omega)
  have h2 := Int.emod_lt_of_pos a (show 0 < (n : Int) by omega)
  rw [Int.tmod_eq_emod_of_nonneg h0]; omega

theorem splice_one (cs : List Value) (a : Nat) (v : Value) (h : a < cs.length) : splice cs a [v] = cs.set a v := by
  unfold splice
  rw [List.set_eq_take_append_cons_drop, if_pos h]; simp

/-- What has been joined so far: nil at first. -/
def Acc (v : Value) (L : List Int) : Prop := (v = .slice none 0 0 ∧ L = []) ∨ v = byts L
theorem Acc.frz {v : Value} {L : List Int} (h : Acc v L) (H : Heap) (S : Nat → Bool) : Frz H S v (byts L) := by
  rcases h with ⟨rfl, rfl⟩ | rfl
  · exact .nil 1
  · exact .same _

def cutP (x : Part) : List Int := if 32 < x.p.length then x.p.take 32 else x.p
theorem pieceS_cut (x : Part) : pieceS x = if (cutP x).length = 0 then [x.turn] else cutP x := by
  unfold pieceS cutP
  by_cases h : 32 < x.p.length
  · simp only [if_pos h, List.length_take]; rw [if_neg (by omega)]
  · simp only [if_neg h]

set_option maxHeartbeats 1000000 in
theorem stream (H : Heap) (m : Int) (l : List Part) (hw : ∀ x ∈ l, x.wf) (hl : l.length ≤ 1000) :
    ICalls Try.prog 21 [frow 4 m (l.map Part.val)] H fun v H' => v = byts (streamS l) ∧ H' = H := by
  refine ICalls.ans (by rw [cl_ints]; trivial) fun H => IBody.calls (by kernel_rfl) ?_
  refine IBody.of Try.func21 rfl (by rw [Try.ntmps21]; simp) ?_
  rw [Try.ntmps21]
  refine IWp.seq ?_
  refine IWp.run [0] ?_
  simp [go_sem, -getElem?_pos, -List.map_take, -List.map_drop, List.getElem?_cons_zero, List.getElem?_cons_succ, Go.IntWalk.iteOmega, Go.IntWalk.toNatUp]
  refine IWp.seq ?_
  refine IWp.run [0, 3] ?_
  simp [go_sem, -getElem?_pos, -List.map_take, -List.map_drop, List.getElem?_cons_zero, List.getElem?_cons_succ, Go.IntWalk.iteOmega, Go.IntWalk.toNatUp]
  refine IWp.seq ?_
  refine IWp.seq ?_
  refine IWp.run [0, 3, 4] ?_
  simp [go_sem, -getElem?_pos, -List.map_take, -List.map_drop, List.getElem?_cons_zero, List.getElem?_cons_succ, Go.IntWalk.iteOmega, Go.IntWalk.toNatUp]
  refine IWp.block ?_
  -- LOOP live [0, 3, 4]
  refine IWp.loop (fun j e K => ∃ (i : Nat) (v : Value), j = l.length - i ∧ i ≤ l.length ∧ Acc v (streamS (l.take i)) ∧ e = [(0, frow 4 m (l.map Part.val)), (3, v), (4, .int .i64 (i : Int))]) l.length ⟨0, .slice none 0 0, rfl, Nat.zero_le _, .inl ⟨rfl, rfl⟩, by simp [go_sem]⟩ ?_
  rintro j e K ⟨i, v, rfl, hi, hv, rfl⟩
  by_cases hlt : i < l.length
  · have g : (l.map Part.val)[i]? = some l[i].val := by simp [hlt]
    have hx := hw l[i] (List.getElem_mem hlt)
    have hstep := streamS_snoc l i hlt
    have hsl := streamS_len (l.take i)
    rw [List.length_take] at hsl
    have hpl := partS_len l[i]
    have hpn := pieceS_len l[i]
    generalize l[i] = x at g hx hstep hpl hpn
    have hpb := pieceS_bs hx
    obtain ⟨hx1, ⟨hx2, hx2l⟩, hx3, hx4⟩ := hx
    obtain ⟨kind, p, at_, turn⟩ := x
    simp only at hx1 hx2 hx2l hx3 hx4
    have w1 := IntWalk.i64_in ((i : Int) + 1) (by omega)
    have w2 := IntWalk.i64_in (at_ : Int) (by omega)
    have hFl := frameB_length (pieceS ⟨kind, p, at_, turn⟩)
    have hFb := frameB_bs hpb (by omega)
    refine IWp.seq ?_
    refine IWp.seq ?_
    refine IWp.run [0, 3, 4, 11] ?_
    simp [go_sem, -getElem?_pos, -List.map_take, -List.map_drop, List.getElem?_cons_zero, List.getElem?_cons_succ, Go.IntWalk.iteOmega, Go.IntWalk.toNatUp, g, hlt, Part.val, Part.cells]
    refine IWp.cond ?_
    simp [go_sem, -getElem?_pos, -List.map_take, -List.map_drop, List.getElem?_cons_zero, List.getElem?_cons_succ, Go.IntWalk.iteOmega, Go.IntWalk.toNatUp, g, hlt, Part.val, Part.cells]
    refine IWp.trim [0, 3, 4] (IWp.skip ?_)
    simp [go_sem, -getElem?_pos, -List.map_take, -List.map_drop, List.getElem?_cons_zero, List.getElem?_cons_succ, Go.IntWalk.iteOmega, Go.IntWalk.toNatUp, g, hlt, Part.val, Part.cells]
    refine IWp.seq ?_
    refine IWp.block ?_
    refine IWp.seq ?_
    refine IWp.run [0, 3, 4, 5] ?_
    simp [go_sem, -getElem?_pos, -List.map_take, -List.map_drop, List.getElem?_cons_zero, List.getElem?_cons_succ, Go.IntWalk.iteOmega, Go.IntWalk.toNatUp, g, hlt, Part.val, Part.cells]
    refine IWp.seq ?_
    refine IWp.run [0, 3, 4, 5, 6] ?_
    simp [go_sem, -getElem?_pos, -List.map_take, -List.map_drop, List.getElem?_cons_zero, List.getElem?_cons_succ, Go.IntWalk.iteOmega, Go.IntWalk.toNatUp, g, hlt, Part.val, Part.cells]
    -- CUT live [0, 3, 4, 5, 6]
    refine IWp.cut (fun e' H' => H' = K.alloc [.int .u8 kind, frow 1 0 (p.map (Value.int .u8)), .int .u8 at_, .int .u8 turn] ∧ e' = [(0, frow 4 m (l.map Part.val)), (3, v), (4, .int .i64 (i : Int)), (5, ptrTo K.next 0), (6, byts (cutP ⟨kind, p, at_, turn⟩))]) ?_ ?_
    · skip
      by_cases hc : 32 < p.length
      · have hcp : cutP ⟨kind, p, at_, turn⟩ = p.take 32 := if_pos (show 32 < p.length from hc)
        rw [hcp]
        refine IWp.seq ?_
        refine IWp.run [0, 3, 4, 5, 6, 22] ?_
        simp [go_sem, -getElem?_pos, -List.map_take, -List.map_drop, List.getElem?_cons_zero, List.getElem?_cons_succ, Go.IntWalk.iteOmega, Go.IntWalk.toNatUp, hc, show (32 : Int) < p.length by omega, show (32 : Int) ≤ p.length by omega]
        refine IWp.cond ?_
        simp [go_sem, -getElem?_pos, -List.map_take, -List.map_drop, List.getElem?_cons_zero, List.getElem?_cons_succ, Go.IntWalk.iteOmega, Go.IntWalk.toNatUp, hc, show (32 : Int) < p.length by omega, show (32 : Int) ≤ p.length by omega]
        refine IWp.run [0, 3, 4, 5, 6] ?_
        simp [go_sem, -getElem?_pos, -List.map_take, -List.map_drop, List.getElem?_cons_zero, List.getElem?_cons_succ, Go.IntWalk.iteOmega, Go.IntWalk.toNatUp, hc, show (32 : Int) < p.length by omega, show (32 : Int) ≤ p.length by omega]
      · have hcp : cutP ⟨kind, p, at_, turn⟩ = p := if_neg (show ¬ 32 < p.length from hc)
        rw [hcp]
        refine IWp.seq ?_
        refine IWp.run [0, 3, 4, 5, 6, 22] ?_
        simp [go_sem, -getElem?_pos, -List.map_take, -List.map_drop, List.getElem?_cons_zero, List.getElem?_cons_succ, Go.IntWalk.iteOmega, Go.IntWalk.toNatUp, hc, show ¬ (32 : Int) < p.length by omega]
        refine IWp.cond ?_
        simp [go_sem, -getElem?_pos, -List.map_take, -List.map_drop, List.getElem?_cons_zero, List.getElem?_cons_succ, Go.IntWalk.iteOmega, Go.IntWalk.toNatUp, hc, show ¬ (32 : Int) < p.length by omega]
        refine IWp.trim [0, 3, 4, 5, 6] (IWp.skip ?_)
        simp [go_sem, -getElem?_pos, -List.map_take, -List.map_drop, List.getElem?_cons_zero, List.getElem?_cons_succ, Go.IntWalk.iteOmega, Go.IntWalk.toNatUp, hc, show ¬ (32 : Int) < p.length by omega]
    rintro e' H' ⟨rfl, rfl⟩
    have hcl : (cutP ⟨kind, p, at_, turn⟩).length ≤ 32 := by unfold cutP; split <;> simp at * <;> omega
    have hpc := pieceS_cut ⟨kind, p, at_, turn⟩
    generalize cutP ⟨kind, p, at_, turn⟩ = c at hcl hpc
    generalize hps : pieceS ⟨kind, p, at_, turn⟩ = ps at *
    -- CUT live [0, 3, 4, 5, 6]
    refine IWp.cut (fun e' H' => ∃ v6, Frz H' (fun j => decide (K.next < j)) v6 (byts ps) ∧ H'.get K.next = some ⟨[.int .u8 kind, frow 1 0 (p.map (Value.int .u8)), .int .u8 at_, .int .u8 turn], true⟩ ∧ e' = [(0, frow 4 m (l.map Part.val)), (3, v), (4, .int .i64 (i : Int)), (5, ptrTo K.next 0), (6, v6)]) ?_ ?_
    · skip
      by_cases hc : c.length = 0
      · have hcn : c = [] := List.length_eq_zero_iff.1 hc
        rw [if_pos hc] at hpc
        subst hpc hcn
        refine IWp.seq ?_
        refine IWp.run [0, 3, 4, 5, 6, 27] ?_
        simp [go_sem, -getElem?_pos, -List.map_take, -List.map_drop, List.getElem?_cons_zero, List.getElem?_cons_succ, Go.IntWalk.iteOmega, Go.IntWalk.toNatUp, get_alloc]
        refine IWp.cond ?_
        simp [go_sem, -getElem?_pos, -List.map_take, -List.map_drop, List.getElem?_cons_zero, List.getElem?_cons_succ, Go.IntWalk.iteOmega, Go.IntWalk.toNatUp, get_alloc]
        refine IWp.run [0, 3, 4, 5, 6] ?_
        simp [go_sem, -getElem?_pos, -List.map_take, -List.map_drop, List.getElem?_cons_zero, List.getElem?_cons_succ, Go.IntWalk.iteOmega, Go.IntWalk.toNatUp, get_alloc]
        exact frz_lit ([turn].map (Value.int .u8)) (by simp [go_sem]) rfl (map_sz .u8 _) rfl (by simp [next_alloc])
      · rw [if_neg hc] at hpc
        subst hpc
        have hcn : ¬ ps = [] := fun e => hc (by rw [e]; rfl)
        refine IWp.seq ?_
        refine IWp.run [0, 3, 4, 5, 6, 27] ?_
        simp [go_sem, -getElem?_pos, -List.map_take, -List.map_drop, List.getElem?_cons_zero, List.getElem?_cons_succ, Go.IntWalk.iteOmega, Go.IntWalk.toNatUp, hc, hcn, show ¬ (ps.length : Int) = 0 by omega]
        refine IWp.cond ?_
        simp [go_sem, -getElem?_pos, -List.map_take, -List.map_drop, List.getElem?_cons_zero, List.getElem?_cons_succ, Go.IntWalk.iteOmega, Go.IntWalk.toNatUp, hc, hcn, show ¬ (ps.length : Int) = 0 by omega]
        refine IWp.trim [0, 3, 4, 5, 6] (IWp.skip ?_)
        simp [go_sem, -getElem?_pos, -List.map_take, -List.map_drop, List.getElem?_cons_zero, List.getElem?_cons_succ, Go.IntWalk.iteOmega, Go.IntWalk.toNatUp, hc, hcn, show ¬ (ps.length : Int) = 0 by omega]
    rintro e' H' ⟨v6, hf6, hg5, rfl⟩
    refine IWp.freezeE (fun j => decide (K.next < j)) (.cons (.same _) (.cons (.same _) (.cons (.same _) (.cons (.same _) (.cons hf6 .nil))))) ?_
    have hg5' : (H'.only fun b => !decide (K.next < b)).get K.next = some ⟨[.int .u8 kind, frow 1 0 (p.map (Value.int .u8)), .int .u8 at_, .int .u8 turn], true⟩ := by
      show (if (!decide (K.next < K.next)) = true then H'.get K.next else none) = _
      rw [if_pos (by simp), hg5]
    generalize (H'.only fun b => !decide (K.next < b)) = H2 at hg5'
    have hpart : partS ⟨kind, p, at_, turn⟩ = if kind % 4 = 1 then ps else if kind % 4 = 2 then (frameB ps).set (at_ % (frameB ps).length).toNat (xor8 ((frameB ps).getD (at_ % (frameB ps).length).toNat 0) turn) else if kind % 4 = 3 then (frameB ps).take (at_ % ((frameB ps).length + 1)).toNat else frameB ps := by
      unfold partS; rw [hps]
    have fin : ∀ q : List Int, partS ⟨kind, p, at_, turn⟩ = q → streamS (l.take i) ++ q = streamS (l.take (i + 1)) := fun q e => by rw [hstep, e]
    have hFr := fun K => refFrame K 0 ps (by omega) hpb
    have hFo := refFrame_own H2 0 ps (by omega) hpb
    generalize frameB ps = F at *
    have hkt : kind.tmod 4 = kind % 4 := Int.tmod_eq_emod_of_nonneg (by omega)
    have hk4 : kind % 4 = 0 ∨ kind % 4 = 1 ∨ kind % 4 = 2 ∨ kind % 4 = 3 := by omega
    have u0 := IntWalk.u8_in 0 (by omega)
    have u1 := IntWalk.u8_in 1 (by omega)
    have u2 := IntWalk.u8_in 2 (by omega)
    have u3 := IntWalk.u8_in 3 (by omega)
    have hj := fun K q hq => join K 0 0 (streamS (l.take i)) q (by omega) hq
    have joined : ∀ (K : Heap) (q : List Int) (hq : q.length ≤ 1000000), ICalls Try.prog 14 [v, byts q] K fun v H' => v = byts (streamS (l.take i) ++ q) ∧ H' = K := fun K q hq => ICalls.as (.cons (hv.frz _ _) (.cons (.same _) .nil)) (hj K q hq)
    rcases hk4 with hk | hk | hk | hk
    · rw [hk] at hkt
      have hq : partS ⟨kind, p, at_, turn⟩ = F := by rw [hpart, hk]; simp
      refine IWp.seq ?_
      refine IWp.run [0, 3, 4, 5, 6, 7] ?_
      simp [go_sem, -getElem?_pos, -List.map_take, -List.map_drop, List.getElem?_cons_zero, List.getElem?_cons_succ, Go.IntWalk.iteOmega, Go.IntWalk.toNatUp, hg5', hkt, u0, w1]
      refine ICalls.mono (hFr _) ?_
      rintro u _ ⟨rfl, rfl⟩
      try simp [go_sem, -getElem?_pos, -List.map_take, -List.map_drop, List.getElem?_cons_zero, List.getElem?_cons_succ, Go.IntWalk.iteOmega, Go.IntWalk.toNatUp, hg5', hkt, u0, w1]
      refine IWp.seq ?_
      refine IWp.seq ?_
      refine IWp.run [0, 3, 4, 5, 6, 7, 35] ?_
      simp [go_sem, -getElem?_pos, -List.map_take, -List.map_drop, List.getElem?_cons_zero, List.getElem?_cons_succ, Go.IntWalk.iteOmega, Go.IntWalk.toNatUp, hg5', hkt, u0, w1]
      refine IWp.block ?_
      refine IWp.seq ?_
      refine IWp.run [0, 3, 4, 5, 6, 7, 35, 36] ?_
      simp [go_sem, -getElem?_pos, -List.map_take, -List.map_drop, List.getElem?_cons_zero, List.getElem?_cons_succ, Go.IntWalk.iteOmega, Go.IntWalk.toNatUp, hg5', hkt, u0, w1]
      refine IWp.cond ?_
      simp [go_sem, -getElem?_pos, -List.map_take, -List.map_drop, List.getElem?_cons_zero, List.getElem?_cons_succ, Go.IntWalk.iteOmega, Go.IntWalk.toNatUp, hg5', hkt, u0, w1]
      refine IWp.seq ?_
      refine IWp.run [0, 3, 4, 5, 7, 35, 39] ?_
      simp [go_sem, -getElem?_pos, -List.map_take, -List.map_drop, List.getElem?_cons_zero, List.getElem?_cons_succ, Go.IntWalk.iteOmega, Go.IntWalk.toNatUp, hg5', hkt, u0, w1]
      refine IWp.cond ?_
      simp [go_sem, -getElem?_pos, -List.map_take, -List.map_drop, List.getElem?_cons_zero, List.getElem?_cons_succ, Go.IntWalk.iteOmega, Go.IntWalk.toNatUp, hg5', hkt, u0, w1]
      refine IWp.seq ?_
      refine IWp.run [0, 3, 4, 5, 7, 54] ?_
      simp [go_sem, -getElem?_pos, -List.map_take, -List.map_drop, List.getElem?_cons_zero, List.getElem?_cons_succ, Go.IntWalk.iteOmega, Go.IntWalk.toNatUp, hg5', hkt, u0, w1]
      refine IWp.cond ?_
      simp [go_sem, -getElem?_pos, -List.map_take, -List.map_drop, List.getElem?_cons_zero, List.getElem?_cons_succ, Go.IntWalk.iteOmega, Go.IntWalk.toNatUp, hg5', hkt, u0, w1]
      refine IWp.trim [0, 3, 4, 7] (IWp.skip ?_)
      simp [go_sem, -getElem?_pos, -List.map_take, -List.map_drop, List.getElem?_cons_zero, List.getElem?_cons_succ, Go.IntWalk.iteOmega, Go.IntWalk.toNatUp, hg5', hkt, u0, w1]
      refine IWp.run [0, 3, 4] ?_
      simp [go_sem, -getElem?_pos, -List.map_take, -List.map_drop, List.getElem?_cons_zero, List.getElem?_cons_succ, Go.IntWalk.iteOmega, Go.IntWalk.toNatUp, hg5', hkt, u0, w1]
      refine ICalls.mono (joined _ F (by omega)) ?_
      rintro u _ ⟨rfl, rfl⟩
      try simp [go_sem, -getElem?_pos, -List.map_take, -List.map_drop, List.getElem?_cons_zero, List.getElem?_cons_succ, Go.IntWalk.iteOmega, Go.IntWalk.toNatUp, hg5', hkt, u0, w1]
      refine IWp.run [0, 3, 4] ?_
      simp [go_sem, -getElem?_pos, -List.map_take, -List.map_drop, List.getElem?_cons_zero, List.getElem?_cons_succ, Go.IntWalk.iteOmega, Go.IntWalk.toNatUp, hg5', hkt, u0, w1]
      exact ⟨l.length - (i + 1), by omega, i + 1, rfl, by omega, _, .inr (by rw [← fin F hq, byts, List.map_append]), by simp only [List.map_take], by omega⟩
    · rw [hk] at hkt
      have hq : partS ⟨kind, p, at_, turn⟩ = ps := by rw [hpart, hk]; simp
      refine IWp.seq ?_
      refine IWp.run [0, 3, 4, 5, 6, 7] ?_
      simp [go_sem, -getElem?_pos, -List.map_take, -List.map_drop, List.getElem?_cons_zero, List.getElem?_cons_succ, Go.IntWalk.iteOmega, Go.IntWalk.toNatUp, hg5', hkt, u1, w1]
      refine ICalls.mono (hFr _) ?_
      rintro u _ ⟨rfl, rfl⟩
      try simp [go_sem, -getElem?_pos, -List.map_take, -List.map_drop, List.getElem?_cons_zero, List.getElem?_cons_succ, Go.IntWalk.iteOmega, Go.IntWalk.toNatUp, hg5', hkt, u1, w1]
      refine IWp.seq ?_
      refine IWp.seq ?_
      refine IWp.run [0, 3, 4, 5, 6, 7, 35] ?_
      simp [go_sem, -getElem?_pos, -List.map_take, -List.map_drop, List.getElem?_cons_zero, List.getElem?_cons_succ, Go.IntWalk.iteOmega, Go.IntWalk.toNatUp, hg5', hkt, u1, w1]
      refine IWp.block ?_
      refine IWp.seq ?_
      refine IWp.run [0, 3, 4, 5, 6, 7, 35, 36] ?_
      simp [go_sem, -getElem?_pos, -List.map_take, -List.map_drop, List.getElem?_cons_zero, List.getElem?_cons_succ, Go.IntWalk.iteOmega, Go.IntWalk.toNatUp, hg5', hkt, u1, w1]
      refine IWp.cond ?_
      simp [go_sem, -getElem?_pos, -List.map_take, -List.map_drop, List.getElem?_cons_zero, List.getElem?_cons_succ, Go.IntWalk.iteOmega, Go.IntWalk.toNatUp, hg5', hkt, u1, w1]
      refine IWp.run [0, 3, 4, 7] ?_
      simp [go_sem, -getElem?_pos, -List.map_take, -List.map_drop, List.getElem?_cons_zero, List.getElem?_cons_succ, Go.IntWalk.iteOmega, Go.IntWalk.toNatUp, hg5', hkt, u1, w1]
      refine IWp.run [0, 3, 4] ?_
      simp [go_sem, -getElem?_pos, -List.map_take, -List.map_drop, List.getElem?_cons_zero, List.getElem?_cons_succ, Go.IntWalk.iteOmega, Go.IntWalk.toNatUp, hg5', hkt, u1, w1]
      refine ICalls.mono (joined _ ps (by omega)) ?_
      rintro u _ ⟨rfl, rfl⟩
      try simp [go_sem, -getElem?_pos, -List.map_take, -List.map_drop, List.getElem?_cons_zero, List.getElem?_cons_succ, Go.IntWalk.iteOmega, Go.IntWalk.toNatUp, hg5', hkt, u1, w1]
      refine IWp.run [0, 3, 4] ?_
      simp [go_sem, -getElem?_pos, -List.map_take, -List.map_drop, List.getElem?_cons_zero, List.getElem?_cons_succ, Go.IntWalk.iteOmega, Go.IntWalk.toNatUp, hg5', hkt, u1, w1]
      exact ⟨l.length - (i + 1), by omega, i + 1, rfl, by omega, _, .inr (by rw [← fin ps hq, byts, List.map_append]), by simp only [List.map_take], by omega⟩
    · rw [hk] at hkt
      have hq : partS ⟨kind, p, at_, turn⟩ = F.set (at_ % F.length).toNat (xor8 (F.getD (at_ % F.length).toNat 0) turn) := by rw [hpart, hk, if_neg (by decide), if_pos rfl]
      obtain ⟨hta, hal⟩ := tmod_nat (a := at_) (n := F.length) (by omega) (by omega)
      generalize (at_ % F.length).toNat = a at hq hta hal
      have hFne : F ≠ [] := fun e => by rw [e] at hal; simp at hal
      have w4 := IntWalk.i64_in (a : Int) (by omega)
      refine IWp.seq ?_
      refine IWp.run [0, 3, 4, 5, 6, 7] ?_
      simp [go_sem, -getElem?_pos, -List.map_take, -List.map_drop, List.getElem?_cons_zero, List.getElem?_cons_succ, Go.IntWalk.iteOmega, Go.IntWalk.toNatUp, hg5', hkt, u2, w1]
      refine hFo.mono ?_
      rintro v7 H3 ⟨⟨_, ⟨rfl, h7⟩ | ⟨q, hq1, rfl, hq2⟩⟩, o3⟩
      · exact absurd (by simpa using h7) hFne
      rw [map_flat] at hq2
      rw [List.length_map]
      have hg53 := o3.1 K.next (Heap.lt_of_get hg5')
      rw [hg5'] at hg53
      have hqK : K.next < q := Nat.lt_of_lt_of_le (Heap.lt_of_get hg5') hq1
      simp [go_sem]
      have hFa : F[a]? = some (F.getD a 0) := by rw [List.getElem?_eq_getElem hal, List.getD_eq_getElem?_getD, List.getElem?_eq_getElem hal]; rfl
      generalize F.getD a 0 = g0 at hq hFa
      have wx : IntKind.u8.wrap ((BitVec.ofInt 8 g0 ^^^ BitVec.ofInt 8 turn : BitVec 8).toNat : Int) = xor8 g0 turn := IntWalk.u8_in _ (by have := (BitVec.ofInt 8 g0 ^^^ BitVec.ofInt 8 turn : BitVec 8).isLt; omega)
      refine IWp.seq ?_
      refine IWp.seq ?_
      refine IWp.run [0, 3, 4, 5, 6, 7, 35] ?_
      simp [go_sem, -getElem?_pos, -List.map_take, -List.map_drop, List.getElem?_cons_zero, List.getElem?_cons_succ, Go.IntWalk.iteOmega, Go.IntWalk.toNatUp, hFa, wx, -BitVec.toNat_xor, hg53, hg5', hkt, u2, w1, w2, w4, hta, hal, hq2, hFne, show ¬ (F.length : Int) = 0 by omega, show (a : Int) < F.length by omega]
      refine IWp.block ?_
      refine IWp.seq ?_
      refine IWp.run [0, 3, 4, 5, 6, 7, 35, 36] ?_
      simp [go_sem, -getElem?_pos, -List.map_take, -List.map_drop, List.getElem?_cons_zero, List.getElem?_cons_succ, Go.IntWalk.iteOmega, Go.IntWalk.toNatUp, hFa, wx, -BitVec.toNat_xor, hg53, hg5', hkt, u2, w1, w2, w4, hta, hal, hq2, hFne, show ¬ (F.length : Int) = 0 by omega, show (a : Int) < F.length by omega]
      refine IWp.cond ?_
      simp [go_sem, -getElem?_pos, -List.map_take, -List.map_drop, List.getElem?_cons_zero, List.getElem?_cons_succ, Go.IntWalk.iteOmega, Go.IntWalk.toNatUp, hFa, wx, -BitVec.toNat_xor, hg53, hg5', hkt, u2, w1, w2, w4, hta, hal, hq2, hFne, show ¬ (F.length : Int) = 0 by omega, show (a : Int) < F.length by omega]
      refine IWp.seq ?_
      refine IWp.run [0, 3, 4, 5, 7, 35, 39] ?_
      simp [go_sem, -getElem?_pos, -List.map_take, -List.map_drop, List.getElem?_cons_zero, List.getElem?_cons_succ, Go.IntWalk.iteOmega, Go.IntWalk.toNatUp, hFa, wx, -BitVec.toNat_xor, hg53, hg5', hkt, u2, w1, w2, w4, hta, hal, hq2, hFne, show ¬ (F.length : Int) = 0 by omega, show (a : Int) < F.length by omega]
      refine IWp.cond ?_
      simp [go_sem, -getElem?_pos, -List.map_take, -List.map_drop, List.getElem?_cons_zero, List.getElem?_cons_succ, Go.IntWalk.iteOmega, Go.IntWalk.toNatUp, hFa, wx, -BitVec.toNat_xor, hg53, hg5', hkt, u2, w1, w2, w4, hta, hal, hq2, hFne, show ¬ (F.length : Int) = 0 by omega, show (a : Int) < F.length by omega]
      refine IWp.draw [0, 3, 4, 7] [K.next] (.val 0 (.val 1 (.ld 2 [3, 6, 7, 8, 11, 12, 13] (.val 3 (.val 4 (.val 5 (.val 6 (.val 7 (.ld 8 [11, 12, 13] (.val 9 (.ld 10 [11, 12, 13] (.val 11 (.val 12 (.eff 13 .done .done)))))))))))))) follows (by kernel_rfl) ?_
      simp [go_sem, -getElem?_pos, -List.map_take, -List.map_drop, List.getElem?_cons_zero, List.getElem?_cons_succ, Go.IntWalk.iteOmega, Go.IntWalk.toNatUp, hFa, wx, -BitVec.toNat_xor, hg53, hg5', hkt, u2, w1, w2, w4, hta, hal, hq2, hFne, show ¬ (F.length : Int) = 0 by omega, show (a : Int) < F.length by omega]
      refine IWp.run [0, 3, 4] ?_
      simp [go_sem, -getElem?_pos, -List.map_take, -List.map_drop, List.getElem?_cons_zero, List.getElem?_cons_succ, Go.IntWalk.iteOmega, Go.IntWalk.toNatUp, hFa, wx, -BitVec.toNat_xor, hg53, hg5', hkt, u2, w1, w2, w4, hta, hal, hq2, hFne, show ¬ (F.length : Int) = 0 by omega, show (a : Int) < F.length by omega]
      have hsp : splice (F.map (Value.int .u8)) a [Value.int .u8 (xor8 g0 turn)] = (F.set a (xor8 g0 turn)).map (Value.int .u8) := by
        rw [splice_one _ _ _ (by simpa using hal), List.map_set]
      rw [hsp]
      have hlf := frz_lit (H := H3.set q ((F.set a (xor8 g0 turn)).map (Value.int .u8))) (S := fun j => j == q) (c := 1) (b := q) ((F.set a (xor8 g0 turn)).map (Value.int .u8)) (by simp [get_set, hq2]) (map_flat _ _) (map_sz .u8 _) (n := F.length) (by simp) (by simp)
      refine ICalls.freeze1 q (.cons (.same _) (.cons hlf .nil)) ((joined _ (F.set a (xor8 g0 turn)) (by simp; omega)).mono ?_)
      rintro u _ ⟨rfl, rfl⟩
      simp [go_sem]
      refine IWp.run [0, 3, 4] ?_
      simp [go_sem, -getElem?_pos, -List.map_take, -List.map_drop, List.getElem?_cons_zero, List.getElem?_cons_succ, Go.IntWalk.iteOmega, Go.IntWalk.toNatUp, w1]
      exact ⟨l.length - (i + 1), by omega, i + 1, rfl, by omega, _, .inr (by rw [← fin _ hq, byts, List.map_append]), by simp only [List.map_set], by omega⟩
    · rw [hk] at hkt
      have hq : partS ⟨kind, p, at_, turn⟩ = F.take (at_ % (F.length + 1)).toNat := by rw [hpart, hk]; simp
      obtain ⟨hta, hal⟩ := tmod_nat (a := at_) (n := F.length + 1) (by omega) (by omega)
      rw [Int.natCast_add, Int.natCast_one] at hta hal
      generalize (at_ % (F.length + 1)).toNat = a at hq hta hal
      have w3 := IntWalk.i64_in ((F.length : Int) + 1) (by omega)
      have w4 := IntWalk.i64_in (a : Int) (by omega)
      refine IWp.seq ?_
      refine IWp.run [0, 3, 4, 5, 6, 7] ?_
      simp [go_sem, -getElem?_pos, -List.map_take, -List.map_drop, List.getElem?_cons_zero, List.getElem?_cons_succ, Go.IntWalk.iteOmega, Go.IntWalk.toNatUp, hg5', hkt, u3, w1, w2, w3, w4, hta, hal, show (a : Int) ≤ F.length by omega]
      refine ICalls.mono (hFr _) ?_
      rintro u _ ⟨rfl, rfl⟩
      try simp [go_sem, -getElem?_pos, -List.map_take, -List.map_drop, List.getElem?_cons_zero, List.getElem?_cons_succ, Go.IntWalk.iteOmega, Go.IntWalk.toNatUp, hg5', hkt, u3, w1, w2, w3, w4, hta, hal, show (a : Int) ≤ F.length by omega]
      refine IWp.seq ?_
      refine IWp.seq ?_
      refine IWp.run [0, 3, 4, 5, 6, 7, 35] ?_
      simp [go_sem, -getElem?_pos, -List.map_take, -List.map_drop, List.getElem?_cons_zero, List.getElem?_cons_succ, Go.IntWalk.iteOmega, Go.IntWalk.toNatUp, hg5', hkt, u3, w1, w2, w3, w4, hta, hal, show (a : Int) ≤ F.length by omega]
      refine IWp.block ?_
      refine IWp.seq ?_
      refine IWp.run [0, 3, 4, 5, 6, 7, 35, 36] ?_
      simp [go_sem, -getElem?_pos, -List.map_take, -List.map_drop, List.getElem?_cons_zero, List.getElem?_cons_succ, Go.IntWalk.iteOmega, Go.IntWalk.toNatUp, hg5', hkt, u3, w1, w2, w3, w4, hta, hal, show (a : Int) ≤ F.length by omega]
      refine IWp.cond ?_
      simp [go_sem, -getElem?_pos, -List.map_take, -List.map_drop, List.getElem?_cons_zero, List.getElem?_cons_succ, Go.IntWalk.iteOmega, Go.IntWalk.toNatUp, hg5', hkt, u3, w1, w2, w3, w4, hta, hal, show (a : Int) ≤ F.length by omega]
      refine IWp.seq ?_
      refine IWp.run [0, 3, 4, 5, 7, 35, 39] ?_
      simp [go_sem, -getElem?_pos, -List.map_take, -List.map_drop, List.getElem?_cons_zero, List.getElem?_cons_succ, Go.IntWalk.iteOmega, Go.IntWalk.toNatUp, hg5', hkt, u3, w1, w2, w3, w4, hta, hal, show (a : Int) ≤ F.length by omega]
      refine IWp.cond ?_
      simp [go_sem, -getElem?_pos, -List.map_take, -List.map_drop, List.getElem?_cons_zero, List.getElem?_cons_succ, Go.IntWalk.iteOmega, Go.IntWalk.toNatUp, hg5', hkt, u3, w1, w2, w3, w4, hta, hal, show (a : Int) ≤ F.length by omega]
      refine IWp.seq ?_
      refine IWp.run [0, 3, 4, 5, 7, 54] ?_
      simp [go_sem, -getElem?_pos, -List.map_take, -List.map_drop, List.getElem?_cons_zero, List.getElem?_cons_succ, Go.IntWalk.iteOmega, Go.IntWalk.toNatUp, hg5', hkt, u3, w1, w2, w3, w4, hta, hal, show (a : Int) ≤ F.length by omega]
      refine IWp.cond ?_
      simp [go_sem, -getElem?_pos, -List.map_take, -List.map_drop, List.getElem?_cons_zero, List.getElem?_cons_succ, Go.IntWalk.iteOmega, Go.IntWalk.toNatUp, hg5', hkt, u3, w1, w2, w3, w4, hta, hal, show (a : Int) ≤ F.length by omega]
      refine IWp.run [0, 3, 4, 7] ?_
      simp [go_sem, -getElem?_pos, -List.map_take, -List.map_drop, List.getElem?_cons_zero, List.getElem?_cons_succ, Go.IntWalk.iteOmega, Go.IntWalk.toNatUp, hg5', hkt, u3, w1, w2, w3, w4, hta, hal, show (a : Int) ≤ F.length by omega]
      refine IWp.run [0, 3, 4] ?_
      simp [go_sem, -getElem?_pos, -List.map_take, -List.map_drop, List.getElem?_cons_zero, List.getElem?_cons_succ, Go.IntWalk.iteOmega, Go.IntWalk.toNatUp, hg5', hkt, u3, w1, w2, w3, w4, hta, hal, show (a : Int) ≤ F.length by omega]
      refine ICalls.mono (joined _ (F.take a) (by simp; omega)) ?_
      rintro u _ ⟨rfl, rfl⟩
      try simp [go_sem, -getElem?_pos, -List.map_take, -List.map_drop, List.getElem?_cons_zero, List.getElem?_cons_succ, Go.IntWalk.iteOmega, Go.IntWalk.toNatUp, hg5', hkt, u3, w1, w2, w3, w4, hta, hal, show (a : Int) ≤ F.length by omega]
      refine IWp.run [0, 3, 4] ?_
      simp [go_sem, -getElem?_pos, -List.map_take, -List.map_drop, List.getElem?_cons_zero, List.getElem?_cons_succ, Go.IntWalk.iteOmega, Go.IntWalk.toNatUp, hg5', hkt, u3, w1, w2, w3, w4, hta, hal, show (a : Int) ≤ F.length by omega]
      exact ⟨l.length - (i + 1), by omega, i + 1, rfl, by omega, _, .inr (by rw [← fin _ hq, byts, List.map_append]), by simp only [List.map_take], by omega⟩
  · have ht : l.take i = l := List.take_of_length_le (by omega)
    rw [ht] at hv
    refine IWp.seq ?_
    refine IWp.seq ?_
    refine IWp.run [0, 3, 4, 11] ?_
    simp [go_sem, -getElem?_pos, -List.map_take, -List.map_drop, List.getElem?_cons_zero, List.getElem?_cons_succ, Go.IntWalk.iteOmega, Go.IntWalk.toNatUp, hlt]
    refine IWp.cond ?_
    simp [go_sem, -getElem?_pos, -List.map_take, -List.map_drop, List.getElem?_cons_zero, List.getElem?_cons_succ, Go.IntWalk.iteOmega, Go.IntWalk.toNatUp, hlt]
    refine IWp.trim [3] (IWp.exit ?_)
    simp [go_sem, -getElem?_pos, -List.map_take, -List.map_drop, List.getElem?_cons_zero, List.getElem?_cons_succ, Go.IntWalk.iteOmega, Go.IntWalk.toNatUp, hlt]
    refine IWp.seq ?_
    refine IWp.run [2] ?_
    simp [go_sem, -getElem?_pos, -List.map_take, -List.map_drop, List.getElem?_cons_zero, List.getElem?_cons_succ, Go.IntWalk.iteOmega, Go.IntWalk.toNatUp, hlt]
    refine IWp.ret ?_
    simp [go_sem, -getElem?_pos, -List.map_take, -List.map_drop, List.getElem?_cons_zero, List.getElem?_cons_succ, Go.IntWalk.iteOmega, Go.IntWalk.toNatUp, hlt, Try.results21]
    exact hv.frz _ _

end Go.Proofs.Ytgmpjbifbnaijaa.I
