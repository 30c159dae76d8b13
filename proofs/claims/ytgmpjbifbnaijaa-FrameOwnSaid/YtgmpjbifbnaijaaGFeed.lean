/- The scanner: what it holds, what is told. No condition. -/
import Derived.Test.YtgmpjbifbnaijaaGScan
namespace Go.Proofs.Ytgmpjbifbnaijaa.I
open Go Go.RowKit
set_option linter.unusedVariables false
set_option linter.unusedSimpArgs false

/-- A scanner at b, whose bytes lie in the block r. -/
def ScAt (H : Heap) (b : Nat) (r : Option Nat) (L : List Int) (lost : Nat) : Prop :=
  (r = none ∧ L = [] ∧ H.get b = some ⟨[.slice none 0 0, .int .i64 lost], true⟩) ∨ ∃ q, r = some q ∧ q ≠ b ∧ H.get b = some ⟨[.slice (some ⟨q, 0, some 1⟩) L.length 1, .int .i64 lost], true⟩ ∧ H.get q = some ⟨L.map (Value.int .u8), true⟩

/-- What stood before stands, but the block b and the block r. -/
structure Step (H K : Heap) (b : Nat) (r r' : Option Nat) : Prop where
  get : ∀ j, j < H.next → j ≠ b → r ≠ some j → K.get j = H.get j
  row : r' = r ∨ ∃ q, r' = some q ∧ H.next ≤ q
  next : H.next ≤ K.next

theorem Step.refl (H : Heap) (b : Nat) (r : Option Nat) : Step H H b r r := ⟨fun _ _ _ _ => rfl, .inl rfl, Nat.le_refl _⟩
theorem Step.trans {A B C : Heap} {b : Nat} {r s t : Option Nat} (h : Step A B b r s) (k : Step B C b s t) : Step A C b r t := by
  refine ⟨fun j hj hb hr => ?_, ?_, Nat.le_trans h.next k.next⟩
  · rw [k.get j (Nat.lt_of_lt_of_le hj h.next) hb, h.get j hj hb hr]
    rcases h.row with rfl | ⟨q, rfl, hq⟩
    · exact hr
    · intro e; cases e; omega
  · rcases k.row with rfl | ⟨q, rfl, hq⟩
    · exact h.row
    · exact .inr ⟨q, rfl, Nat.le_trans h.next hq⟩
theorem ScAt.lt {H : Heap} {b : Nat} {r : Option Nat} {L : List Int} {n : Nat} (h : ScAt H b r L n) : b < H.next ∧ ∀ q, r = some q → q < H.next := by
  rcases h with ⟨rfl, _, hg⟩ | ⟨q, rfl, _, hg, hq⟩
  · exact ⟨Heap.lt_of_get hg, fun q h => by cases h⟩
  · exact ⟨Heap.lt_of_get hg, fun q' h => by cases h; exact Heap.lt_of_get hq⟩
theorem ScAt.same {H K : Heap} {b : Nat} {r : Option Nat} {L : List Int} {n : Nat} (h : ScAt H b r L n) (hs : ∀ j, (j = b ∨ r = some j) → K.get j = H.get j) : ScAt K b r L n := by
  rcases h with ⟨rfl, rfl, hg⟩ | ⟨q, rfl, hne, hg, hq⟩
  · exact .inl ⟨rfl, rfl, by rw [hs b (.inl rfl)]; exact hg⟩
  · exact .inr ⟨q, rfl, hne, by rw [hs b (.inl rfl)]; exact hg, by rw [hs q (.inr rfl)]; exact hq⟩

/-- Rows of bytes in blocks of their own, from n on, below m. -/
inductive Rows1 (K : Heap) (n m : Nat) : List Value → List (List Int) → Prop
  | nil : Rows1 K n m [] []
  | cons {q : Nat} {f : List Int} {rs : List Value} {fs : List (List Int)} (h1 : n ≤ q) (h2 : q < m) (h : K.get q = some ⟨f.map (Value.int .u8), true⟩) (t : Rows1 K n m rs fs) : Rows1 K n m (.slice (some ⟨q, 0, some 1⟩) f.length 1 :: rs) (f :: fs)
theorem Rows1.snoc {K : Heap} {n m : Nat} : ∀ {rs : List Value} {fs : List (List Int)}, Rows1 K n m rs fs → ∀ {q : Nat} {f : List Int}, n ≤ q → q < m → K.get q = some ⟨f.map (Value.int .u8), true⟩ → Rows1 K n m (rs ++ [.slice (some ⟨q, 0, some 1⟩) f.length 1]) (fs ++ [f])
  | _, _, .nil, _, _, h1, h2, h => .cons h1 h2 h .nil
  | _, _, .cons a b c d, _, _, h1, h2, h => .cons a b c (d.snoc h1 h2 h)
theorem Rows1.same {K K' : Heap} {n m m' : Nat} (hm : m ≤ m') (hs : ∀ j k, n ≤ j → j < m → K.get j = some k → (∃ f : List Int, k = ⟨f.map (Value.int .u8), true⟩) → K'.get j = some k) : ∀ {rs : List Value} {fs : List (List Int)}, Rows1 K n m rs fs → Rows1 K' n m' rs fs
  | _, _, .nil => .nil
  | _, _, .cons a b c d => .cons a (Nat.lt_of_lt_of_le b hm) (hs _ _ a b c ⟨_, rfl⟩) (d.same hm hs)
theorem Rows1.low {K : Heap} {n n' m : Nat} (hn : n' ≤ n) : ∀ {rs : List Value} {fs : List (List Int)}, Rows1 K n m rs fs → Rows1 K n' m rs fs
  | _, _, .nil => .nil
  | _, _, .cons a b c d => .cons (Nat.le_trans hn a) b c (d.low hn)
theorem Rows1.length {K : Heap} {n m : Nat} : ∀ {rs : List Value} {fs : List (List Int)}, Rows1 K n m rs fs → rs.length = fs.length
  | _, _, .nil => rfl
  | _, _, .cons _ _ _ d => by simp [d.length]
theorem Rows1.flat {K : Heap} {n m : Nat} : ∀ {rs : List Value} {fs : List (List Int)}, Rows1 K n m rs fs → (rs.flatMap fun u => u.cells.toList) = rs
  | _, _, .nil => rfl
  | _, _, .cons _ _ _ d => by rw [List.flatMap_cons, d.flat]; rfl
theorem Rows1.frz {K : Heap} {n m : Nat} {S : Nat → Bool} (hS : ∀ j, n ≤ j → j < m → S j = true) : ∀ {rs : List Value} {fs : List (List Int)}, Rows1 K n m rs fs → FrzE K S 1 rs (fs.map byts)
  | _, _, .nil => .nil
  | _, _, .cons (f := f) (rs := rs) a b c d => FrzE.cons (l := [_]) rfl (.cons (by
      have := frz_lit (f.map (Value.int .u8)) (S := S) (c := 1) c (map_flat _ _) (map_sz .u8 _) rfl (hS _ a b)
      rwa [List.length_map] at this) .nil) (d.frz hS)

/-- What a scanner tells: rows of its own. -/
def FrOut (K : Heap) (n m : Nat) (v : Value) (fs : List (List Int)) : Prop :=
  (v = .slice none 0 0 ∧ fs = []) ∨ ∃ ob rs, n ≤ ob ∧ ob < m ∧ v = .slice (some ⟨ob, 0, some 1⟩) fs.length 1 ∧ K.get ob = some ⟨rs, true⟩ ∧ Rows1 K n m rs fs
theorem FrOut.frz {K : Heap} {n m : Nat} {v : Value} {fs : List (List Int)} (h : FrOut K n m v fs) {S : Nat → Bool} (hS : ∀ j, n ≤ j → j < m → S j = true) : Frz K S v (frow 1 0 (fs.map byts)) := by
  rcases h with ⟨rfl, rfl⟩ | ⟨ob, rs, h1, h2, rfl, h4, h5⟩
  · exact .nil 1
  · have := Frz.row (H := K) (S := S) (b := ob) (o := 0) (sz := 1) (c := 1) (us := fs.map byts) h4 (hS ob h1 h2) (by simpa using h5.frz hS)
    rwa [List.length_map] at this

theorem FrOut.le {K : Heap} {n n' m : Nat} {v : Value} {fs : List (List Int)} (h : FrOut K n m v fs) (hn : n' ≤ n) : FrOut K n' m v fs :=
  h.imp id fun ⟨ob, rs, h1, h2, h3, h4, h5⟩ => ⟨ob, rs, Nat.le_trans hn h1, h2, h3, h4, h5.low hn⟩
theorem FrOut.same {K K' : Heap} {n m m' : Nat} {v : Value} {fs : List (List Int)} (h : FrOut K n m v fs) (hm : m ≤ m') (hs : ∀ j, n ≤ j → j < m → K'.get j = K.get j) : FrOut K' n m' v fs :=
  h.imp id fun ⟨ob, rs, h1, h2, h3, h4, h5⟩ => ⟨ob, rs, h1, Nat.lt_of_lt_of_le h2 hm, h3, by rw [hs ob h1 h2]; exact h4, h5.same hm fun j k a b c _ => by rw [hs j a b]; exact c⟩

theorem clone_part (H : Heap) (q o : Nat) (cs : List Value) (own : Bool) (L : List Int) (hL : L.length ≤ 1000000) (hg : H.get q = some ⟨cs, own⟩) (hc : (cs.drop o).take L.length = L.map (Value.int .u8)) (ho : o + L.length ≤ cs.length) (c : Nat) :
    ICalls Try.prog 25 [.slice (some ⟨q, o, some 1⟩) L.length c] H fun v H' => (∃ j, H.next ≤ j ∧ j < H'.next ∧ v = .slice (some ⟨j, 0, some 1⟩) L.length 1 ∧ H'.get j = some ⟨L.map (Value.int .u8), true⟩) ∧ Old H H' := by
  have hq := Heap.lt_of_get hg
  have hb : Bld 1 (H.alloc []) H.next (.slice (some ⟨H.next, 0, some 1⟩) 0 1) [] := ⟨fun _ h => (by cases h), .inr ⟨H.next, Nat.le_refl _, rfl, by simp [get_alloc]⟩⟩
  have hr : irow 1 (.slice (some ⟨q, o, some 1⟩) L.length c) (H.alloc []) = some ((L.map (Value.int .u8)).length, (L.map (Value.int .u8)).flatMap fun u => u.cells.toList) := by
    rw [irow_row, map_flat, List.length_map]
    by_cases h0 : L.length = 0
    · rw [if_pos h0]
      have := List.length_eq_zero_iff.1 h0
      subst this; rfl
    · rw [if_neg h0, if_pos rfl, row_eq, Heap.get_alloc_lt _ _ _ hq, hg]
      simp [hc, ho]
  obtain ⟨v, H', e, b1, b2, b3, _, b5⟩ := app_own (P := Try.prog) (t := 26) (e := 5) (sz := 1) (by_ := 1) (z := .int .u8 0) (ws := L.map (Value.int .u8)) (x := .slice (some ⟨q, o, some 1⟩) L.length c) (by kernel_rfl) (by kernel_rfl) (by kernel_rfl) (by kernel_rfl) rfl hb (map_sz .u8 _) hr (by rw [map_flat]; exact map_one .u8 _) (by rw [next_alloc]; omega) (by simp; omega) (by simp; omega)
  refine IBody.calls (by kernel_rfl) ?_
  refine IBody.of Try.func25 rfl (by rw [Try.ntmps25]; simp) ?_
  rw [Try.ntmps25]
  refine IWp.seq ?_
  refine IWp.run [0] ?_
  simp [go_sem, -getElem?_pos, -List.map_take, -List.map_drop, List.getElem?_cons_zero, List.getElem?_cons_succ, Go.IntWalk.iteOmega, Go.IntWalk.toNatUp, e]
  refine IWp.seq ?_
  refine IWp.seq ?_
  refine IWp.run [0, 4] ?_
  simp [go_sem, -getElem?_pos, -List.map_take, -List.map_drop, List.getElem?_cons_zero, List.getElem?_cons_succ, Go.IntWalk.iteOmega, Go.IntWalk.toNatUp, e]
  refine IWp.cond ?_
  simp [go_sem, -getElem?_pos, -List.map_take, -List.map_drop, List.getElem?_cons_zero, List.getElem?_cons_succ, Go.IntWalk.iteOmega, Go.IntWalk.toNatUp, e]
  refine IWp.trim [0] (IWp.skip ?_)
  simp [go_sem, -getElem?_pos, -List.map_take, -List.map_drop, List.getElem?_cons_zero, List.getElem?_cons_succ, Go.IntWalk.iteOmega, Go.IntWalk.toNatUp, e]
  refine IWp.seq ?_
  refine IWp.run [2] ?_
  simp [go_sem, -getElem?_pos, -List.map_take, -List.map_drop, List.getElem?_cons_zero, List.getElem?_cons_succ, Go.IntWalk.iteOmega, Go.IntWalk.toNatUp, e]
  refine IWp.ret ?_
  simp [go_sem, -getElem?_pos, -List.map_take, -List.map_drop, List.getElem?_cons_zero, List.getElem?_cons_succ, Go.IntWalk.iteOmega, Go.IntWalk.toNatUp, e, Try.results25]
  refine ⟨?_, fun b hb => by rw [b2 b hb, Heap.get_alloc_lt _ _ _ hb], by rw [next_alloc] at b3; omega⟩
  rcases b1 with ⟨_, ⟨rfl, _⟩ | ⟨j, h1, h2, h3⟩⟩
  · rcases b5 with ⟨h, _⟩ | h <;> cases h
  · refine ⟨j, h1, Heap.lt_of_get h3, by simpa using h2, ?_⟩
    rw [List.nil_append, map_flat] at h3; exact h3

/-- What stands at a place of bytes that are held. -/
theorem look_part (H : Heap) (q o : Nat) (L : List Int) (hg : H.get q = some ⟨L.map (Value.int .u8), true⟩) (ho : o ≤ L.length) (hl : L.length ≤ 100000) (hB : Bs L) (n c : Nat) (hn : n = L.length - o) :
    ICalls Try.prog 24 [.slice (some ⟨q, o, some 1⟩) n c] H fun v H' => v = .tuple #[.int .i64 (lookS (L.drop o)).1, .int .i64 (lookS (L.drop o)).2] ∧ H' = H := by
  subst hn
  have hrow : Frz H (fun _ => true) (.slice (some ⟨q, o, some 1⟩) (L.length - o) c) (byts (L.drop o)) := by
    have h1 := FrzE.same (H := H) (S := fun _ => true) ((L.drop o).map (Value.int .u8)) (sz := 1) (map_sz .u8 _) []
    rw [map_flat, List.append_nil] at h1
    have := Frz.row (H := H) (S := fun _ => true) (b := q) (o := o) (sz := 1) (c := c) (us := (L.drop o).map (Value.int .u8)) hg rfl (by rw [← List.map_drop]; exact h1)
    rw [List.length_map, List.length_drop] at this
    exact this
  refine ICalls.view (.cons hrow .nil) (by rw [ClL_cons, cl_ints, ClL_nil]; exact ⟨trivial, trivial⟩) ((look Heap.empty 0 (L.drop o) (by simp; omega) (fun x hx => hB x (List.mem_of_mem_drop hx))).mono ?_)
  rintro v _ ⟨rfl, rfl⟩
  exact ⟨rfl, rfl⟩

theorem look_none (H : Heap) :
    ICalls Try.prog 24 [.slice none 0 0] H fun v H' => v = .tuple #[.int .i64 0, .int .i64 0] ∧ H' = H :=
  ICalls.view (.cons (.nil 1) .nil) (by rw [ClL_cons, Cl_frow_nil, ClL_nil]; exact ⟨trivial, trivial⟩) ((look Heap.empty 0 [] (by simp) (fun x hx => by cases hx)).mono (by
    rintro v _ ⟨rfl, rfl⟩
    exact ⟨rfl, rfl⟩))

theorem clone_nil (H : Heap) : ICalls Try.prog 25 [.slice none 0 0] H fun v H' => v = .slice none 0 0 ∧ H' = H := by
  refine IBody.calls (by kernel_rfl) ?_
  refine IBody.of Try.func25 rfl (by rw [Try.ntmps25]; simp) ?_
  rw [Try.ntmps25]
  refine IWp.seq ?_
  refine IWp.run [0] ?_
  simp [go_sem, -getElem?_pos, -List.map_take, -List.map_drop, List.getElem?_cons_zero, List.getElem?_cons_succ, Go.IntWalk.iteOmega, Go.IntWalk.toNatUp]
  refine IWp.seq ?_
  refine IWp.seq ?_
  refine IWp.run [0, 4] ?_
  simp [go_sem, -getElem?_pos, -List.map_take, -List.map_drop, List.getElem?_cons_zero, List.getElem?_cons_succ, Go.IntWalk.iteOmega, Go.IntWalk.toNatUp]
  refine IWp.cond ?_
  simp [go_sem, -getElem?_pos, -List.map_take, -List.map_drop, List.getElem?_cons_zero, List.getElem?_cons_succ, Go.IntWalk.iteOmega, Go.IntWalk.toNatUp]
  refine IWp.seq ?_
  refine IWp.run [2] ?_
  simp [go_sem, -getElem?_pos, -List.map_take, -List.map_drop, List.getElem?_cons_zero, List.getElem?_cons_succ, Go.IntWalk.iteOmega, Go.IntWalk.toNatUp]
  refine IWp.ret ?_
  simp [go_sem, -getElem?_pos, -List.map_take, -List.map_drop, List.getElem?_cons_zero, List.getElem?_cons_succ, Go.IntWalk.iteOmega, Go.IntWalk.toNatUp, Try.results25]

theorem scNew (H : Heap) : ICalls Try.prog 15 [] H fun v H' => v = ptrTo H.next 0 ∧ ScAt H' H.next none [] 0 ∧ Old H H' := by
  refine IBody.calls (by kernel_rfl) ?_
  refine IBody.of Try.func15 rfl (by rw [Try.ntmps15]; simp) ?_
  rw [Try.ntmps15]
  refine IWp.seq ?_
  refine IWp.run [] ?_
  simp [go_sem, -getElem?_pos, -List.map_take, -List.map_drop, List.getElem?_cons_zero, List.getElem?_cons_succ, Go.IntWalk.iteOmega, Go.IntWalk.toNatUp]
  refine IWp.seq ?_
  refine IWp.run [0] ?_
  simp [go_sem, -getElem?_pos, -List.map_take, -List.map_drop, List.getElem?_cons_zero, List.getElem?_cons_succ, Go.IntWalk.iteOmega, Go.IntWalk.toNatUp]
  refine IWp.ret ?_
  simp [go_sem, -getElem?_pos, -List.map_take, -List.map_drop, List.getElem?_cons_zero, List.getElem?_cons_succ, Go.IntWalk.iteOmega, Go.IntWalk.toNatUp, Try.results15]
  exact ⟨.inl ⟨rfl, rfl, Heap.get_alloc_new _ _⟩, (Old.refl H).alloc _⟩

theorem scLost (H : Heap) (b : Nat) (r : Option Nat) (L : List Int) (n : Nat) (h : ScAt H b r L n) : ICalls Try.prog 18 [ptrTo b 0] H fun v H' => v = .int .i64 n ∧ H' = H := by
  refine IBody.calls (by kernel_rfl) ?_
  rcases h with ⟨rfl, rfl, hg⟩ | ⟨q, rfl, _, hg, _⟩
  · skip
    refine IBody.of Try.func18 rfl (by rw [Try.ntmps18]; simp) ?_
    rw [Try.ntmps18]
    refine IWp.seq ?_
    refine IWp.run [0] ?_
    simp [go_sem, -getElem?_pos, -List.map_take, -List.map_drop, List.getElem?_cons_zero, List.getElem?_cons_succ, Go.IntWalk.iteOmega, Go.IntWalk.toNatUp, hg]
    refine IWp.seq ?_
    refine IWp.seq ?_
    refine IWp.run [0, 4] ?_
    simp [go_sem, -getElem?_pos, -List.map_take, -List.map_drop, List.getElem?_cons_zero, List.getElem?_cons_succ, Go.IntWalk.iteOmega, Go.IntWalk.toNatUp, hg]
    refine IWp.cond ?_
    simp [go_sem, -getElem?_pos, -List.map_take, -List.map_drop, List.getElem?_cons_zero, List.getElem?_cons_succ, Go.IntWalk.iteOmega, Go.IntWalk.toNatUp, hg]
    refine IWp.trim [0] (IWp.skip ?_)
    simp [go_sem, -getElem?_pos, -List.map_take, -List.map_drop, List.getElem?_cons_zero, List.getElem?_cons_succ, Go.IntWalk.iteOmega, Go.IntWalk.toNatUp, hg]
    refine IWp.seq ?_
    refine IWp.run [2] ?_
    simp [go_sem, -getElem?_pos, -List.map_take, -List.map_drop, List.getElem?_cons_zero, List.getElem?_cons_succ, Go.IntWalk.iteOmega, Go.IntWalk.toNatUp, hg]
    refine IWp.ret ?_
    simp [go_sem, -getElem?_pos, -List.map_take, -List.map_drop, List.getElem?_cons_zero, List.getElem?_cons_succ, Go.IntWalk.iteOmega, Go.IntWalk.toNatUp, hg, Try.results18]
  · skip
    refine IBody.of Try.func18 rfl (by rw [Try.ntmps18]; simp) ?_
    rw [Try.ntmps18]
    refine IWp.seq ?_
    refine IWp.run [0] ?_
    simp [go_sem, -getElem?_pos, -List.map_take, -List.map_drop, List.getElem?_cons_zero, List.getElem?_cons_succ, Go.IntWalk.iteOmega, Go.IntWalk.toNatUp, hg]
    refine IWp.seq ?_
    refine IWp.seq ?_
    refine IWp.run [0, 4] ?_
    simp [go_sem, -getElem?_pos, -List.map_take, -List.map_drop, List.getElem?_cons_zero, List.getElem?_cons_succ, Go.IntWalk.iteOmega, Go.IntWalk.toNatUp, hg]
    refine IWp.cond ?_
    simp [go_sem, -getElem?_pos, -List.map_take, -List.map_drop, List.getElem?_cons_zero, List.getElem?_cons_succ, Go.IntWalk.iteOmega, Go.IntWalk.toNatUp, hg]
    refine IWp.trim [0] (IWp.skip ?_)
    simp [go_sem, -getElem?_pos, -List.map_take, -List.map_drop, List.getElem?_cons_zero, List.getElem?_cons_succ, Go.IntWalk.iteOmega, Go.IntWalk.toNatUp, hg]
    refine IWp.seq ?_
    refine IWp.run [2] ?_
    simp [go_sem, -getElem?_pos, -List.map_take, -List.map_drop, List.getElem?_cons_zero, List.getElem?_cons_succ, Go.IntWalk.iteOmega, Go.IntWalk.toNatUp, hg]
    refine IWp.ret ?_
    simp [go_sem, -getElem?_pos, -List.map_take, -List.map_drop, List.getElem?_cons_zero, List.getElem?_cons_succ, Go.IntWalk.iteOmega, Go.IntWalk.toNatUp, hg, Try.results18]

theorem scHeld (H : Heap) (b : Nat) (r : Option Nat) (L : List Int) (n : Nat) (h : ScAt H b r L n) : ICalls Try.prog 19 [ptrTo b 0] H fun v H' => v = .int .i64 L.length ∧ H' = H := by
  refine IBody.calls (by kernel_rfl) ?_
  rcases h with ⟨rfl, rfl, hg⟩ | ⟨q, rfl, _, hg, _⟩
  · skip
    refine IBody.of Try.func19 rfl (by rw [Try.ntmps19]; simp) ?_
    rw [Try.ntmps19]
    refine IWp.seq ?_
    refine IWp.run [0] ?_
    simp [go_sem, -getElem?_pos, -List.map_take, -List.map_drop, List.getElem?_cons_zero, List.getElem?_cons_succ, Go.IntWalk.iteOmega, Go.IntWalk.toNatUp, hg]
    refine IWp.seq ?_
    refine IWp.seq ?_
    refine IWp.run [0, 4] ?_
    simp [go_sem, -getElem?_pos, -List.map_take, -List.map_drop, List.getElem?_cons_zero, List.getElem?_cons_succ, Go.IntWalk.iteOmega, Go.IntWalk.toNatUp, hg]
    refine IWp.cond ?_
    simp [go_sem, -getElem?_pos, -List.map_take, -List.map_drop, List.getElem?_cons_zero, List.getElem?_cons_succ, Go.IntWalk.iteOmega, Go.IntWalk.toNatUp, hg]
    refine IWp.trim [0] (IWp.skip ?_)
    simp [go_sem, -getElem?_pos, -List.map_take, -List.map_drop, List.getElem?_cons_zero, List.getElem?_cons_succ, Go.IntWalk.iteOmega, Go.IntWalk.toNatUp, hg]
    refine IWp.seq ?_
    refine IWp.run [2] ?_
    simp [go_sem, -getElem?_pos, -List.map_take, -List.map_drop, List.getElem?_cons_zero, List.getElem?_cons_succ, Go.IntWalk.iteOmega, Go.IntWalk.toNatUp, hg]
    refine IWp.ret ?_
    simp [go_sem, -getElem?_pos, -List.map_take, -List.map_drop, List.getElem?_cons_zero, List.getElem?_cons_succ, Go.IntWalk.iteOmega, Go.IntWalk.toNatUp, hg, Try.results19]
  · skip
    refine IBody.of Try.func19 rfl (by rw [Try.ntmps19]; simp) ?_
    rw [Try.ntmps19]
    refine IWp.seq ?_
    refine IWp.run [0] ?_
    simp [go_sem, -getElem?_pos, -List.map_take, -List.map_drop, List.getElem?_cons_zero, List.getElem?_cons_succ, Go.IntWalk.iteOmega, Go.IntWalk.toNatUp, hg]
    refine IWp.seq ?_
    refine IWp.seq ?_
    refine IWp.run [0, 4] ?_
    simp [go_sem, -getElem?_pos, -List.map_take, -List.map_drop, List.getElem?_cons_zero, List.getElem?_cons_succ, Go.IntWalk.iteOmega, Go.IntWalk.toNatUp, hg]
    refine IWp.cond ?_
    simp [go_sem, -getElem?_pos, -List.map_take, -List.map_drop, List.getElem?_cons_zero, List.getElem?_cons_succ, Go.IntWalk.iteOmega, Go.IntWalk.toNatUp, hg]
    refine IWp.trim [0] (IWp.skip ?_)
    simp [go_sem, -getElem?_pos, -List.map_take, -List.map_drop, List.getElem?_cons_zero, List.getElem?_cons_succ, Go.IntWalk.iteOmega, Go.IntWalk.toNatUp, hg]
    refine IWp.seq ?_
    refine IWp.run [2] ?_
    simp [go_sem, -getElem?_pos, -List.map_take, -List.map_drop, List.getElem?_cons_zero, List.getElem?_cons_succ, Go.IntWalk.iteOmega, Go.IntWalk.toNatUp, hg]
    refine IWp.ret ?_
    simp [go_sem, -getElem?_pos, -List.map_take, -List.map_drop, List.getElem?_cons_zero, List.getElem?_cons_succ, Go.IntWalk.iteOmega, Go.IntWalk.toNatUp, hg, Try.results19]

theorem feed (H : Heap) (b : Nat) (r : Option Nat) (L M : List Int) (lost : Nat) (x : Value) (h : ScAt H b r L lost) (hx : irow 1 x H = some (M.length, M.map (Value.int .u8))) (hl : L.length + M.length ≤ 50000) (hlost : lost ≤ 1000000000) (hB : Bs (L ++ M)) :
    ICalls Try.prog 17 [ptrTo b 0, x] H fun v H' => ∃ mid r', ScAt H' b r' (scanS (L ++ M)).2.2 (lost + (scanS (L ++ M)).2.1) ∧ FrOut H' H.next mid v (scanS (L ++ M)).1 ∧ Step H H' b r r' ∧ (∀ q, r' = some q → mid ≤ q) ∧ mid ≤ H'.next := by
  have hlt := h.lt
  obtain ⟨u, hg, hb, hu⟩ : ∃ u, H.get b = some ⟨[u, .int .i64 lost], true⟩ ∧ Bld 1 H 0 u (L.map (Value.int .u8)) ∧ (∀ o s l c, u ≠ .slice (some ⟨b, o, s⟩) l c) := by
    rcases h with ⟨rfl, rfl, hg⟩ | ⟨q, rfl, hne, hg, hq⟩
    · exact ⟨_, hg, Bld.nil 1 H 0, by simp⟩
    · exact ⟨_, hg, ⟨map_sz .u8 _, .inr ⟨q, Nat.zero_le _, by simp, by rw [map_flat]; exact hq⟩⟩, fun o s l c e => by cases e; exact hne rfl⟩
  obtain ⟨v, K, e, b1, b2, b3, b4, b5⟩ := app_own (P := Try.prog) (t := 26) (e := 5) (sz := 1) (by_ := 1) (z := .int .u8 0) (ws := M.map (Value.int .u8)) (x := x) (by kernel_rfl) (by kernel_rfl) (by kernel_rfl) (by kernel_rfl) rfl hb (map_sz .u8 _) (by rw [hx, map_flat, List.length_map]) (by rw [map_flat]; exact map_one .u8 _) (Nat.zero_le _) (by simp; omega) (by simp; omega)
  have hkb := b4 b hlt.1 hu
  rw [hg] at hkb
  have hold : ∀ j, j < H.next → j ≠ b → r ≠ some j → K.get j = H.get j := fun j hj hb hrj => by
    refine b4 j hj fun o s l c hu => ?_
    rcases h with ⟨rfl, rfl, hg2⟩ | ⟨q, rfl, hne, hg2, hq⟩
    · rw [hg] at hg2; cases hg2; cases hu
    · rw [hg] at hg2; cases hg2; cases hu; exact hrj rfl
  refine IBody.calls (by kernel_rfl) ?_
  rcases b1 with ⟨_, ⟨rfl, hn⟩ | ⟨q, _, rfl, hq⟩⟩
  · have hL : L = [] ∧ M = [] := by simpa using hn
    obtain ⟨rfl, rfl⟩ := hL
    have hr : r = none := by
      rcases h with ⟨rfl, _⟩ | ⟨q, rfl, hne, hg2, hq⟩
      · rfl
      · rcases b5 with ⟨h, _, _⟩ | h
        · rw [hg] at hg2; cases hg2; cases h
        · cases h
    subst hr
    have hs0 : scanS ([] ++ []) = ([], 0, []) := scanS_wait (by simp [lookS])
    rw [hs0]
    refine IBody.of Try.func17 rfl (by rw [Try.ntmps17]; simp) ?_
    rw [Try.ntmps17]
    refine IWp.seq ?_
    refine IWp.run [0, 1] ?_
    simp [go_sem, -getElem?_pos, -List.map_take, -List.map_drop, List.getElem?_cons_zero, List.getElem?_cons_succ, Go.IntWalk.iteOmega, Go.IntWalk.toNatUp, hg, e, hkb]
    refine IWp.seq ?_
    refine IWp.seq ?_
    refine IWp.run [0, 1, 10] ?_
    simp [go_sem, -getElem?_pos, -List.map_take, -List.map_drop, List.getElem?_cons_zero, List.getElem?_cons_succ, Go.IntWalk.iteOmega, Go.IntWalk.toNatUp, hg, e, hkb]
    refine IWp.cond ?_
    simp [go_sem, -getElem?_pos, -List.map_take, -List.map_drop, List.getElem?_cons_zero, List.getElem?_cons_succ, Go.IntWalk.iteOmega, Go.IntWalk.toNatUp, hg, e, hkb]
    refine IWp.trim [0, 1] (IWp.skip ?_)
    simp [go_sem, -getElem?_pos, -List.map_take, -List.map_drop, List.getElem?_cons_zero, List.getElem?_cons_succ, Go.IntWalk.iteOmega, Go.IntWalk.toNatUp, hg, e, hkb]
    refine IWp.seq ?_
    refine IWp.run [0] ?_
    simp [go_sem, -getElem?_pos, -List.map_take, -List.map_drop, List.getElem?_cons_zero, List.getElem?_cons_succ, Go.IntWalk.iteOmega, Go.IntWalk.toNatUp, hg, e, hkb]
    refine IWp.seq ?_
    refine IWp.run [0, 5] ?_
    simp [go_sem, -getElem?_pos, -List.map_take, -List.map_drop, List.getElem?_cons_zero, List.getElem?_cons_succ, Go.IntWalk.iteOmega, Go.IntWalk.toNatUp, hg, e, hkb]
    refine IWp.seq ?_
    refine IWp.run [0, 5, 6] ?_
    simp [go_sem, -getElem?_pos, -List.map_take, -List.map_drop, List.getElem?_cons_zero, List.getElem?_cons_succ, Go.IntWalk.iteOmega, Go.IntWalk.toNatUp, hg, e, hkb]
    refine IWp.block ?_
    -- LOOP live [0, 5, 6]
    refine IWp.loop (fun j e K' => e = [(0, ptrTo b 0), (5, .slice none 0 0), (6, .int .i64 0)] ∧ K' = K.set b [.slice none 0 0, .int .i64 lost]) 0 ⟨by simp [go_sem], rfl⟩ ?_
    rintro j e K' ⟨rfl, rfl⟩
    refine IWp.block ?_
    refine IWp.seq ?_
    refine IWp.run [0, 5, 6, 7, 8] ?_
    simp [go_sem, -getElem?_pos, -List.map_take, -List.map_drop, List.getElem?_cons_zero, List.getElem?_cons_succ, Go.IntWalk.iteOmega, Go.IntWalk.toNatUp, hkb]
    refine ICalls.mono (look_none _) ?_
    rintro u _ ⟨rfl, rfl⟩
    try simp [go_sem, -getElem?_pos, -List.map_take, -List.map_drop, List.getElem?_cons_zero, List.getElem?_cons_succ, Go.IntWalk.iteOmega, Go.IntWalk.toNatUp, hkb]
    refine IWp.seq ?_
    refine IWp.run [0, 5, 6, 8, 30] ?_
    simp [go_sem, -getElem?_pos, -List.map_take, -List.map_drop, List.getElem?_cons_zero, List.getElem?_cons_succ, Go.IntWalk.iteOmega, Go.IntWalk.toNatUp, hkb]
    refine IWp.block ?_
    refine IWp.seq ?_
    refine IWp.run [0, 5, 6, 8, 30, 40] ?_
    simp [go_sem, -getElem?_pos, -List.map_take, -List.map_drop, List.getElem?_cons_zero, List.getElem?_cons_succ, Go.IntWalk.iteOmega, Go.IntWalk.toNatUp, hkb]
    refine IWp.cond ?_
    simp [go_sem, -getElem?_pos, -List.map_take, -List.map_drop, List.getElem?_cons_zero, List.getElem?_cons_succ, Go.IntWalk.iteOmega, Go.IntWalk.toNatUp, hkb]
    refine IWp.seq ?_
    refine IWp.run [5] ?_
    simp [go_sem, -getElem?_pos, -List.map_take, -List.map_drop, List.getElem?_cons_zero, List.getElem?_cons_succ, Go.IntWalk.iteOmega, Go.IntWalk.toNatUp, hkb]
    refine ICalls.mono (clone_nil _) ?_
    rintro u _ ⟨rfl, rfl⟩
    try simp [go_sem, -getElem?_pos, -List.map_take, -List.map_drop, List.getElem?_cons_zero, List.getElem?_cons_succ, Go.IntWalk.iteOmega, Go.IntWalk.toNatUp, hkb]
    refine IWp.seq ?_
    refine IWp.run [4] ?_
    simp [go_sem, -getElem?_pos, -List.map_take, -List.map_drop, List.getElem?_cons_zero, List.getElem?_cons_succ, Go.IntWalk.iteOmega, Go.IntWalk.toNatUp, hkb]
    refine IWp.ret ?_
    simp [go_sem, -getElem?_pos, -List.map_take, -List.map_drop, List.getElem?_cons_zero, List.getElem?_cons_succ, Go.IntWalk.iteOmega, Go.IntWalk.toNatUp, hkb, Try.results17]
    refine ⟨H.next, none, .inl ⟨rfl, rfl, by simp [get_set, hkb]⟩, .inl ⟨rfl, rfl⟩, ⟨fun j hj hb hr => by simp only [get_set, if_neg hb]; exact hold j hj hb hr, (.inl rfl), (show H.next ≤ K.next from b3)⟩, by simp, show H.next ≤ K.next from b3⟩
  · rw [← List.map_append, map_flat] at hq
    have hrow : (some q = r ∧ q ≠ b) ∨ q = H.next := by
      rcases b5 with ⟨h5, rfl, _⟩ | h5
      · rcases h with ⟨rfl, rfl, hg2⟩ | ⟨q2, rfl, hne, hg2, hq2⟩
        · rw [hg] at hg2; cases hg2; cases h5
        · rw [hg] at hg2
          simp only [Option.some.injEq, Blk.mk.injEq, List.cons.injEq, and_true] at hg2
          rw [hg2] at h5
          simp only [Value.slice.injEq, Option.some.injEq, Addr.mk.injEq] at h5
          exact .inl ⟨by rw [h5.1.1], by rw [h5.1.1]; exact hne⟩
      · simp only [Value.slice.injEq, Option.some.injEq, Addr.mk.injEq] at h5
        exact .inr h5.1.1
    have hqb : q ≠ b := by
      rcases hrow with ⟨_, h⟩ | h
      · exact h
      · have := hlt.1; omega
    have hqr : r = some q ∨ q = H.next := hrow.imp (fun h => h.1.symm) id
    rw [← List.map_append, List.length_map] at e
    generalize hP : L ++ M = P at *
    have hPl : P.length = L.length + M.length := by rw [← hP, List.length_append]
    have hqk := Heap.lt_of_get hq
    refine IBody.of Try.func17 rfl (by rw [Try.ntmps17]; simp) ?_
    rw [Try.ntmps17]
    refine IWp.seq ?_
    refine IWp.run [0, 1] ?_
    simp [go_sem, -getElem?_pos, -List.map_take, -List.map_drop, List.getElem?_cons_zero, List.getElem?_cons_succ, Go.IntWalk.iteOmega, Go.IntWalk.toNatUp, hg, e, hkb]
    refine IWp.seq ?_
    refine IWp.seq ?_
    refine IWp.run [0, 1, 10] ?_
    simp [go_sem, -getElem?_pos, -List.map_take, -List.map_drop, List.getElem?_cons_zero, List.getElem?_cons_succ, Go.IntWalk.iteOmega, Go.IntWalk.toNatUp, hg, e, hkb]
    refine IWp.cond ?_
    simp [go_sem, -getElem?_pos, -List.map_take, -List.map_drop, List.getElem?_cons_zero, List.getElem?_cons_succ, Go.IntWalk.iteOmega, Go.IntWalk.toNatUp, hg, e, hkb]
    refine IWp.trim [0, 1] (IWp.skip ?_)
    simp [go_sem, -getElem?_pos, -List.map_take, -List.map_drop, List.getElem?_cons_zero, List.getElem?_cons_succ, Go.IntWalk.iteOmega, Go.IntWalk.toNatUp, hg, e, hkb]
    refine IWp.seq ?_
    refine IWp.run [0] ?_
    simp [go_sem, -getElem?_pos, -List.map_take, -List.map_drop, List.getElem?_cons_zero, List.getElem?_cons_succ, Go.IntWalk.iteOmega, Go.IntWalk.toNatUp, hg, e, hkb]
    refine IWp.seq ?_
    refine IWp.run [0, 5] ?_
    simp [go_sem, -getElem?_pos, -List.map_take, -List.map_drop, List.getElem?_cons_zero, List.getElem?_cons_succ, Go.IntWalk.iteOmega, Go.IntWalk.toNatUp, hg, e, hkb]
    refine IWp.seq ?_
    refine IWp.run [0, 5, 6] ?_
    simp [go_sem, -getElem?_pos, -List.map_take, -List.map_drop, List.getElem?_cons_zero, List.getElem?_cons_succ, Go.IntWalk.iteOmega, Go.IntWalk.toNatUp, hg, e, hkb]
    refine IWp.block ?_
    -- LOOP live [0, 5, 6]
    refine IWp.loop (fun j e K' => ∃ (i : Nat) (rs : List Value) (fs : List (List Int)) (lo : Nat) (out : Value), j = P.length - i ∧ i ≤ P.length ∧ fs.length ≤ i ∧ lo ≤ i ∧ Bld 1 K' K.next out rs ∧ Rows1 K' K.next K'.next rs fs ∧ K.next ≤ K'.next ∧ (∀ j, j < K.next → j ≠ b → K'.get j = K.get j) ∧ K'.get b = some ⟨[.slice (some ⟨q, 0, some 1⟩) P.length 1, .int .i64 ((lost + lo : Nat) : Int)], true⟩ ∧ e = [(0, ptrTo b 0), (5, out), (6, .int .i64 (i : Int))] ∧ scanS P = (fs ++ (scanS (P.drop i)).1, lo + (scanS (P.drop i)).2.1, (scanS (P.drop i)).2.2)) P.length ⟨0, [], [], 0, .slice none 0 0, rfl, Nat.zero_le _, Nat.le_refl _, Nat.le_refl _, Bld.nil _ _ _, .nil, Nat.le_refl _, fun j _ hb => by simp [get_set, hb], by simp [get_set, hkb], by simp [go_sem], by simp⟩ ?_
    rintro j e K' ⟨i, rs, fs, lo, out, rfl, hi, hfs, hlo, hv, hr1, hn', ho, hkb', rfl, hs⟩
    have hq' : K'.get q = some ⟨P.map (Value.int .u8), true⟩ := by rw [ho q hqk hqb]; exact hq
    have hbk : b < K.next := Heap.lt_of_get hkb
    have hA := fun c => look_part K' q i P hq' hi (by omega) hB _ c rfl
    have w1 := IntWalk.i64_in ((i : Int) + 1) (by omega)
    have w2 := IntWalk.i64_in ((lost : Int) + lo + 1) (by omega)
    have w3 := IntWalk.i64_in ((P.length : Int) - i) (by omega)
    have hout : FrOut K' K.next K'.next out fs := by
      rcases hv with ⟨_, ⟨rfl, rfl⟩ | ⟨ob, h1, rfl, h3⟩⟩
      · cases hr1; exact .inl ⟨rfl, rfl⟩
      · exact .inr ⟨ob, rs, h1, Heap.lt_of_get h3, by rw [hr1.length], by rw [h3, hr1.flat], hr1⟩
    rcases lookS_cases (P.drop i) with h | ⟨h, h1⟩ | ⟨n, h, hn1, hn2, hn3⟩
    · have hw := scanS_wait (P := P.drop i) (by rw [h])
      rw [hw] at hs
      rw [hs]
      rw [h] at hA
      have hcl := clone_part K' q i (P.map (Value.int .u8)) true (P.drop i) (by simp; omega) hq' (by rw [← List.map_drop]; exact List.take_of_length_le (by simp)) (by simp; omega)
      rw [List.length_drop] at hcl
      refine IWp.block ?_
      refine IWp.seq ?_
      refine IWp.run [0, 5, 6, 7, 8] ?_
      simp [go_sem, -getElem?_pos, -List.map_take, -List.map_drop, List.getElem?_cons_zero, List.getElem?_cons_succ, Go.IntWalk.iteOmega, Go.IntWalk.toNatUp, hkb', w3, hi, show (i : Int) ≤ P.length by omega]
      refine ICalls.mono (hA _) ?_
      rintro u H2 ⟨rfl, e0⟩
      obtain rfl := e0.symm
      try simp [go_sem, -getElem?_pos, -List.map_take, -List.map_drop, List.getElem?_cons_zero, List.getElem?_cons_succ, Go.IntWalk.iteOmega, Go.IntWalk.toNatUp, hkb', w3, hi, show (i : Int) ≤ P.length by omega]
      refine IWp.seq ?_
      refine IWp.run [0, 5, 6, 8, 30] ?_
      simp [go_sem, -getElem?_pos, -List.map_take, -List.map_drop, List.getElem?_cons_zero, List.getElem?_cons_succ, Go.IntWalk.iteOmega, Go.IntWalk.toNatUp, hkb', w3, hi, show (i : Int) ≤ P.length by omega]
      refine IWp.block ?_
      refine IWp.seq ?_
      refine IWp.run [0, 5, 6, 8, 30, 40] ?_
      simp [go_sem, -getElem?_pos, -List.map_take, -List.map_drop, List.getElem?_cons_zero, List.getElem?_cons_succ, Go.IntWalk.iteOmega, Go.IntWalk.toNatUp, hkb', w3, hi, show (i : Int) ≤ P.length by omega]
      refine IWp.cond ?_
      simp [go_sem, -getElem?_pos, -List.map_take, -List.map_drop, List.getElem?_cons_zero, List.getElem?_cons_succ, Go.IntWalk.iteOmega, Go.IntWalk.toNatUp, hkb', w3, hi, show (i : Int) ≤ P.length by omega]
      refine IWp.seq ?_
      refine IWp.run [5] ?_
      simp [go_sem, -getElem?_pos, -List.map_take, -List.map_drop, List.getElem?_cons_zero, List.getElem?_cons_succ, Go.IntWalk.iteOmega, Go.IntWalk.toNatUp, hkb', w3, hi, show (i : Int) ≤ P.length by omega]
      refine ICalls.mono (hcl _) ?_
      rintro u K2 ⟨⟨j2, h1, h2, rfl, h4⟩, o2⟩
      try simp [go_sem, -getElem?_pos, -List.map_take, -List.map_drop, List.getElem?_cons_zero, List.getElem?_cons_succ, Go.IntWalk.iteOmega, Go.IntWalk.toNatUp, hkb', w3, hi, show (i : Int) ≤ P.length by omega, o2.1 b (by omega)]
      refine IWp.seq ?_
      refine IWp.run [4] ?_
      simp [go_sem, -getElem?_pos, -List.map_take, -List.map_drop, List.getElem?_cons_zero, List.getElem?_cons_succ, Go.IntWalk.iteOmega, Go.IntWalk.toNatUp, hkb', w3, hi, show (i : Int) ≤ P.length by omega, o2.1 b (by omega)]
      refine IWp.ret ?_
      simp [go_sem, -getElem?_pos, -List.map_take, -List.map_drop, List.getElem?_cons_zero, List.getElem?_cons_succ, Go.IntWalk.iteOmega, Go.IntWalk.toNatUp, hkb', w3, hi, show (i : Int) ≤ P.length by omega, o2.1 b (by omega), Try.results17]
      have hbk2 := o2.1 b (by omega)
      refine ⟨K'.next, some j2, .inr ⟨j2, rfl, by omega, by simp [get_set, hbk2, hkb'], by rw [get_set, if_neg (by omega)]; exact h4⟩, ?_, ⟨fun j hj hb hr => ?_, .inr ⟨j2, rfl, by omega⟩, by rw [next_set]; have := o2.2; omega⟩, fun q hq => by cases hq; exact h1, o2.2⟩
      · refine FrOut.same (hout.le b3) (Nat.le_refl _) fun j hj hj2 => ?_
        rw [get_set, if_neg (by omega)]; exact o2.1 j hj2
      · have := o2.2
        rw [get_set, if_neg hb, o2.1 j (by omega), ho j (by omega) hb]; exact hold j hj hb hr
    · have hw := scanS_lost h
      rw [List.drop_drop] at hw
      rw [hw] at hs
      rw [h] at hA
      rw [List.length_drop] at h1
      refine IWp.block ?_
      refine IWp.seq ?_
      refine IWp.run [0, 5, 6, 7, 8] ?_
      simp [go_sem, -getElem?_pos, -List.map_take, -List.map_drop, List.getElem?_cons_zero, List.getElem?_cons_succ, Go.IntWalk.iteOmega, Go.IntWalk.toNatUp, hkb', w1, w2, w3, hi, show (i : Int) ≤ P.length by omega]
      refine ICalls.mono (hA _) ?_
      rintro u H2 ⟨rfl, e0⟩
      obtain rfl := e0.symm
      try simp [go_sem, -getElem?_pos, -List.map_take, -List.map_drop, List.getElem?_cons_zero, List.getElem?_cons_succ, Go.IntWalk.iteOmega, Go.IntWalk.toNatUp, hkb', w1, w2, w3, hi, show (i : Int) ≤ P.length by omega]
      refine IWp.seq ?_
      refine IWp.run [0, 5, 6, 8, 30] ?_
      simp [go_sem, -getElem?_pos, -List.map_take, -List.map_drop, List.getElem?_cons_zero, List.getElem?_cons_succ, Go.IntWalk.iteOmega, Go.IntWalk.toNatUp, hkb', w1, w2, w3, hi, show (i : Int) ≤ P.length by omega]
      refine IWp.block ?_
      refine IWp.seq ?_
      refine IWp.run [0, 5, 6, 8, 30, 40] ?_
      simp [go_sem, -getElem?_pos, -List.map_take, -List.map_drop, List.getElem?_cons_zero, List.getElem?_cons_succ, Go.IntWalk.iteOmega, Go.IntWalk.toNatUp, hkb', w1, w2, w3, hi, show (i : Int) ≤ P.length by omega]
      refine IWp.cond ?_
      simp [go_sem, -getElem?_pos, -List.map_take, -List.map_drop, List.getElem?_cons_zero, List.getElem?_cons_succ, Go.IntWalk.iteOmega, Go.IntWalk.toNatUp, hkb', w1, w2, w3, hi, show (i : Int) ≤ P.length by omega]
      refine IWp.seq ?_
      refine IWp.run [0, 5, 6, 8, 53] ?_
      simp [go_sem, -getElem?_pos, -List.map_take, -List.map_drop, List.getElem?_cons_zero, List.getElem?_cons_succ, Go.IntWalk.iteOmega, Go.IntWalk.toNatUp, hkb', w1, w2, w3, hi, show (i : Int) ≤ P.length by omega]
      refine IWp.cond ?_
      simp [go_sem, -getElem?_pos, -List.map_take, -List.map_drop, List.getElem?_cons_zero, List.getElem?_cons_succ, Go.IntWalk.iteOmega, Go.IntWalk.toNatUp, hkb', w1, w2, w3, hi, show (i : Int) ≤ P.length by omega]
      refine IWp.seq ?_
      refine IWp.run [0, 5, 6] ?_
      simp [go_sem, -getElem?_pos, -List.map_take, -List.map_drop, List.getElem?_cons_zero, List.getElem?_cons_succ, Go.IntWalk.iteOmega, Go.IntWalk.toNatUp, hkb', w1, w2, w3, hi, show (i : Int) ≤ P.length by omega]
      refine IWp.run [0, 5, 6] ?_
      simp [go_sem, -getElem?_pos, -List.map_take, -List.map_drop, List.getElem?_cons_zero, List.getElem?_cons_succ, Go.IntWalk.iteOmega, Go.IntWalk.toNatUp, hkb', w1, w2, w3, hi, show (i : Int) ≤ P.length by omega]
      have hset : ∀ j, j ≠ b → ∀ cs, (K'.set b cs).get j = K'.get j := fun j hj cs => by rw [get_set, if_neg hj]
      refine ⟨P.length - (i + 1), by omega, i + 1, rfl, by omega, rs, fs, by omega, lo + 1, by omega, out, hv.same fun j k hj hk => by rw [hset j (by omega)]; exact hk, hr1.same (Nat.le_refl _) fun j k hj _ hk _ => by rw [hset j (by omega)]; exact hk, hn', fun j hj hb => by rw [if_neg hb]; exact ho j hj hb, by simp [hkb']; omega, ⟨rfl, by omega⟩, by rw [hs]; simp only [Prod.mk.injEq, true_and, and_true]; omega⟩
    · have hw := scanS_told h hn1
      rw [List.drop_drop, List.drop_drop] at hw
      rw [hw] at hs
      rw [h] at hA
      rw [List.length_drop] at hn3
      have w4 := IntWalk.i64_in ((i : Int) + 3) (by omega)
      have w5 := IntWalk.i64_in ((i : Int) + n) (by omega)
      have w6 := IntWalk.i64_in ((i : Int) + n - 2) (by omega)
      have w7 : ((i : Int) + 3).toNat = i + 3 := by omega
      have w8 : ((i : Int) + n - 2).toNat - (i + 3) = n - 5 := by omega
      have w9 : i + n - 2 - (i + 3) = n - 5 := by omega
      refine IWp.block ?_
      refine IWp.seq ?_
      refine IWp.run [0, 5, 6, 7, 8] ?_
      simp [go_sem, -getElem?_pos, -List.map_take, -List.map_drop, List.getElem?_cons_zero, List.getElem?_cons_succ, Go.IntWalk.iteOmega, Go.IntWalk.toNatUp, hkb', w1, w3, w4, w5, w6, w7, w8, w9, hi, show (i : Int) ≤ P.length by omega, show (i : Int) + 3 ≤ max (i + n - 2) 0 by omega, show (i : Int) + n - 2 ≤ P.length by omega]
      refine ICalls.mono (hA _) ?_
      rintro u H2 ⟨rfl, e0⟩
      obtain rfl := e0.symm
      try simp [go_sem, -getElem?_pos, -List.map_take, -List.map_drop, List.getElem?_cons_zero, List.getElem?_cons_succ, Go.IntWalk.iteOmega, Go.IntWalk.toNatUp, hkb', w1, w3, w4, w5, w6, w7, w8, w9, hi, show (i : Int) ≤ P.length by omega, show (i : Int) + 3 ≤ max (i + n - 2) 0 by omega, show (i : Int) + n - 2 ≤ P.length by omega]
      refine IWp.seq ?_
      refine IWp.run [0, 5, 6, 8, 30] ?_
      simp [go_sem, -getElem?_pos, -List.map_take, -List.map_drop, List.getElem?_cons_zero, List.getElem?_cons_succ, Go.IntWalk.iteOmega, Go.IntWalk.toNatUp, hkb', w1, w3, w4, w5, w6, w7, w8, w9, hi, show (i : Int) ≤ P.length by omega, show (i : Int) + 3 ≤ max (i + n - 2) 0 by omega, show (i : Int) + n - 2 ≤ P.length by omega]
      refine IWp.block ?_
      refine IWp.seq ?_
      refine IWp.run [0, 5, 6, 8, 30, 40] ?_
      simp [go_sem, -getElem?_pos, -List.map_take, -List.map_drop, List.getElem?_cons_zero, List.getElem?_cons_succ, Go.IntWalk.iteOmega, Go.IntWalk.toNatUp, hkb', w1, w3, w4, w5, w6, w7, w8, w9, hi, show (i : Int) ≤ P.length by omega, show (i : Int) + 3 ≤ max (i + n - 2) 0 by omega, show (i : Int) + n - 2 ≤ P.length by omega]
      refine IWp.cond ?_
      simp [go_sem, -getElem?_pos, -List.map_take, -List.map_drop, List.getElem?_cons_zero, List.getElem?_cons_succ, Go.IntWalk.iteOmega, Go.IntWalk.toNatUp, hkb', w1, w3, w4, w5, w6, w7, w8, w9, hi, show (i : Int) ≤ P.length by omega, show (i : Int) + 3 ≤ max (i + n - 2) 0 by omega, show (i : Int) + n - 2 ≤ P.length by omega]
      refine IWp.seq ?_
      refine IWp.run [0, 5, 6, 8, 53] ?_
      simp [go_sem, -getElem?_pos, -List.map_take, -List.map_drop, List.getElem?_cons_zero, List.getElem?_cons_succ, Go.IntWalk.iteOmega, Go.IntWalk.toNatUp, hkb', w1, w3, w4, w5, w6, w7, w8, w9, hi, show (i : Int) ≤ P.length by omega, show (i : Int) + 3 ≤ max (i + n - 2) 0 by omega, show (i : Int) + n - 2 ≤ P.length by omega]
      refine IWp.cond ?_
      simp [go_sem, -getElem?_pos, -List.map_take, -List.map_drop, List.getElem?_cons_zero, List.getElem?_cons_succ, Go.IntWalk.iteOmega, Go.IntWalk.toNatUp, hkb', w1, w3, w4, w5, w6, w7, w8, w9, hi, show (i : Int) ≤ P.length by omega, show (i : Int) + 3 ≤ max (i + n - 2) 0 by omega, show (i : Int) + n - 2 ≤ P.length by omega]
      refine IWp.seq ?_
      refine IWp.run [0, 5, 6, 8] ?_
      simp [go_sem, -getElem?_pos, -List.map_take, -List.map_drop, List.getElem?_cons_zero, List.getElem?_cons_succ, Go.IntWalk.iteOmega, Go.IntWalk.toNatUp, hkb', w1, w3, w4, w5, w6, w7, w8, w9, hi, show (i : Int) ≤ P.length by omega, show (i : Int) + 3 ≤ max (i + n - 2) 0 by omega, show (i : Int) + n - 2 ≤ P.length by omega]
      have hcl := clone_part K' q (i + 3) (P.map (Value.int .u8)) true ((P.drop (i + 3)).take (n - 5)) (by simp; omega) hq' (by rw [← List.map_drop, ← List.map_take]; congr 1; rw [List.length_take, List.length_drop]; congr 1; omega) (by simp; omega)
      have hcn : ((P.drop (i + 3)).take (n - 5)).length = n - 5 := by rw [List.length_take, List.length_drop]; omega
      rw [hcn] at hcl
      refine ICalls.mono (hcl _) ?_
      rintro u K2 ⟨⟨j2, h1, h2, rfl, h4⟩, o2⟩
      have hv2 : Bld 1 K2 K.next out rs := hv.same fun j k _ hk => by rw [o2.1 j (Heap.lt_of_get hk)]; exact hk
      have ho2 := o2.2
      obtain ⟨out', K3, e2, v3, s3, n3, f3, t3⟩ := app_one (P := Try.prog) (t := 25) (e := 26) (sz := 1) (by_ := 24) (z := .slice none 0 0) (by kernel_rfl) (by kernel_rfl) (by kernel_rfl) (by kernel_rfl) rfl (.slice (some ⟨j2, 0, some 1⟩) (n - 5) 1) [.slice (some ⟨j2, 0, some 1⟩) (n - 5) 1] hv2 rfl rfl (by simp [one0]) (by omega) (by rw [hr1.length]; omega) (by rw [hr1.length]; omega)
      simp [go_sem, e2]
      refine IWp.run [0, 5, 6] ?_
      simp [go_sem, -getElem?_pos, -List.map_take, -List.map_drop, List.getElem?_cons_zero, List.getElem?_cons_succ, Go.IntWalk.iteOmega, Go.IntWalk.toNatUp, w5]
      have hbk2 : K2.get b = K'.get b := o2.1 b (by omega)
      have hob : ∀ j, j < K2.next → (K'.next ≤ j ∨ (rs ≠ [] ∧ ∃ f : List Int, K2.get j = some ⟨f.map (Value.int .u8), true⟩)) → K3.get j = K2.get j := fun j hj hf => by
        refine f3 j hj fun o s l c e => ?_
        rcases hv with ⟨_, ⟨rfl, _⟩ | ⟨ob, g1, rfl, g3⟩⟩
        · cases e
        · cases e
          have g4 := Heap.lt_of_get g3
          rcases hf with hf | ⟨hne, f, hf⟩
          · omega
          · rw [o2.1 _ g4, g3, hr1.flat] at hf
            cases hr1 with
            | nil => exact hne rfl
            | cons => cases f <;> simp at hf
      refine ⟨P.length - (i + n), by omega, i + n, rfl, by omega, rs ++ [.slice (some ⟨j2, 0, some 1⟩) (n - 5) 1], fs ++ [(P.drop (i + 3)).take (n - 5)], by simp; omega, lo, by omega, out', v3, ?_, by omega, fun j hj hb => by rw [s3 j hj, o2.1 j (by omega), ho j hj hb], by rw [s3 b hbk, hbk2, hkb']; simp, ⟨rfl, by omega⟩, by rw [hs]; simp⟩
      have hr3 : Rows1 K3 K.next K3.next rs fs := by
        by_cases hrs : rs = []
        · subst hrs; cases hr1; exact .nil
        · exact hr1.same (by omega) fun j k g1 g2 g3 ⟨f, g4⟩ => by rw [hob j (by omega) (.inr ⟨hrs, f, by rw [o2.1 j g2, g3, g4]⟩), o2.1 j g2, g3]
      have h5 := Rows1.snoc (q := j2) (f := (P.drop (i + 3)).take (n - 5)) hr3 (by omega) (by omega) (by rw [hob j2 h2 (.inl h1), h4])
      rwa [hcn] at h5

theorem scNil (H : Heap) (x : Value) : ICalls Try.prog 17 [.pointer none, x] H fun v H' => v = .slice none 0 0 ∧ H' = H := by
  refine IBody.calls (by kernel_rfl) ?_
  refine IBody.of Try.func17 rfl (by rw [Try.ntmps17]; simp) ?_
  rw [Try.ntmps17]
  refine IWp.seq ?_
  refine IWp.run [0, 1] ?_
  simp [go_sem, -getElem?_pos, -List.map_take, -List.map_drop, List.getElem?_cons_zero, List.getElem?_cons_succ, Go.IntWalk.iteOmega, Go.IntWalk.toNatUp]
  refine IWp.seq ?_
  refine IWp.seq ?_
  refine IWp.run [0, 1, 10] ?_
  simp [go_sem, -getElem?_pos, -List.map_take, -List.map_drop, List.getElem?_cons_zero, List.getElem?_cons_succ, Go.IntWalk.iteOmega, Go.IntWalk.toNatUp]
  refine IWp.cond ?_
  simp [go_sem, -getElem?_pos, -List.map_take, -List.map_drop, List.getElem?_cons_zero, List.getElem?_cons_succ, Go.IntWalk.iteOmega, Go.IntWalk.toNatUp]
  refine IWp.seq ?_
  refine IWp.run [4] ?_
  simp [go_sem, -getElem?_pos, -List.map_take, -List.map_drop, List.getElem?_cons_zero, List.getElem?_cons_succ, Go.IntWalk.iteOmega, Go.IntWalk.toNatUp]
  refine IWp.ret ?_
  simp [go_sem, -getElem?_pos, -List.map_take, -List.map_drop, List.getElem?_cons_zero, List.getElem?_cons_succ, Go.IntWalk.iteOmega, Go.IntWalk.toNatUp, Try.results17]
theorem scNilLost (H : Heap) : ICalls Try.prog 18 [.pointer none] H fun v H' => v = .int .i64 0 ∧ H' = H := by
  refine IBody.calls (by kernel_rfl) ?_
  refine IBody.of Try.func18 rfl (by rw [Try.ntmps18]; simp) ?_
  rw [Try.ntmps18]
  refine IWp.seq ?_
  refine IWp.run [0] ?_
  simp [go_sem, -getElem?_pos, -List.map_take, -List.map_drop, List.getElem?_cons_zero, List.getElem?_cons_succ, Go.IntWalk.iteOmega, Go.IntWalk.toNatUp]
  refine IWp.seq ?_
  refine IWp.seq ?_
  refine IWp.run [0, 4] ?_
  simp [go_sem, -getElem?_pos, -List.map_take, -List.map_drop, List.getElem?_cons_zero, List.getElem?_cons_succ, Go.IntWalk.iteOmega, Go.IntWalk.toNatUp]
  refine IWp.cond ?_
  simp [go_sem, -getElem?_pos, -List.map_take, -List.map_drop, List.getElem?_cons_zero, List.getElem?_cons_succ, Go.IntWalk.iteOmega, Go.IntWalk.toNatUp]
  refine IWp.seq ?_
  refine IWp.run [2] ?_
  simp [go_sem, -getElem?_pos, -List.map_take, -List.map_drop, List.getElem?_cons_zero, List.getElem?_cons_succ, Go.IntWalk.iteOmega, Go.IntWalk.toNatUp]
  refine IWp.ret ?_
  simp [go_sem, -getElem?_pos, -List.map_take, -List.map_drop, List.getElem?_cons_zero, List.getElem?_cons_succ, Go.IntWalk.iteOmega, Go.IntWalk.toNatUp, Try.results18]
theorem scNilHeld (H : Heap) : ICalls Try.prog 19 [.pointer none] H fun v H' => v = .int .i64 0 ∧ H' = H := by
  refine IBody.calls (by kernel_rfl) ?_
  refine IBody.of Try.func19 rfl (by rw [Try.ntmps19]; simp) ?_
  rw [Try.ntmps19]
  refine IWp.seq ?_
  refine IWp.run [0] ?_
  simp [go_sem, -getElem?_pos, -List.map_take, -List.map_drop, List.getElem?_cons_zero, List.getElem?_cons_succ, Go.IntWalk.iteOmega, Go.IntWalk.toNatUp]
  refine IWp.seq ?_
  refine IWp.seq ?_
  refine IWp.run [0, 4] ?_
  simp [go_sem, -getElem?_pos, -List.map_take, -List.map_drop, List.getElem?_cons_zero, List.getElem?_cons_succ, Go.IntWalk.iteOmega, Go.IntWalk.toNatUp]
  refine IWp.cond ?_
  simp [go_sem, -getElem?_pos, -List.map_take, -List.map_drop, List.getElem?_cons_zero, List.getElem?_cons_succ, Go.IntWalk.iteOmega, Go.IntWalk.toNatUp]
  refine IWp.seq ?_
  refine IWp.run [2] ?_
  simp [go_sem, -getElem?_pos, -List.map_take, -List.map_drop, List.getElem?_cons_zero, List.getElem?_cons_succ, Go.IntWalk.iteOmega, Go.IntWalk.toNatUp]
  refine IWp.ret ?_
  simp [go_sem, -getElem?_pos, -List.map_take, -List.map_drop, List.getElem?_cons_zero, List.getElem?_cons_succ, Go.IntWalk.iteOmega, Go.IntWalk.toNatUp, Try.results19]

end Go.Proofs.Ytgmpjbifbnaijaa.I
