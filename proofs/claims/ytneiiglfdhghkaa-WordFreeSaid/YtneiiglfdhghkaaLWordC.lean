/- The law that what was handed in, and what was answered, may be written over: its body. No condition. -/
import Derived.Test.YtneiiglfdhghkaaLWordB
namespace Go.Proofs.Ytneiiglfdhghkaa.I
open Go Go.RowKit
set_option linter.unusedVariables false
set_option linter.unusedSimpArgs false

theorem splice_one (cs : List Value) (k : Nat) (v : Value) (h : k < cs.length) : splice cs k [v] = cs.set k v := by
  unfold splice
  rw [List.set_eq_take_append_cons_drop, if_pos h]
  simp

/-- A row of numbers, all of them another one up to a place. -/
def over (Q : List Int) (b : Int) (k : Nat) : List Int := List.replicate k b ++ Q.drop k
theorem over_len (Q : List Int) (b : Int) (k : Nat) (h : k ≤ Q.length) : (over Q b k).length = Q.length := by simp [over]; omega
theorem over_set (Q : List Int) (b : Int) (k : Nat) (h : k < Q.length) : ((over Q b k).map (Value.int .u8)).set k (.int .u8 b) = (over Q b (k + 1)).map (Value.int .u8) := by
  rw [← List.map_set]
  congr 1
  unfold over
  rw [List.set_append_right _ _ (by simp), List.length_replicate, Nat.sub_self, List.drop_eq_getElem_cons h, List.set_cons_zero, List.replicate_succ', List.append_assoc]
  rfl

theorem byte_at (Q : List Int) (i : Nat) (h : i < Q.length) : (Rd.mk Q i 0).byte = (Q[i], ⟨Q, i + 1, 0⟩) := by
  rw [Rd.byte_eq rfl (by show i + 1 ≤ Q.length; omega)]
  simp [Rd.at_, h]

theorem Bld.own {sz : Nat} {H : Heap} {n : Nat} {v : Value} {us : List Value} (h : Bld sz H n v us) (hne : us ≠ []) : ∃ q, n ≤ q ∧ v = .slice (some ⟨q, 0, some sz⟩) us.length 1 ∧ H.get q = some ⟨us.flatMap fun u => u.cells.toList, true⟩ := by
  rcases h.2 with ⟨_, rfl⟩ | h
  · exact absurd rfl hne
  · exact h

/-- A row that may be written; of no elements: whatever it is. -/
def OwnRow (K : Heap) (pp : Option Addr) (Q : List Int) : Prop := Q = [] ∨ ∃ q, pp = some ⟨q, 0, some 1⟩ ∧ K.get q = some ⟨Q.map (Value.int .u8), true⟩
theorem Bld.row {H : Heap} {n : Nat} {v : Value} {Q : List Int} (h : Bld 1 H n v (Q.map (Value.int .u8))) : ∃ pp c, v = .slice pp Q.length c ∧ OwnRow H pp Q ∧ ∀ a, pp = some a → n ≤ a.block ∧ a.block < H.next := by
  rcases h.2 with ⟨rfl, h2⟩ | ⟨b, h1, rfl, h3⟩
  · have : Q = [] := by simpa using h2
    subst this
    exact ⟨none, 0, rfl, .inl rfl, fun a h => by cases h⟩
  · rw [map_flat] at h3
    exact ⟨_, 1, by simp, .inr ⟨b, rfl, h3⟩, fun a h => by cases h; exact ⟨h1, Heap.lt_of_get h3⟩⟩

theorem Bld.row1 {H : Heap} {n : Nat} {v : Value} {Q : List Int} (h : Bld 1 H n v (Q.map (Value.int .u8))) : ∃ pp c, v = .slice pp Q.length c ∧ OwnRow H pp Q ∧ (∀ a, pp = some a → n ≤ a.block ∧ a.block < H.next ∧ a.off = 0 ∧ a.spot = some 1 ∧ c = 1) ∧ (pp = none → c = 0) := by
  rcases h.2 with ⟨rfl, h2⟩ | ⟨b, h1, rfl, h3⟩
  · have : Q = [] := by simpa using h2
    subst this
    exact ⟨none, 0, rfl, .inl rfl, fun a h => (by cases h), fun _ => rfl⟩
  · rw [map_flat] at h3
    exact ⟨_, 1, by simp, .inr ⟨b, rfl, h3⟩, fun a h => by cases h; exact ⟨h1, Heap.lt_of_get h3, rfl, rfl, rfl⟩, fun h => by cases h⟩

theorem clone_pblk (H : Heap) (pp : Option Addr) (c : Nat) (L : List Int) (hL : L.length ≤ 1000000) (h : OwnRow H pp L) (hc : pp = none → c = 0) (hs : ∀ a, pp = some a → a.spot = some 1) (h1 : ∀ a, pp = some a → c = 1 ∧ a.off = 0) :
    ICalls Try.prog 42 [.slice pp L.length c] H fun v H' => v = byts L ∧ H' = H := by
  rcases h with rfl | ⟨q, rfl, hg⟩
  · cases pp with
    | none =>
      rw [hc rfl]
      exact ICalls.as (.cons (.nil 1) .nil) (clone H 0 [] (by simp))
    | some a =>
      obtain ⟨q, o, s⟩ := a
      have := hs _ rfl
      simp only at this
      subst this
      exact ICalls.as (.cons (.void 1) .nil) (clone H 0 [] (by simp))
  · rw [(h1 _ rfl).1]
    exact ICalls.pure ((clone_blk H.ro q false L hL (by simp [Heap.ro, hg])).mono fun v H' h => ⟨_, h.1.frz, by simp [go_sem], rfl⟩)

theorem newReader_blk (H : Heap) (pp : Option Addr) (c : Nat) (L : List Int) (hL : L.length ≤ 1000000) (h : OwnRow H pp L) (hc : pp = none → c = 0) (hs : ∀ a, pp = some a → a.spot = some 1) (h1 : ∀ a, pp = some a → c = 1 ∧ a.off = 0) :
    ICalls Try.prog 26 [.slice pp L.length c] H fun v H' => v = ptrTo H.next 0 ∧ H' = H.alloc (Rd.cells ⟨L, 0, 0⟩) := by
  refine IBody.calls (by kernel_rfl) ?_
  refine IBody.of Try.func26 rfl (by rw [Try.ntmps26]; simp) ?_
  rw [Try.ntmps26]
  refine IWp.seq ?_
  refine IWp.run [0] ?_
  simp [go_sem, -getElem?_pos, -List.map_take, -List.map_drop, List.getElem?_cons_zero, List.getElem?_cons_succ, Go.IntWalk.iteOmega, Go.IntWalk.toNatUp, Rd.cells]
  refine IWp.seq ?_
  refine IWp.run [2] ?_
  simp [go_sem, -getElem?_pos, -List.map_take, -List.map_drop, List.getElem?_cons_zero, List.getElem?_cons_succ, Go.IntWalk.iteOmega, Go.IntWalk.toNatUp, Rd.cells]
  refine ICalls.mono (clone_pblk _ pp c L hL h hc hs h1) ?_
  rintro v H ⟨rfl, rfl⟩
  try simp [go_sem, -getElem?_pos, -List.map_take, -List.map_drop, List.getElem?_cons_zero, List.getElem?_cons_succ, Go.IntWalk.iteOmega, Go.IntWalk.toNatUp, Rd.cells]
  refine IWp.ret ?_
  simp [go_sem, -getElem?_pos, -List.map_take, -List.map_drop, List.getElem?_cons_zero, List.getElem?_cons_succ, Go.IntWalk.iteOmega, Go.IntWalk.toNatUp, Rd.cells, Try.results26]

theorem newReader_bld (H : Heap) (n : Nat) (v : Value) (L : List Int) (hb : Bld 1 H n v (L.map (Value.int .u8))) (hL : L.length ≤ 1000000) :
    ICalls Try.prog 26 [v] H fun v H' => v = ptrTo H.next 0 ∧ H' = H.alloc (Rd.cells ⟨L, 0, 0⟩) := by
  obtain ⟨pq, cq, rfl, hoq, hpq, hqn⟩ := hb.row1
  exact newReader_blk H pq cq L hL hoq hqn (fun a h => (hpq a h).2.2.2.1) (fun a h => ⟨(hpq a h).2.2.2.2, (hpq a h).2.2.1⟩)

theorem WrAt.set {H : Heap} {b : Nat} {r : Option Nat} {L : List Int} (h : WrAt H b r L) {q : Nat} (hb : q ≠ b) (hr : r ≠ some q) (cs : List Value) : WrAt (H.set q cs) b r L := by
  rcases h with ⟨rfl, rfl, hg⟩ | ⟨j, rfl, hne, hg, hq⟩
  · exact .inl ⟨rfl, rfl, by rw [get_set, if_neg (Ne.symm hb)]; exact hg⟩
  · exact .inr ⟨j, rfl, hne, by rw [get_set, if_neg (Ne.symm hb)]; exact hg, by rw [get_set, if_neg (fun e => hr (by rw [e]))]; exact hq⟩

theorem wordFree_law (H : Heap) (L : List Item) (b : Int) (hW : ∀ x ∈ L, x.wf) : IBody Try.prog 8 [frow 2 0 (L.map Item.val), .int .u8 b] H fun v _ => v = .bool true := by
  by_cases hl : 30 < L.length
  · skip
    refine IBody.of Try.func8 rfl (by rw [Try.ntmps8]; simp) ?_
    rw [Try.ntmps8]
    refine IWp.seq ?_
    refine IWp.run [0, 1] ?_
    simp [go_sem, -getElem?_pos, -List.map_take, -List.map_drop, List.getElem?_cons_zero, List.getElem?_cons_succ, Go.IntWalk.iteOmega, Go.IntWalk.toNatUp, show (30 : Int) < L.length by omega]
    refine IWp.seq ?_
    refine IWp.seq ?_
    refine IWp.run [0, 1, 21] ?_
    simp [go_sem, -getElem?_pos, -List.map_take, -List.map_drop, List.getElem?_cons_zero, List.getElem?_cons_succ, Go.IntWalk.iteOmega, Go.IntWalk.toNatUp, show (30 : Int) < L.length by omega]
    refine ICalls.mono (lays _) ?_
    rintro v H ⟨rfl, rfl⟩
    try simp [go_sem, -getElem?_pos, -List.map_take, -List.map_drop, List.getElem?_cons_zero, List.getElem?_cons_succ, Go.IntWalk.iteOmega, Go.IntWalk.toNatUp, show (30 : Int) < L.length by omega]
    refine IWp.cond ?_
    simp [go_sem, -getElem?_pos, -List.map_take, -List.map_drop, List.getElem?_cons_zero, List.getElem?_cons_succ, Go.IntWalk.iteOmega, Go.IntWalk.toNatUp, show (30 : Int) < L.length by omega]
    refine IWp.seq ?_
    refine IWp.run [4] ?_
    simp [go_sem, -getElem?_pos, -List.map_take, -List.map_drop, List.getElem?_cons_zero, List.getElem?_cons_succ, Go.IntWalk.iteOmega, Go.IntWalk.toNatUp, show (30 : Int) < L.length by omega]
    refine ICalls.mono (lays _) ?_
    rintro v H ⟨rfl, rfl⟩
    try simp [go_sem, -getElem?_pos, -List.map_take, -List.map_drop, List.getElem?_cons_zero, List.getElem?_cons_succ, Go.IntWalk.iteOmega, Go.IntWalk.toNatUp, show (30 : Int) < L.length by omega]
    refine IWp.ret ?_
    simp [go_sem, -getElem?_pos, -List.map_take, -List.map_drop, List.getElem?_cons_zero, List.getElem?_cons_succ, Go.IntWalk.iteOmega, Go.IntWalk.toNatUp, show (30 : Int) < L.length by omega, Try.results8]
  · have hlB := layB_len L
    have hBs := layB_bs L
    refine IBody.of Try.func8 rfl (by rw [Try.ntmps8]; simp) ?_
    rw [Try.ntmps8]
    refine IWp.seq ?_
    refine IWp.run [0, 1] ?_
    simp [go_sem, -getElem?_pos, -List.map_take, -List.map_drop, List.getElem?_cons_zero, List.getElem?_cons_succ, Go.IntWalk.iteOmega, Go.IntWalk.toNatUp, show ¬ (30 : Int) < L.length by omega]
    refine IWp.seq ?_
    refine IWp.seq ?_
    refine IWp.run [0, 1, 21] ?_
    simp [go_sem, -getElem?_pos, -List.map_take, -List.map_drop, List.getElem?_cons_zero, List.getElem?_cons_succ, Go.IntWalk.iteOmega, Go.IntWalk.toNatUp, show ¬ (30 : Int) < L.length by omega]
    refine ICalls.mono (lays _) ?_
    rintro v H ⟨rfl, rfl⟩
    try simp [go_sem, -getElem?_pos, -List.map_take, -List.map_drop, List.getElem?_cons_zero, List.getElem?_cons_succ, Go.IntWalk.iteOmega, Go.IntWalk.toNatUp, show ¬ (30 : Int) < L.length by omega]
    refine IWp.cond ?_
    simp [go_sem, -getElem?_pos, -List.map_take, -List.map_drop, List.getElem?_cons_zero, List.getElem?_cons_succ, Go.IntWalk.iteOmega, Go.IntWalk.toNatUp, show ¬ (30 : Int) < L.length by omega]
    refine IWp.trim [0, 1] (IWp.skip ?_)
    simp [go_sem, -getElem?_pos, -List.map_take, -List.map_drop, List.getElem?_cons_zero, List.getElem?_cons_succ, Go.IntWalk.iteOmega, Go.IntWalk.toNatUp, show ¬ (30 : Int) < L.length by omega]
    refine IWp.seq ?_
    refine IWp.run [1, 6] ?_
    simp [go_sem, -getElem?_pos, -List.map_take, -List.map_drop, List.getElem?_cons_zero, List.getElem?_cons_succ, Go.IntWalk.iteOmega, Go.IntWalk.toNatUp, show ¬ (30 : Int) < L.length by omega]
    refine ICalls.mono (lay _ L (by omega) hW) ?_
    rintro v H ⟨rfl, rfl⟩
    try simp [go_sem, -getElem?_pos, -List.map_take, -List.map_drop, List.getElem?_cons_zero, List.getElem?_cons_succ, Go.IntWalk.iteOmega, Go.IntWalk.toNatUp, show ¬ (30 : Int) < L.length by omega]
    refine IWp.seq ?_
    refine IWp.run [1, 6, 7] ?_
    simp [go_sem, -getElem?_pos, -List.map_take, -List.map_drop, List.getElem?_cons_zero, List.getElem?_cons_succ, Go.IntWalk.iteOmega, Go.IntWalk.toNatUp, show ¬ (30 : Int) < L.length by omega]
    refine IWp.seq ?_
    refine IWp.seq ?_
    refine IWp.run [1, 6, 7, 8] ?_
    simp [go_sem, -getElem?_pos, -List.map_take, -List.map_drop, List.getElem?_cons_zero, List.getElem?_cons_succ, Go.IntWalk.iteOmega, Go.IntWalk.toNatUp, show ¬ (30 : Int) < L.length by omega]
    refine IWp.block ?_
    -- LOOP live [1, 6, 7, 8]
    generalize layB L = Q at hlB hBs
    refine IWp.loop (fun j e K => ∃ (i : Nat) (r : Option Nat), j = Q.length - i ∧ i ≤ Q.length ∧ e = [(1, .int .u8 b), (6, byts Q), (7, ptrTo H.next 0), (8, .int .i64 (i : Int))] ∧ WrAt K H.next r (Q.take i)) Q.length ⟨0, none, rfl, Nat.zero_le _, rfl, .inl ⟨rfl, rfl, by simp [go_sem]⟩⟩ ?_
    rintro j e K ⟨i, r, rfl, hi, rfl, hw⟩
    by_cases hlt : i < Q.length
    · have w1 := IntWalk.i64_in ((i : Int) + 1) (by omega)
      refine IWp.seq ?_
      refine IWp.seq ?_
      refine IWp.run [1, 6, 7, 8, 33] ?_
      simp [go_sem, -getElem?_pos, -List.map_take, -List.map_drop, List.getElem?_cons_zero, List.getElem?_cons_succ, Go.IntWalk.iteOmega, Go.IntWalk.toNatUp, hlt, w1, List.getElem?_eq_getElem hlt, show (i : Int) < Q.length by omega, show ¬ ((i : Int) < 0) by omega]
      refine IWp.cond ?_
      simp [go_sem, -getElem?_pos, -List.map_take, -List.map_drop, List.getElem?_cons_zero, List.getElem?_cons_succ, Go.IntWalk.iteOmega, Go.IntWalk.toNatUp, hlt, w1, List.getElem?_eq_getElem hlt, show (i : Int) < Q.length by omega, show ¬ ((i : Int) < 0) by omega]
      refine IWp.trim [1, 6, 7, 8] (IWp.skip ?_)
      simp [go_sem, -getElem?_pos, -List.map_take, -List.map_drop, List.getElem?_cons_zero, List.getElem?_cons_succ, Go.IntWalk.iteOmega, Go.IntWalk.toNatUp, hlt, w1, List.getElem?_eq_getElem hlt, show (i : Int) < Q.length by omega, show ¬ ((i : Int) < 0) by omega]
      refine IWp.seq ?_
      refine IWp.block ?_
      refine IWp.run [1, 6, 7, 8] ?_
      simp [go_sem, -getElem?_pos, -List.map_take, -List.map_drop, List.getElem?_cons_zero, List.getElem?_cons_succ, Go.IntWalk.iteOmega, Go.IntWalk.toNatUp, hlt, w1, List.getElem?_eq_getElem hlt, show (i : Int) < Q.length by omega, show ¬ ((i : Int) < 0) by omega]
      refine ICalls.mono (wByte K H.next r _ Q[i] hw (by simp; omega)) ?_
      rintro v1 K1 ⟨rfl, r1, hw1, s1⟩
      try simp [go_sem, -getElem?_pos, -List.map_take, -List.map_drop, List.getElem?_cons_zero, List.getElem?_cons_succ, Go.IntWalk.iteOmega, Go.IntWalk.toNatUp, hlt, w1, List.getElem?_eq_getElem hlt, show (i : Int) < Q.length by omega, show ¬ ((i : Int) < 0) by omega]
      refine IWp.run [1, 6, 7, 8] ?_
      simp [go_sem, -getElem?_pos, -List.map_take, -List.map_drop, List.getElem?_cons_zero, List.getElem?_cons_succ, Go.IntWalk.iteOmega, Go.IntWalk.toNatUp, hlt, w1, List.getElem?_eq_getElem hlt, show (i : Int) < Q.length by omega, show ¬ ((i : Int) < 0) by omega]
      exact ⟨Q.length - (i + 1), by omega, i + 1, rfl, by omega, rfl, r1, by rw [List.take_succ_eq_append_getElem hlt]; exact hw1⟩
    · rw [List.take_of_length_le (by omega)] at hw
      refine IWp.seq ?_
      refine IWp.seq ?_
      refine IWp.run [1, 6, 7, 8, 33] ?_
      simp [go_sem, -getElem?_pos, -List.map_take, -List.map_drop, List.getElem?_cons_zero, List.getElem?_cons_succ, Go.IntWalk.iteOmega, Go.IntWalk.toNatUp, show ¬ ((i : Int) < Q.length) by omega]
      refine IWp.cond ?_
      simp [go_sem, -getElem?_pos, -List.map_take, -List.map_drop, List.getElem?_cons_zero, List.getElem?_cons_succ, Go.IntWalk.iteOmega, Go.IntWalk.toNatUp, show ¬ ((i : Int) < Q.length) by omega]
      refine IWp.trim [1, 6, 7] (IWp.exit ?_)
      simp [go_sem, -getElem?_pos, -List.map_take, -List.map_drop, List.getElem?_cons_zero, List.getElem?_cons_succ, Go.IntWalk.iteOmega, Go.IntWalk.toNatUp, show ¬ ((i : Int) < Q.length) by omega]
      refine IWp.seq ?_
      refine IWp.run [1, 6, 7, 9] ?_
      simp [go_sem, -getElem?_pos, -List.map_take, -List.map_drop, List.getElem?_cons_zero, List.getElem?_cons_succ, Go.IntWalk.iteOmega, Go.IntWalk.toNatUp, show ¬ ((i : Int) < Q.length) by omega]
      refine ICalls.mono (wBytes_own _ _ _ hw.wrv (by omega)) ?_
      rintro v K1 ⟨b1, s1⟩
      try simp [go_sem, -getElem?_pos, -List.map_take, -List.map_drop, List.getElem?_cons_zero, List.getElem?_cons_succ, Go.IntWalk.iteOmega, Go.IntWalk.toNatUp, show ¬ ((i : Int) < Q.length) by omega]
      refine IWp.seq ?_
      refine IWp.seq ?_
      refine IWp.run [1, 6, 7, 9, 10] ?_
      simp [go_sem, -getElem?_pos, -List.map_take, -List.map_drop, List.getElem?_cons_zero, List.getElem?_cons_succ, Go.IntWalk.iteOmega, Go.IntWalk.toNatUp, show ¬ ((i : Int) < Q.length) by omega]
      refine IWp.block ?_
      -- LOOP live [1, 6, 7, 9, 10]
      obtain ⟨pp, c, rfl, ho, hpp, hpn⟩ := b1.row1
      have hw1 : WrAt K1 H.next r Q := hw.same s1.1
      have hsep : ∀ a, pp = some a → a.block ≠ H.next ∧ r ≠ some a.block := fun a ha => by
        have h1 := (hpp a ha).1
        have h2 := hw.lt
        exact ⟨by omega, fun h => by have := h2.2 _ h; omega⟩
      clear hlt hi hw
      refine IWp.loop (fun j e K => ∃ i : Nat, j = Q.length - i ∧ i ≤ Q.length ∧ e = [(1, .int .u8 b), (6, byts Q), (7, ptrTo H.next 0), (9, .slice pp Q.length c), (10, .int .i64 (i : Int))] ∧ WrAt K H.next r Q ∧ OwnRow K pp (over Q b i)) Q.length ⟨0, rfl, Nat.zero_le _, rfl, hw1, by simpa [over] using ho⟩ ?_
      rintro j e K2 ⟨i, rfl, hi, rfl, hw2, ho2⟩
      by_cases hlt : i < Q.length
      · have w1 := IntWalk.i64_in ((i : Int) + 1) (by omega)
        obtain ⟨q, rfl, hg⟩ : ∃ q, pp = some ⟨q, 0, some 1⟩ ∧ K2.get q = some ⟨(over Q b i).map (Value.int .u8), true⟩ := by
          rcases ho2 with h | h
          · have := over_len Q b i hi; rw [h] at this; simp at this; omega
          · exact h
        have hol := over_len Q b i hi
        have hset := over_set Q b i hlt
        refine IWp.seq ?_
        refine IWp.seq ?_
        refine IWp.run [1, 6, 7, 9, 10, 47] ?_
        simp [go_sem, -getElem?_pos, -List.map_take, -List.map_drop, List.getElem?_cons_zero, List.getElem?_cons_succ, Go.IntWalk.iteOmega, Go.IntWalk.toNatUp, hlt, w1, hg, hol, splice_one, hset, show (i : Int) < Q.length by omega, show ¬ ((i : Int) < 0) by omega, show i + 1 ≤ Q.length by omega]
        refine IWp.cond ?_
        simp [go_sem, -getElem?_pos, -List.map_take, -List.map_drop, List.getElem?_cons_zero, List.getElem?_cons_succ, Go.IntWalk.iteOmega, Go.IntWalk.toNatUp, hlt, w1, hg, hol, splice_one, hset, show (i : Int) < Q.length by omega, show ¬ ((i : Int) < 0) by omega, show i + 1 ≤ Q.length by omega]
        refine IWp.trim [1, 6, 7, 9, 10] (IWp.skip ?_)
        simp [go_sem, -getElem?_pos, -List.map_take, -List.map_drop, List.getElem?_cons_zero, List.getElem?_cons_succ, Go.IntWalk.iteOmega, Go.IntWalk.toNatUp, hlt, w1, hg, hol, splice_one, hset, show (i : Int) < Q.length by omega, show ¬ ((i : Int) < 0) by omega, show i + 1 ≤ Q.length by omega]
        refine IWp.seq ?_
        refine IWp.block ?_
        refine IWp.run [1, 6, 7, 9, 10] ?_
        simp [go_sem, -getElem?_pos, -List.map_take, -List.map_drop, List.getElem?_cons_zero, List.getElem?_cons_succ, Go.IntWalk.iteOmega, Go.IntWalk.toNatUp, hlt, w1, hg, hol, splice_one, hset, show (i : Int) < Q.length by omega, show ¬ ((i : Int) < 0) by omega, show i + 1 ≤ Q.length by omega]
        refine IWp.run [1, 6, 7, 9, 10] ?_
        simp [go_sem, -getElem?_pos, -List.map_take, -List.map_drop, List.getElem?_cons_zero, List.getElem?_cons_succ, Go.IntWalk.iteOmega, Go.IntWalk.toNatUp, hlt, w1, hg, hol, splice_one, hset, show (i : Int) < Q.length by omega, show ¬ ((i : Int) < 0) by omega, show i + 1 ≤ Q.length by omega]
        exact ⟨Q.length - (i + 1), by omega, i + 1, rfl, by omega, rfl, hw2.set (hsep _ rfl).1 (hsep _ rfl).2 _, .inr ⟨q, rfl, by simp [get_set, hg]⟩⟩
      · skip
        refine IWp.seq ?_
        refine IWp.seq ?_
        refine IWp.run [1, 6, 7, 9, 10, 47] ?_
        simp [go_sem, -getElem?_pos, -List.map_take, -List.map_drop, List.getElem?_cons_zero, List.getElem?_cons_succ, Go.IntWalk.iteOmega, Go.IntWalk.toNatUp, show ¬ ((i : Int) < Q.length) by omega]
        refine IWp.cond ?_
        simp [go_sem, -getElem?_pos, -List.map_take, -List.map_drop, List.getElem?_cons_zero, List.getElem?_cons_succ, Go.IntWalk.iteOmega, Go.IntWalk.toNatUp, show ¬ ((i : Int) < Q.length) by omega]
        refine IWp.trim [1, 6, 7] (IWp.exit ?_)
        simp [go_sem, -getElem?_pos, -List.map_take, -List.map_drop, List.getElem?_cons_zero, List.getElem?_cons_succ, Go.IntWalk.iteOmega, Go.IntWalk.toNatUp, show ¬ ((i : Int) < Q.length) by omega]
        refine IWp.seq ?_
        refine IWp.run [1, 6, 11] ?_
        simp [go_sem, -getElem?_pos, -List.map_take, -List.map_drop, List.getElem?_cons_zero, List.getElem?_cons_succ, Go.IntWalk.iteOmega, Go.IntWalk.toNatUp, show ¬ ((i : Int) < Q.length) by omega]
        refine ICalls.mono (wBytes_own _ _ _ hw2.wrv (by omega)) ?_
        rintro v K3 ⟨b3, s3⟩
        obtain ⟨pq, cq, rfl, hoq, hpq, hqn⟩ := b3.row1
        try simp [go_sem, -getElem?_pos, -List.map_take, -List.map_drop, List.getElem?_cons_zero, List.getElem?_cons_succ, Go.IntWalk.iteOmega, Go.IntWalk.toNatUp, show ¬ ((i : Int) < Q.length) by omega]
        refine IWp.seq ?_
        refine IWp.run [1, 6, 11, 12] ?_
        simp [go_sem, -getElem?_pos, -List.map_take, -List.map_drop, List.getElem?_cons_zero, List.getElem?_cons_succ, Go.IntWalk.iteOmega, Go.IntWalk.toNatUp, show ¬ ((i : Int) < Q.length) by omega]
        refine ICalls.mono (newReader_bld _ _ _ Q b3 (by omega)) ?_
        rintro v _ ⟨rfl, rfl⟩
        try simp [go_sem, -getElem?_pos, -List.map_take, -List.map_drop, List.getElem?_cons_zero, List.getElem?_cons_succ, Go.IntWalk.iteOmega, Go.IntWalk.toNatUp, show ¬ ((i : Int) < Q.length) by omega]
        refine IWp.seq ?_
        refine IWp.seq ?_
        refine IWp.run [1, 6, 11, 12, 13] ?_
        simp [go_sem, -getElem?_pos, -List.map_take, -List.map_drop, List.getElem?_cons_zero, List.getElem?_cons_succ, Go.IntWalk.iteOmega, Go.IntWalk.toNatUp, show ¬ ((i : Int) < Q.length) by omega]
        refine IWp.block ?_
        -- LOOP live [1, 6, 11, 12, 13]
        clear ho2 hpp hpn hsep hw1 ho s1 b1
        refine IWp.loop (fun j e K => ∃ (i : Nat) (M : Heap), j = Q.length - i ∧ i ≤ Q.length ∧ e = [(1, .int .u8 b), (6, byts Q), (11, .slice pq Q.length cq), (12, ptrTo K3.next 0), (13, .int .i64 (i : Int))] ∧ K = M.alloc (Rd.cells ⟨Q, 0, 0⟩) ∧ M.next = K3.next ∧ OwnRow M pq (over Q b i)) Q.length ⟨0, K3, rfl, Nat.zero_le _, rfl, rfl, rfl, by simpa [over] using hoq⟩ ?_
        rintro j e K4 ⟨k, M, rfl, hk, rfl, rfl, hM, ho4⟩
        by_cases hlt : k < Q.length
        · have w1 := IntWalk.i64_in ((k : Int) + 1) (by omega)
          obtain ⟨q, rfl, hg⟩ : ∃ q, pq = some ⟨q, 0, some 1⟩ ∧ M.get q = some ⟨(over Q b k).map (Value.int .u8), true⟩ := by
            rcases ho4 with h | h
            · have := over_len Q b k hk; rw [h] at this; simp at this; omega
            · exact h
          have hol := over_len Q b k hk
          have hset := over_set Q b k hlt
          have hqM := Heap.lt_of_get hg
          have hqne : ¬ q = M.next := by omega
          refine IWp.seq ?_
          refine IWp.seq ?_
          refine IWp.run [1, 6, 11, 12, 13, 61] ?_
          simp [go_sem, -getElem?_pos, -List.map_take, -List.map_drop, List.getElem?_cons_zero, List.getElem?_cons_succ, Go.IntWalk.iteOmega, Go.IntWalk.toNatUp, hlt, w1, hg, hol, splice_one, hset, hqM, hqne, show (k : Int) < Q.length by omega, show ¬ ((k : Int) < 0) by omega, show k + 1 ≤ Q.length by omega]
          refine IWp.cond ?_
          simp [go_sem, -getElem?_pos, -List.map_take, -List.map_drop, List.getElem?_cons_zero, List.getElem?_cons_succ, Go.IntWalk.iteOmega, Go.IntWalk.toNatUp, hlt, w1, hg, hol, splice_one, hset, hqM, hqne, show (k : Int) < Q.length by omega, show ¬ ((k : Int) < 0) by omega, show k + 1 ≤ Q.length by omega]
          refine IWp.trim [1, 6, 11, 12, 13] (IWp.skip ?_)
          simp [go_sem, -getElem?_pos, -List.map_take, -List.map_drop, List.getElem?_cons_zero, List.getElem?_cons_succ, Go.IntWalk.iteOmega, Go.IntWalk.toNatUp, hlt, w1, hg, hol, splice_one, hset, hqM, hqne, show (k : Int) < Q.length by omega, show ¬ ((k : Int) < 0) by omega, show k + 1 ≤ Q.length by omega]
          refine IWp.seq ?_
          refine IWp.block ?_
          refine IWp.run [1, 6, 11, 12, 13] ?_
          simp [go_sem, -getElem?_pos, -List.map_take, -List.map_drop, List.getElem?_cons_zero, List.getElem?_cons_succ, Go.IntWalk.iteOmega, Go.IntWalk.toNatUp, hlt, w1, hg, hol, splice_one, hset, hqM, hqne, show (k : Int) < Q.length by omega, show ¬ ((k : Int) < 0) by omega, show k + 1 ≤ Q.length by omega]
          refine IWp.run [1, 6, 11, 12, 13] ?_
          simp [go_sem, -getElem?_pos, -List.map_take, -List.map_drop, List.getElem?_cons_zero, List.getElem?_cons_succ, Go.IntWalk.iteOmega, Go.IntWalk.toNatUp, hlt, w1, hg, hol, splice_one, hset, hqM, hqne, show (k : Int) < Q.length by omega, show ¬ ((k : Int) < 0) by omega, show k + 1 ≤ Q.length by omega]
          exact ⟨Q.length - (k + 1), by omega, k + 1, rfl, by omega, rfl, M.set q ((over Q b (k + 1)).map (Value.int .u8)), rfl, hM, .inr ⟨q, rfl, by simp [get_set, hg]⟩⟩
        · skip
          refine IWp.seq ?_
          refine IWp.seq ?_
          refine IWp.run [1, 6, 11, 12, 13, 61] ?_
          simp [go_sem, -getElem?_pos, -List.map_take, -List.map_drop, List.getElem?_cons_zero, List.getElem?_cons_succ, Go.IntWalk.iteOmega, Go.IntWalk.toNatUp, show ¬ ((k : Int) < Q.length) by omega]
          refine IWp.cond ?_
          simp [go_sem, -getElem?_pos, -List.map_take, -List.map_drop, List.getElem?_cons_zero, List.getElem?_cons_succ, Go.IntWalk.iteOmega, Go.IntWalk.toNatUp, show ¬ ((k : Int) < Q.length) by omega]
          refine IWp.trim [6, 12] (IWp.exit ?_)
          simp [go_sem, -getElem?_pos, -List.map_take, -List.map_drop, List.getElem?_cons_zero, List.getElem?_cons_succ, Go.IntWalk.iteOmega, Go.IntWalk.toNatUp, show ¬ ((k : Int) < Q.length) by omega]
          refine IWp.seq ?_
          refine IWp.seq ?_
          refine IWp.run [6, 12, 14] ?_
          simp [go_sem, -getElem?_pos, -List.map_take, -List.map_drop, List.getElem?_cons_zero, List.getElem?_cons_succ, Go.IntWalk.iteOmega, Go.IntWalk.toNatUp, show ¬ ((k : Int) < Q.length) by omega]
          refine IWp.block ?_
          -- LOOP live [6, 12, 14]
          clear hlt ho4
          refine IWp.loop (fun j e K => ∃ i : Nat, j = Q.length - i ∧ i ≤ Q.length ∧ e = [(6, byts Q), (12, ptrTo K3.next 0), (14, .int .i64 (i : Int))] ∧ K = M.alloc (Rd.cells ⟨Q, i, 0⟩)) Q.length ⟨0, rfl, Nat.zero_le _, rfl, rfl⟩ ?_
          rintro j e K5 ⟨i, rfl, hi, rfl, rfl⟩
          have hok : (Rd.mk Q i 0).ok := ⟨hi, by show Q.length ≤ _; omega, hBs⟩
          rw [← hM]
          by_cases hlt : i < Q.length
          · have w1 := IntWalk.i64_in ((i : Int) + 1) (by omega)
            refine IWp.seq ?_
            refine IWp.seq ?_
            refine IWp.run [6, 12, 14, 71] ?_
            simp [go_sem, -getElem?_pos, -List.map_take, -List.map_drop, List.getElem?_cons_zero, List.getElem?_cons_succ, Go.IntWalk.iteOmega, Go.IntWalk.toNatUp, hlt, w1, List.getElem?_eq_getElem hlt, byte_at Q i hlt, show (i : Int) < Q.length by omega, show ¬ ((i : Int) < 0) by omega]
            refine IWp.cond ?_
            simp [go_sem, -getElem?_pos, -List.map_take, -List.map_drop, List.getElem?_cons_zero, List.getElem?_cons_succ, Go.IntWalk.iteOmega, Go.IntWalk.toNatUp, hlt, w1, List.getElem?_eq_getElem hlt, byte_at Q i hlt, show (i : Int) < Q.length by omega, show ¬ ((i : Int) < 0) by omega]
            refine IWp.trim [6, 12, 14] (IWp.skip ?_)
            simp [go_sem, -getElem?_pos, -List.map_take, -List.map_drop, List.getElem?_cons_zero, List.getElem?_cons_succ, Go.IntWalk.iteOmega, Go.IntWalk.toNatUp, hlt, w1, List.getElem?_eq_getElem hlt, byte_at Q i hlt, show (i : Int) < Q.length by omega, show ¬ ((i : Int) < 0) by omega]
            refine IWp.seq ?_
            refine IWp.block ?_
            refine IWp.seq ?_
            refine IWp.draw [6, 12, 14, 80] [] (.val 0 (.val 2 (.val 3 (.val 4 (.val 5 (.eff 1 (.val 6 .done) .done)))))) follows (by kernel_rfl) ?_
            simp [go_sem, -getElem?_pos, -List.map_take, -List.map_drop, List.getElem?_cons_zero, List.getElem?_cons_succ, Go.IntWalk.iteOmega, Go.IntWalk.toNatUp, hlt, w1, List.getElem?_eq_getElem hlt, byte_at Q i hlt, show (i : Int) < Q.length by omega, show ¬ ((i : Int) < 0) by omega]
            refine ICalls.mono (rByte _ _ _ hok (by simp [go_sem, Go.IntWalk.iteOmega])) ?_
            rintro v _ ⟨rfl, rfl⟩
            try simp [go_sem, -getElem?_pos, -List.map_take, -List.map_drop, List.getElem?_cons_zero, List.getElem?_cons_succ, Go.IntWalk.iteOmega, Go.IntWalk.toNatUp, hlt, w1, List.getElem?_eq_getElem hlt, byte_at Q i hlt, show (i : Int) < Q.length by omega, show ¬ ((i : Int) < 0) by omega]
            refine IWp.cond ?_
            simp [go_sem, -getElem?_pos, -List.map_take, -List.map_drop, List.getElem?_cons_zero, List.getElem?_cons_succ, Go.IntWalk.iteOmega, Go.IntWalk.toNatUp, hlt, w1, List.getElem?_eq_getElem hlt, byte_at Q i hlt, show (i : Int) < Q.length by omega, show ¬ ((i : Int) < 0) by omega]
            refine IWp.trim [6, 12, 14] (IWp.skip ?_)
            simp [go_sem, -getElem?_pos, -List.map_take, -List.map_drop, List.getElem?_cons_zero, List.getElem?_cons_succ, Go.IntWalk.iteOmega, Go.IntWalk.toNatUp, hlt, w1, List.getElem?_eq_getElem hlt, byte_at Q i hlt, show (i : Int) < Q.length by omega, show ¬ ((i : Int) < 0) by omega]
            refine IWp.run [6, 12, 14] ?_
            simp [go_sem, -getElem?_pos, -List.map_take, -List.map_drop, List.getElem?_cons_zero, List.getElem?_cons_succ, Go.IntWalk.iteOmega, Go.IntWalk.toNatUp, hlt, w1, List.getElem?_eq_getElem hlt, byte_at Q i hlt, show (i : Int) < Q.length by omega, show ¬ ((i : Int) < 0) by omega]
            exact ⟨Q.length - (i + 1), by omega, i + 1, rfl, by omega, rfl, rfl⟩
          · have hiQ : i = Q.length := by omega
            subst hiQ
            have e4 : (Rd.mk Q Q.length 0).left = 0 := by rw [Rd.left_ok rfl]; simp
            refine IWp.seq ?_
            refine IWp.seq ?_
            refine IWp.run [6, 12, 14, 71] ?_
            simp [go_sem, -getElem?_pos, -List.map_take, -List.map_drop, List.getElem?_cons_zero, List.getElem?_cons_succ, Go.IntWalk.iteOmega, Go.IntWalk.toNatUp, e4]
            refine IWp.cond ?_
            simp [go_sem, -getElem?_pos, -List.map_take, -List.map_drop, List.getElem?_cons_zero, List.getElem?_cons_succ, Go.IntWalk.iteOmega, Go.IntWalk.toNatUp, e4]
            refine IWp.trim [12] (IWp.exit ?_)
            simp [go_sem, -getElem?_pos, -List.map_take, -List.map_drop, List.getElem?_cons_zero, List.getElem?_cons_succ, Go.IntWalk.iteOmega, Go.IntWalk.toNatUp, e4]
            refine IWp.seq ?_
            refine IWp.run [4] ?_
            simp [go_sem, -getElem?_pos, -List.map_take, -List.map_drop, List.getElem?_cons_zero, List.getElem?_cons_succ, Go.IntWalk.iteOmega, Go.IntWalk.toNatUp, e4]
            refine ICalls.mono (rLeft _ _ _ hok (by simp [go_sem, Go.IntWalk.iteOmega])) ?_
            rintro v H ⟨rfl, rfl⟩
            try simp [go_sem, -getElem?_pos, -List.map_take, -List.map_drop, List.getElem?_cons_zero, List.getElem?_cons_succ, Go.IntWalk.iteOmega, Go.IntWalk.toNatUp, e4]
            refine IWp.ret ?_
            simp [go_sem, -getElem?_pos, -List.map_take, -List.map_drop, List.getElem?_cons_zero, List.getElem?_cons_succ, Go.IntWalk.iteOmega, Go.IntWalk.toNatUp, e4, Try.results8]

end Go.Proofs.Ytneiiglfdhghkaa.I
