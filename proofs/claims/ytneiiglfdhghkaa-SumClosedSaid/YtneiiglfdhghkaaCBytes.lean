/- Rows of bytes: copied, compared, joined. No condition. -/
import Derived.Test.YtneiiglfdhghkaaITab
import Derived.Test.YtneiiglfdhghkaaIDraw
import Derived.Test.YtneiiglfdhghkaaIRows
namespace Go.Proofs.Ytneiiglfdhghkaa.I
open Go Go.RowKit
set_option linter.unusedVariables false
set_option linter.unusedSimpArgs false

def byteCells (L : List Int) : List Value := L.map (Value.int .u8)
theorem byteCells_length (L : List Int) : (byteCells L).length = L.length := by simp [byteCells]
theorem byteCells_append (L M : List Int) : byteCells L ++ byteCells M = byteCells (L ++ M) := by simp [byteCells]
theorem u8s_cells (L : List Int) : u8s (byteCells L) = some L := u8s_map L
theorem byteCells_one (L : List Int) : (byteCells L).all one0 = true := by simp [byteCells, one0]

/-- What a slice of bytes shows. -/
def Row (H : Heap) (p : Option Addr) (c : Nat) (L : List Int) : Prop :=
  (p = none ∧ c = 0 ∧ L = []) ∨ (L = [] ∧ ∃ b o, p = some ⟨b, o, some 1⟩) ∨
  (L ≠ [] ∧ ∃ b o cs own, p = some ⟨b, o, some 1⟩ ∧ H.get b = some ⟨cs, own⟩ ∧ o + L.length ≤ cs.length ∧ (cs.drop o).take L.length = byteCells L)

/-- A row that nobody else holds, of a block from n on. -/
def Own (H : Heap) (n : Nat) (p : Option Addr) (c : Nat) (L : List Int) : Prop :=
  (p = none ∧ c = 0 ∧ L = []) ∨ (∃ b, n ≤ b ∧ p = some ⟨b, 0, some 1⟩ ∧ c = 1 ∧ H.get b = some ⟨byteCells L, true⟩)

theorem Own.row {H : Heap} {n : Nat} {p : Option Addr} {c : Nat} {L : List Int} (h : Own H n p c L) : Row H p c L := by
  rcases h with h | ⟨b, _, h1, h2, h3⟩
  · exact .inl h
  · by_cases hL : L = []
    · exact .inr (.inl ⟨hL, b, 0, h1⟩)
    · exact .inr (.inr ⟨hL, b, 0, _, _, h1, h3, by rw [byteCells_length]; omega, by rw [List.drop_zero, ← byteCells_length, List.take_length]⟩)

theorem Row.same {H K : Heap} {p : Option Addr} {c : Nat} {L : List Int} (h : Row H p c L) (hs : ∀ b k, H.get b = some k → K.get b = some k) : Row K p c L := by
  rcases h with h | h | ⟨h1, b, o, cs, own, h2, h3, h4⟩
  · exact .inl h
  · exact .inr (.inl h)
  · exact .inr (.inr ⟨h1, b, o, cs, own, h2, hs _ _ h3, h4⟩)

/-- What stood before stands. -/
def Old (H K : Heap) : Prop := (∀ b, b < H.next → K.get b = H.get b) ∧ H.next ≤ K.next
theorem Old.refl (H : Heap) : Old H H := ⟨fun _ _ => rfl, Nat.le_refl _⟩
theorem Old.trans {A B C : Heap} (h : Old A B) (k : Old B C) : Old A C := ⟨fun b hb => (k.1 b (Nat.lt_of_lt_of_le hb h.2)).trans (h.1 b hb), Nat.le_trans h.2 k.2⟩
theorem Old.some {H K : Heap} (h : Old H K) (b : Nat) (k : Blk) (e : H.get b = some k) : K.get b = some k := by rw [h.1 b (Heap.lt_of_get e)]; exact e

theorem Old.alloc {H K : Heap} (h : Old H K) (cs : List Value) : Old H (K.alloc cs) := ⟨fun b hb => by rw [Heap.get_alloc_lt _ _ _ (Nat.lt_of_lt_of_le hb h.2)]; exact h.1 b hb, by rw [next_alloc]; exact Nat.le_succ_of_le h.2⟩
theorem Old.kill {H K : Heap} (h : Old H K) {q : Nat} (hq : H.next ≤ q) : Old H (K.kill q) := ⟨fun b hb => by rw [get_kill, if_neg (by omega)]; exact h.1 b hb, h.2⟩

/-- A row of bytes appended onto an own one. -/
theorem app_bytes {P : Program} {t e : TypeId} (he : tElem P t = some e) (hs : tSize P e = some 1) (hb : tBytes P e = some 1) (hz : tZero P e = some (.int .u8 0)) {H : Heap} {n : Nat} {p q : Option Addr} {c d : Nat} {L M : List Int}
    (ho : Own H n p c L) (hr : Row H q d M) (hn : n ≤ H.next) (hlen : L.length + M.length ≤ 1000000) :
    ∃ p' c' H', iapp P t (.slice p L.length c) (.slice q M.length d) H = some (.slice p' (L ++ M).length c', H') ∧ Own H' n p' c' (L ++ M) ∧ (∀ b, b < n → H'.get b = H.get b) ∧ H.next ≤ H'.next ∧
      (∀ b k, H.get b = some k → (∀ o s, p ≠ some ⟨b, o, s⟩) → H'.get b = some k) := by
  have hrow : irow 1 (.slice q M.length d) H = some (M.length, byteCells M) := by
    rcases hr with ⟨rfl, rfl, rfl⟩ | ⟨rfl, b, o, rfl⟩ | ⟨hne, b, o, cs, own, rfl, hg, hle, hrow⟩
    · rfl
    · rfl
    · have h0 : ¬ M.length = 0 := by simpa using hne
      rw [irow_row, if_neg h0, if_pos rfl, row_eq, hg]
      simp [hle, hrow]
  by_cases hM : M = []
  · subst hM
    refine ⟨p, c, H, ?_, by simpa using ho, fun _ _ => rfl, Nat.le_refl _, fun b k h _ => h⟩
    rcases ho with ⟨rfl, rfl, rfl⟩ | ⟨b, h1, rfl, rfl, h2⟩
    · simp only [List.length_nil] at hrow
      simp [iapp_nil, he, hs, hb, hz, hrow, Value.cells]
    · simp only [List.length_nil] at hrow
      simp [iapp_row, he, hs, hb, hz, hrow, Value.cells]
  · have h0 : ¬ M.length = 0 := by simpa using hM
    rcases ho with ⟨rfl, rfl, rfl⟩ | ⟨b, h1, rfl, rfl, h2⟩
    · refine ⟨some ⟨H.next, 0, some 1⟩, 1, H.alloc (byteCells M), ?_, .inr ⟨H.next, hn, rfl, rfl, by simp [get_alloc]⟩, fun b hb => by rw [get_alloc, if_neg (by omega)], by simp [next_alloc], fun b k h _ => by rw [Heap.get_alloc_lt _ _ _ (Heap.lt_of_get h)]; exact h⟩
      simp only [List.length_nil] at hlen ⊢
      simp [iapp_nil, he, hs, hb, hz, hrow, Value.cells, hM, show M.length ≤ 1099511627776 by omega, show M.length + 768 ≤ 70368744177664 by omega]
    · have hlt := Heap.lt_of_get h2
      refine ⟨some ⟨H.next, 0, some 1⟩, 1, (H.kill b).alloc (byteCells (L ++ M)), ?_, .inr ⟨H.next, hn, rfl, rfl, by simp [get_alloc, next_kill]⟩, fun b' hb => by rw [get_alloc, next_kill, if_neg (by omega), get_kill, if_neg (by omega)], by simp [next_alloc, next_kill],
        fun b' k h hp => ?_⟩
      · have hold : (if L.length = 0 then some [] else H.row b 0 (L.length * 1)) = some (byteCells L) := by
          by_cases hL : L = []
          · subst hL; rfl
          · rw [if_neg (by simpa using hL), row_eq, h2]
            simp [byteCells_length]
            exact List.take_of_length_le (by rw [byteCells_length]; exact Nat.le_refl _)
        simp only [iapp_row, he, hs, hb, hz, hrow, Value.cells, Option.bind_some, h2, byteCells_one, hold]
        simp [hM, byteCells_append, show L.length + M.length ≤ 1099511627776 by omega, show L.length + M.length + 768 ≤ 70368744177664 by omega]
      · have hne : b' ≠ b := fun e => hp 0 (some 1) (by rw [e])
        rw [get_alloc, next_kill, if_neg (by have := Heap.lt_of_get h; omega), get_kill, if_neg hne]; exact h

theorem clone (H : Heap) (p : Option Addr) (c : Nat) (L : List Int) (hL : L.length ≤ 100000) (h : Row H p c L) :
    ICalls Try.prog 42 [.slice p L.length c] H fun v H' => ∃ p' c', v = .slice p' L.length c' ∧ Own H' H.next p' c' L ∧ Old H H' := by
  refine IBody.calls (by kernel_rfl) ?_
  rcases h with ⟨rfl, rfl, rfl⟩ | ⟨rfl, b, o, rfl⟩ | ⟨hne, b, o, cs, own, rfl, hg, hle, hrow⟩
  · skip
    refine IBody.of Try.func42 rfl (by rw [Try.ntmps42]; simp) ?_
    rw [Try.ntmps42]
    refine IWp.seq ?_
    refine IWp.run [0] ?_
    simp [go_sem, -getElem?_pos, List.getElem?_cons_zero, List.getElem?_cons_succ, Go.IntWalk.iteOmega, Go.IntWalk.toNatUp]
    refine IWp.seq ?_
    refine IWp.seq ?_
    refine IWp.run [0, 4] ?_
    simp [go_sem, -getElem?_pos, List.getElem?_cons_zero, List.getElem?_cons_succ, Go.IntWalk.iteOmega, Go.IntWalk.toNatUp]
    refine IWp.cond ?_
    simp [go_sem, -getElem?_pos, List.getElem?_cons_zero, List.getElem?_cons_succ, Go.IntWalk.iteOmega, Go.IntWalk.toNatUp]
    refine IWp.seq ?_
    refine IWp.run [2] ?_
    simp [go_sem, -getElem?_pos, List.getElem?_cons_zero, List.getElem?_cons_succ, Go.IntWalk.iteOmega, Go.IntWalk.toNatUp]
    refine IWp.ret ?_
    simp [go_sem, -getElem?_pos, List.getElem?_cons_zero, List.getElem?_cons_succ, Go.IntWalk.iteOmega, Go.IntWalk.toNatUp, Try.results42]
    exact ⟨none, 0, ⟨rfl, rfl⟩, .inl ⟨rfl, rfl, rfl⟩, Old.refl H⟩
  · skip
    refine IBody.of Try.func42 rfl (by rw [Try.ntmps42]; simp) ?_
    rw [Try.ntmps42]
    refine IWp.seq ?_
    refine IWp.run [0] ?_
    simp [go_sem, -getElem?_pos, List.getElem?_cons_zero, List.getElem?_cons_succ, Go.IntWalk.iteOmega, Go.IntWalk.toNatUp]
    refine IWp.seq ?_
    refine IWp.seq ?_
    refine IWp.run [0, 4] ?_
    simp [go_sem, -getElem?_pos, List.getElem?_cons_zero, List.getElem?_cons_succ, Go.IntWalk.iteOmega, Go.IntWalk.toNatUp]
    refine IWp.cond ?_
    simp [go_sem, -getElem?_pos, List.getElem?_cons_zero, List.getElem?_cons_succ, Go.IntWalk.iteOmega, Go.IntWalk.toNatUp]
    refine IWp.trim [0] (IWp.skip ?_)
    simp [go_sem, -getElem?_pos, List.getElem?_cons_zero, List.getElem?_cons_succ, Go.IntWalk.iteOmega, Go.IntWalk.toNatUp]
    refine IWp.seq ?_
    refine IWp.run [2] ?_
    simp [go_sem, -getElem?_pos, List.getElem?_cons_zero, List.getElem?_cons_succ, Go.IntWalk.iteOmega, Go.IntWalk.toNatUp]
    refine IWp.ret ?_
    simp [go_sem, -getElem?_pos, List.getElem?_cons_zero, List.getElem?_cons_succ, Go.IntWalk.iteOmega, Go.IntWalk.toNatUp, Try.results42]
    exact ⟨_, _, ⟨rfl, rfl⟩, .inr ⟨H.next, Nat.le_refl _, rfl, rfl, by simp [get_alloc, byteCells]⟩, (Old.refl H).alloc _⟩
  · have hlt := Heap.lt_of_get hg
    have hn : ¬ b = H.next := by omega
    have hl0 : ¬ L.length = 0 := by simpa using hne
    refine IBody.of Try.func42 rfl (by rw [Try.ntmps42]; simp) ?_
    rw [Try.ntmps42]
    refine IWp.seq ?_
    refine IWp.run [0] ?_
    simp [go_sem, -getElem?_pos, List.getElem?_cons_zero, List.getElem?_cons_succ, Go.IntWalk.iteOmega, Go.IntWalk.toNatUp, hg, hn, hne, hle, hrow, byteCells_one, show L.length ≤ 1099511627776 by omega, show L.length + 768 ≤ 70368744177664 by omega]
    refine IWp.seq ?_
    refine IWp.seq ?_
    refine IWp.run [0, 4] ?_
    simp [go_sem, -getElem?_pos, List.getElem?_cons_zero, List.getElem?_cons_succ, Go.IntWalk.iteOmega, Go.IntWalk.toNatUp, hg, hn, hne, hle, hrow, byteCells_one, show L.length ≤ 1099511627776 by omega, show L.length + 768 ≤ 70368744177664 by omega]
    refine IWp.cond ?_
    simp [go_sem, -getElem?_pos, List.getElem?_cons_zero, List.getElem?_cons_succ, Go.IntWalk.iteOmega, Go.IntWalk.toNatUp, hg, hn, hne, hle, hrow, byteCells_one, show L.length ≤ 1099511627776 by omega, show L.length + 768 ≤ 70368744177664 by omega]
    refine IWp.trim [0] (IWp.skip ?_)
    simp [go_sem, -getElem?_pos, List.getElem?_cons_zero, List.getElem?_cons_succ, Go.IntWalk.iteOmega, Go.IntWalk.toNatUp, hg, hn, hne, hle, hrow, byteCells_one, show L.length ≤ 1099511627776 by omega, show L.length + 768 ≤ 70368744177664 by omega]
    refine IWp.seq ?_
    refine IWp.run [2] ?_
    simp [go_sem, -getElem?_pos, List.getElem?_cons_zero, List.getElem?_cons_succ, Go.IntWalk.iteOmega, Go.IntWalk.toNatUp, hg, hn, hne, hle, hrow, byteCells_one, show L.length ≤ 1099511627776 by omega, show L.length + 768 ≤ 70368744177664 by omega]
    refine IWp.ret ?_
    simp [go_sem, -getElem?_pos, List.getElem?_cons_zero, List.getElem?_cons_succ, Go.IntWalk.iteOmega, Go.IntWalk.toNatUp, hg, hn, hne, hle, hrow, byteCells_one, show L.length ≤ 1099511627776 by omega, show L.length + 768 ≤ 70368744177664 by omega, Try.results42]
    exact ⟨_, _, ⟨rfl, rfl⟩, .inr ⟨H.next + 1, by omega, rfl, rfl, by simp [get_alloc, next_alloc, next_kill]⟩, (((Old.refl H).alloc _).kill (Nat.le_refl _)).alloc _⟩

theorem join (H : Heap) (p q : Option Addr) (c d : Nat) (L M : List Int) (hL : L.length ≤ 100000) (hM : M.length ≤ 100000) (h : Row H p c L) (h2 : Row H q d M) :
    ICalls Try.prog 16 [.slice p L.length c, .slice q M.length d] H fun v H' => ∃ p' c', v = .slice p' (L ++ M).length c' ∧ Own H' H.next p' c' (L ++ M) ∧ Old H H' := by
  refine IBody.calls (by kernel_rfl) ?_
  obtain ⟨p1, c1, H1, e1, o1, s1, n1, k1⟩ := app_bytes (P := Try.prog) (t := 22) (e := 5) (by kernel_rfl) (by kernel_rfl) (by kernel_rfl) (by kernel_rfl) (n := H.next) (.inl ⟨rfl, rfl, rfl⟩) h (Nat.le_refl _) (by simp; omega)
  obtain ⟨p2, c2, H2, e2, o2, s2, n2, k2⟩ := app_bytes (P := Try.prog) (t := 22) (e := 5) (by kernel_rfl) (by kernel_rfl) (by kernel_rfl) (by kernel_rfl) (n := H.next) o1 (h2.same (K := H1) fun b k e => k1 b k e (by simp)) n1 (by simp; omega)
  simp only [List.length_nil, List.nil_append] at e1 e2 o1 o2
  refine IBody.of Try.func16 rfl (by rw [Try.ntmps16]; simp) ?_
  rw [Try.ntmps16]
  refine IWp.seq ?_
  refine IWp.run [0, 1] ?_
  simp [go_sem, -getElem?_pos, List.getElem?_cons_zero, List.getElem?_cons_succ, Go.IntWalk.iteOmega, Go.IntWalk.toNatUp, e1, e2]
  refine IWp.seq ?_
  refine IWp.run [0, 1, 5] ?_
  simp [go_sem, -getElem?_pos, List.getElem?_cons_zero, List.getElem?_cons_succ, Go.IntWalk.iteOmega, Go.IntWalk.toNatUp, e1, e2]
  refine IWp.seq ?_
  refine IWp.run [1, 5] ?_
  simp [go_sem, -getElem?_pos, List.getElem?_cons_zero, List.getElem?_cons_succ, Go.IntWalk.iteOmega, Go.IntWalk.toNatUp, e1, e2]
  refine IWp.seq ?_
  refine IWp.run [4] ?_
  simp [go_sem, -getElem?_pos, List.getElem?_cons_zero, List.getElem?_cons_succ, Go.IntWalk.iteOmega, Go.IntWalk.toNatUp, e1, e2]
  refine IWp.ret ?_
  simp [go_sem, -getElem?_pos, List.getElem?_cons_zero, List.getElem?_cons_succ, Go.IntWalk.iteOmega, Go.IntWalk.toNatUp, e1, e2, Try.results16]
  exact ⟨p2, c2, ⟨rfl, rfl⟩, o2, fun b hb => (s2 b hb).trans (s1 b hb), by omega⟩

theorem conv_bytes {P : Program} {s t : TypeId} (h1 : isU8 P s = true) (h2 : tKind P t = some .string) {H : Heap} {p : Option Addr} {c : Nat} {L : List Int} (hr : Row H p c L) : iconvm P s t (.slice p L.length c) H = some (.string (strOf L), H) := by
  rcases hr with ⟨rfl, rfl, rfl⟩ | ⟨rfl, b, o, rfl⟩ | ⟨hne, b, o, cs, own, rfl, hg, hle, hrow⟩
  · rw [List.length_nil, iconvm_nil, if_pos h1, if_pos h2]; rfl
  · rw [List.length_nil, iconvm_row, if_pos h1, if_pos h2, if_pos rfl]; rfl
  · have h0 : ¬ L.length = 0 := by simpa using hne
    rw [iconvm_row, if_pos h1, if_pos h2, if_neg h0, if_pos rfl, row_eq, hg]
    simp [hle, hrow, u8s_cells]

theorem strOf_data (L : List Int) : ∀ s : ByteArray, (L.foldl (fun r n => r.push (UInt8.ofNat n.toNat)) s).data.toList = s.data.toList ++ L.map fun n => UInt8.ofNat n.toNat := by
  induction L with
  | nil => intro s; simp
  | cons n r ih => intro s; rw [List.foldl_cons, ih]; simp [ByteArray.push]

def Bs (L : List Int) : Prop := ∀ x ∈ L, 0 ≤ x ∧ x < 256

theorem map_u8_inj : ∀ {L M : List Int}, Bs L → Bs M → (L.map fun n => UInt8.ofNat n.toNat) = (M.map fun n => UInt8.ofNat n.toNat) → L = M
  | [], [], _, _, _ => rfl
  | [], _ :: _, _, _, h => by cases h
  | _ :: _, [], _, _, h => by cases h
  | x :: L, y :: M, hL, hM, h => by
    simp only [List.map_cons, List.cons.injEq] at h
    have hx := hL x (by simp)
    have hy := hM y (by simp)
    have e : x = y := by
      have h2 := congrArg UInt8.toNat h.1
      simp only [UInt8.toNat_ofNat'] at h2
      omega
    rw [e, map_u8_inj (fun z hz => hL z (by simp [hz])) (fun z hz => hM z (by simp [hz])) h.2]

theorem strOf_inj {L M : List Int} (hL : Bs L) (hM : Bs M) : strOf L = strOf M ↔ L = M := by
  refine ⟨fun h => ?_, fun h => by rw [h]⟩
  have h2 := congrArg (fun s : ByteArray => s.data.toList) h
  simp only [strOf, strOf_data] at h2
  exact map_u8_inj hL hM (by simpa using h2)

/-! ### texts as lists -/
theorem toList_loop (bs : ByteArray) : ∀ (k i : Nat) (r : List UInt8), bs.size - i = k → ByteArray.toList.loop bs i r = r.reverse ++ bs.data.toList.drop i
  | 0, i, r, h => by
    have hs : bs.size = bs.data.toList.length := by rw [Array.length_toList]; rfl
    rw [ByteArray.toList.loop, if_neg (by omega), List.drop_of_length_le (by omega), List.append_nil]
  | k + 1, i, r, h => by
    have hs : bs.size = bs.data.toList.length := by rw [Array.length_toList]; rfl
    have hi : i < bs.size := by omega
    have hd : i < bs.data.toList.length := by omega
    rw [ByteArray.toList.loop, if_pos hi, toList_loop bs k (i + 1) _ (by omega), List.drop_eq_getElem_cons hd, List.reverse_cons, List.append_assoc]
    have e : bs.get! i = bs.data.toList[i] := by
      show bs.data[i]! = _
      rw [getElem!_pos bs.data i (by rw [← Array.length_toList]; exact hd)]; simp
    rw [e]; rfl
theorem toList_data (bs : ByteArray) : bs.toList = bs.data.toList := by
  unfold ByteArray.toList
  rw [toList_loop bs _ 0 [] rfl]; simp

theorem strOf_list (L : List Int) : (strOf L).toList = L.map fun n => UInt8.ofNat n.toNat := by
  rw [toList_data]; simpa [strOf] using strOf_data L ByteArray.empty

theorem row_at {cs : List Value} {o : Nat} {L : List Int} (h : (cs.drop o).take L.length = byteCells L) (i : Nat) (hi : i < L.length) : cs[o + i]? = some (.int .u8 L[i]) := by
  have h1 : ((cs.drop o).take L.length)[i]? = some (.int .u8 L[i]) := by rw [h]; simp [byteCells, hi]
  rw [List.getElem?_take_of_lt hi, List.getElem?_drop] at h1
  exact h1

theorem equal (H : Heap) (p q : Option Addr) (c d : Nat) (L M : List Int) (hL : Bs L) (hM : Bs M) (h : Row H p c L) (h2 : Row H q d M) :
    ICalls Try.prog 43 [.slice p L.length c, .slice q M.length d] H fun v H' => v = .bool (decide (L = M)) ∧ H' = H := by
  refine IBody.calls (by kernel_rfl) ?_
  have e1 := conv_bytes (P := Try.prog) (s := 22) (t := 9) (by kernel_rfl) (by kernel_rfl) h
  have e2 := conv_bytes (P := Try.prog) (s := 22) (t := 9) (by kernel_rfl) (by kernel_rfl) h2
  refine IBody.of Try.func43 rfl (by rw [Try.ntmps43]; simp) ?_
  rw [Try.ntmps43]
  refine IWp.seq ?_
  refine IWp.run [0, 1] ?_
  simp [go_sem, -getElem?_pos, List.getElem?_cons_zero, List.getElem?_cons_succ, Go.IntWalk.iteOmega, Go.IntWalk.toNatUp, e1, e2]
  refine IWp.seq ?_
  refine IWp.run [4] ?_
  simp [go_sem, -getElem?_pos, List.getElem?_cons_zero, List.getElem?_cons_succ, Go.IntWalk.iteOmega, Go.IntWalk.toNatUp, e1, e2]
  refine IWp.ret ?_
  simp [go_sem, -getElem?_pos, List.getElem?_cons_zero, List.getElem?_cons_succ, Go.IntWalk.iteOmega, Go.IntWalk.toNatUp, e1, e2, Try.results43]
  by_cases hh : L = M
  · subst hh; simp
  · have h3 : ¬ (L.map (fun n => UInt8.ofNat n.toNat) = M.map (fun n => UInt8.ofNat n.toNat)) := fun x => hh (map_u8_inj hL hM x)
    rw [strOf_list, strOf_list]
    simp [hh, h3]

theorem refBytes (H : Heap) (p q : Option Addr) (c d : Nat) (L M : List Int) (hL : L.length ≤ 1000000) (h : Row H p c L) (h2 : Row H q d M) :
    ICalls Try.prog 19 [.slice p L.length c, .slice q M.length d] H fun v H' => v = .bool (decide (L = M)) ∧ H' = H := by
  refine IBody.calls (by kernel_rfl) ?_
  by_cases hlen : L.length = M.length
  · skip
    refine IBody.of Try.func19 rfl (by rw [Try.ntmps19]; simp) ?_
    rw [Try.ntmps19]
    refine IWp.seq ?_
    refine IWp.run [0, 1] ?_
    simp [go_sem, -getElem?_pos, List.getElem?_cons_zero, List.getElem?_cons_succ, Go.IntWalk.iteOmega, Go.IntWalk.toNatUp, hlen]
    refine IWp.seq ?_
    refine IWp.seq ?_
    refine IWp.run [0, 1, 10] ?_
    simp [go_sem, -getElem?_pos, List.getElem?_cons_zero, List.getElem?_cons_succ, Go.IntWalk.iteOmega, Go.IntWalk.toNatUp, hlen]
    refine IWp.cond ?_
    simp [go_sem, -getElem?_pos, List.getElem?_cons_zero, List.getElem?_cons_succ, Go.IntWalk.iteOmega, Go.IntWalk.toNatUp, hlen]
    refine IWp.trim [0, 1] (IWp.skip ?_)
    simp [go_sem, -getElem?_pos, List.getElem?_cons_zero, List.getElem?_cons_succ, Go.IntWalk.iteOmega, Go.IntWalk.toNatUp, hlen]
    refine IWp.seq ?_
    refine IWp.seq ?_
    refine IWp.run [0, 1, 5] ?_
    simp [go_sem, -getElem?_pos, List.getElem?_cons_zero, List.getElem?_cons_succ, Go.IntWalk.iteOmega, Go.IntWalk.toNatUp, hlen]
    refine IWp.block ?_
    -- LOOP live [0, 1, 5]
    refine IWp.loop (fun j e K => ∃ i : Nat, j = L.length - i ∧ i ≤ L.length ∧ e = [(0, .slice p L.length c), (1, .slice q M.length d), (5, .int .i64 (i : Int))] ∧ K = H ∧ L.take i = M.take i) L.length ⟨0, rfl, Nat.zero_le _, by rw [hlen]; rfl, rfl, rfl⟩ ?_
    rintro j e K ⟨i, rfl, hi, rfl, rfl, hpre⟩
    by_cases hlt : i < L.length
    · have hltM : i < M.length := by omega
      have w1 := IntWalk.i64_in ((i : Int) + 1) (by omega)
      rcases h with ⟨_, _, rfl⟩ | ⟨rfl, _⟩ | ⟨hne, b, o, cs, own, rfl, hg, hle, hrow⟩
      · simp at hlt
      · simp at hlt
      rcases h2 with ⟨_, _, rfl⟩ | ⟨rfl, _⟩ | ⟨hne2, b2, o2, cs2, own2, rfl, hg2, hle2, hrow2⟩
      · simp at hltM
      · simp at hltM
      have a1 := row_at hrow i hlt
      have a2 := row_at hrow2 i hltM
      by_cases he : L[i] = M[i]
      · skip
        refine IWp.seq ?_
        refine IWp.seq ?_
        refine IWp.run [0, 1, 5, 14] ?_
        simp [go_sem, -getElem?_pos, List.getElem?_cons_zero, List.getElem?_cons_succ, Go.IntWalk.iteOmega, Go.IntWalk.toNatUp, hlt, hltM, hg, hg2, a1, a2, he, w1, show ¬ ((i : Int) < 0) by omega, show (i : Int) < M.length by omega]
        refine IWp.cond ?_
        simp [go_sem, -getElem?_pos, List.getElem?_cons_zero, List.getElem?_cons_succ, Go.IntWalk.iteOmega, Go.IntWalk.toNatUp, hlt, hltM, hg, hg2, a1, a2, he, w1, show ¬ ((i : Int) < 0) by omega, show (i : Int) < M.length by omega]
        refine IWp.trim [0, 1, 5] (IWp.skip ?_)
        simp [go_sem, -getElem?_pos, List.getElem?_cons_zero, List.getElem?_cons_succ, Go.IntWalk.iteOmega, Go.IntWalk.toNatUp, hlt, hltM, hg, hg2, a1, a2, he, w1, show ¬ ((i : Int) < 0) by omega, show (i : Int) < M.length by omega]
        refine IWp.seq ?_
        refine IWp.block ?_
        refine IWp.seq ?_
        refine IWp.read [0, 1, 5, 25] follows (by kernel_rfl) ?_
        simp [go_sem, -getElem?_pos, List.getElem?_cons_zero, List.getElem?_cons_succ, Go.IntWalk.iteOmega, Go.IntWalk.toNatUp, hlt, hltM, hg, hg2, a1, a2, he, w1, show ¬ ((i : Int) < 0) by omega, show (i : Int) < M.length by omega]
        refine IWp.cond ?_
        simp [go_sem, -getElem?_pos, List.getElem?_cons_zero, List.getElem?_cons_succ, Go.IntWalk.iteOmega, Go.IntWalk.toNatUp, hlt, hltM, hg, hg2, a1, a2, he, w1, show ¬ ((i : Int) < 0) by omega, show (i : Int) < M.length by omega]
        refine IWp.trim [0, 1, 5] (IWp.skip ?_)
        simp [go_sem, -getElem?_pos, List.getElem?_cons_zero, List.getElem?_cons_succ, Go.IntWalk.iteOmega, Go.IntWalk.toNatUp, hlt, hltM, hg, hg2, a1, a2, he, w1, show ¬ ((i : Int) < 0) by omega, show (i : Int) < M.length by omega]
        refine IWp.run [0, 1, 5] ?_
        simp [go_sem, -getElem?_pos, List.getElem?_cons_zero, List.getElem?_cons_succ, Go.IntWalk.iteOmega, Go.IntWalk.toNatUp, hlt, hltM, hg, hg2, a1, a2, he, w1, show ¬ ((i : Int) < 0) by omega, show (i : Int) < M.length by omega]
        exact ⟨L.length - (i + 1), by omega, i + 1, rfl, by omega, rfl, by rw [List.take_succ_eq_append_getElem hlt, List.take_succ_eq_append_getElem hltM, hpre, he]⟩
      · skip
        refine IWp.seq ?_
        refine IWp.seq ?_
        refine IWp.run [0, 1, 5, 14] ?_
        simp [go_sem, -getElem?_pos, List.getElem?_cons_zero, List.getElem?_cons_succ, Go.IntWalk.iteOmega, Go.IntWalk.toNatUp, hlt, hltM, hg, hg2, a1, a2, he, w1, show ¬ ((i : Int) < 0) by omega, show (i : Int) < M.length by omega]
        refine IWp.cond ?_
        simp [go_sem, -getElem?_pos, List.getElem?_cons_zero, List.getElem?_cons_succ, Go.IntWalk.iteOmega, Go.IntWalk.toNatUp, hlt, hltM, hg, hg2, a1, a2, he, w1, show ¬ ((i : Int) < 0) by omega, show (i : Int) < M.length by omega]
        refine IWp.trim [0, 1, 5] (IWp.skip ?_)
        simp [go_sem, -getElem?_pos, List.getElem?_cons_zero, List.getElem?_cons_succ, Go.IntWalk.iteOmega, Go.IntWalk.toNatUp, hlt, hltM, hg, hg2, a1, a2, he, w1, show ¬ ((i : Int) < 0) by omega, show (i : Int) < M.length by omega]
        refine IWp.seq ?_
        refine IWp.block ?_
        refine IWp.seq ?_
        refine IWp.read [0, 1, 5, 25] follows (by kernel_rfl) ?_
        simp [go_sem, -getElem?_pos, List.getElem?_cons_zero, List.getElem?_cons_succ, Go.IntWalk.iteOmega, Go.IntWalk.toNatUp, hlt, hltM, hg, hg2, a1, a2, he, w1, show ¬ ((i : Int) < 0) by omega, show (i : Int) < M.length by omega]
        refine IWp.cond ?_
        simp [go_sem, -getElem?_pos, List.getElem?_cons_zero, List.getElem?_cons_succ, Go.IntWalk.iteOmega, Go.IntWalk.toNatUp, hlt, hltM, hg, hg2, a1, a2, he, w1, show ¬ ((i : Int) < 0) by omega, show (i : Int) < M.length by omega]
        refine IWp.seq ?_
        refine IWp.run [4] ?_
        simp [go_sem, -getElem?_pos, List.getElem?_cons_zero, List.getElem?_cons_succ, Go.IntWalk.iteOmega, Go.IntWalk.toNatUp, hlt, hltM, hg, hg2, a1, a2, he, w1, show ¬ ((i : Int) < 0) by omega, show (i : Int) < M.length by omega]
        refine IWp.ret ?_
        simp [go_sem, -getElem?_pos, List.getElem?_cons_zero, List.getElem?_cons_succ, Go.IntWalk.iteOmega, Go.IntWalk.toNatUp, hlt, hltM, hg, hg2, a1, a2, he, w1, show ¬ ((i : Int) < 0) by omega, show (i : Int) < M.length by omega, Try.results19]
        exact fun e => he (by subst e; rfl)
    · skip
      refine IWp.seq ?_
      refine IWp.seq ?_
      refine IWp.run [0, 1, 5, 14] ?_
      simp [go_sem, -getElem?_pos, List.getElem?_cons_zero, List.getElem?_cons_succ, Go.IntWalk.iteOmega, Go.IntWalk.toNatUp, show ¬ ((i : Int) < M.length) by omega]
      refine IWp.cond ?_
      simp [go_sem, -getElem?_pos, List.getElem?_cons_zero, List.getElem?_cons_succ, Go.IntWalk.iteOmega, Go.IntWalk.toNatUp, show ¬ ((i : Int) < M.length) by omega]
      refine IWp.trim [] (IWp.exit ?_)
      simp [go_sem, -getElem?_pos, List.getElem?_cons_zero, List.getElem?_cons_succ, Go.IntWalk.iteOmega, Go.IntWalk.toNatUp, show ¬ ((i : Int) < M.length) by omega]
      refine IWp.seq ?_
      refine IWp.run [4] ?_
      simp [go_sem, -getElem?_pos, List.getElem?_cons_zero, List.getElem?_cons_succ, Go.IntWalk.iteOmega, Go.IntWalk.toNatUp, show ¬ ((i : Int) < M.length) by omega]
      refine IWp.ret ?_
      simp [go_sem, -getElem?_pos, List.getElem?_cons_zero, List.getElem?_cons_succ, Go.IntWalk.iteOmega, Go.IntWalk.toNatUp, show ¬ ((i : Int) < M.length) by omega, Try.results19]
      rw [← List.take_of_length_le (show L.length ≤ i by omega), hpre, List.take_of_length_le (by omega)]
  · skip
    refine IBody.of Try.func19 rfl (by rw [Try.ntmps19]; simp) ?_
    rw [Try.ntmps19]
    refine IWp.seq ?_
    refine IWp.run [0, 1] ?_
    simp [go_sem, -getElem?_pos, List.getElem?_cons_zero, List.getElem?_cons_succ, Go.IntWalk.iteOmega, Go.IntWalk.toNatUp, hlen, show ¬ ((L.length : Int) = M.length) by omega]
    refine IWp.seq ?_
    refine IWp.seq ?_
    refine IWp.run [0, 1, 10] ?_
    simp [go_sem, -getElem?_pos, List.getElem?_cons_zero, List.getElem?_cons_succ, Go.IntWalk.iteOmega, Go.IntWalk.toNatUp, hlen, show ¬ ((L.length : Int) = M.length) by omega]
    refine IWp.cond ?_
    simp [go_sem, -getElem?_pos, List.getElem?_cons_zero, List.getElem?_cons_succ, Go.IntWalk.iteOmega, Go.IntWalk.toNatUp, hlen, show ¬ ((L.length : Int) = M.length) by omega]
    refine IWp.seq ?_
    refine IWp.run [4] ?_
    simp [go_sem, -getElem?_pos, List.getElem?_cons_zero, List.getElem?_cons_succ, Go.IntWalk.iteOmega, Go.IntWalk.toNatUp, hlen, show ¬ ((L.length : Int) = M.length) by omega]
    refine IWp.ret ?_
    simp [go_sem, -getElem?_pos, List.getElem?_cons_zero, List.getElem?_cons_succ, Go.IntWalk.iteOmega, Go.IntWalk.toNatUp, hlen, show ¬ ((L.length : Int) = M.length) by omega, Try.results19]
    exact fun e => hlen (by rw [e])

end Go.Proofs.Ytneiiglfdhghkaa.I
