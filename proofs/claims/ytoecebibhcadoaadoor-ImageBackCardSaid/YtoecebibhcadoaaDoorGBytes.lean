/- Rows of bytes: copied, compared, joined. No condition. -/
import Derived.Test.YtoecebibhcadoaaDoorITab
import Derived.Test.YtoecebibhcadoaaDoorIRow
namespace Go.Proofs.YtoecebibhcadoaaDoor.I
open Go Go.RowKit
set_option linter.unusedVariables false
set_option linter.unusedSimpArgs false
theorem clone_own (H : Heap) (m : Int) (L : List Int) (hL : L.length ≤ 1000000) :
    ICalls Tryd.prog 48 [frow 1 m (L.map (Value.int .u8))] H fun v H' => Bld 1 H' H.next v (L.map (Value.int .u8)) ∧ Old H H' := by
  refine IBody.calls (by kernel_rfl) ?_
  cases L with
  | nil =>
    refine IBody.none_or ?_ ?_
    · skip
      refine IBody.of Tryd.func48 rfl (by rw [Tryd.ntmps48]; simp) ?_
      rw [Tryd.ntmps48]
      have Kp : Kept [[0],[0,4],[],[2],[]] := ⟨⟩
      iterate 5 (refine Kp.s ?_; clear Kp; intro Kp; simp [go_sem, -getElem?_pos, -List.map_take, -List.map_drop, IntWalk.iteOmega, IntWalk.toNatUp])
      exact ⟨Bld.nil _ _ _, Old.refl H⟩
    · skip
      refine IBody.of Tryd.func48 rfl (by rw [Tryd.ntmps48]; simp) ?_
      rw [Tryd.ntmps48]
      have Kp : Kept [[0],[0,4],[],[0],[2],[]] := ⟨⟩
      iterate 6 (refine Kp.s ?_; clear Kp; intro Kp; simp [go_sem, -getElem?_pos, -List.map_take, -List.map_drop, IntWalk.iteOmega, IntWalk.toNatUp])
      exact ⟨⟨fun _ h => (by cases h), .inr ⟨H.next, Nat.le_refl _, rfl, by simp [get_alloc]⟩⟩, (Old.refl H).alloc _⟩
  | cons x L =>
    have hb : Bld 1 (H.alloc []) H.next (.slice (some ⟨H.next, 0, some 1⟩) 0 1) [] := ⟨fun _ h => (by cases h), .inr ⟨H.next, Nat.le_refl _, rfl, by simp [get_alloc]⟩⟩
    obtain ⟨v, H', e, b1, b2, b3, _⟩ := app_own (P := Tryd.prog) (t := 23) (e := 5) (sz := 1) (by_ := 1) (z := .int .u8 0) (ws := (x :: L).map (Value.int .u8)) (x := frow 1 m ((x :: L).map (Value.int .u8))) (by kernel_rfl) (by kernel_rfl) (by kernel_rfl) (by kernel_rfl) (by rfl) hb (map_sz .u8 _) (by simp [irow_frow]) (by rw [map_flat]; exact map_one .u8 _) (by rw [next_alloc]; omega) (by simp at hL ⊢; omega) (by simp at hL ⊢; omega)
    simp only [List.map_cons] at e b1 ⊢
    refine IBody.of Tryd.func48 rfl (by rw [Tryd.ntmps48]; simp) ?_
    rw [Tryd.ntmps48]
    have Kp : Kept [[0],[0,4],[],[0],[2],[]] := ⟨⟩
    iterate 6 (refine Kp.s ?_; clear Kp; intro Kp; simp [go_sem, -getElem?_pos, -List.map_take, -List.map_drop, IntWalk.iteOmega, IntWalk.toNatUp, e])
    exact ⟨by simpa using b1, fun b hb => by rw [b2 b hb, Heap.get_alloc_lt _ _ _ hb], by rw [next_alloc] at b3; omega⟩
theorem clone (H : Heap) (m : Int) (L : List Int) (hL : L.length ≤ 1000000) :
    ICalls Tryd.prog 48 [frow 1 m (L.map (Value.int .u8))] H fun v H' => v = byts L ∧ H' = H :=
  ICalls.ans (by rw [cl_ints]; trivial) fun H => (clone_own H m L hL).mono fun v H' h => h.1.frz
theorem clone_blk (H : Heap) (q : Nat) (own : Bool) (L : List Int) (hL : L.length ≤ 1000000) (hg : H.get q = some ⟨L.map (Value.int .u8), own⟩) :
    ICalls Tryd.prog 48 [.slice (some ⟨q, 0, some 1⟩) L.length 1] H fun v H' => Bld 1 H' H.next v (L.map (Value.int .u8)) ∧ Old H H' := by
  have hq := Heap.lt_of_get hg
  have hb : Bld 1 (H.alloc []) H.next (.slice (some ⟨H.next, 0, some 1⟩) 0 1) [] := ⟨fun _ h => (by cases h), .inr ⟨H.next, Nat.le_refl _, rfl, by simp [get_alloc]⟩⟩
  have hr := irow_blk (sz := 1) (H := H.alloc []) (b := q) (c := 1) (ws := L.map (Value.int .u8)) (own := own) (by rw [Heap.get_alloc_lt _ _ _ hq, hg, map_flat]) (map_sz .u8 _)
  rw [List.length_map] at hr
  obtain ⟨v, H', e, b1, b2, b3, _⟩ := app_own (P := Tryd.prog) (t := 23) (e := 5) (sz := 1) (by_ := 1) (z := .int .u8 0) (ws := L.map (Value.int .u8)) (x := .slice (some ⟨q, 0, some 1⟩) L.length 1) (by kernel_rfl) (by kernel_rfl) (by kernel_rfl) (by kernel_rfl) rfl hb (map_sz .u8 _) (by rw [hr]; simp) (by rw [map_flat]; exact map_one .u8 _) (by rw [next_alloc]; omega) (by simp at hL ⊢; omega) (by simp at hL ⊢; omega)
  refine IBody.calls (by kernel_rfl) ?_
  refine IBody.of Tryd.func48 rfl (by rw [Tryd.ntmps48]; simp) ?_
  rw [Tryd.ntmps48]
  have Kp : Kept [[0],[0,4],[],[0],[2],[]] := ⟨⟩
  iterate 6 (refine Kp.s ?_; clear Kp; intro Kp; simp [go_sem, -getElem?_pos, -List.map_take, -List.map_drop, IntWalk.iteOmega, IntWalk.toNatUp, e])
  exact ⟨by simpa using b1, fun b hb => by rw [b2 b hb, Heap.get_alloc_lt _ _ _ hb], by rw [next_alloc] at b3; omega⟩
theorem join_own (H : Heap) (m k : Int) (L M : List Int) (hL : L.length ≤ 1000000) (hM : M.length ≤ 1000000) :
    ICalls Tryd.prog 19 [frow 1 m (L.map (Value.int .u8)), frow 1 k (M.map (Value.int .u8))] H fun v H' => Bld 1 H' H.next v ((L ++ M).map (Value.int .u8)) ∧ Old H H' := by
  refine IBody.calls (by kernel_rfl) ?_
  obtain ⟨v1, H1, e1, b1, s1, n1, _⟩ := app_own (P := Tryd.prog) (t := 23) (e := 5) (sz := 1) (by_ := 1) (z := .int .u8 0) (ws := L.map (Value.int .u8)) (x := frow 1 m (L.map (Value.int .u8))) (by kernel_rfl) (by kernel_rfl) (by kernel_rfl) (by kernel_rfl) rfl (Bld.nil 1 H H.next) (map_sz .u8 _) (by simp [irow_frow]) (by rw [map_flat]; exact map_one .u8 _) (Nat.le_refl _) (by simp at hL ⊢; omega) (by simp at hL ⊢; omega)
  obtain ⟨v2, H2, e2, b2, s2, n2, _⟩ := app_own (P := Tryd.prog) (t := 23) (e := 5) (sz := 1) (by_ := 1) (z := .int .u8 0) (ws := M.map (Value.int .u8)) (x := frow 1 k (M.map (Value.int .u8))) (by kernel_rfl) (by kernel_rfl) (by kernel_rfl) (by kernel_rfl) rfl b1 (map_sz .u8 _) (by simp [irow_frow]) (by rw [map_flat]; exact map_one .u8 _) n1 (by simp at hL ⊢; omega) (by simp at hL ⊢; omega)
  refine IBody.of Tryd.func19 rfl (by rw [Tryd.ntmps19]; simp) ?_
  rw [Tryd.ntmps19]
  have Kp : Kept [[0,1],[0,1,5],[1,5],[4],[]] := ⟨⟩
  iterate 5 (refine Kp.s ?_; clear Kp; intro Kp; simp [go_sem, -getElem?_pos, -List.map_take, -List.map_drop, IntWalk.iteOmega, IntWalk.toNatUp, e1, e2])
  exact ⟨by simpa using b2, fun b hb => (s2 b hb).trans (s1 b hb), by omega⟩
theorem join (H : Heap) (m k : Int) (L M : List Int) (hL : L.length ≤ 1000000) (hM : M.length ≤ 1000000) :
    ICalls Tryd.prog 19 [frow 1 m (L.map (Value.int .u8)), frow 1 k (M.map (Value.int .u8))] H fun v H' => v = byts (L ++ M) ∧ H' = H :=
  ICalls.ans (by rw [cl_ints]; trivial) fun H => (join_own H m k L M hL hM).mono fun v H' h => h.1.frz
def Bs (L : List Int) : Prop := ∀ x ∈ L, 0 ≤ x ∧ x < 256
theorem strOf_data (L : List Int) : ∀ s : ByteArray, (L.foldl (fun r n => r.push (UInt8.ofNat n.toNat)) s).data.toList = s.data.toList ++ L.map fun n => UInt8.ofNat n.toNat := by
  induction L with
  | nil => intro s; simp
  | cons n r ih => intro s; rw [List.foldl_cons, ih]; simp [ByteArray.push]
theorem map_u8_inj : ∀ {L M : List Int}, Bs L → Bs M → (L.map fun n => UInt8.ofNat n.toNat) = (M.map fun n => UInt8.ofNat n.toNat) → L = M
  | [], [], _, _, _ => rfl
  | [], _ :: _, _, _, h => by cases h
  | _ :: _, [], _, _, h => by cases h
  | a :: l, b :: m, h1, h2, h => by
    simp only [List.map_cons, List.cons.injEq] at h
    have ha := h1 a (by simp)
    have hb := h2 b (by simp)
    have h3 := congrArg UInt8.toNat h.1
    simp only [UInt8.toNat_ofNat'] at h3
    rw [show a = b by omega, map_u8_inj (fun x hx => h1 x (by simp [hx])) (fun x hx => h2 x (by simp [hx])) h.2]
theorem toList_loop (bs : ByteArray) : ∀ (k i : Nat) (r : List UInt8), bs.size - i = k → ByteArray.toList.loop bs i r = r.reverse ++ bs.data.toList.drop i
  | 0, i, r, h => by
    have hs : bs.size = bs.data.toList.length := by rw [Array.length_toList]; rfl
    rw [ByteArray.toList.loop, if_neg (by omega), List.drop_of_length_le (by omega), List.append_nil]
  | k + 1, i, r, h => by
    have hs : bs.size = bs.data.toList.length := by rw [Array.length_toList]; rfl
    have hi : i < bs.size := by omega
    have hd : i < bs.data.toList.length := by omega
    rw [ByteArray.toList.loop, if_pos hi, toList_loop bs k (i + 1) _ (by omega), List.drop_eq_getElem_cons hd, List.reverse_cons, List.append_assoc]
    have e : bs.get! i = bs.data.toList[i] := by
      show bs.data[i]! = _
      rw [getElem!_pos bs.data i (by rw [← Array.length_toList]; exact hd)]; simp
    rw [e]; rfl
theorem toList_data (bs : ByteArray) : bs.toList = bs.data.toList := by
  unfold ByteArray.toList
  rw [toList_loop bs _ 0 [] rfl]; simp
theorem strOf_list (L : List Int) : (strOf L).toList = L.map fun n => UInt8.ofNat n.toNat := by
  rw [toList_data]; simpa [strOf] using strOf_data L ByteArray.empty
theorem strOf_inj {L M : List Int} (h1 : Bs L) (h2 : Bs M) : ((strOf L).toList = (strOf M).toList) = (L = M) := by
  refine propext ⟨fun h => map_u8_inj h1 h2 ?_, fun h => by rw [h]⟩
  rwa [strOf_list, strOf_list] at h
theorem strOf_beq {L M : List Int} (h1 : Bs L) (h2 : Bs M) : ((strOf L).toList == (strOf M).toList) = decide (L = M) := by
  by_cases h : L = M
  · subst h; simp
  · have := mt (strOf_inj h1 h2).mp h
    simp [h, this]
theorem refBytes (H : Heap) (m k : Int) (L M : List Int) (hl : L.length ≤ 1000000) :
    ICalls Tryd.prog 14 [frow 1 m (L.map (Value.int .u8)), frow 1 k (M.map (Value.int .u8))] H fun v H' => v = .bool (decide (L = M)) ∧ H' = H := by
  refine IBody.calls (by kernel_rfl) ?_
  by_cases hlen : L.length = M.length
  · skip
    refine IBody.of Tryd.func14 rfl (by rw [Tryd.ntmps14]; simp) ?_
    rw [Tryd.ntmps14]
    have Kp : Kept [[0,1],[0,1,10],[],[0,1],[0,1,5]] := ⟨⟩
    iterate 5 (refine Kp.s ?_; clear Kp; intro Kp; simp [go_sem, -getElem?_pos, -List.map_take, -List.map_drop, IntWalk.iteOmega, IntWalk.toNatUp, hlen])
    refine IWp.block ?_
    refine IWp.loop (fun j e K => ∃ i : Nat, j = L.length - i ∧ i ≤ L.length ∧ e = [(0, frow 1 m (L.map (Value.int .u8))), (1, frow 1 k (M.map (Value.int .u8))), (5, .int .i64 (i : Int))] ∧ K = H ∧ L.take i = M.take i) L.length ⟨0, rfl, Nat.zero_le _, rfl, rfl, rfl⟩ ?_
    rintro j e K ⟨i, rfl, hi, rfl, rfl, hpre⟩
    by_cases hlt : i < L.length
    · have hltM : i < M.length := by omega
      have w1 := IntWalk.i64_in ((i : Int) + 1) (by omega)
      by_cases he : L[i] = M[i]
      · skip
        have Kp : Kept [[0,1,5,14],[],[0,1,5]] := ⟨⟩
        iterate 3 (refine Kp.s ?_; clear Kp; intro Kp; simp [go_sem, -getElem?_pos, -List.map_take, -List.map_drop, IntWalk.iteOmega, IntWalk.toNatUp, hlt, hltM, List.getElem?_eq_getElem hlt, List.getElem?_eq_getElem hltM, he, w1, show ¬ ((i : Int) < 0) by omega, show (i : Int) < M.length by omega])
        refine IWp.seq ?_
        refine IWp.block ?_
        refine IWp.seq ?_
        refine IWp.read [0, 1, 5, 25] follows (by kernel_rfl) ?_
        simp [go_sem, -getElem?_pos, -List.map_take, -List.map_drop, IntWalk.iteOmega, IntWalk.toNatUp, hlt, hltM, List.getElem?_eq_getElem hlt, List.getElem?_eq_getElem hltM, he, w1, show ¬ ((i : Int) < 0) by omega, show (i : Int) < M.length by omega]
        have Kp : Kept [[],[0,1,5],[0,1,5]] := ⟨⟩
        iterate 3 (refine Kp.s ?_; clear Kp; intro Kp; simp [go_sem, -getElem?_pos, -List.map_take, -List.map_drop, IntWalk.iteOmega, IntWalk.toNatUp, hlt, hltM, List.getElem?_eq_getElem hlt, List.getElem?_eq_getElem hltM, he, w1, show ¬ ((i : Int) < 0) by omega, show (i : Int) < M.length by omega])
        exact ⟨L.length - (i + 1), by omega, i + 1, rfl, by omega, rfl, by rw [List.take_succ_eq_append_getElem hlt, List.take_succ_eq_append_getElem hltM, hpre, he]⟩
      · skip
        have Kp : Kept [[0,1,5,14],[],[0,1,5]] := ⟨⟩
        iterate 3 (refine Kp.s ?_; clear Kp; intro Kp; simp [go_sem, -getElem?_pos, -List.map_take, -List.map_drop, IntWalk.iteOmega, IntWalk.toNatUp, hlt, hltM, List.getElem?_eq_getElem hlt, List.getElem?_eq_getElem hltM, he, w1, show ¬ ((i : Int) < 0) by omega, show (i : Int) < M.length by omega])
        refine IWp.seq ?_
        refine IWp.block ?_
        refine IWp.seq ?_
        refine IWp.read [0, 1, 5, 25] follows (by kernel_rfl) ?_
        simp [go_sem, -getElem?_pos, -List.map_take, -List.map_drop, IntWalk.iteOmega, IntWalk.toNatUp, hlt, hltM, List.getElem?_eq_getElem hlt, List.getElem?_eq_getElem hltM, he, w1, show ¬ ((i : Int) < 0) by omega, show (i : Int) < M.length by omega]
        have Kp : Kept [[],[4],[]] := ⟨⟩
        iterate 3 (refine Kp.s ?_; clear Kp; intro Kp; simp [go_sem, -getElem?_pos, -List.map_take, -List.map_drop, IntWalk.iteOmega, IntWalk.toNatUp, hlt, hltM, List.getElem?_eq_getElem hlt, List.getElem?_eq_getElem hltM, he, w1, show ¬ ((i : Int) < 0) by omega, show (i : Int) < M.length by omega])
        exact fun e => he (by subst e; rfl)
    · skip
      have Kp : Kept [[0,1,5,14],[],[],[4],[]] := ⟨⟩
      iterate 5 (refine Kp.s ?_; clear Kp; intro Kp; simp [go_sem, -getElem?_pos, -List.map_take, -List.map_drop, IntWalk.iteOmega, IntWalk.toNatUp, show ¬ ((i : Int) < M.length) by omega])
      rw [← List.take_of_length_le (show L.length ≤ i by omega), hpre, List.take_of_length_le (by omega)]
  · skip
    refine IBody.of Tryd.func14 rfl (by rw [Tryd.ntmps14]; simp) ?_
    rw [Tryd.ntmps14]
    have Kp : Kept [[0,1],[0,1,10],[],[4],[]] := ⟨⟩
    iterate 5 (refine Kp.s ?_; clear Kp; intro Kp; simp [go_sem, -getElem?_pos, -List.map_take, -List.map_drop, IntWalk.iteOmega, IntWalk.toNatUp, hlen, show ¬ ((L.length : Int) = M.length) by omega])
    exact fun e => hlen (by rw [e])
end Go.Proofs.YtoecebibhcadoaaDoor.I
