/- The document's example of a wheel. No condition. -/
import Derived.Test.YtdimnoeldnfikaaGClock
import Derived.Test.YtdimnoeldnfikaaPTimer
namespace Go.Proofs.Ytdimnoeldnfikaa.I
open Go Go.RowKit Go.Maps
set_option linter.unusedVariables false
set_option linter.unusedSimpArgs false

theorem intFlat : ∀ L : List Int, ((L.map (Value.int .i64)).flatMap fun u => u.cells.toList) = L.map (Value.int .i64)
  | [] => rfl
  | x :: l => by rw [List.map_cons, List.flatMap_cons, intFlat l]; rfl
theorem sameOwn (H : Heap) (m : Int) (L : List Int) (b n : Nat) (hL : L.length ≤ 1000000) (hn : L.length = n) (hb : H.get b = some ⟨L.map (Value.int .i64), true⟩) : ICalls Try.prog 28 [frow 1 m (L.map (Value.int .i64)), .slice (some ⟨b, 0, some 1⟩) n 1] H fun v H' => v = .bool true ∧ H' = H.kill b :=
  ICalls.freeze1 b (.cons (.same _) (.cons (frz_lit (L.map (Value.int .i64)) hb (intFlat L) (fun u hu => by obtain ⟨x, _, rfl⟩ := List.mem_map.1 hu; rfl) (by simpa using hn) (by simp)) .nil)) (sameIC _ m 0 L (by omega))

def dues3 : Dat := (((DataW.map [] : Dat).put (kI 5) (eI 9)).put (kI 3) (eI 9)).put (kI 7) (eI 2)
theorem dues3_like : Like dues3 [(5, 9), (3, 9), (7, 2)] := ((Like.nil.put 5 9 (by decide)).put 3 9 (by decide)).put 7 2 (by decide)
theorem dues3_due : DueL dues3 9 [7, 3, 5] := by
  have h := dues3_like
  have a5 : atI dues3 5 = 9 := h.at_ (5, 9) (by simp)
  have a3 : atI dues3 3 = 9 := h.at_ (3, 9) (by simp)
  have a7 : atI dues3 7 = 2 := h.at_ (7, 2) (by simp)
  refine ⟨by decide, fun x => ?_, fun x hx => ?_, ?_⟩
  · have hh := h.has x
    simp only [List.map_cons, List.map_nil, List.mem_cons, List.not_mem_nil, or_false] at hh ⊢
    rw [hh]
    constructor
    · rintro (rfl | rfl | rfl)
      · exact ⟨by omega, by omega⟩
      · exact ⟨by omega, by omega⟩
      · exact ⟨by omega, by omega⟩
    · omega
  · simp only [List.mem_cons, List.not_mem_nil, or_false] at hx
    rcases hx with rfl | rfl | rfl <;> decide
  · simp [dueLt, a5, a3, a7]
theorem dues4_due {ks : List Int} (h : DueL (delL dues3 [7, 3, 5]) 9 ks) : ks = [] := by
  have hl := dues3_like.delL [7, 3, 5]
  cases ks with
  | nil => rfl
  | cons x l =>
    have h1 := (h.mem x).mp (by simp)
    have h2 := (hl.has x).mp h1.1
    have h3 := (withoutL_ids [7, 3, 5] [(5, 9), (3, 9), (7, 2)] x).mp h2
    simp at h3
    omega

set_option maxRecDepth 100000 in
theorem duesC (H : Heap) : ICalls Try.prog 15 [] H fun v H' => v = .bool true ∧ H' = H := by
  refine ICalls.pure (K := fun u => u = .bool true) ?_
  generalize hG : H.ro = G
  have hT : G.tab = none := by rw [← hG]; rfl
  clear hG
  refine IBody.calls (by kernel_rfl) ?_
  have hadd : addS 5 (-9) = 0 := by decide +kernel
  have ha := fun K => addC K 5 (-9)
  rw [hadd] at ha
  refine IBody.of Try.func15 rfl (by rw [Try.ntmps15]; simp) ?_
  rw [Try.ntmps15]
  refine IWp.seq ?_
  refine IWp.run [] ?_
  simp [go_sem, -getElem?_pos, -List.map_take, -List.map_drop, List.getElem?_cons_zero, List.getElem?_cons_succ, Go.IntWalk.iteOmega, Go.IntWalk.toNatUp, get_setTab, next_setTab, get_alloc, next_alloc]
  refine IWp.seq ?_
  refine IWp.run [1] ?_
  simp [go_sem, -getElem?_pos, -List.map_take, -List.map_drop, List.getElem?_cons_zero, List.getElem?_cons_succ, Go.IntWalk.iteOmega, Go.IntWalk.toNatUp, get_setTab, next_setTab, get_alloc, next_alloc]
  refine ICalls.mono (newW G hT) ?_
  rintro v K1 ⟨hv, hb, ht, hn, ho⟩
  subst hv
  try simp [go_sem, -getElem?_pos, -List.map_take, -List.map_drop, List.getElem?_cons_zero, List.getElem?_cons_succ, Go.IntWalk.iteOmega, Go.IntWalk.toNatUp, get_setTab, next_setTab, get_alloc, next_alloc]
  refine IWp.seq ?_
  refine IWp.run [1] ?_
  simp [go_sem, -getElem?_pos, -List.map_take, -List.map_drop, List.getElem?_cons_zero, List.getElem?_cons_succ, Go.IntWalk.iteOmega, Go.IntWalk.toNatUp, get_setTab, next_setTab, get_alloc, next_alloc]
  refine ICalls.mono (setW K1 (G.next + 1) G.next 0 (.map []) 5 9 hb ht (by decide) (by decide) (by decide)) ?_
  rintro v K2 ⟨hv, hK2⟩
  subst hv; subst hK2
  try simp [go_sem, -getElem?_pos, -List.map_take, -List.map_drop, List.getElem?_cons_zero, List.getElem?_cons_succ, Go.IntWalk.iteOmega, Go.IntWalk.toNatUp, get_setTab, next_setTab, get_alloc, next_alloc]
  refine IWp.seq ?_
  refine IWp.run [1] ?_
  simp [go_sem, -getElem?_pos, -List.map_take, -List.map_drop, List.getElem?_cons_zero, List.getElem?_cons_succ, Go.IntWalk.iteOmega, Go.IntWalk.toNatUp, get_setTab, next_setTab, get_alloc, next_alloc]
  refine ICalls.mono (setW _ (G.next + 1) G.next 1 _ 3 9 hb rfl (by decide) (by decide) (by decide)) ?_
  rintro v K3 ⟨hv, hK3⟩
  subst hv; subst hK3
  try simp [go_sem, -getElem?_pos, -List.map_take, -List.map_drop, List.getElem?_cons_zero, List.getElem?_cons_succ, Go.IntWalk.iteOmega, Go.IntWalk.toNatUp, get_setTab, next_setTab, get_alloc, next_alloc]
  refine IWp.seq ?_
  refine IWp.run [1] ?_
  simp [go_sem, -getElem?_pos, -List.map_take, -List.map_drop, List.getElem?_cons_zero, List.getElem?_cons_succ, Go.IntWalk.iteOmega, Go.IntWalk.toNatUp, get_setTab, next_setTab, get_alloc, next_alloc]
  refine ICalls.mono (setW _ (G.next + 1) G.next 2 _ 7 2 hb rfl (by decide) (by decide) (by decide)) ?_
  rintro v K4 ⟨hv, hK4⟩
  subst hv; subst hK4
  try simp [go_sem, -getElem?_pos, -List.map_take, -List.map_drop, List.getElem?_cons_zero, List.getElem?_cons_succ, Go.IntWalk.iteOmega, Go.IntWalk.toNatUp, get_setTab, next_setTab, get_alloc, next_alloc]
  refine IWp.seq ?_
  refine IWp.run [1, 2] ?_
  simp [go_sem, -getElem?_pos, -List.map_take, -List.map_drop, List.getElem?_cons_zero, List.getElem?_cons_succ, Go.IntWalk.iteOmega, Go.IntWalk.toNatUp, get_setTab, next_setTab, get_alloc, next_alloc]
  refine ICalls.mono (dueW _ (G.next + 1) G.next 3 dues3 9 hb rfl (by omega)) ?_
  rintro v K5 ⟨ks, hv, hd, -, hK5⟩
  have ek := hd.uniq dues3_due; subst ek; subst hv; subst hK5
  try simp [go_sem, -getElem?_pos, -List.map_take, -List.map_drop, List.getElem?_cons_zero, List.getElem?_cons_succ, Go.IntWalk.iteOmega, Go.IntWalk.toNatUp, get_setTab, next_setTab, get_alloc, next_alloc]
  refine IWp.seq ?_
  refine IWp.run [2, 3] ?_
  simp [go_sem, -getElem?_pos, -List.map_take, -List.map_drop, List.getElem?_cons_zero, List.getElem?_cons_succ, Go.IntWalk.iteOmega, Go.IntWalk.toNatUp, get_setTab, next_setTab, get_alloc, next_alloc]
  refine ICalls.mono (dueW _ (G.next + 1) G.next 3 (delL dues3 [7, 3, 5]) 9 hb rfl (by omega)) ?_
  rintro v K6 ⟨ks2, hv, hd2, -, hK6⟩
  have ek2 := dues4_due hd2; subst ek2; subst hv; subst hK6
  try simp [go_sem, -getElem?_pos, -List.map_take, -List.map_drop, List.getElem?_cons_zero, List.getElem?_cons_succ, Go.IntWalk.iteOmega, Go.IntWalk.toNatUp, get_setTab, next_setTab, get_alloc, next_alloc]
  refine IWp.seq ?_
  refine IWp.run [0] ?_
  simp [go_sem, -getElem?_pos, -List.map_take, -List.map_drop, List.getElem?_cons_zero, List.getElem?_cons_succ, Go.IntWalk.iteOmega, Go.IntWalk.toNatUp, get_setTab, next_setTab, get_alloc, next_alloc]
  refine ICalls.mono (sameOwn _ 0 [7, 3, 5] _ 3 (by simp) rfl (Heap.get_alloc_new _ _)) ?_
  rintro v K7 ⟨hv, hK7⟩
  subst hv
  try simp [go_sem, -getElem?_pos, -List.map_take, -List.map_drop, List.getElem?_cons_zero, List.getElem?_cons_succ, Go.IntWalk.iteOmega, Go.IntWalk.toNatUp, get_setTab, next_setTab, get_alloc, next_alloc]
  refine ICalls.then (ha _) ?_
  try simp [go_sem, -getElem?_pos, -List.map_take, -List.map_drop, List.getElem?_cons_zero, List.getElem?_cons_succ, Go.IntWalk.iteOmega, Go.IntWalk.toNatUp, get_setTab, next_setTab, get_alloc, next_alloc]
  refine IWp.ret ?_
  simp [go_sem, -getElem?_pos, -List.map_take, -List.map_drop, List.getElem?_cons_zero, List.getElem?_cons_succ, Go.IntWalk.iteOmega, Go.IntWalk.toNatUp, get_setTab, next_setTab, get_alloc, next_alloc, Try.results15]

end Go.Proofs.Ytdimnoeldnfikaa.I
