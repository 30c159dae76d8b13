/- An image read: image.Decode. No condition. -/
import Derived.Test.YtoecebibhcadoaaDoorGImgD
namespace Go.Proofs.YtoecebibhcadoaaDoor.I
open Go Go.RowKit
set_option linter.unusedVariables false
set_option linter.unusedSimpArgs false
set_option maxRecDepth 8000 in
set_option maxHeartbeats 4000000 in
theorem decodeC (H : Heap) (m : Int) (L : List Int) (hL : L.length ≤ 800000) (hB : Bs L) :
    ICalls Tryd.prog 13 [frow 1 m (L.map (Value.int .u8))] H fun v H' => v = .tuple #[(decP L).1.val, .int .i64 (decP L).2.1, .int .i64 (decP L).2.2] ∧ H' = H := by
  refine ICalls.ans (by simp only [Cl_tuple, ClL_cons, Config.cl_val, Cl_int, ClL_nil]; exact ⟨trivial, trivial, trivial, trivial⟩) fun H => IBody.calls (by kernel_rfl) ?_
  obtain ⟨K0, hK0⟩ : ∃ K0, K0 = H.alloc [.slice none 0 0, .slice none 0 0, .slice none 0 0, .int .i64 0, .int .i64 0, .int .i64 0, .int .i64 0, .int .i64 0, .int .i64 0, .bool false, .int .i64 0] := ⟨_, rfl⟩
  have g0 : K0.get H.next = some ⟨[.slice none 0 0, .slice none 0 0, .slice none 0 0, .int .i64 0, .int .i64 0, .int .i64 0, .int .i64 0, .int .i64 0, .int .i64 0, .bool false, .int .i64 0], true⟩ := by rw [hK0]; exact Heap.get_alloc_new _ _
  refine IBody.of Tryd.func13 rfl (by rw [Tryd.ntmps13]; simp) ?_
  rw [Tryd.ntmps13]
  refine IWp.one [0, 2] ?_
  simp [go_sem, -getElem?_pos, -List.map_take, -List.map_drop, IntWalk.iteOmega, IntWalk.toNatUp]
  refine IWp.seq ?_
  rw [← hK0]
  refine IWp.one [2, 5, 6] ?_
  simp [go_sem, -getElem?_pos, -List.map_take, -List.map_drop, IntWalk.iteOmega, IntWalk.toNatUp]
  refine ICalls.mono (wholeC K0 m L hL hB) ?_
  rintro v K ⟨hw, ho⟩
  have g1 := ho.some _ _ g0
  have l1 := Heap.lt_of_get g1
  have lt0 : ¬ H.next = K.next := by omega
  have lt1 : ¬ H.next = K.next + 1 := by omega
  have lt2 : ¬ H.next = K.next + 1 + 1 := by omega
  have lt3 : ¬ H.next = K.next + 1 + 1 + 1 := by omega
  rcases hw with ⟨e, rfl, hd⟩ | ⟨p, at_, e, rfl, hp, hd, he⟩ | ⟨c, rfl, hd⟩
  · obtain ⟨c, hc⟩ : ∃ c, c = cfgZ := ⟨_, rfl⟩
    rw [hd, ← hc]
    rw [← hc] at hd
    simp [go_sem, Config.val, Config.cells]
    by_cases h3 : e = 3
    · subst h3
      have Kp : Kept [[2,5,6,7,8],[2,5,6,7,8]] := ⟨⟩
      iterate 2 (refine Kp.s ?_; clear Kp; intro Kp; simp [go_sem, -getElem?_pos, -List.map_take, -List.map_drop, IntWalk.iteOmega, IntWalk.toNatUp, g1, get_alloc, next_alloc, lt0, lt1, lt2, lt3])
      refine ICalls.mono (asMiss _ _ _) ?_
      rintro v _ ⟨rfl, rfl⟩
      try simp [go_sem, -getElem?_pos, -List.map_take, -List.map_drop, IntWalk.iteOmega, IntWalk.toNatUp, g1, get_alloc, next_alloc, lt0, lt1, lt2, lt3]
      refine IWp.one [2, 5, 6, 7, 8] ?_
      simp [go_sem, -getElem?_pos, -List.map_take, -List.map_drop, IntWalk.iteOmega, IntWalk.toNatUp, g1, get_alloc, next_alloc, lt0, lt1, lt2, lt3]
      refine ICalls.mono (asHitE _ _ _ (.int .i64 0) (Heap.get_alloc_new _ _)) ?_
      rintro v _ ⟨rfl, rfl⟩
      try simp [go_sem, -getElem?_pos, -List.map_take, -List.map_drop, IntWalk.iteOmega, IntWalk.toNatUp, g1, get_alloc, next_alloc, lt0, lt1, lt2, lt3]
      refine IWp.one [2, 5, 7, 8, 24] ?_
      simp [go_sem, -getElem?_pos, -List.map_take, -List.map_drop, IntWalk.iteOmega, IntWalk.toNatUp, g1, get_alloc, next_alloc, lt0, lt1, lt2, lt3]
      refine ICalls.mono (isErr _ _ 3) ?_
      rintro v _ ⟨rfl, rfl⟩
      try simp [go_sem, -getElem?_pos, -List.map_take, -List.map_drop, IntWalk.iteOmega, IntWalk.toNatUp, g1, get_alloc, next_alloc, lt0, lt1, lt2, lt3]
      have Kp : Kept [[],[2,3,4],[]] := ⟨⟩
      iterate 3 (refine Kp.s ?_; clear Kp; intro Kp; simp [go_sem, -getElem?_pos, -List.map_take, -List.map_drop, IntWalk.iteOmega, IntWalk.toNatUp, g1, get_alloc, next_alloc, lt0, lt1, lt2, lt3])
      subst hc
      exact ⟨.nil 2, .nil 9, .nil 1, .same _, .same _, .same _, .same _, .same _, .same _, .same _, .same _⟩
    · skip
      have Kp : Kept [[2,5,6,7,8],[2,5,6,7,8]] := ⟨⟩
      iterate 2 (refine Kp.s ?_; clear Kp; intro Kp; simp [go_sem, -getElem?_pos, -List.map_take, -List.map_drop, IntWalk.iteOmega, IntWalk.toNatUp, h3, g1, get_alloc, next_alloc, lt0, lt1, lt2, lt3])
      refine ICalls.mono (asMiss _ _ _) ?_
      rintro v _ ⟨rfl, rfl⟩
      try simp [go_sem, -getElem?_pos, -List.map_take, -List.map_drop, IntWalk.iteOmega, IntWalk.toNatUp, h3, g1, get_alloc, next_alloc, lt0, lt1, lt2, lt3]
      refine IWp.one [2, 5, 6, 7, 8] ?_
      simp [go_sem, -getElem?_pos, -List.map_take, -List.map_drop, IntWalk.iteOmega, IntWalk.toNatUp, h3, g1, get_alloc, next_alloc, lt0, lt1, lt2, lt3]
      refine ICalls.mono (asHitE _ _ _ (.int .i64 0) (Heap.get_alloc_new _ _)) ?_
      rintro v _ ⟨rfl, rfl⟩
      try simp [go_sem, -getElem?_pos, -List.map_take, -List.map_drop, IntWalk.iteOmega, IntWalk.toNatUp, h3, g1, get_alloc, next_alloc, lt0, lt1, lt2, lt3]
      refine IWp.one [2, 5, 7, 8, 24] ?_
      simp [go_sem, -getElem?_pos, -List.map_take, -List.map_drop, IntWalk.iteOmega, IntWalk.toNatUp, h3, g1, get_alloc, next_alloc, lt0, lt1, lt2, lt3]
      refine ICalls.mono (isErr _ _ 3) ?_
      rintro v _ ⟨rfl, rfl⟩
      try simp [go_sem, -getElem?_pos, -List.map_take, -List.map_drop, IntWalk.iteOmega, IntWalk.toNatUp, h3, g1, get_alloc, next_alloc, lt0, lt1, lt2, lt3]
      have Kp : Kept [[],[2,5,7,8]] := ⟨⟩
      iterate 2 (refine Kp.s ?_; clear Kp; intro Kp; simp [go_sem, -getElem?_pos, -List.map_take, -List.map_drop, IntWalk.iteOmega, IntWalk.toNatUp, h3, g1, get_alloc, next_alloc, lt0, lt1, lt2, lt3])
      refine IWp.seq ?_
      refine IWp.draw [2, 3, 4] [K.next, K.next + 1 + 1, K.next + 1, K.next + 1 + 1 + 1] (.ld 0 [6, 7, 8] (.val 1 (.val 2 (.val 3 (.val 4 (.val 5 (.eff 6 (.val 7 (.val 8 .done)) .done))))))) follows (by kernel_rfl) ?_
      simp [go_sem, -getElem?_pos, -List.map_take, -List.map_drop, IntWalk.iteOmega, IntWalk.toNatUp, h3, g1, get_alloc, next_alloc, lt0, lt1, lt2, lt3]
      refine IWp.one [] ?_
      simp [go_sem, -getElem?_pos, -List.map_take, -List.map_drop, IntWalk.iteOmega, IntWalk.toNatUp, h3, g1, get_alloc, next_alloc, lt0, lt1, lt2, lt3]
      done
  · obtain ⟨c, hc⟩ : ∃ c, c = cfgZ := ⟨_, rfl⟩
    rw [hd, ← hc]
    rw [← hc] at hd
    have lp := Heap.lt_of_get hp
    have np : ¬ p = H.next := fun e => by rw [e, g1] at hp; simp at hp
    have hp4 : ∀ a b c d : List Value, ((((K.alloc a).alloc b).alloc c).alloc d).get p = some ⟨[.int .i64 at_, errV e], true⟩ := fun a b c d => by
      simp only [get_alloc, next_alloc]
      rw [if_neg (by omega), if_neg (by omega), if_neg (by omega), if_neg (by omega)]
      exact hp
    have q0 : ¬ p = K.next := by omega
    have q1 : ¬ p = K.next + 1 := by omega
    have q2 : ¬ p = K.next + 1 + 1 := by omega
    have q3 : ¬ p = K.next + 1 + 1 + 1 := by omega
    simp [go_sem, Config.val, Config.cells]
    have Kp : Kept [[2,5,6,7,8],[2,5,6,7,8]] := ⟨⟩
    iterate 2 (refine Kp.s ?_; clear Kp; intro Kp; simp [go_sem, -getElem?_pos, -List.map_take, -List.map_drop, IntWalk.iteOmega, IntWalk.toNatUp, hp, g1, get_alloc, next_alloc, lt0, lt1, lt2, lt3, q0, q1, q2, q3])
    refine ICalls.mono (asHitP _ _ _ (.pointer (some ⟨K.next + 1, 0, none⟩)) (by simp [get_alloc, next_alloc])) ?_
    rintro v _ ⟨rfl, rfl⟩
    try simp [go_sem, -getElem?_pos, -List.map_take, -List.map_drop, IntWalk.iteOmega, IntWalk.toNatUp, hp, g1, get_alloc, next_alloc, lt0, lt1, lt2, lt3, q0, q1, q2, q3]
    refine IWp.one [2, 5, 6, 7, 8] ?_
    simp [go_sem, -getElem?_pos, -List.map_take, -List.map_drop, IntWalk.iteOmega, IntWalk.toNatUp, hp, g1, get_alloc, next_alloc, lt0, lt1, lt2, lt3, q0, q1, q2, q3]
    refine ICalls.mono (asWrapE _ _ _ _ _ _ (.int .i64 0) (hp4 _ _ _ _) (Heap.get_alloc_new _ _)) ?_
    rintro v _ ⟨rfl, rfl⟩
    try simp [go_sem, -getElem?_pos, -List.map_take, -List.map_drop, IntWalk.iteOmega, IntWalk.toNatUp, hp, g1, get_alloc, next_alloc, lt0, lt1, lt2, lt3, q0, q1, q2, q3]
    refine IWp.one [2, 5, 7, 8, 24] ?_
    simp [go_sem, -getElem?_pos, -List.map_take, -List.map_drop, IntWalk.iteOmega, IntWalk.toNatUp, hp, g1, get_alloc, next_alloc, lt0, lt1, lt2, lt3, q0, q1, q2, q3]
    refine ICalls.mono (isWrap _ _ _ _ _ _ he (hp4 _ _ _ _)) ?_
    rintro v _ ⟨rfl, rfl⟩
    try simp [go_sem, -getElem?_pos, -List.map_take, -List.map_drop, IntWalk.iteOmega, IntWalk.toNatUp, hp, g1, get_alloc, next_alloc, lt0, lt1, lt2, lt3, q0, q1, q2, q3]
    have Kp : Kept [[],[2,5,7,8]] := ⟨⟩
    iterate 2 (refine Kp.s ?_; clear Kp; intro Kp; simp [go_sem, -getElem?_pos, -List.map_take, -List.map_drop, IntWalk.iteOmega, IntWalk.toNatUp, hp, g1, get_alloc, next_alloc, lt0, lt1, lt2, lt3, q0, q1, q2, q3])
    refine IWp.seq ?_
    refine IWp.draw [2, 3, 4] [K.next, K.next + 1 + 1, p, K.next + 1 + 1 + 1] (.ld 0 [6, 7, 8] (.val 1 (.val 2 (.val 3 (.val 4 (.val 5 (.eff 6 (.val 7 (.val 8 .done)) .done))))))) follows (by kernel_rfl) ?_
    simp [go_sem, -getElem?_pos, -List.map_take, -List.map_drop, IntWalk.iteOmega, IntWalk.toNatUp, hp, g1, get_alloc, next_alloc, lt0, lt1, lt2, lt3, q0, q1, q2, q3]
    refine IWp.one [] ?_
    simp [go_sem, -getElem?_pos, -List.map_take, -List.map_drop, IntWalk.iteOmega, IntWalk.toNatUp, hp, g1, get_alloc, next_alloc, lt0, lt1, lt2, lt3, q0, q1, q2, q3]
    done
  · rw [hd]
    simp [go_sem, Config.val, Config.cells]
    have Kp : Kept [[2,5,6,7,8],[2,5,6,7,8]] := ⟨⟩
    iterate 2 (refine Kp.s ?_; clear Kp; intro Kp; simp [go_sem, -getElem?_pos, -List.map_take, -List.map_drop, IntWalk.iteOmega, IntWalk.toNatUp, g1, get_alloc, next_alloc, lt0, lt1, lt2, lt3])
    refine ICalls.mono (asNil _ _) ?_
    rintro v _ ⟨rfl, rfl⟩
    try simp [go_sem, -getElem?_pos, -List.map_take, -List.map_drop, IntWalk.iteOmega, IntWalk.toNatUp, g1, get_alloc, next_alloc, lt0, lt1, lt2, lt3]
    refine IWp.one [2, 5, 6, 7, 8] ?_
    simp [go_sem, -getElem?_pos, -List.map_take, -List.map_drop, IntWalk.iteOmega, IntWalk.toNatUp, g1, get_alloc, next_alloc, lt0, lt1, lt2, lt3]
    refine ICalls.mono (asNil _ _) ?_
    rintro v _ ⟨rfl, rfl⟩
    try simp [go_sem, -getElem?_pos, -List.map_take, -List.map_drop, IntWalk.iteOmega, IntWalk.toNatUp, g1, get_alloc, next_alloc, lt0, lt1, lt2, lt3]
    refine IWp.one [2, 5, 7, 8, 24] ?_
    simp [go_sem, -getElem?_pos, -List.map_take, -List.map_drop, IntWalk.iteOmega, IntWalk.toNatUp, g1, get_alloc, next_alloc, lt0, lt1, lt2, lt3]
    refine ICalls.mono (isNil _ 3) ?_
    rintro v _ ⟨rfl, rfl⟩
    try simp [go_sem, -getElem?_pos, -List.map_take, -List.map_drop, IntWalk.iteOmega, IntWalk.toNatUp, g1, get_alloc, next_alloc, lt0, lt1, lt2, lt3]
    have Kp : Kept [[],[2,5,7,8]] := ⟨⟩
    iterate 2 (refine Kp.s ?_; clear Kp; intro Kp; simp [go_sem, -getElem?_pos, -List.map_take, -List.map_drop, IntWalk.iteOmega, IntWalk.toNatUp, g1, get_alloc, next_alloc, lt0, lt1, lt2, lt3])
    refine IWp.seq ?_
    refine IWp.draw [2, 3, 4] [K.next, K.next + 1 + 1, K.next + 1, K.next + 1 + 1 + 1] (.ld 0 [6, 7, 8] (.val 1 (.val 2 (.val 3 (.val 4 (.val 5 (.eff 6 (.val 7 (.val 8 .done)) .done))))))) follows (by kernel_rfl) ?_
    simp [go_sem, -getElem?_pos, -List.map_take, -List.map_drop, IntWalk.iteOmega, IntWalk.toNatUp, g1, get_alloc, next_alloc, lt0, lt1, lt2, lt3]
    refine IWp.one [] ?_
    simp [go_sem, -getElem?_pos, -List.map_take, -List.map_drop, IntWalk.iteOmega, IntWalk.toNatUp, g1, get_alloc, next_alloc, lt0, lt1, lt2, lt3]
    done
end Go.Proofs.YtoecebibhcadoaaDoor.I
