/- A configuration read: all of it. No condition. -/
import Derived.Test.YtoecebibhcadoaaDoorGImgB
namespace Go.Proofs.YtoecebibhcadoaaDoor.I
open Go Go.RowKit
set_option linter.unusedVariables false
set_option linter.unusedSimpArgs false
def confB (a b c : Value) (x y z d p o : Int) (k : Bool) (l : Int) : List Value := [a, b, c, .int .i64 x, .int .i64 y, .int .i64 z, .int .i64 d, .int .i64 p, .int .i64 o, .bool k, .int .i64 l]
structure RC (H : Heap) (b cb rb xb : Nat) (s : Rd) (cs zs : List Value) (M : Heap) : Prop where
  on : On b H M
  rd : M.get b = some ⟨s.cells, true⟩
  q : M.get cb = some ⟨[ptrTo b 0], true⟩
  r : M.get rb = some ⟨zs, true⟩
  x : M.get xb = some ⟨cs, true⟩
  ne : ¬ cb = b ∧ ¬ xb = b ∧ ¬ cb = xb ∧ ¬ rb = b ∧ ¬ rb = xb ∧ H.next ≤ xb
theorem RC.x' {H M K : Heap} {b cb rb xb : Nat} {s : Rd} {cs zs : List Value} (h : RC H b cb rb xb s cs zs M) (g : On b M K) : K.get xb = some ⟨cs, true⟩ := (g.same xb (Heap.lt_of_get h.x) h.ne.2.1).trans h.x
theorem RC.to {H M K : Heap} {b cb rb xb : Nat} {s t : Rd} {cs zs : List Value} (h : RC H b cb rb xb s cs zs M) (g : On b M K) (gb : K.get b = some ⟨t.cells, true⟩) : RC H b cb rb xb t cs zs K :=
  ⟨h.on.trans g, gb, (g.same cb (Heap.lt_of_get h.q) h.ne.1).trans h.q, (g.same rb (Heap.lt_of_get h.r) h.ne.2.2.2.1).trans h.r, h.x' g, h.ne⟩
theorem RC.put {H M : Heap} {b cb rb xb : Nat} {s : Rd} {cs zs : List Value} (h : RC H b cb rb xb s cs zs M) (cs' : List Value) : RC H b cb rb xb s cs' zs (M.set xb cs') :=
  ⟨h.on.setN h.ne.2.2.2.2.2 _, by rw [get_set, if_neg (Ne.symm h.ne.2.1)]; exact h.rd, by rw [get_set, if_neg h.ne.2.2.1]; exact h.q, by rw [get_set, if_neg h.ne.2.2.2.2.1]; exact h.r, by rw [get_set, if_pos rfl, h.x]; rfl, h.ne⟩
def bst (y : Rd) : Nat → Rd
  | 0 => y
  | n + 1 => (bst y n).byte.2
theorem bst_ok {y : Rd} (h : y.ok) : ∀ n, (bst y n).ok
  | 0 => h
  | n + 1 => Rd.byte_ok (bst_ok h n)
set_option maxHeartbeats 4000000 in
theorem readC (H : Heap) (b : Nat) (s : Rd) (hs : s.ok) (hb : H.get b = some ⟨s.cells, true⟩) :
    ICalls Tryd.prog 52 [ptrTo b 0] H fun v K => v = (cfgP s).1.val ∧ On b H K ∧ K.get b = some ⟨(cfgP s).2.cells, true⟩ := by
  obtain ⟨ZC, hZC⟩ : ∃ ZC, ZC = confB (.slice none 0 0) (.slice none 0 0) (.slice none 0 0) 0 0 0 0 0 0 false 0 := ⟨_, rfl⟩
  obtain ⟨H3, hH3⟩ : ∃ H3, H3 = ((H.alloc [ptrTo b 0]).alloc ZC).alloc ZC := ⟨_, rfl⟩
  have l0 := Heap.lt_of_get hb
  have hn3 : H3.next = H.next + 1 + 1 + 1 := by rw [hH3]; rfl
  have gb : H3.get b = some ⟨s.cells, true⟩ := by rw [hH3]; simp only [get_alloc, next_alloc]; rw [if_neg (by omega), if_neg (by omega), if_neg (by omega)]; exact hb
  have gc : H3.get H.next = some ⟨[ptrTo b 0], true⟩ := by rw [hH3]; simp only [get_alloc, next_alloc]; rw [if_neg (by omega), if_neg (by omega)]; simp
  have gr : H3.get (H.next + 1) = some ⟨ZC, true⟩ := by rw [hH3]; simp only [get_alloc, next_alloc]; rw [if_neg (by omega)]; simp
  have gx : H3.get (H.next + 1 + 1) = some ⟨ZC, true⟩ := by rw [hH3]; simp only [get_alloc, next_alloc]; simp
  have o3 : On b H H3 := by rw [hH3]; exact (((On.refl b H).alloc' _).alloc' _).alloc' _
  refine IBody.calls (by kernel_rfl) ?_
  refine IBody.of Tryd.func52 rfl (by rw [Tryd.ntmps52]; simp) ?_
  rw [Tryd.ntmps52]
  have Kp : Kept [[1,2],[1,2,3]] := ⟨⟩
  iterate 2 (refine Kp.s ?_; clear Kp; intro Kp; simp [go_sem, -getElem?_pos, -List.map_take, -List.map_drop, IntWalk.iteOmega, IntWalk.toNatUp])
  refine IWp.seq ?_
  simp only [hZC, confB, ptrTo] at hH3
  try rw [← hH3]
  generalize hcb : H.next = cb at *
  generalize hrb : cb + 1 = rb at *
  generalize hxb : rb + 1 = xb at *
  have hcn : ¬ cb = b := by omega
  have hxn : ¬ xb = b := by omega
  have hcx : ¬ cb = xb := by omega
  have hrn : ¬ rb = b := by omega
  have hrx : ¬ rb = xb := by omega
  simp only [hZC, confB] at gx gr
  obtain ⟨SV, hSV⟩ : ∃ y, y = (manyP sigP s).1 := ⟨_, rfl⟩
  obtain ⟨s1, hs1⟩ : ∃ y, y = (manyP sigP s).2 := ⟨_, rfl⟩
  have k1 : s1.ok := by rw [hs1]; exact manyP_ok _ sigP_ok _ hs
  obtain ⟨RV, hRV⟩ : ∃ y, y = (manyP ruleP s1).1 := ⟨_, rfl⟩
  obtain ⟨s2, hs2⟩ : ∃ y, y = (manyP ruleP s1).2 := ⟨_, rfl⟩
  have k2 : s2.ok := by rw [hs2]; exact manyP_ok _ ruleP_ok _ k1
  obtain ⟨TV, hTV⟩ : ∃ y, y = (manyP slotP s2).1 := ⟨_, rfl⟩
  obtain ⟨s3, hs3⟩ : ∃ y, y = (manyP slotP s2).2 := ⟨_, rfl⟩
  have k3 : s3.ok := by rw [hs3]; exact manyP_ok _ slotP_ok _ k2
  have c1 := listSig H3 b cb s hs gb gc
  rw [← hSV, ← hs1] at c1
  clear hH3
  have h0 : RC H b cb rb xb s _ _ H3 := ⟨o3, gb, gc, gr, gx, hcn, hxn, hcx, hrn, hrx, by omega⟩
  clear gb gr gx o3
  refine IWp.one [1, 2, 3] ?_
  simp [go_sem, -getElem?_pos, -List.map_take, -List.map_drop, IntWalk.iteOmega, IntWalk.toNatUp, gc]
  refine ICalls.mono (c1) ?_
  rintro v K1 ⟨rfl, g1, b1⟩
  have x1 := h0.x' g1
  try simp [go_sem, -getElem?_pos, -List.map_take, -List.map_drop, IntWalk.iteOmega, IntWalk.toNatUp, gc, x1]
  refine IWp.seq ?_
  have h1 := (h0.to g1 b1).put (confB (frow 2 0 (SV.map Sig.val)) (.slice none 0 0) (.slice none 0 0) 0 0 0 0 0 0 false 0)
  simp only [confB] at h1
  generalize K1.set xb _ = M1 at *
  clear x1 b1 g1 gc c1 h0
  have c1 := listRule M1 b cb s1 k1 h1.rd h1.q
  rw [← hRV, ← hs2] at c1
  have gc := h1.q
  refine IWp.one [1, 2, 3] ?_
  simp [go_sem, -getElem?_pos, -List.map_take, -List.map_drop, IntWalk.iteOmega, IntWalk.toNatUp, gc]
  refine ICalls.mono (c1) ?_
  rintro v K1 ⟨rfl, g1, b1⟩
  have x1 := h1.x' g1
  try simp [go_sem, -getElem?_pos, -List.map_take, -List.map_drop, IntWalk.iteOmega, IntWalk.toNatUp, gc, x1]
  refine IWp.seq ?_
  have h2 := (h1.to g1 b1).put (confB (frow 2 0 (SV.map Sig.val)) (frow 9 0 (RV.map Rule.val)) (.slice none 0 0) 0 0 0 0 0 0 false 0)
  simp only [confB] at h2
  generalize K1.set xb _ = M2 at *
  clear x1 b1 g1 gc c1 h1
  have c1 := listSlot M2 b cb s2 k2 h2.rd h2.q
  rw [← hTV, ← hs3] at c1
  have gc := h2.q
  refine IWp.one [1, 2, 3] ?_
  simp [go_sem, -getElem?_pos, -List.map_take, -List.map_drop, IntWalk.iteOmega, IntWalk.toNatUp, gc]
  refine ICalls.mono (c1) ?_
  rintro v K1 ⟨rfl, g1, b1⟩
  have x1 := h2.x' g1
  try simp [go_sem, -getElem?_pos, -List.map_take, -List.map_drop, IntWalk.iteOmega, IntWalk.toNatUp, gc, x1]
  have h3 := (h2.to g1 b1).put (confB (frow 2 0 (SV.map Sig.val)) (frow 9 0 (RV.map Rule.val)) (frow 1 0 (TV.map (ints .i64))) 0 0 0 0 0 0 false 0)
  simp only [confB] at h3
  generalize K1.set xb _ = M3 at *
  clear x1 b1 g1 gc c1 h2
  obtain ⟨CB, hCB⟩ : ∃ CB : Nat → List Value, CB = fun i => confB (frow 2 0 (SV.map Sig.val)) (frow 9 0 (RV.map Rule.val)) (frow 1 0 (TV.map (ints .i64))) (if 0 < i then s3.byte.1 else 0) (if 1 < i then (bst s3 1).byte.1 else 0) (if 2 < i then (bst s3 2).byte.1 else 0) 0 0 0 false 0 := ⟨_, rfl⟩
  obtain ⟨ZS, hZS⟩ : ∃ ZS : List Value, ZS = confB (.slice none 0 0) (.slice none 0 0) (.slice none 0 0) 0 0 0 0 0 0 false 0 := ⟨_, rfl⟩
  have h3' : RC H b cb rb xb (bst s3 0) (CB 0) ZS M3 := by rw [hCB, hZS]; simpa [confB, bst] using h3
  refine IWp.cut (fun e K => RC H b cb rb xb (bst s3 3) (CB 3) ZS K ∧ e = [(1, ptrTo cb 0), (2, ptrTo rb 0), (3, ptrTo xb 0)]) ?_ ?_
  · skip
    refine IWp.one [1, 2, 3, 18] ?_
    simp [go_sem, -getElem?_pos, -List.map_take, -List.map_drop, IntWalk.iteOmega, IntWalk.toNatUp]
    refine IWp.block ?_
    refine IWp.loop (fun j e K => ∃ i : Nat, j = 3 - i ∧ i ≤ 3 ∧ RC H b cb rb xb (bst s3 i) (CB i) ZS K ∧ e = [(1, ptrTo cb 0), (2, ptrTo rb 0), (3, ptrTo xb 0), (18, .int .i64 (i : Int))]) 3 ⟨0, rfl, Nat.zero_le _, h3', by simp [go_sem]⟩ ?_
    clear h3 h3'
    rintro j e K ⟨i, rfl, hi, h, rfl⟩
    have kq := h.q
    have kx := h.x
    have ki := bst_ok k3 i
    have c1 := rByte K b (bst s3 i) ki h.rd
    have hu := Rd.byte_u8 _ ki
    have w1 := IntWalk.i64_in (bst s3 i).byte.1 (by omega)
    have w2 := IntWalk.i64_in ((i : Int) + 1) (by omega)
    by_cases hlt : i < 3
    · have hk := h.to (On.set b K (bst s3 i).byte.2.cells) (t := (bst s3 i).byte.2) (by rw [get_set, if_pos rfl, h.rd]; rfl)
      have hk2 := hk.put (CB (i + 1))
      have kx2 := hk.x
      have h012 : i = 0 ∨ i = 1 ∨ i = 2 := by omega
      rcases h012 with rfl | rfl | rfl
      · rw [hCB] at kx2
        simp [confB] at kx2
        have Kp : Kept [[1,2,3,18,19],[],[1,2,3,18],[1,2,3,4,18],[1,2,3,18]] := ⟨⟩
        iterate 5 (refine Kp.s ?_; clear Kp; intro Kp; simp [go_sem, -getElem?_pos, -List.map_take, -List.map_drop, IntWalk.iteOmega, IntWalk.toNatUp, kq, w1, w2, show IntKind.i64.wrap 1 = 1 from IntWalk.i64_in _ (by omega)])
        refine ICalls.mono (c1) ?_
        rintro v _ ⟨rfl, rfl⟩
        try simp [go_sem, -getElem?_pos, -List.map_take, -List.map_drop, IntWalk.iteOmega, IntWalk.toNatUp, kq, w1, w2, show IntKind.i64.wrap 1 = 1 from IntWalk.i64_in _ (by omega), kx2]
        refine IWp.one [1, 2, 3, 18] ?_
        simp [go_sem, -getElem?_pos, -List.map_take, -List.map_drop, IntWalk.iteOmega, IntWalk.toNatUp, kq, w1, w2, show IntKind.i64.wrap 1 = 1 from IntWalk.i64_in _ (by omega), kx2]
        refine ⟨2, by omega, 1, rfl, by omega, ?_, rfl⟩
        rw [hCB] at hk2 ⊢
        simpa [confB, bst] using hk2
      · rw [hCB] at kx2
        simp [confB] at kx2
        have Kp : Kept [[1,2,3,18,19],[],[1,2,3,18],[1,2,3,4,18],[1,2,3,18]] := ⟨⟩
        iterate 5 (refine Kp.s ?_; clear Kp; intro Kp; simp [go_sem, -getElem?_pos, -List.map_take, -List.map_drop, IntWalk.iteOmega, IntWalk.toNatUp, kq, w1, w2, show IntKind.i64.wrap 2 = 2 from IntWalk.i64_in _ (by omega)])
        refine ICalls.mono (c1) ?_
        rintro v _ ⟨rfl, rfl⟩
        try simp [go_sem, -getElem?_pos, -List.map_take, -List.map_drop, IntWalk.iteOmega, IntWalk.toNatUp, kq, w1, w2, show IntKind.i64.wrap 2 = 2 from IntWalk.i64_in _ (by omega), kx2]
        refine IWp.one [1, 2, 3, 18] ?_
        simp [go_sem, -getElem?_pos, -List.map_take, -List.map_drop, IntWalk.iteOmega, IntWalk.toNatUp, kq, w1, w2, show IntKind.i64.wrap 2 = 2 from IntWalk.i64_in _ (by omega), kx2]
        refine ⟨1, by omega, 2, rfl, by omega, ?_, rfl⟩
        rw [hCB] at hk2 ⊢
        simpa [confB, bst] using hk2
      · rw [hCB] at kx2
        simp [confB] at kx2
        have Kp : Kept [[1,2,3,18,19],[],[1,2,3,18],[1,2,3,4,18],[1,2,3,18]] := ⟨⟩
        iterate 5 (refine Kp.s ?_; clear Kp; intro Kp; simp [go_sem, -getElem?_pos, -List.map_take, -List.map_drop, IntWalk.iteOmega, IntWalk.toNatUp, kq, w1, w2, show IntKind.i64.wrap 3 = 3 from IntWalk.i64_in _ (by omega)])
        refine ICalls.mono (c1) ?_
        rintro v _ ⟨rfl, rfl⟩
        try simp [go_sem, -getElem?_pos, -List.map_take, -List.map_drop, IntWalk.iteOmega, IntWalk.toNatUp, kq, w1, w2, show IntKind.i64.wrap 3 = 3 from IntWalk.i64_in _ (by omega), kx2]
        refine IWp.one [1, 2, 3, 18] ?_
        simp [go_sem, -getElem?_pos, -List.map_take, -List.map_drop, IntWalk.iteOmega, IntWalk.toNatUp, kq, w1, w2, show IntKind.i64.wrap 3 = 3 from IntWalk.i64_in _ (by omega), kx2]
        refine ⟨3, by omega, by omega, ?_, rfl⟩
        rw [hCB] at hk2 ⊢
        simpa [confB, bst] using hk2
    · have hi3 : i = 3 := by omega
      subst hi3
      have Kp : Kept [[1,2,3,18,19],[],[1,2,3]] := ⟨⟩
      iterate 3 (refine Kp.s ?_; clear Kp; intro Kp; simp [go_sem, -getElem?_pos, -List.map_take, -List.map_drop, IntWalk.iteOmega, IntWalk.toNatUp])
      exact h
  rintro e K ⟨h, rfl⟩
  have hx3 := h.x
  have hZ := h.r
  rw [hZS] at hZ
  rw [hCB] at hx3
  simp only [confB, Nat.lt_add_one, if_true, show (0:Nat) < 3 by omega, show (1:Nat) < 3 by omega, show (2:Nat) < 3 by omega] at hx3 hZ
  obtain ⟨y0, hy0⟩ : ∃ y, y = bst s3 3 := ⟨_, rfl⟩
  have hy : y0 = s3.byte.2.byte.2.byte.2 := by rw [hy0]; rfl
  have ky0 : y0.ok := by rw [hy0]; exact bst_ok k3 3
  obtain ⟨d, hd⟩ : ∃ y, y = y0.byte.1 := ⟨_, rfl⟩
  obtain ⟨y1, hy1⟩ : ∃ y, y = y0.byte.2 := ⟨_, rfl⟩
  have ky1 : y1.ok := by rw [hy1]; exact Rd.byte_ok ky0
  obtain ⟨p, hp⟩ : ∃ y, y = y1.int.1 := ⟨_, rfl⟩
  obtain ⟨y2, hy2⟩ : ∃ y, y = y1.int.2 := ⟨_, rfl⟩
  have ky2 : y2.ok := by rw [hy2]; exact Rd.int_ok ky1
  obtain ⟨o, ho⟩ : ∃ y, y = y2.int.1 := ⟨_, rfl⟩
  obtain ⟨y3, hy3⟩ : ∃ y, y = y2.int.2 := ⟨_, rfl⟩
  have ky3 : y3.ok := by rw [hy3]; exact Rd.int_ok ky2
  obtain ⟨k, hk⟩ : ∃ y, y = y3.flag.1 := ⟨_, rfl⟩
  obtain ⟨y4, hy4⟩ : ∃ y, y = y3.flag.2 := ⟨_, rfl⟩
  have ky4 : y4.ok := by rw [hy4]; exact Rd.flag_ok ky3
  obtain ⟨lg, hlg⟩ : ∃ y, y = y4.int.1 := ⟨_, rfl⟩
  obtain ⟨y5, hy5⟩ : ∃ y, y = y4.int.2 := ⟨_, rfl⟩
  have hcfg : cfgP s = (⟨SV, RV, TV, s3.byte.1, (bst s3 1).byte.1, (bst s3 2).byte.1, d, p, o, k, lg⟩, y5) := by
    subst hSV hs1 hRV hs2 hTV hs3 hd hy1 hp hy2 ho hy3 hk hy4 hlg hy5; rw [hy]; rfl
  rw [hcfg]
  rw [← hy0] at h
  have e0 := h
  have step : ∀ (M : Heap) (t t' : Rd), RC H b cb rb xb t (CB 3) ZS M → t' = t' → RC H b cb rb xb t' (CB 3) ZS (M.set b t'.cells) := fun M t t' h _ => h.to (On.set b M _) (by rw [get_set, if_pos rfl, h.rd]; rfl)
  have c1 := rByte K b y0 ky0 h.rd
  have h1 := step K y0 y1 h rfl
  rw [← hd, ← hy1] at c1
  have c2 := rInt _ b y1 ky1 h1.rd
  have h2 := step _ y1 y2 h1 rfl
  rw [← hp, ← hy2] at c2
  have c3 := rInt _ b y2 ky2 h2.rd
  have h4 := step _ y2 y3 h2 rfl
  rw [← ho, ← hy3] at c3
  have c4 := rFlag _ b y3 ky3 h4.rd
  have h5 := step _ y3 y4 h4 rfl
  rw [← hk, ← hy4] at c4
  have c5 := rInt _ b y4 ky4 h5.rd
  have h6 := step _ y4 y5 h5 rfl
  rw [← hlg, ← hy5] at c5
  have hu := Rd.byte_u8 _ ky0
  rw [← hd] at hu
  have w1 := IntWalk.i64_in d (by omega)
  have kq := h.q
  refine IWp.seq ?_
  refine IWp.draw [2, 3] [cb] (.ld 0 [1, 2, 4, 6, 8, 10, 11, 12, 13, 14, 15, 16, 17, 18, 19, 20] (.val 3 (.val 5 (.val 7 (.val 9 (.eff 1 (.val 2 (.val 11 (.eff 4 (.eff 6 (.eff 8 (.eff 10 (.eff 12 (.val 13 (.eff 14 (.val 15 (.eff 16 (.val 17 (.eff 18 (.val 19 (.eff 20 .done .done)) .done)) .done)) .done)) .done) .done) .done) .done) .done))) .done)))))) follows (by kernel_rfl) ?_
  simp [go_sem, -getElem?_pos, -List.map_take, -List.map_drop, IntWalk.iteOmega, IntWalk.toNatUp, kq, w1, get_set, hcn, hxn, hx3, hZ, hrx, show ¬ rb = b from hrn]
  refine ICalls.mono (c1) ?_
  rintro v _ ⟨rfl, rfl⟩
  try simp [go_sem, -getElem?_pos, -List.map_take, -List.map_drop, IntWalk.iteOmega, IntWalk.toNatUp, kq, w1, get_set, hcn, hxn, hx3, hZ, hrx, show ¬ rb = b from hrn]
  refine ICalls.mono (c2) ?_
  rintro v _ ⟨rfl, rfl⟩
  try simp [go_sem, -getElem?_pos, -List.map_take, -List.map_drop, IntWalk.iteOmega, IntWalk.toNatUp, kq, w1, get_set, hcn, hxn, hx3, hZ, hrx, show ¬ rb = b from hrn]
  refine ICalls.mono (c3) ?_
  rintro v _ ⟨rfl, rfl⟩
  try simp [go_sem, -getElem?_pos, -List.map_take, -List.map_drop, IntWalk.iteOmega, IntWalk.toNatUp, kq, w1, get_set, hcn, hxn, hx3, hZ, hrx, show ¬ rb = b from hrn]
  refine ICalls.mono (c4) ?_
  rintro v _ ⟨rfl, rfl⟩
  try simp [go_sem, -getElem?_pos, -List.map_take, -List.map_drop, IntWalk.iteOmega, IntWalk.toNatUp, kq, w1, get_set, hcn, hxn, hx3, hZ, hrx, show ¬ rb = b from hrn]
  refine ICalls.mono (c5) ?_
  rintro v _ ⟨rfl, rfl⟩
  try simp [go_sem, -getElem?_pos, -List.map_take, -List.map_drop, IntWalk.iteOmega, IntWalk.toNatUp, kq, w1, get_set, hcn, hxn, hx3, hZ, hrx, show ¬ rb = b from hrn]
  have Kp : Kept [[2],[]] := ⟨⟩
  iterate 2 (refine Kp.s ?_; clear Kp; intro Kp; simp [go_sem, -getElem?_pos, -List.map_take, -List.map_drop, IntWalk.iteOmega, IntWalk.toNatUp, kq, w1, get_set, hcn, hxn, hx3, hZ, hrx, show ¬ rb = b from hrn])
  exact ⟨rfl, (((((h6.on.setN (by omega) _).setN (by omega) _).setN (by omega) _).setN (by omega) _).setN (by omega) _).setN (by omega) _, _, h.rd, rfl⟩
end Go.Proofs.YtoecebibhcadoaaDoor.I
