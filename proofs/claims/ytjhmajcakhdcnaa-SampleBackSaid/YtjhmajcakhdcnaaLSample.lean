/- Samples as bytes: what the program does and what the document says; the laws' bodies. No condition. -/
import Derived.Test.YtjhmajcakhdcnaaGReadI
import Derived.Test.YtjhmajcakhdcnaaGWrite
import Derived.Test.YtjhmajcakhdcnaaGGaps
namespace Go.Proofs.Ytjhmajcakhdcnaa.I
open Go Go.RowKit
set_option linter.unusedVariables false
set_option linter.unusedSimpArgs false

structure Sample where
  sg : Int
  seq : Int
  val_ : Int
  bad : Bool
def Sample.cells (x : Sample) : List Value := [.int .i64 x.sg, .int .u8 x.seq, .int .i64 x.val_, .bool x.bad]
def Sample.val (x : Sample) : Value := .agg ⟨x.cells⟩
theorem Sample.val_cells (x : Sample) : x.val.cells = ⟨x.cells⟩ := rfl
def Sample.wf (x : Sample) : Prop := (-9223372036854775808 ≤ x.sg ∧ x.sg < 9223372036854775808) ∧ (0 ≤ x.seq ∧ x.seq < 256) ∧ (-9223372036854775808 ≤ x.val_ ∧ x.val_ < 9223372036854775808)
theorem Sample.cl (x : Sample) : ClL x.cells := by
  simp [Sample.cells, ClL_cons, ClL_nil, ClL_append, Cl_int, Cl_bool, Cl_string, cl_ints, Cl_frow_map]
theorem Sample.cl_row (sz : Nat) (m : Int) (L : List Sample) : Cl (frow sz m (L.map Sample.val)) = True := by
  rw [Cl_frow_map]; simp [Sample.val_cells, Sample.cl]
theorem Sample.cl_val (x : Sample) : Cl x.val = True := by
  unfold Sample.val; rw [Cl_agg]; simp [Sample.cl]
structure Sig where
  lo : Int
  hi : Int
def Sig.cells (x : Sig) : List Value := [.int .i64 x.lo, .int .i64 x.hi]
def Sig.val (x : Sig) : Value := .agg ⟨x.cells⟩
theorem Sig.val_cells (x : Sig) : x.val.cells = ⟨x.cells⟩ := rfl
def Sig.wf (x : Sig) : Prop := (-9223372036854775808 ≤ x.lo ∧ x.lo < 9223372036854775808) ∧ (-9223372036854775808 ≤ x.hi ∧ x.hi < 9223372036854775808)
theorem Sig.cl (x : Sig) : ClL x.cells := by
  simp [Sig.cells, ClL_cons, ClL_nil, ClL_append, Cl_int, Cl_bool, Cl_string, cl_ints, Cl_frow_map]
theorem Sig.cl_row (sz : Nat) (m : Int) (L : List Sig) : Cl (frow sz m (L.map Sig.val)) = True := by
  rw [Cl_frow_map]; simp [Sig.val_cells, Sig.cl]
theorem Sig.cl_val (x : Sig) : Cl x.val = True := by
  unfold Sig.val; rw [Cl_agg]; simp [Sig.cl]

def sampB (x : Sample) : List Int := [x.sg % 256, x.seq, if x.bad then 1 else 0] ++ i4 x.val_

theorem sampleBytes (H : Heap) (x : Sample) : ICalls Try.prog 23 [x.val] H fun v H' => v = byts (sampB x) ∧ H' = H := by
  refine ICalls.ans (by simp [go_sem]) fun H => IBody.calls (by kernel_rfl) ?_
  refine IBody.of Try.func23 rfl (by rw [Try.ntmps23]; simp) ?_
  rw [Try.ntmps23]
  refine IWp.seq ?_
  refine IWp.run [1] ?_
  simp [go_sem, -getElem?_pos, -List.map_take, -List.map_drop, List.getElem?_cons_zero, List.getElem?_cons_succ, Go.IntWalk.iteOmega, Go.IntWalk.toNatUp, Sample.val, Sample.cells, u8_mod]
  refine IWp.seq ?_
  refine IWp.run [1, 3] ?_
  simp [go_sem, -getElem?_pos, -List.map_take, -List.map_drop, List.getElem?_cons_zero, List.getElem?_cons_succ, Go.IntWalk.iteOmega, Go.IntWalk.toNatUp, Sample.val, Sample.cells, u8_mod]
  refine IWp.seq ?_
  refine IWp.draw [2] [H.next] (.val 0 (.val 1 (.ld 2 [3, 4, 7, 10, 13, 14, 15] (.val 3 (.val 5 (.val 8 (.val 11 (.val 6 (.val 9 (.val 12 (.eff 4 (.eff 7 (.eff 10 (.eff 13 (.eff 14 (.val 15 .done) .done) .done) .done) .done) .done))))))))))) follows (by kernel_rfl) ?_
  simp [go_sem, -getElem?_pos, -List.map_take, -List.map_drop, List.getElem?_cons_zero, List.getElem?_cons_succ, Go.IntWalk.iteOmega, Go.IntWalk.toNatUp, Sample.val, Sample.cells, u8_mod]
  refine ICalls.mono (wByte _ (H.next + 1) none [] (x.sg % 256) (.inl ⟨rfl, rfl, by simp [go_sem]⟩) (by simp)) ?_
  rintro v K1 ⟨rfl, r1, hw1, s1⟩
  have k1 := s1.get H.next (by simp only [next_alloc]; omega) (by omega) (by simp)
  try simp [go_sem, -getElem?_pos, -List.map_take, -List.map_drop, List.getElem?_cons_zero, List.getElem?_cons_succ, Go.IntWalk.iteOmega, Go.IntWalk.toNatUp, Sample.val, Sample.cells, u8_mod, k1]
  refine ICalls.mono (wByte _ _ _ _ x.seq hw1 (by simp)) ?_
  rintro v K2 ⟨rfl, r2, hw2, s2⟩
  have k2 := (s1.trans s2).get H.next (by simp only [next_alloc]; omega) (by omega) (by simp)
  try simp [go_sem, -getElem?_pos, -List.map_take, -List.map_drop, List.getElem?_cons_zero, List.getElem?_cons_succ, Go.IntWalk.iteOmega, Go.IntWalk.toNatUp, Sample.val, Sample.cells, u8_mod, k1, k2]
  refine ICalls.mono (wFlag _ _ _ _ x.bad hw2 (by simp)) ?_
  rintro v K3 ⟨rfl, r3, hw3, s3⟩
  have k3 := ((s1.trans s2).trans s3).get H.next (by simp only [next_alloc]; omega) (by omega) (by simp)
  try simp [go_sem, -getElem?_pos, -List.map_take, -List.map_drop, List.getElem?_cons_zero, List.getElem?_cons_succ, Go.IntWalk.iteOmega, Go.IntWalk.toNatUp, Sample.val, Sample.cells, u8_mod, k1, k2, k3]
  refine ICalls.mono (wInt _ _ _ _ x.val_ hw3 (by simp)) ?_
  rintro v K4 ⟨rfl, r4, hw4, s4⟩
  have k4 := (((s1.trans s2).trans s3).trans s4).get H.next (by simp only [next_alloc]; omega) (by omega) (by simp)
  try simp [go_sem, -getElem?_pos, -List.map_take, -List.map_drop, List.getElem?_cons_zero, List.getElem?_cons_succ, Go.IntWalk.iteOmega, Go.IntWalk.toNatUp, Sample.val, Sample.cells, u8_mod, k1, k2, k3, k4]
  refine ICalls.mono (wBytes _ _ _ hw4.wrv (by simp [i4])) ?_
  rintro v H ⟨rfl, rfl⟩
  try simp [go_sem, -getElem?_pos, -List.map_take, -List.map_drop, List.getElem?_cons_zero, List.getElem?_cons_succ, Go.IntWalk.iteOmega, Go.IntWalk.toNatUp, Sample.val, Sample.cells, u8_mod, k1, k2, k3, k4]
  refine IWp.ret ?_
  simp [go_sem, -getElem?_pos, -List.map_take, -List.map_drop, List.getElem?_cons_zero, List.getElem?_cons_succ, Go.IntWalk.iteOmega, Go.IntWalk.toNatUp, Sample.val, Sample.cells, u8_mod, k1, k2, k3, k4, Try.results23]
  rw [show sampB x = [] ++ [x.sg % 256] ++ [x.seq] ++ [if x.bad = true then 1 else 0] ++ i4 x.val_ by simp [sampB]]
  exact .same _

theorem refSampleBytes (H : Heap) (x : Sample) (hx : x.wf) : ICalls Try.prog 24 [x.val] H fun v H' => v = byts (sampB x) ∧ H' = H := by
  refine ICalls.ans (by simp [go_sem]) fun H => IBody.calls (by kernel_rfl) ?_
  have hv := hx.2.2
  refine IBody.of Try.func24 rfl (by rw [Try.ntmps24]; simp) ?_
  rw [Try.ntmps24]
  refine IWp.seq ?_
  refine IWp.run [1] ?_
  simp [go_sem, -getElem?_pos, -List.map_take, -List.map_drop, List.getElem?_cons_zero, List.getElem?_cons_succ, Go.IntWalk.iteOmega, Go.IntWalk.toNatUp, Sample.val, Sample.cells, u8_mod, Go.IntWalk.iteOmega]
  refine IWp.seq ?_
  refine IWp.draw [2] [H.next] (.val 0 (.val 3 (.val 5 (.ld 6 [7, 8, 11, 12, 13] (.val 9 (.val 1 (.val 2 (.val 4 (.val 10 (.eff 7 (.eff 8 (.eff 11 (.eff 12 (.val 13 .done) .done) .done) (.eff 11 (.eff 8 (.eff 12 (.val 13 .done) .done) .done) .done)) .done)))))))))) follows (by kernel_rfl) ?_
  simp [go_sem, -getElem?_pos, -List.map_take, -List.map_drop, List.getElem?_cons_zero, List.getElem?_cons_succ, Go.IntWalk.iteOmega, Go.IntWalk.toNatUp, Sample.val, Sample.cells, u8_mod, Go.IntWalk.iteOmega]
  -- 2 ORDERS
  -- CALLS LEFT ['!']
  refine ICalls.mono (refFlag _ _) ?_
  rintro v _ ⟨rfl, rfl⟩
  simp [go_sem, Go.IntWalk.iteOmega]
  refine ⟨?_, ?_⟩
  · skip
    refine ICalls.mono (refInt _ x.val_ (by omega)) ?_
    rintro v _ ⟨rfl, rfl⟩
    simp [go_sem, Go.IntWalk.iteOmega]
    refine ICalls.freeze1 (H.next + 1) (.cons (frz_lit ([x.sg % 256, x.seq, if x.bad = true then 1 else 0].map (Value.int .u8)) (by simp [go_sem]) rfl (map_sz .u8 _) rfl (by simp)) (.cons (.same _) .nil)) (ICalls.mono (join _ 0 0 _ (i4 x.val_) (by simp) (by simp [i4])) ?_)
    rintro v _ ⟨rfl, rfl⟩
    simp [go_sem, Go.IntWalk.iteOmega]
    refine IWp.ret ?_
    simp [go_sem, -getElem?_pos, -List.map_take, -List.map_drop, List.getElem?_cons_zero, List.getElem?_cons_succ, Go.IntWalk.iteOmega, Go.IntWalk.toNatUp, Try.results24]
    exact .same _
  · skip
    refine ICalls.mono (refInt _ x.val_ (by omega)) ?_
    rintro v _ ⟨rfl, rfl⟩
    simp [go_sem, Go.IntWalk.iteOmega]
    refine ICalls.freeze1 (H.next + 1) (.cons (frz_lit ([x.sg % 256, x.seq, if x.bad = true then 1 else 0].map (Value.int .u8)) (by simp [go_sem]) rfl (map_sz .u8 _) rfl (by simp)) (.cons (.same _) .nil)) (ICalls.mono (join _ 0 0 _ (i4 x.val_) (by simp) (by simp [i4])) ?_)
    rintro v _ ⟨rfl, rfl⟩
    simp [go_sem, Go.IntWalk.iteOmega]
    refine IWp.ret ?_
    simp [go_sem, -getElem?_pos, -List.map_take, -List.map_drop, List.getElem?_cons_zero, List.getElem?_cons_succ, Go.IntWalk.iteOmega, Go.IntWalk.toNatUp, Try.results24]
    exact .same _

def sigs : List Sig := [Sig.mk (-100) 300, ⟨5, 5⟩, ⟨-2147483648, 2147483647⟩]
theorem signals (H : Heap) : ICalls Try.prog 25 [] H fun v H' => v = frow 2 0 (sigs.map Sig.val) ∧ H' = H := by
  unfold sigs
  refine ICalls.ans (by rw [Sig.cl_row]; trivial) fun H => IBody.calls (by kernel_rfl) ?_
  refine IBody.of Try.func25 rfl (by rw [Try.ntmps25]; simp) ?_
  rw [Try.ntmps25]
  refine IWp.seq ?_
  refine IWp.run [] ?_
  simp [go_sem, -getElem?_pos, -List.map_take, -List.map_drop, List.getElem?_cons_zero, List.getElem?_cons_succ, Go.IntWalk.iteOmega, Go.IntWalk.toNatUp]
  refine IWp.seq ?_
  refine IWp.run [0] ?_
  simp [go_sem, -getElem?_pos, -List.map_take, -List.map_drop, List.getElem?_cons_zero, List.getElem?_cons_succ, Go.IntWalk.iteOmega, Go.IntWalk.toNatUp]
  refine IWp.ret ?_
  simp [go_sem, -getElem?_pos, -List.map_take, -List.map_drop, List.getElem?_cons_zero, List.getElem?_cons_succ, Go.IntWalk.iteOmega, Go.IntWalk.toNatUp, Try.results25]
  exact frz_lit ([Sig.mk (-100) 300, ⟨5, 5⟩, ⟨-2147483648, 2147483647⟩].map Sig.val) (Heap.get_alloc_new _ _) rfl (by simp [Sig.val, Sig.cells, Value.cells]) rfl (by simp)

def readS (P : List Int) (S : List Sig) : Sample × Int :=
  if P.length = 7 ∧ P.getD 2 0 ≤ 1 then
    (if h : (P.getD 0 0).toNat < S.length then
      (let v := be4 (P.getD 3 0) (P.getD 4 0) (P.getD 5 0) (P.getD 6 0)
       ⟨P.getD 0 0, P.getD 1 0, v, decide (P.getD 2 0 = 1) || (decide (v < S[(P.getD 0 0).toNat].lo) || decide (S[(P.getD 0 0).toNat].hi < v))⟩, 0)
     else (⟨0, 0, 0, false⟩, 7))
  else (⟨0, 0, 0, false⟩, 2)


/-- The reader behind a sample's four numbers. -/
def rd1 (P : List Int) : Rd := (Rd.mk P 0 0).byte.2
def rd2 (P : List Int) : Rd := (rd1 P).byte.2
def rd3 (P : List Int) : Rd := (rd2 P).flag.2
def rd4 (P : List Int) : Rd := (rd3 P).int.2
theorem rd_ok (P : List Int) (hB : Bs P) (hl : P.length ≤ 1000000) : (Rd.mk P 0 0).ok := ⟨Nat.zero_le _, hl, hB⟩

theorem rd_bad (P : List Int) (h : ¬ (P.length = 7 ∧ P.getD 2 0 ≤ 1)) : ¬ (rd4 P).ending.2 = 0 := by
  have stuck : ∀ s : Rd, ¬ s.e = 0 → ¬ s.ending.2 = 0 := fun s hs => by simp [Rd.ending, Rd.left_bad hs, Rd.fault, hs]
  by_cases h1 : 1 ≤ P.length
  · have e1 : rd1 P = ⟨P, 1, 0⟩ := by unfold rd1; rw [Rd.byte_eq rfl h1]
    by_cases h2 : 2 ≤ P.length
    · have e2 : rd2 P = ⟨P, 2, 0⟩ := by unfold rd2; rw [e1, Rd.byte_eq rfl h2]
      by_cases h3 : 3 ≤ P.length
      · have ha : (Rd.mk P 2 0).at_ 0 = P.getD 2 0 := rfl
        by_cases hf : 1 < P.getD 2 0
        · have e3 : rd3 P = ⟨P, 2, 2⟩ := by unfold rd3; rw [e2, Rd.flag_form rfl h3 (by rw [ha]; exact hf)]
          have e4 : rd4 P = ⟨P, 2, 2⟩ := by unfold rd4; rw [e3, Rd.int_bad (by simp)]
          rw [e4]; exact stuck _ (by simp)
        · have e3 : rd3 P = ⟨P, 3, 0⟩ := by unfold rd3; rw [e2, Rd.flag_eq rfl h3 (by rw [ha]; exact hf)]
          by_cases h7 : 7 ≤ P.length
          · have e4 : rd4 P = ⟨P, 7, 0⟩ := by unfold rd4; rw [e3, Rd.int_eq rfl h7]
            rw [e4]
            have hl : 0 < (Rd.mk P 7 0).left := by rw [Rd.left_ok rfl]; simp only; omega
            simp [Rd.ending, hl]
          · have e4 : rd4 P = ⟨P, 3, 4⟩ := by unfold rd4; rw [e3, Rd.int_short rfl h7]
            rw [e4]; exact stuck _ (by simp)
      · have e3 : rd3 P = ⟨P, 2, 4⟩ := by unfold rd3; rw [e2, Rd.flag_short rfl h3]
        have e4 : rd4 P = ⟨P, 2, 4⟩ := by unfold rd4; rw [e3, Rd.int_bad (by simp)]
        rw [e4]; exact stuck _ (by simp)
    · have e2 : rd2 P = ⟨P, 1, 4⟩ := by unfold rd2; rw [e1, Rd.byte_short rfl h2]
      have e3 : rd3 P = ⟨P, 1, 4⟩ := by unfold rd3; rw [e2, Rd.flag_bad (by simp)]
      have e4 : rd4 P = ⟨P, 1, 4⟩ := by unfold rd4; rw [e3, Rd.int_bad (by simp)]
      rw [e4]; exact stuck _ (by simp)
  · have e1 : rd1 P = ⟨P, 0, 4⟩ := by unfold rd1; rw [Rd.byte_short rfl h1]
    have e2 : rd2 P = ⟨P, 0, 4⟩ := by unfold rd2; rw [e1, Rd.byte_bad (by simp)]
    have e3 : rd3 P = ⟨P, 0, 4⟩ := by unfold rd3; rw [e2, Rd.flag_bad (by simp)]
    have e4 : rd4 P = ⟨P, 0, 4⟩ := by unfold rd4; rw [e3, Rd.int_bad (by simp)]
    rw [e4]; exact stuck _ (by simp)

theorem sampleRead (H : Heap) (m k : Int) (P : List Int) (S : List Sig) (hB : Bs P) (hl : P.length ≤ 100000) :
    ICalls Try.prog 26 [frow 1 m (P.map (Value.int .u8)), frow 2 k (S.map Sig.val)] H fun v H' => v = .tuple #[(readS P S).1.val, .int .i64 (readS P S).2] ∧ H' = H := by
  refine ICalls.ans (by simp [go_sem, Sample.cl_val]) fun H => IBody.calls (by kernel_rfl) ?_
  have o0 := rd_ok P hB (by omega)
  have o1 : (rd1 P).ok := Rd.byte_ok o0
  have o2 : (rd2 P).ok := Rd.byte_ok o1
  have o3 : (rd3 P).ok := Rd.flag_ok o2
  have o4 : (rd4 P).ok := Rd.int_ok o3
  have f1 : (Rd.mk P 0 0).byte.2 = rd1 P := rfl
  have f2 : (rd1 P).byte.2 = rd2 P := rfl
  have f3 : (rd2 P).flag.2 = rd3 P := rfl
  have f4 : (rd3 P).int.2 = rd4 P := rfl
  by_cases hc : P.length = 7 ∧ P.getD 2 0 ≤ 1
  · obtain ⟨h7, h2⟩ := hc
    have b0 : (Rd.mk P 0 0).byte = (P.getD 0 0, ⟨P, 1, 0⟩) := Rd.byte_eq rfl (by show 0 + 1 ≤ P.length; omega)
    have e1 : rd1 P = ⟨P, 1, 0⟩ := by unfold rd1; rw [b0]
    have b1 : (Rd.mk P 1 0).byte = (P.getD 1 0, ⟨P, 2, 0⟩) := Rd.byte_eq rfl (by show 1 + 1 ≤ P.length; omega)
    have e2 : rd2 P = ⟨P, 2, 0⟩ := by unfold rd2; rw [e1, b1]
    have b2 : (Rd.mk P 2 0).flag = (decide (P.getD 2 0 = 1), ⟨P, 3, 0⟩) := Rd.flag_eq rfl (by show 2 + 1 ≤ P.length; omega) (by show ¬ 1 < P.getD 2 0; omega)
    have e3 : rd3 P = ⟨P, 3, 0⟩ := by unfold rd3; rw [e2, b2]
    have b3 : (Rd.mk P 3 0).int = (be4 (P.getD 3 0) (P.getD 4 0) (P.getD 5 0) (P.getD 6 0), ⟨P, 7, 0⟩) := Rd.int_eq rfl (by show 3 + 4 ≤ P.length; omega)
    have e4 : rd4 P = ⟨P, 7, 0⟩ := by unfold rd4; rw [e3, b3]
    have hend : (Rd.mk P 7 0).ending = (0, 0) := by
      have : (Rd.mk P 7 0).left = 0 := by rw [Rd.left_ok rfl]; show (P.length : Int) - (7 : Nat) = 0; omega
      simp [Rd.ending, this, Rd.fault]
    rw [e1] at o1 f2
    rw [e2] at o2 f3
    rw [e3] at o3 f4
    rw [e4] at o4
    have hx0 : 0 ≤ P.getD 0 0 ∧ P.getD 0 0 < 256 := Rd.at_byte o0 0
    have w0 := IntWalk.i64_in (P.getD 0 0) (by omega)
    have hr0 : readS P S = (if h : (P.getD 0 0).toNat < S.length then (⟨P.getD 0 0, P.getD 1 0, be4 (P.getD 3 0) (P.getD 4 0) (P.getD 5 0) (P.getD 6 0), decide (P.getD 2 0 = 1) || (decide (be4 (P.getD 3 0) (P.getD 4 0) (P.getD 5 0) (P.getD 6 0) < S[(P.getD 0 0).toNat].lo) || decide (S[(P.getD 0 0).toNat].hi < be4 (P.getD 3 0) (P.getD 4 0) (P.getD 5 0) (P.getD 6 0)))⟩, 0) else (⟨0, 0, 0, false⟩, 7)) := by
      unfold readS; rw [if_pos ⟨h7, h2⟩]
    rw [hr0]
    generalize be4 (P.getD 3 0) (P.getD 4 0) (P.getD 5 0) (P.getD 6 0) = v at b3
    generalize P.getD 2 0 = c2 at b2 h2
    generalize P.getD 1 0 = c1 at b1
    generalize P.getD 0 0 = c0 at b0 hx0 w0
    by_cases hS : c0.toNat < S.length
    · rw [dif_pos hS]
      have hge : (S.map Sig.val)[c0.toNat]? = some (S[c0.toNat].val) := by simp [hS]
      generalize S[c0.toNat] = sg at hge
      by_cases hd : c2 = 1
      · skip
        refine IBody.of Try.func26 rfl (by rw [Try.ntmps26]; simp) ?_
        rw [Try.ntmps26]
        refine IWp.seq ?_
        refine IWp.run [0, 1, 4] ?_
        simp [go_sem, -getElem?_pos, -List.map_take, -List.map_drop, List.getElem?_cons_zero, List.getElem?_cons_succ, Go.IntWalk.iteOmega, Go.IntWalk.toNatUp, b0, b1, b2, b3, hend, w0, hd, hge, Sample.val, Sample.cells, Sig.val, Sig.cells, Go.IntWalk.iteOmega, show ¬ (c0 < 0) by omega, show ¬ ((S.length : Int) ≤ c0) by omega, show (c0 < (S.length : Int)) by omega]
        refine IWp.seq ?_
        refine IWp.run [1, 4, 6] ?_
        simp [go_sem, -getElem?_pos, -List.map_take, -List.map_drop, List.getElem?_cons_zero, List.getElem?_cons_succ, Go.IntWalk.iteOmega, Go.IntWalk.toNatUp, b0, b1, b2, b3, hend, w0, hd, hge, Sample.val, Sample.cells, Sig.val, Sig.cells, Go.IntWalk.iteOmega, show ¬ (c0 < 0) by omega, show ¬ ((S.length : Int) ≤ c0) by omega, show (c0 < (S.length : Int)) by omega]
        refine ICalls.mono (newReader _ m P (by omega)) ?_
        rintro v _ ⟨rfl, rfl⟩
        try simp [go_sem, -getElem?_pos, -List.map_take, -List.map_drop, List.getElem?_cons_zero, List.getElem?_cons_succ, Go.IntWalk.iteOmega, Go.IntWalk.toNatUp, b0, b1, b2, b3, hend, w0, hd, hge, Sample.val, Sample.cells, Sig.val, Sig.cells, Go.IntWalk.iteOmega, show ¬ (c0 < 0) by omega, show ¬ ((S.length : Int) ≤ c0) by omega, show (c0 < (S.length : Int)) by omega]
        refine IWp.seq ?_
        refine IWp.run [1, 4, 6, 7] ?_
        simp [go_sem, -getElem?_pos, -List.map_take, -List.map_drop, List.getElem?_cons_zero, List.getElem?_cons_succ, Go.IntWalk.iteOmega, Go.IntWalk.toNatUp, b0, b1, b2, b3, hend, w0, hd, hge, Sample.val, Sample.cells, Sig.val, Sig.cells, Go.IntWalk.iteOmega, show ¬ (c0 < 0) by omega, show ¬ ((S.length : Int) ≤ c0) by omega, show (c0 < (S.length : Int)) by omega]
        refine ICalls.mono (rByte _ _ ⟨P, 0, 0⟩ o0 (by simp [go_sem, Go.IntWalk.iteOmega])) ?_
        rintro v _ ⟨rfl, rfl⟩
        try simp [go_sem, -getElem?_pos, -List.map_take, -List.map_drop, List.getElem?_cons_zero, List.getElem?_cons_succ, Go.IntWalk.iteOmega, Go.IntWalk.toNatUp, b0, b1, b2, b3, hend, w0, hd, hge, Sample.val, Sample.cells, Sig.val, Sig.cells, Go.IntWalk.iteOmega, show ¬ (c0 < 0) by omega, show ¬ ((S.length : Int) ≤ c0) by omega, show (c0 < (S.length : Int)) by omega]
        refine ICalls.mono (rByte _ _ ⟨P, 1, 0⟩ o1 (by simp [go_sem, Go.IntWalk.iteOmega])) ?_
        rintro v _ ⟨rfl, rfl⟩
        try simp [go_sem, -getElem?_pos, -List.map_take, -List.map_drop, List.getElem?_cons_zero, List.getElem?_cons_succ, Go.IntWalk.iteOmega, Go.IntWalk.toNatUp, b0, b1, b2, b3, hend, w0, hd, hge, Sample.val, Sample.cells, Sig.val, Sig.cells, Go.IntWalk.iteOmega, show ¬ (c0 < 0) by omega, show ¬ ((S.length : Int) ≤ c0) by omega, show (c0 < (S.length : Int)) by omega]
        refine ICalls.mono (rFlag _ _ ⟨P, 2, 0⟩ o2 (by simp [go_sem, Go.IntWalk.iteOmega])) ?_
        rintro v _ ⟨rfl, rfl⟩
        try simp [go_sem, -getElem?_pos, -List.map_take, -List.map_drop, List.getElem?_cons_zero, List.getElem?_cons_succ, Go.IntWalk.iteOmega, Go.IntWalk.toNatUp, b0, b1, b2, b3, hend, w0, hd, hge, Sample.val, Sample.cells, Sig.val, Sig.cells, Go.IntWalk.iteOmega, show ¬ (c0 < 0) by omega, show ¬ ((S.length : Int) ≤ c0) by omega, show (c0 < (S.length : Int)) by omega]
        refine ICalls.mono (rInt _ _ ⟨P, 3, 0⟩ o3 (by simp [go_sem, Go.IntWalk.iteOmega])) ?_
        rintro v _ ⟨rfl, rfl⟩
        try simp [go_sem, -getElem?_pos, -List.map_take, -List.map_drop, List.getElem?_cons_zero, List.getElem?_cons_succ, Go.IntWalk.iteOmega, Go.IntWalk.toNatUp, b0, b1, b2, b3, hend, w0, hd, hge, Sample.val, Sample.cells, Sig.val, Sig.cells, Go.IntWalk.iteOmega, show ¬ (c0 < 0) by omega, show ¬ ((S.length : Int) ≤ c0) by omega, show (c0 < (S.length : Int)) by omega]
        refine IWp.seq ?_
        refine IWp.seq ?_
        refine IWp.run [1, 4, 7, 9] ?_
        simp [go_sem, -getElem?_pos, -List.map_take, -List.map_drop, List.getElem?_cons_zero, List.getElem?_cons_succ, Go.IntWalk.iteOmega, Go.IntWalk.toNatUp, b0, b1, b2, b3, hend, w0, hd, hge, Sample.val, Sample.cells, Sig.val, Sig.cells, Go.IntWalk.iteOmega, show ¬ (c0 < 0) by omega, show ¬ ((S.length : Int) ≤ c0) by omega, show (c0 < (S.length : Int)) by omega]
        refine ICalls.mono (rEnd _ _ ⟨P, 7, 0⟩ o4 (by simp [go_sem, Go.IntWalk.iteOmega])) ?_
        rintro v _ ⟨rfl, rfl⟩
        try simp [go_sem, -getElem?_pos, -List.map_take, -List.map_drop, List.getElem?_cons_zero, List.getElem?_cons_succ, Go.IntWalk.iteOmega, Go.IntWalk.toNatUp, b0, b1, b2, b3, hend, w0, hd, hge, Sample.val, Sample.cells, Sig.val, Sig.cells, Go.IntWalk.iteOmega, show ¬ (c0 < 0) by omega, show ¬ ((S.length : Int) ≤ c0) by omega, show (c0 < (S.length : Int)) by omega]
        refine IWp.seq ?_
        refine IWp.run [1, 4, 7, 29] ?_
        simp [go_sem, -getElem?_pos, -List.map_take, -List.map_drop, List.getElem?_cons_zero, List.getElem?_cons_succ, Go.IntWalk.iteOmega, Go.IntWalk.toNatUp, b0, b1, b2, b3, hend, w0, hd, hge, Sample.val, Sample.cells, Sig.val, Sig.cells, Go.IntWalk.iteOmega, show ¬ (c0 < 0) by omega, show ¬ ((S.length : Int) ≤ c0) by omega, show (c0 < (S.length : Int)) by omega]
        refine IWp.cond ?_
        simp [go_sem, -getElem?_pos, -List.map_take, -List.map_drop, List.getElem?_cons_zero, List.getElem?_cons_succ, Go.IntWalk.iteOmega, Go.IntWalk.toNatUp, b0, b1, b2, b3, hend, w0, hd, hge, Sample.val, Sample.cells, Sig.val, Sig.cells, Go.IntWalk.iteOmega, show ¬ (c0 < 0) by omega, show ¬ ((S.length : Int) ≤ c0) by omega, show (c0 < (S.length : Int)) by omega]
        refine IWp.trim [1, 4, 7] (IWp.skip ?_)
        simp [go_sem, -getElem?_pos, -List.map_take, -List.map_drop, List.getElem?_cons_zero, List.getElem?_cons_succ, Go.IntWalk.iteOmega, Go.IntWalk.toNatUp, b0, b1, b2, b3, hend, w0, hd, hge, Sample.val, Sample.cells, Sig.val, Sig.cells, Go.IntWalk.iteOmega, show ¬ (c0 < 0) by omega, show ¬ ((S.length : Int) ≤ c0) by omega, show (c0 < (S.length : Int)) by omega]
        refine IWp.seq ?_
        refine IWp.seq ?_
        refine IWp.run [1, 4, 7, 35] ?_
        simp [go_sem, -getElem?_pos, -List.map_take, -List.map_drop, List.getElem?_cons_zero, List.getElem?_cons_succ, Go.IntWalk.iteOmega, Go.IntWalk.toNatUp, b0, b1, b2, b3, hend, w0, hd, hge, Sample.val, Sample.cells, Sig.val, Sig.cells, Go.IntWalk.iteOmega, show ¬ (c0 < 0) by omega, show ¬ ((S.length : Int) ≤ c0) by omega, show (c0 < (S.length : Int)) by omega]
        refine IWp.cond ?_
        simp [go_sem, -getElem?_pos, -List.map_take, -List.map_drop, List.getElem?_cons_zero, List.getElem?_cons_succ, Go.IntWalk.iteOmega, Go.IntWalk.toNatUp, b0, b1, b2, b3, hend, w0, hd, hge, Sample.val, Sample.cells, Sig.val, Sig.cells, Go.IntWalk.iteOmega, show ¬ (c0 < 0) by omega, show ¬ ((S.length : Int) ≤ c0) by omega, show (c0 < (S.length : Int)) by omega]
        refine IWp.trim [1, 4, 7] (IWp.skip ?_)
        simp [go_sem, -getElem?_pos, -List.map_take, -List.map_drop, List.getElem?_cons_zero, List.getElem?_cons_succ, Go.IntWalk.iteOmega, Go.IntWalk.toNatUp, b0, b1, b2, b3, hend, w0, hd, hge, Sample.val, Sample.cells, Sig.val, Sig.cells, Go.IntWalk.iteOmega, show ¬ (c0 < 0) by omega, show ¬ ((S.length : Int) ≤ c0) by omega, show (c0 < (S.length : Int)) by omega]
        refine IWp.seq ?_
        refine IWp.run [4, 7, 10] ?_
        simp [go_sem, -getElem?_pos, -List.map_take, -List.map_drop, List.getElem?_cons_zero, List.getElem?_cons_succ, Go.IntWalk.iteOmega, Go.IntWalk.toNatUp, b0, b1, b2, b3, hend, w0, hd, hge, Sample.val, Sample.cells, Sig.val, Sig.cells, Go.IntWalk.iteOmega, show ¬ (c0 < 0) by omega, show ¬ ((S.length : Int) ≤ c0) by omega, show (c0 < (S.length : Int)) by omega]
        refine IWp.seq ?_
        refine IWp.run [4, 7] ?_
        simp [go_sem, -getElem?_pos, -List.map_take, -List.map_drop, List.getElem?_cons_zero, List.getElem?_cons_succ, Go.IntWalk.iteOmega, Go.IntWalk.toNatUp, b0, b1, b2, b3, hend, w0, hd, hge, Sample.val, Sample.cells, Sig.val, Sig.cells, Go.IntWalk.iteOmega, show ¬ (c0 < 0) by omega, show ¬ ((S.length : Int) ≤ c0) by omega, show (c0 < (S.length : Int)) by omega]
        refine IWp.seq ?_
        refine IWp.run [4, 5] ?_
        simp [go_sem, -getElem?_pos, -List.map_take, -List.map_drop, List.getElem?_cons_zero, List.getElem?_cons_succ, Go.IntWalk.iteOmega, Go.IntWalk.toNatUp, b0, b1, b2, b3, hend, w0, hd, hge, Sample.val, Sample.cells, Sig.val, Sig.cells, Go.IntWalk.iteOmega, show ¬ (c0 < 0) by omega, show ¬ ((S.length : Int) ≤ c0) by omega, show (c0 < (S.length : Int)) by omega]
        refine IWp.ret ?_
        simp [go_sem, -getElem?_pos, -List.map_take, -List.map_drop, List.getElem?_cons_zero, List.getElem?_cons_succ, Go.IntWalk.iteOmega, Go.IntWalk.toNatUp, b0, b1, b2, b3, hend, w0, hd, hge, Sample.val, Sample.cells, Sig.val, Sig.cells, Go.IntWalk.iteOmega, show ¬ (c0 < 0) by omega, show ¬ ((S.length : Int) ≤ c0) by omega, show (c0 < (S.length : Int)) by omega, Try.results26]
      · by_cases hlo : v < sg.lo
        · skip
          refine IBody.of Try.func26 rfl (by rw [Try.ntmps26]; simp) ?_
          rw [Try.ntmps26]
          refine IWp.seq ?_
          refine IWp.run [0, 1, 4] ?_
          simp [go_sem, -getElem?_pos, -List.map_take, -List.map_drop, List.getElem?_cons_zero, List.getElem?_cons_succ, Go.IntWalk.iteOmega, Go.IntWalk.toNatUp, b0, b1, b2, b3, hend, w0, hd, hlo, show ¬ (sg.lo ≤ v) by omega,  hge, Sample.val, Sample.cells, Sig.val, Sig.cells, Go.IntWalk.iteOmega, show ¬ (c0 < 0) by omega, show ¬ ((S.length : Int) ≤ c0) by omega, show (c0 < (S.length : Int)) by omega]
          refine IWp.seq ?_
          refine IWp.run [1, 4, 6] ?_
          simp [go_sem, -getElem?_pos, -List.map_take, -List.map_drop, List.getElem?_cons_zero, List.getElem?_cons_succ, Go.IntWalk.iteOmega, Go.IntWalk.toNatUp, b0, b1, b2, b3, hend, w0, hd, hlo, show ¬ (sg.lo ≤ v) by omega,  hge, Sample.val, Sample.cells, Sig.val, Sig.cells, Go.IntWalk.iteOmega, show ¬ (c0 < 0) by omega, show ¬ ((S.length : Int) ≤ c0) by omega, show (c0 < (S.length : Int)) by omega]
          refine ICalls.mono (newReader _ m P (by omega)) ?_
          rintro v _ ⟨rfl, rfl⟩
          try simp [go_sem, -getElem?_pos, -List.map_take, -List.map_drop, List.getElem?_cons_zero, List.getElem?_cons_succ, Go.IntWalk.iteOmega, Go.IntWalk.toNatUp, b0, b1, b2, b3, hend, w0, hd, hlo, show ¬ (sg.lo ≤ v) by omega,  hge, Sample.val, Sample.cells, Sig.val, Sig.cells, Go.IntWalk.iteOmega, show ¬ (c0 < 0) by omega, show ¬ ((S.length : Int) ≤ c0) by omega, show (c0 < (S.length : Int)) by omega]
          refine IWp.seq ?_
          refine IWp.run [1, 4, 6, 7] ?_
          simp [go_sem, -getElem?_pos, -List.map_take, -List.map_drop, List.getElem?_cons_zero, List.getElem?_cons_succ, Go.IntWalk.iteOmega, Go.IntWalk.toNatUp, b0, b1, b2, b3, hend, w0, hd, hlo, show ¬ (sg.lo ≤ v) by omega,  hge, Sample.val, Sample.cells, Sig.val, Sig.cells, Go.IntWalk.iteOmega, show ¬ (c0 < 0) by omega, show ¬ ((S.length : Int) ≤ c0) by omega, show (c0 < (S.length : Int)) by omega]
          refine ICalls.mono (rByte _ _ ⟨P, 0, 0⟩ o0 (by simp [go_sem, Go.IntWalk.iteOmega])) ?_
          rintro v _ ⟨rfl, rfl⟩
          try simp [go_sem, -getElem?_pos, -List.map_take, -List.map_drop, List.getElem?_cons_zero, List.getElem?_cons_succ, Go.IntWalk.iteOmega, Go.IntWalk.toNatUp, b0, b1, b2, b3, hend, w0, hd, hlo, show ¬ (sg.lo ≤ v) by omega,  hge, Sample.val, Sample.cells, Sig.val, Sig.cells, Go.IntWalk.iteOmega, show ¬ (c0 < 0) by omega, show ¬ ((S.length : Int) ≤ c0) by omega, show (c0 < (S.length : Int)) by omega]
          refine ICalls.mono (rByte _ _ ⟨P, 1, 0⟩ o1 (by simp [go_sem, Go.IntWalk.iteOmega])) ?_
          rintro v _ ⟨rfl, rfl⟩
          try simp [go_sem, -getElem?_pos, -List.map_take, -List.map_drop, List.getElem?_cons_zero, List.getElem?_cons_succ, Go.IntWalk.iteOmega, Go.IntWalk.toNatUp, b0, b1, b2, b3, hend, w0, hd, hlo, show ¬ (sg.lo ≤ v) by omega,  hge, Sample.val, Sample.cells, Sig.val, Sig.cells, Go.IntWalk.iteOmega, show ¬ (c0 < 0) by omega, show ¬ ((S.length : Int) ≤ c0) by omega, show (c0 < (S.length : Int)) by omega]
          refine ICalls.mono (rFlag _ _ ⟨P, 2, 0⟩ o2 (by simp [go_sem, Go.IntWalk.iteOmega])) ?_
          rintro v _ ⟨rfl, rfl⟩
          try simp [go_sem, -getElem?_pos, -List.map_take, -List.map_drop, List.getElem?_cons_zero, List.getElem?_cons_succ, Go.IntWalk.iteOmega, Go.IntWalk.toNatUp, b0, b1, b2, b3, hend, w0, hd, hlo, show ¬ (sg.lo ≤ v) by omega,  hge, Sample.val, Sample.cells, Sig.val, Sig.cells, Go.IntWalk.iteOmega, show ¬ (c0 < 0) by omega, show ¬ ((S.length : Int) ≤ c0) by omega, show (c0 < (S.length : Int)) by omega]
          refine ICalls.mono (rInt _ _ ⟨P, 3, 0⟩ o3 (by simp [go_sem, Go.IntWalk.iteOmega])) ?_
          rintro v _ ⟨rfl, rfl⟩
          try simp [go_sem, -getElem?_pos, -List.map_take, -List.map_drop, List.getElem?_cons_zero, List.getElem?_cons_succ, Go.IntWalk.iteOmega, Go.IntWalk.toNatUp, b0, b1, b2, b3, hend, w0, hd, hlo, show ¬ (sg.lo ≤ v) by omega,  hge, Sample.val, Sample.cells, Sig.val, Sig.cells, Go.IntWalk.iteOmega, show ¬ (c0 < 0) by omega, show ¬ ((S.length : Int) ≤ c0) by omega, show (c0 < (S.length : Int)) by omega]
          refine IWp.seq ?_
          refine IWp.seq ?_
          refine IWp.run [1, 4, 7, 9] ?_
          simp [go_sem, -getElem?_pos, -List.map_take, -List.map_drop, List.getElem?_cons_zero, List.getElem?_cons_succ, Go.IntWalk.iteOmega, Go.IntWalk.toNatUp, b0, b1, b2, b3, hend, w0, hd, hlo, show ¬ (sg.lo ≤ v) by omega,  hge, Sample.val, Sample.cells, Sig.val, Sig.cells, Go.IntWalk.iteOmega, show ¬ (c0 < 0) by omega, show ¬ ((S.length : Int) ≤ c0) by omega, show (c0 < (S.length : Int)) by omega]
          refine ICalls.mono (rEnd _ _ ⟨P, 7, 0⟩ o4 (by simp [go_sem, Go.IntWalk.iteOmega])) ?_
          rintro v _ ⟨rfl, rfl⟩
          try simp [go_sem, -getElem?_pos, -List.map_take, -List.map_drop, List.getElem?_cons_zero, List.getElem?_cons_succ, Go.IntWalk.iteOmega, Go.IntWalk.toNatUp, b0, b1, b2, b3, hend, w0, hd, hlo, show ¬ (sg.lo ≤ v) by omega,  hge, Sample.val, Sample.cells, Sig.val, Sig.cells, Go.IntWalk.iteOmega, show ¬ (c0 < 0) by omega, show ¬ ((S.length : Int) ≤ c0) by omega, show (c0 < (S.length : Int)) by omega]
          refine IWp.seq ?_
          refine IWp.run [1, 4, 7, 29] ?_
          simp [go_sem, -getElem?_pos, -List.map_take, -List.map_drop, List.getElem?_cons_zero, List.getElem?_cons_succ, Go.IntWalk.iteOmega, Go.IntWalk.toNatUp, b0, b1, b2, b3, hend, w0, hd, hlo, show ¬ (sg.lo ≤ v) by omega,  hge, Sample.val, Sample.cells, Sig.val, Sig.cells, Go.IntWalk.iteOmega, show ¬ (c0 < 0) by omega, show ¬ ((S.length : Int) ≤ c0) by omega, show (c0 < (S.length : Int)) by omega]
          refine IWp.cond ?_
          simp [go_sem, -getElem?_pos, -List.map_take, -List.map_drop, List.getElem?_cons_zero, List.getElem?_cons_succ, Go.IntWalk.iteOmega, Go.IntWalk.toNatUp, b0, b1, b2, b3, hend, w0, hd, hlo, show ¬ (sg.lo ≤ v) by omega,  hge, Sample.val, Sample.cells, Sig.val, Sig.cells, Go.IntWalk.iteOmega, show ¬ (c0 < 0) by omega, show ¬ ((S.length : Int) ≤ c0) by omega, show (c0 < (S.length : Int)) by omega]
          refine IWp.trim [1, 4, 7] (IWp.skip ?_)
          simp [go_sem, -getElem?_pos, -List.map_take, -List.map_drop, List.getElem?_cons_zero, List.getElem?_cons_succ, Go.IntWalk.iteOmega, Go.IntWalk.toNatUp, b0, b1, b2, b3, hend, w0, hd, hlo, show ¬ (sg.lo ≤ v) by omega,  hge, Sample.val, Sample.cells, Sig.val, Sig.cells, Go.IntWalk.iteOmega, show ¬ (c0 < 0) by omega, show ¬ ((S.length : Int) ≤ c0) by omega, show (c0 < (S.length : Int)) by omega]
          refine IWp.seq ?_
          refine IWp.seq ?_
          refine IWp.run [1, 4, 7, 35] ?_
          simp [go_sem, -getElem?_pos, -List.map_take, -List.map_drop, List.getElem?_cons_zero, List.getElem?_cons_succ, Go.IntWalk.iteOmega, Go.IntWalk.toNatUp, b0, b1, b2, b3, hend, w0, hd, hlo, show ¬ (sg.lo ≤ v) by omega,  hge, Sample.val, Sample.cells, Sig.val, Sig.cells, Go.IntWalk.iteOmega, show ¬ (c0 < 0) by omega, show ¬ ((S.length : Int) ≤ c0) by omega, show (c0 < (S.length : Int)) by omega]
          refine IWp.cond ?_
          simp [go_sem, -getElem?_pos, -List.map_take, -List.map_drop, List.getElem?_cons_zero, List.getElem?_cons_succ, Go.IntWalk.iteOmega, Go.IntWalk.toNatUp, b0, b1, b2, b3, hend, w0, hd, hlo, show ¬ (sg.lo ≤ v) by omega,  hge, Sample.val, Sample.cells, Sig.val, Sig.cells, Go.IntWalk.iteOmega, show ¬ (c0 < 0) by omega, show ¬ ((S.length : Int) ≤ c0) by omega, show (c0 < (S.length : Int)) by omega]
          refine IWp.trim [1, 4, 7] (IWp.skip ?_)
          simp [go_sem, -getElem?_pos, -List.map_take, -List.map_drop, List.getElem?_cons_zero, List.getElem?_cons_succ, Go.IntWalk.iteOmega, Go.IntWalk.toNatUp, b0, b1, b2, b3, hend, w0, hd, hlo, show ¬ (sg.lo ≤ v) by omega,  hge, Sample.val, Sample.cells, Sig.val, Sig.cells, Go.IntWalk.iteOmega, show ¬ (c0 < 0) by omega, show ¬ ((S.length : Int) ≤ c0) by omega, show (c0 < (S.length : Int)) by omega]
          refine IWp.seq ?_
          refine IWp.run [4, 7, 10] ?_
          simp [go_sem, -getElem?_pos, -List.map_take, -List.map_drop, List.getElem?_cons_zero, List.getElem?_cons_succ, Go.IntWalk.iteOmega, Go.IntWalk.toNatUp, b0, b1, b2, b3, hend, w0, hd, hlo, show ¬ (sg.lo ≤ v) by omega,  hge, Sample.val, Sample.cells, Sig.val, Sig.cells, Go.IntWalk.iteOmega, show ¬ (c0 < 0) by omega, show ¬ ((S.length : Int) ≤ c0) by omega, show (c0 < (S.length : Int)) by omega]
          refine IWp.seq ?_
          refine IWp.run [4, 7] ?_
          simp [go_sem, -getElem?_pos, -List.map_take, -List.map_drop, List.getElem?_cons_zero, List.getElem?_cons_succ, Go.IntWalk.iteOmega, Go.IntWalk.toNatUp, b0, b1, b2, b3, hend, w0, hd, hlo, show ¬ (sg.lo ≤ v) by omega,  hge, Sample.val, Sample.cells, Sig.val, Sig.cells, Go.IntWalk.iteOmega, show ¬ (c0 < 0) by omega, show ¬ ((S.length : Int) ≤ c0) by omega, show (c0 < (S.length : Int)) by omega]
          refine IWp.seq ?_
          refine IWp.run [4, 5] ?_
          simp [go_sem, -getElem?_pos, -List.map_take, -List.map_drop, List.getElem?_cons_zero, List.getElem?_cons_succ, Go.IntWalk.iteOmega, Go.IntWalk.toNatUp, b0, b1, b2, b3, hend, w0, hd, hlo, show ¬ (sg.lo ≤ v) by omega,  hge, Sample.val, Sample.cells, Sig.val, Sig.cells, Go.IntWalk.iteOmega, show ¬ (c0 < 0) by omega, show ¬ ((S.length : Int) ≤ c0) by omega, show (c0 < (S.length : Int)) by omega]
          refine IWp.ret ?_
          simp [go_sem, -getElem?_pos, -List.map_take, -List.map_drop, List.getElem?_cons_zero, List.getElem?_cons_succ, Go.IntWalk.iteOmega, Go.IntWalk.toNatUp, b0, b1, b2, b3, hend, w0, hd, hlo, show ¬ (sg.lo ≤ v) by omega,  hge, Sample.val, Sample.cells, Sig.val, Sig.cells, Go.IntWalk.iteOmega, show ¬ (c0 < 0) by omega, show ¬ ((S.length : Int) ≤ c0) by omega, show (c0 < (S.length : Int)) by omega, Try.results26]
        · skip
          refine IBody.of Try.func26 rfl (by rw [Try.ntmps26]; simp) ?_
          rw [Try.ntmps26]
          refine IWp.seq ?_
          refine IWp.run [0, 1, 4] ?_
          simp [go_sem, -getElem?_pos, -List.map_take, -List.map_drop, List.getElem?_cons_zero, List.getElem?_cons_succ, Go.IntWalk.iteOmega, Go.IntWalk.toNatUp, b0, b1, b2, b3, hend, w0, hd, hlo, show sg.lo ≤ v by omega,  hge, Sample.val, Sample.cells, Sig.val, Sig.cells, Go.IntWalk.iteOmega, show ¬ (c0 < 0) by omega, show ¬ ((S.length : Int) ≤ c0) by omega, show (c0 < (S.length : Int)) by omega]
          refine IWp.seq ?_
          refine IWp.run [1, 4, 6] ?_
          simp [go_sem, -getElem?_pos, -List.map_take, -List.map_drop, List.getElem?_cons_zero, List.getElem?_cons_succ, Go.IntWalk.iteOmega, Go.IntWalk.toNatUp, b0, b1, b2, b3, hend, w0, hd, hlo, show sg.lo ≤ v by omega,  hge, Sample.val, Sample.cells, Sig.val, Sig.cells, Go.IntWalk.iteOmega, show ¬ (c0 < 0) by omega, show ¬ ((S.length : Int) ≤ c0) by omega, show (c0 < (S.length : Int)) by omega]
          refine ICalls.mono (newReader _ m P (by omega)) ?_
          rintro v _ ⟨rfl, rfl⟩
          try simp [go_sem, -getElem?_pos, -List.map_take, -List.map_drop, List.getElem?_cons_zero, List.getElem?_cons_succ, Go.IntWalk.iteOmega, Go.IntWalk.toNatUp, b0, b1, b2, b3, hend, w0, hd, hlo, show sg.lo ≤ v by omega,  hge, Sample.val, Sample.cells, Sig.val, Sig.cells, Go.IntWalk.iteOmega, show ¬ (c0 < 0) by omega, show ¬ ((S.length : Int) ≤ c0) by omega, show (c0 < (S.length : Int)) by omega]
          refine IWp.seq ?_
          refine IWp.run [1, 4, 6, 7] ?_
          simp [go_sem, -getElem?_pos, -List.map_take, -List.map_drop, List.getElem?_cons_zero, List.getElem?_cons_succ, Go.IntWalk.iteOmega, Go.IntWalk.toNatUp, b0, b1, b2, b3, hend, w0, hd, hlo, show sg.lo ≤ v by omega,  hge, Sample.val, Sample.cells, Sig.val, Sig.cells, Go.IntWalk.iteOmega, show ¬ (c0 < 0) by omega, show ¬ ((S.length : Int) ≤ c0) by omega, show (c0 < (S.length : Int)) by omega]
          refine ICalls.mono (rByte _ _ ⟨P, 0, 0⟩ o0 (by simp [go_sem, Go.IntWalk.iteOmega])) ?_
          rintro v _ ⟨rfl, rfl⟩
          try simp [go_sem, -getElem?_pos, -List.map_take, -List.map_drop, List.getElem?_cons_zero, List.getElem?_cons_succ, Go.IntWalk.iteOmega, Go.IntWalk.toNatUp, b0, b1, b2, b3, hend, w0, hd, hlo, show sg.lo ≤ v by omega,  hge, Sample.val, Sample.cells, Sig.val, Sig.cells, Go.IntWalk.iteOmega, show ¬ (c0 < 0) by omega, show ¬ ((S.length : Int) ≤ c0) by omega, show (c0 < (S.length : Int)) by omega]
          refine ICalls.mono (rByte _ _ ⟨P, 1, 0⟩ o1 (by simp [go_sem, Go.IntWalk.iteOmega])) ?_
          rintro v _ ⟨rfl, rfl⟩
          try simp [go_sem, -getElem?_pos, -List.map_take, -List.map_drop, List.getElem?_cons_zero, List.getElem?_cons_succ, Go.IntWalk.iteOmega, Go.IntWalk.toNatUp, b0, b1, b2, b3, hend, w0, hd, hlo, show sg.lo ≤ v by omega,  hge, Sample.val, Sample.cells, Sig.val, Sig.cells, Go.IntWalk.iteOmega, show ¬ (c0 < 0) by omega, show ¬ ((S.length : Int) ≤ c0) by omega, show (c0 < (S.length : Int)) by omega]
          refine ICalls.mono (rFlag _ _ ⟨P, 2, 0⟩ o2 (by simp [go_sem, Go.IntWalk.iteOmega])) ?_
          rintro v _ ⟨rfl, rfl⟩
          try simp [go_sem, -getElem?_pos, -List.map_take, -List.map_drop, List.getElem?_cons_zero, List.getElem?_cons_succ, Go.IntWalk.iteOmega, Go.IntWalk.toNatUp, b0, b1, b2, b3, hend, w0, hd, hlo, show sg.lo ≤ v by omega,  hge, Sample.val, Sample.cells, Sig.val, Sig.cells, Go.IntWalk.iteOmega, show ¬ (c0 < 0) by omega, show ¬ ((S.length : Int) ≤ c0) by omega, show (c0 < (S.length : Int)) by omega]
          refine ICalls.mono (rInt _ _ ⟨P, 3, 0⟩ o3 (by simp [go_sem, Go.IntWalk.iteOmega])) ?_
          rintro v _ ⟨rfl, rfl⟩
          try simp [go_sem, -getElem?_pos, -List.map_take, -List.map_drop, List.getElem?_cons_zero, List.getElem?_cons_succ, Go.IntWalk.iteOmega, Go.IntWalk.toNatUp, b0, b1, b2, b3, hend, w0, hd, hlo, show sg.lo ≤ v by omega,  hge, Sample.val, Sample.cells, Sig.val, Sig.cells, Go.IntWalk.iteOmega, show ¬ (c0 < 0) by omega, show ¬ ((S.length : Int) ≤ c0) by omega, show (c0 < (S.length : Int)) by omega]
          refine IWp.seq ?_
          refine IWp.seq ?_
          refine IWp.run [1, 4, 7, 9] ?_
          simp [go_sem, -getElem?_pos, -List.map_take, -List.map_drop, List.getElem?_cons_zero, List.getElem?_cons_succ, Go.IntWalk.iteOmega, Go.IntWalk.toNatUp, b0, b1, b2, b3, hend, w0, hd, hlo, show sg.lo ≤ v by omega,  hge, Sample.val, Sample.cells, Sig.val, Sig.cells, Go.IntWalk.iteOmega, show ¬ (c0 < 0) by omega, show ¬ ((S.length : Int) ≤ c0) by omega, show (c0 < (S.length : Int)) by omega]
          refine ICalls.mono (rEnd _ _ ⟨P, 7, 0⟩ o4 (by simp [go_sem, Go.IntWalk.iteOmega])) ?_
          rintro v _ ⟨rfl, rfl⟩
          try simp [go_sem, -getElem?_pos, -List.map_take, -List.map_drop, List.getElem?_cons_zero, List.getElem?_cons_succ, Go.IntWalk.iteOmega, Go.IntWalk.toNatUp, b0, b1, b2, b3, hend, w0, hd, hlo, show sg.lo ≤ v by omega,  hge, Sample.val, Sample.cells, Sig.val, Sig.cells, Go.IntWalk.iteOmega, show ¬ (c0 < 0) by omega, show ¬ ((S.length : Int) ≤ c0) by omega, show (c0 < (S.length : Int)) by omega]
          refine IWp.seq ?_
          refine IWp.run [1, 4, 7, 29] ?_
          simp [go_sem, -getElem?_pos, -List.map_take, -List.map_drop, List.getElem?_cons_zero, List.getElem?_cons_succ, Go.IntWalk.iteOmega, Go.IntWalk.toNatUp, b0, b1, b2, b3, hend, w0, hd, hlo, show sg.lo ≤ v by omega,  hge, Sample.val, Sample.cells, Sig.val, Sig.cells, Go.IntWalk.iteOmega, show ¬ (c0 < 0) by omega, show ¬ ((S.length : Int) ≤ c0) by omega, show (c0 < (S.length : Int)) by omega]
          refine IWp.cond ?_
          simp [go_sem, -getElem?_pos, -List.map_take, -List.map_drop, List.getElem?_cons_zero, List.getElem?_cons_succ, Go.IntWalk.iteOmega, Go.IntWalk.toNatUp, b0, b1, b2, b3, hend, w0, hd, hlo, show sg.lo ≤ v by omega,  hge, Sample.val, Sample.cells, Sig.val, Sig.cells, Go.IntWalk.iteOmega, show ¬ (c0 < 0) by omega, show ¬ ((S.length : Int) ≤ c0) by omega, show (c0 < (S.length : Int)) by omega]
          refine IWp.trim [1, 4, 7] (IWp.skip ?_)
          simp [go_sem, -getElem?_pos, -List.map_take, -List.map_drop, List.getElem?_cons_zero, List.getElem?_cons_succ, Go.IntWalk.iteOmega, Go.IntWalk.toNatUp, b0, b1, b2, b3, hend, w0, hd, hlo, show sg.lo ≤ v by omega,  hge, Sample.val, Sample.cells, Sig.val, Sig.cells, Go.IntWalk.iteOmega, show ¬ (c0 < 0) by omega, show ¬ ((S.length : Int) ≤ c0) by omega, show (c0 < (S.length : Int)) by omega]
          refine IWp.seq ?_
          refine IWp.seq ?_
          refine IWp.run [1, 4, 7, 35] ?_
          simp [go_sem, -getElem?_pos, -List.map_take, -List.map_drop, List.getElem?_cons_zero, List.getElem?_cons_succ, Go.IntWalk.iteOmega, Go.IntWalk.toNatUp, b0, b1, b2, b3, hend, w0, hd, hlo, show sg.lo ≤ v by omega,  hge, Sample.val, Sample.cells, Sig.val, Sig.cells, Go.IntWalk.iteOmega, show ¬ (c0 < 0) by omega, show ¬ ((S.length : Int) ≤ c0) by omega, show (c0 < (S.length : Int)) by omega]
          refine IWp.cond ?_
          simp [go_sem, -getElem?_pos, -List.map_take, -List.map_drop, List.getElem?_cons_zero, List.getElem?_cons_succ, Go.IntWalk.iteOmega, Go.IntWalk.toNatUp, b0, b1, b2, b3, hend, w0, hd, hlo, show sg.lo ≤ v by omega,  hge, Sample.val, Sample.cells, Sig.val, Sig.cells, Go.IntWalk.iteOmega, show ¬ (c0 < 0) by omega, show ¬ ((S.length : Int) ≤ c0) by omega, show (c0 < (S.length : Int)) by omega]
          refine IWp.trim [1, 4, 7] (IWp.skip ?_)
          simp [go_sem, -getElem?_pos, -List.map_take, -List.map_drop, List.getElem?_cons_zero, List.getElem?_cons_succ, Go.IntWalk.iteOmega, Go.IntWalk.toNatUp, b0, b1, b2, b3, hend, w0, hd, hlo, show sg.lo ≤ v by omega,  hge, Sample.val, Sample.cells, Sig.val, Sig.cells, Go.IntWalk.iteOmega, show ¬ (c0 < 0) by omega, show ¬ ((S.length : Int) ≤ c0) by omega, show (c0 < (S.length : Int)) by omega]
          refine IWp.seq ?_
          refine IWp.run [4, 7, 10] ?_
          simp [go_sem, -getElem?_pos, -List.map_take, -List.map_drop, List.getElem?_cons_zero, List.getElem?_cons_succ, Go.IntWalk.iteOmega, Go.IntWalk.toNatUp, b0, b1, b2, b3, hend, w0, hd, hlo, show sg.lo ≤ v by omega,  hge, Sample.val, Sample.cells, Sig.val, Sig.cells, Go.IntWalk.iteOmega, show ¬ (c0 < 0) by omega, show ¬ ((S.length : Int) ≤ c0) by omega, show (c0 < (S.length : Int)) by omega]
          refine IWp.seq ?_
          refine IWp.run [4, 7] ?_
          simp [go_sem, -getElem?_pos, -List.map_take, -List.map_drop, List.getElem?_cons_zero, List.getElem?_cons_succ, Go.IntWalk.iteOmega, Go.IntWalk.toNatUp, b0, b1, b2, b3, hend, w0, hd, hlo, show sg.lo ≤ v by omega,  hge, Sample.val, Sample.cells, Sig.val, Sig.cells, Go.IntWalk.iteOmega, show ¬ (c0 < 0) by omega, show ¬ ((S.length : Int) ≤ c0) by omega, show (c0 < (S.length : Int)) by omega]
          refine IWp.seq ?_
          refine IWp.run [4, 5] ?_
          simp [go_sem, -getElem?_pos, -List.map_take, -List.map_drop, List.getElem?_cons_zero, List.getElem?_cons_succ, Go.IntWalk.iteOmega, Go.IntWalk.toNatUp, b0, b1, b2, b3, hend, w0, hd, hlo, show sg.lo ≤ v by omega,  hge, Sample.val, Sample.cells, Sig.val, Sig.cells, Go.IntWalk.iteOmega, show ¬ (c0 < 0) by omega, show ¬ ((S.length : Int) ≤ c0) by omega, show (c0 < (S.length : Int)) by omega]
          refine IWp.ret ?_
          simp [go_sem, -getElem?_pos, -List.map_take, -List.map_drop, List.getElem?_cons_zero, List.getElem?_cons_succ, Go.IntWalk.iteOmega, Go.IntWalk.toNatUp, b0, b1, b2, b3, hend, w0, hd, hlo, show sg.lo ≤ v by omega,  hge, Sample.val, Sample.cells, Sig.val, Sig.cells, Go.IntWalk.iteOmega, show ¬ (c0 < 0) by omega, show ¬ ((S.length : Int) ≤ c0) by omega, show (c0 < (S.length : Int)) by omega, Try.results26]
    · rw [dif_neg hS]
      refine IBody.of Try.func26 rfl (by rw [Try.ntmps26]; simp) ?_
      rw [Try.ntmps26]
      refine IWp.seq ?_
      refine IWp.run [0, 1, 4] ?_
      simp [go_sem, -getElem?_pos, -List.map_take, -List.map_drop, List.getElem?_cons_zero, List.getElem?_cons_succ, Go.IntWalk.iteOmega, Go.IntWalk.toNatUp, b0, b1, b2, b3, hend, w0, Sample.val, Sample.cells, Sig.val, Sig.cells, Go.IntWalk.iteOmega, show ((S.length : Int) ≤ c0) by omega]
      refine IWp.seq ?_
      refine IWp.run [1, 4, 6] ?_
      simp [go_sem, -getElem?_pos, -List.map_take, -List.map_drop, List.getElem?_cons_zero, List.getElem?_cons_succ, Go.IntWalk.iteOmega, Go.IntWalk.toNatUp, b0, b1, b2, b3, hend, w0, Sample.val, Sample.cells, Sig.val, Sig.cells, Go.IntWalk.iteOmega, show ((S.length : Int) ≤ c0) by omega]
      refine ICalls.mono (newReader _ m P (by omega)) ?_
      rintro v _ ⟨rfl, rfl⟩
      try simp [go_sem, -getElem?_pos, -List.map_take, -List.map_drop, List.getElem?_cons_zero, List.getElem?_cons_succ, Go.IntWalk.iteOmega, Go.IntWalk.toNatUp, b0, b1, b2, b3, hend, w0, Sample.val, Sample.cells, Sig.val, Sig.cells, Go.IntWalk.iteOmega, show ((S.length : Int) ≤ c0) by omega]
      refine IWp.seq ?_
      refine IWp.run [1, 4, 6, 7] ?_
      simp [go_sem, -getElem?_pos, -List.map_take, -List.map_drop, List.getElem?_cons_zero, List.getElem?_cons_succ, Go.IntWalk.iteOmega, Go.IntWalk.toNatUp, b0, b1, b2, b3, hend, w0, Sample.val, Sample.cells, Sig.val, Sig.cells, Go.IntWalk.iteOmega, show ((S.length : Int) ≤ c0) by omega]
      refine ICalls.mono (rByte _ _ ⟨P, 0, 0⟩ o0 (by simp [go_sem, Go.IntWalk.iteOmega])) ?_
      rintro v _ ⟨rfl, rfl⟩
      try simp [go_sem, -getElem?_pos, -List.map_take, -List.map_drop, List.getElem?_cons_zero, List.getElem?_cons_succ, Go.IntWalk.iteOmega, Go.IntWalk.toNatUp, b0, b1, b2, b3, hend, w0, Sample.val, Sample.cells, Sig.val, Sig.cells, Go.IntWalk.iteOmega, show ((S.length : Int) ≤ c0) by omega]
      refine ICalls.mono (rByte _ _ ⟨P, 1, 0⟩ o1 (by simp [go_sem, Go.IntWalk.iteOmega])) ?_
      rintro v _ ⟨rfl, rfl⟩
      try simp [go_sem, -getElem?_pos, -List.map_take, -List.map_drop, List.getElem?_cons_zero, List.getElem?_cons_succ, Go.IntWalk.iteOmega, Go.IntWalk.toNatUp, b0, b1, b2, b3, hend, w0, Sample.val, Sample.cells, Sig.val, Sig.cells, Go.IntWalk.iteOmega, show ((S.length : Int) ≤ c0) by omega]
      refine ICalls.mono (rFlag _ _ ⟨P, 2, 0⟩ o2 (by simp [go_sem, Go.IntWalk.iteOmega])) ?_
      rintro v _ ⟨rfl, rfl⟩
      try simp [go_sem, -getElem?_pos, -List.map_take, -List.map_drop, List.getElem?_cons_zero, List.getElem?_cons_succ, Go.IntWalk.iteOmega, Go.IntWalk.toNatUp, b0, b1, b2, b3, hend, w0, Sample.val, Sample.cells, Sig.val, Sig.cells, Go.IntWalk.iteOmega, show ((S.length : Int) ≤ c0) by omega]
      refine ICalls.mono (rInt _ _ ⟨P, 3, 0⟩ o3 (by simp [go_sem, Go.IntWalk.iteOmega])) ?_
      rintro v _ ⟨rfl, rfl⟩
      try simp [go_sem, -getElem?_pos, -List.map_take, -List.map_drop, List.getElem?_cons_zero, List.getElem?_cons_succ, Go.IntWalk.iteOmega, Go.IntWalk.toNatUp, b0, b1, b2, b3, hend, w0, Sample.val, Sample.cells, Sig.val, Sig.cells, Go.IntWalk.iteOmega, show ((S.length : Int) ≤ c0) by omega]
      refine IWp.seq ?_
      refine IWp.seq ?_
      refine IWp.run [1, 4, 7, 9] ?_
      simp [go_sem, -getElem?_pos, -List.map_take, -List.map_drop, List.getElem?_cons_zero, List.getElem?_cons_succ, Go.IntWalk.iteOmega, Go.IntWalk.toNatUp, b0, b1, b2, b3, hend, w0, Sample.val, Sample.cells, Sig.val, Sig.cells, Go.IntWalk.iteOmega, show ((S.length : Int) ≤ c0) by omega]
      refine ICalls.mono (rEnd _ _ ⟨P, 7, 0⟩ o4 (by simp [go_sem, Go.IntWalk.iteOmega])) ?_
      rintro v _ ⟨rfl, rfl⟩
      try simp [go_sem, -getElem?_pos, -List.map_take, -List.map_drop, List.getElem?_cons_zero, List.getElem?_cons_succ, Go.IntWalk.iteOmega, Go.IntWalk.toNatUp, b0, b1, b2, b3, hend, w0, Sample.val, Sample.cells, Sig.val, Sig.cells, Go.IntWalk.iteOmega, show ((S.length : Int) ≤ c0) by omega]
      refine IWp.seq ?_
      refine IWp.run [1, 4, 7, 29] ?_
      simp [go_sem, -getElem?_pos, -List.map_take, -List.map_drop, List.getElem?_cons_zero, List.getElem?_cons_succ, Go.IntWalk.iteOmega, Go.IntWalk.toNatUp, b0, b1, b2, b3, hend, w0, Sample.val, Sample.cells, Sig.val, Sig.cells, Go.IntWalk.iteOmega, show ((S.length : Int) ≤ c0) by omega]
      refine IWp.cond ?_
      simp [go_sem, -getElem?_pos, -List.map_take, -List.map_drop, List.getElem?_cons_zero, List.getElem?_cons_succ, Go.IntWalk.iteOmega, Go.IntWalk.toNatUp, b0, b1, b2, b3, hend, w0, Sample.val, Sample.cells, Sig.val, Sig.cells, Go.IntWalk.iteOmega, show ((S.length : Int) ≤ c0) by omega]
      refine IWp.trim [1, 4, 7] (IWp.skip ?_)
      simp [go_sem, -getElem?_pos, -List.map_take, -List.map_drop, List.getElem?_cons_zero, List.getElem?_cons_succ, Go.IntWalk.iteOmega, Go.IntWalk.toNatUp, b0, b1, b2, b3, hend, w0, Sample.val, Sample.cells, Sig.val, Sig.cells, Go.IntWalk.iteOmega, show ((S.length : Int) ≤ c0) by omega]
      refine IWp.seq ?_
      refine IWp.seq ?_
      refine IWp.run [1, 4, 7, 35] ?_
      simp [go_sem, -getElem?_pos, -List.map_take, -List.map_drop, List.getElem?_cons_zero, List.getElem?_cons_succ, Go.IntWalk.iteOmega, Go.IntWalk.toNatUp, b0, b1, b2, b3, hend, w0, Sample.val, Sample.cells, Sig.val, Sig.cells, Go.IntWalk.iteOmega, show ((S.length : Int) ≤ c0) by omega]
      refine IWp.cond ?_
      simp [go_sem, -getElem?_pos, -List.map_take, -List.map_drop, List.getElem?_cons_zero, List.getElem?_cons_succ, Go.IntWalk.iteOmega, Go.IntWalk.toNatUp, b0, b1, b2, b3, hend, w0, Sample.val, Sample.cells, Sig.val, Sig.cells, Go.IntWalk.iteOmega, show ((S.length : Int) ≤ c0) by omega]
      refine IWp.seq ?_
      refine IWp.run [4, 5] ?_
      simp [go_sem, -getElem?_pos, -List.map_take, -List.map_drop, List.getElem?_cons_zero, List.getElem?_cons_succ, Go.IntWalk.iteOmega, Go.IntWalk.toNatUp, b0, b1, b2, b3, hend, w0, Sample.val, Sample.cells, Sig.val, Sig.cells, Go.IntWalk.iteOmega, show ((S.length : Int) ≤ c0) by omega]
      refine IWp.ret ?_
      simp [go_sem, -getElem?_pos, -List.map_take, -List.map_drop, List.getElem?_cons_zero, List.getElem?_cons_succ, Go.IntWalk.iteOmega, Go.IntWalk.toNatUp, b0, b1, b2, b3, hend, w0, Sample.val, Sample.cells, Sig.val, Sig.cells, Go.IntWalk.iteOmega, show ((S.length : Int) ≤ c0) by omega, Try.results26]
  · have hb := rd_bad P hc
    have hr : readS P S = (⟨0, 0, 0, false⟩, 2) := by unfold readS; rw [if_neg hc]
    rw [hr]
    refine IBody.of Try.func26 rfl (by rw [Try.ntmps26]; simp) ?_
    rw [Try.ntmps26]
    refine IWp.seq ?_
    refine IWp.run [0, 1, 4] ?_
    simp [go_sem, -getElem?_pos, -List.map_take, -List.map_drop, List.getElem?_cons_zero, List.getElem?_cons_succ, Go.IntWalk.iteOmega, Go.IntWalk.toNatUp, hb, f1, f2, f3, f4, Sample.val, Sample.cells]
    refine IWp.seq ?_
    refine IWp.run [1, 4, 6] ?_
    simp [go_sem, -getElem?_pos, -List.map_take, -List.map_drop, List.getElem?_cons_zero, List.getElem?_cons_succ, Go.IntWalk.iteOmega, Go.IntWalk.toNatUp, hb, f1, f2, f3, f4, Sample.val, Sample.cells]
    refine ICalls.mono (newReader _ m P (by omega)) ?_
    rintro v _ ⟨rfl, rfl⟩
    try simp [go_sem, -getElem?_pos, -List.map_take, -List.map_drop, List.getElem?_cons_zero, List.getElem?_cons_succ, Go.IntWalk.iteOmega, Go.IntWalk.toNatUp, hb, f1, f2, f3, f4, Sample.val, Sample.cells]
    refine IWp.seq ?_
    refine IWp.run [1, 4, 6, 7] ?_
    simp [go_sem, -getElem?_pos, -List.map_take, -List.map_drop, List.getElem?_cons_zero, List.getElem?_cons_succ, Go.IntWalk.iteOmega, Go.IntWalk.toNatUp, hb, f1, f2, f3, f4, Sample.val, Sample.cells]
    refine ICalls.mono (rByte _ _ ⟨P, 0, 0⟩ o0 (by simp [go_sem, Go.IntWalk.iteOmega])) ?_
    rintro v _ ⟨rfl, rfl⟩
    try simp [go_sem, -getElem?_pos, -List.map_take, -List.map_drop, List.getElem?_cons_zero, List.getElem?_cons_succ, Go.IntWalk.iteOmega, Go.IntWalk.toNatUp, hb, f1, f2, f3, f4, Sample.val, Sample.cells]
    refine ICalls.mono (rByte _ _ (rd1 P) o1 (by simp [go_sem, Go.IntWalk.iteOmega])) ?_
    rintro v _ ⟨rfl, rfl⟩
    try simp [go_sem, -getElem?_pos, -List.map_take, -List.map_drop, List.getElem?_cons_zero, List.getElem?_cons_succ, Go.IntWalk.iteOmega, Go.IntWalk.toNatUp, hb, f1, f2, f3, f4, Sample.val, Sample.cells]
    refine ICalls.mono (rFlag _ _ (rd2 P) o2 (by simp [go_sem, Go.IntWalk.iteOmega])) ?_
    rintro v _ ⟨rfl, rfl⟩
    try simp [go_sem, -getElem?_pos, -List.map_take, -List.map_drop, List.getElem?_cons_zero, List.getElem?_cons_succ, Go.IntWalk.iteOmega, Go.IntWalk.toNatUp, hb, f1, f2, f3, f4, Sample.val, Sample.cells]
    refine ICalls.mono (rInt _ _ (rd3 P) o3 (by simp [go_sem, Go.IntWalk.iteOmega])) ?_
    rintro v _ ⟨rfl, rfl⟩
    try simp [go_sem, -getElem?_pos, -List.map_take, -List.map_drop, List.getElem?_cons_zero, List.getElem?_cons_succ, Go.IntWalk.iteOmega, Go.IntWalk.toNatUp, hb, f1, f2, f3, f4, Sample.val, Sample.cells]
    refine IWp.seq ?_
    refine IWp.seq ?_
    refine IWp.run [1, 4, 7, 9] ?_
    simp [go_sem, -getElem?_pos, -List.map_take, -List.map_drop, List.getElem?_cons_zero, List.getElem?_cons_succ, Go.IntWalk.iteOmega, Go.IntWalk.toNatUp, hb, f1, f2, f3, f4, Sample.val, Sample.cells]
    refine ICalls.mono (rEnd _ _ (rd4 P) o4 (by simp [go_sem, Go.IntWalk.iteOmega])) ?_
    rintro v _ ⟨rfl, rfl⟩
    try simp [go_sem, -getElem?_pos, -List.map_take, -List.map_drop, List.getElem?_cons_zero, List.getElem?_cons_succ, Go.IntWalk.iteOmega, Go.IntWalk.toNatUp, hb, f1, f2, f3, f4, Sample.val, Sample.cells]
    refine IWp.seq ?_
    refine IWp.run [1, 4, 7, 29] ?_
    simp [go_sem, -getElem?_pos, -List.map_take, -List.map_drop, List.getElem?_cons_zero, List.getElem?_cons_succ, Go.IntWalk.iteOmega, Go.IntWalk.toNatUp, hb, f1, f2, f3, f4, Sample.val, Sample.cells]
    refine IWp.cond ?_
    simp [go_sem, -getElem?_pos, -List.map_take, -List.map_drop, List.getElem?_cons_zero, List.getElem?_cons_succ, Go.IntWalk.iteOmega, Go.IntWalk.toNatUp, hb, f1, f2, f3, f4, Sample.val, Sample.cells]
    refine IWp.seq ?_
    refine IWp.run [4, 5] ?_
    simp [go_sem, -getElem?_pos, -List.map_take, -List.map_drop, List.getElem?_cons_zero, List.getElem?_cons_succ, Go.IntWalk.iteOmega, Go.IntWalk.toNatUp, hb, f1, f2, f3, f4, Sample.val, Sample.cells]
    refine IWp.ret ?_
    simp [go_sem, -getElem?_pos, -List.map_take, -List.map_drop, List.getElem?_cons_zero, List.getElem?_cons_succ, Go.IntWalk.iteOmega, Go.IntWalk.toNatUp, hb, f1, f2, f3, f4, Sample.val, Sample.cells, Try.results26]

theorem refRead (H : Heap) (k : Int) (P : List Int) (S : List Sig) (hB : Bs P) (hl : P.length ≤ 100000) :
    ICalls Try.prog 27 [byts P, frow 2 k (S.map Sig.val)] H fun v H' => v = .tuple #[(readS P S).1.val, .int .i64 (readS P S).2] ∧ H' = H := by
  refine ICalls.ans (by simp [go_sem, Sample.cl_val]) fun H => IBody.calls (by kernel_rfl) ?_
  by_cases h7 : P.length = 7
  · have o3 : (Rd.mk P 3 0).ok := ⟨by show 3 ≤ P.length; omega, by show P.length ≤ _; omega, hB⟩
    have b3 : (Rd.mk P 3 0).int = (be4 (P.getD 3 0) (P.getD 4 0) (P.getD 5 0) (P.getD 6 0), ⟨P, 7, 0⟩) := Rd.int_eq rfl (by show 3 + 4 ≤ P.length; omega)
    have g0 : (P.map (Value.int .u8))[0]? = some (.int .u8 (P.getD 0 0)) := by simp [show 0 < P.length by omega]
    have g1 : (P.map (Value.int .u8))[1]? = some (.int .u8 (P.getD 1 0)) := by simp [show 1 < P.length by omega]
    have g2 : (P.map (Value.int .u8))[2]? = some (.int .u8 (P.getD 2 0)) := by simp [show 2 < P.length by omega]
    have hx0 : 0 ≤ P.getD 0 0 ∧ P.getD 0 0 < 256 := Rd.at_byte (s := ⟨P, 0, 0⟩) ⟨Nat.zero_le _, by show P.length ≤ _; omega, hB⟩ 0
    have w0 := IntWalk.i64_in (P.getD 0 0) (by omega)
    by_cases h2 : P.getD 2 0 ≤ 1
    · have hr0 : readS P S = (if h : (P.getD 0 0).toNat < S.length then (⟨P.getD 0 0, P.getD 1 0, be4 (P.getD 3 0) (P.getD 4 0) (P.getD 5 0) (P.getD 6 0), decide (P.getD 2 0 = 1) || (decide (be4 (P.getD 3 0) (P.getD 4 0) (P.getD 5 0) (P.getD 6 0) < S[(P.getD 0 0).toNat].lo) || decide (S[(P.getD 0 0).toNat].hi < be4 (P.getD 3 0) (P.getD 4 0) (P.getD 5 0) (P.getD 6 0)))⟩, 0) else (⟨0, 0, 0, false⟩, 7)) := by
        unfold readS; rw [if_pos ⟨h7, h2⟩]
      rw [hr0]
      generalize be4 (P.getD 3 0) (P.getD 4 0) (P.getD 5 0) (P.getD 6 0) = v at b3
      generalize P.getD 2 0 = c2 at g2 h2
      generalize P.getD 1 0 = c1 at g1
      generalize P.getD 0 0 = c0 at g0 hx0 w0
      by_cases hS : c0.toNat < S.length
      · rw [dif_pos hS]
        have hge : (S.map Sig.val)[c0.toNat]? = some (S[c0.toNat].val) := by simp [hS]
        generalize S[c0.toNat] = sg at hge
        refine IBody.of Try.func27 rfl (by rw [Try.ntmps27]; simp) ?_
        rw [Try.ntmps27]
        refine IWp.seq ?_
        refine IWp.run [0, 1, 4] ?_
        simp [go_sem, -getElem?_pos, -List.map_take, -List.map_drop, List.getElem?_cons_zero, List.getElem?_cons_succ, Go.IntWalk.iteOmega, Go.IntWalk.toNatUp, h7, h2, b3, g0, g1, g2, w0, hge, Sample.val, Sample.cells, Sig.val, Sig.cells, Go.IntWalk.iteOmega, show ¬ (1 < c2) by omega, show ¬ (c0 < 0) by omega, show ¬ ((S.length : Int) ≤ c0) by omega, show (c0 < (S.length : Int)) by omega]
        refine IWp.seq ?_
        refine IWp.seq ?_
        refine IWp.run [0, 1, 4, 16] ?_
        simp [go_sem, -getElem?_pos, -List.map_take, -List.map_drop, List.getElem?_cons_zero, List.getElem?_cons_succ, Go.IntWalk.iteOmega, Go.IntWalk.toNatUp, h7, h2, b3, g0, g1, g2, w0, hge, Sample.val, Sample.cells, Sig.val, Sig.cells, Go.IntWalk.iteOmega, show ¬ (1 < c2) by omega, show ¬ (c0 < 0) by omega, show ¬ ((S.length : Int) ≤ c0) by omega, show (c0 < (S.length : Int)) by omega]
        refine IWp.cond ?_
        simp [go_sem, -getElem?_pos, -List.map_take, -List.map_drop, List.getElem?_cons_zero, List.getElem?_cons_succ, Go.IntWalk.iteOmega, Go.IntWalk.toNatUp, h7, h2, b3, g0, g1, g2, w0, hge, Sample.val, Sample.cells, Sig.val, Sig.cells, Go.IntWalk.iteOmega, show ¬ (1 < c2) by omega, show ¬ (c0 < 0) by omega, show ¬ ((S.length : Int) ≤ c0) by omega, show (c0 < (S.length : Int)) by omega]
        refine IWp.trim [0, 1, 4] (IWp.skip ?_)
        simp [go_sem, -getElem?_pos, -List.map_take, -List.map_drop, List.getElem?_cons_zero, List.getElem?_cons_succ, Go.IntWalk.iteOmega, Go.IntWalk.toNatUp, h7, h2, b3, g0, g1, g2, w0, hge, Sample.val, Sample.cells, Sig.val, Sig.cells, Go.IntWalk.iteOmega, show ¬ (1 < c2) by omega, show ¬ (c0 < 0) by omega, show ¬ ((S.length : Int) ≤ c0) by omega, show (c0 < (S.length : Int)) by omega]
        refine IWp.seq ?_
        refine IWp.seq ?_
        refine IWp.run [0, 1, 4, 24] ?_
        simp [go_sem, -getElem?_pos, -List.map_take, -List.map_drop, List.getElem?_cons_zero, List.getElem?_cons_succ, Go.IntWalk.iteOmega, Go.IntWalk.toNatUp, h7, h2, b3, g0, g1, g2, w0, hge, Sample.val, Sample.cells, Sig.val, Sig.cells, Go.IntWalk.iteOmega, show ¬ (1 < c2) by omega, show ¬ (c0 < 0) by omega, show ¬ ((S.length : Int) ≤ c0) by omega, show (c0 < (S.length : Int)) by omega]
        refine IWp.cond ?_
        simp [go_sem, -getElem?_pos, -List.map_take, -List.map_drop, List.getElem?_cons_zero, List.getElem?_cons_succ, Go.IntWalk.iteOmega, Go.IntWalk.toNatUp, h7, h2, b3, g0, g1, g2, w0, hge, Sample.val, Sample.cells, Sig.val, Sig.cells, Go.IntWalk.iteOmega, show ¬ (1 < c2) by omega, show ¬ (c0 < 0) by omega, show ¬ ((S.length : Int) ≤ c0) by omega, show (c0 < (S.length : Int)) by omega]
        refine IWp.trim [0, 1, 4] (IWp.skip ?_)
        simp [go_sem, -getElem?_pos, -List.map_take, -List.map_drop, List.getElem?_cons_zero, List.getElem?_cons_succ, Go.IntWalk.iteOmega, Go.IntWalk.toNatUp, h7, h2, b3, g0, g1, g2, w0, hge, Sample.val, Sample.cells, Sig.val, Sig.cells, Go.IntWalk.iteOmega, show ¬ (1 < c2) by omega, show ¬ (c0 < 0) by omega, show ¬ ((S.length : Int) ≤ c0) by omega, show (c0 < (S.length : Int)) by omega]
        refine IWp.seq ?_
        refine IWp.run [0, 1, 4, 6] ?_
        simp [go_sem, -getElem?_pos, -List.map_take, -List.map_drop, List.getElem?_cons_zero, List.getElem?_cons_succ, Go.IntWalk.iteOmega, Go.IntWalk.toNatUp, h7, h2, b3, g0, g1, g2, w0, hge, Sample.val, Sample.cells, Sig.val, Sig.cells, Go.IntWalk.iteOmega, show ¬ (1 < c2) by omega, show ¬ (c0 < 0) by omega, show ¬ ((S.length : Int) ≤ c0) by omega, show (c0 < (S.length : Int)) by omega]
        refine IWp.seq ?_
        refine IWp.draw [1, 4, 7] [] (.val 0 (.val 1 (.val 4 (.val 5 (.val 7 (.val 9 (.val 10 (.val 2 (.val 3 (.val 6 (.val 11 (.val 12 (.eff 8 (.val 13 (.eff 14 (.eff 15 .done .done) .done)) (.eff 14 (.eff 8 (.val 13 (.eff 15 .done .done)) .done) .done)))))))))))))) follows (by kernel_rfl) ?_
        simp [go_sem, -getElem?_pos, -List.map_take, -List.map_drop, List.getElem?_cons_zero, List.getElem?_cons_succ, Go.IntWalk.iteOmega, Go.IntWalk.toNatUp, h7, h2, b3, g0, g1, g2, w0, hge, Sample.val, Sample.cells, Sig.val, Sig.cells, Go.IntWalk.iteOmega, show ¬ (1 < c2) by omega, show ¬ (c0 < 0) by omega, show ¬ ((S.length : Int) ≤ c0) by omega, show (c0 < (S.length : Int)) by omega]
        -- 2 ORDERS
        -- CALLS LEFT ['!']
        refine ⟨?_, ?_⟩
        · skip
          refine ICalls.mono (mInt _ _ ⟨P, 3, 0⟩ o3 (by simp [go_sem, Go.IntWalk.iteOmega, Rd.cells, byts])) ?_
          rintro v _ ⟨rfl, rfl⟩
          simp [go_sem, Go.IntWalk.iteOmega, b3, Rd.cells]
          by_cases hlo : v < sg.lo
          · skip
            refine IWp.seq ?_
            refine IWp.seq ?_
            refine IWp.read [4, 7, 62] follows (by kernel_rfl) ?_
            simp [go_sem, -getElem?_pos, -List.map_take, -List.map_drop, List.getElem?_cons_zero, List.getElem?_cons_succ, Go.IntWalk.iteOmega, Go.IntWalk.toNatUp, h7, h2, b3, g0, g1, g2, w0, hge, Sample.val, Sample.cells, Sig.val, Sig.cells, Go.IntWalk.iteOmega, show ¬ (1 < c2) by omega, show ¬ (c0 < 0) by omega, show ¬ ((S.length : Int) ≤ c0) by omega, show (c0 < (S.length : Int)) by omega, hlo, show ¬ (sg.lo ≤ v) by omega]
            refine IWp.cond ?_
            simp [go_sem, -getElem?_pos, -List.map_take, -List.map_drop, List.getElem?_cons_zero, List.getElem?_cons_succ, Go.IntWalk.iteOmega, Go.IntWalk.toNatUp, h7, h2, b3, g0, g1, g2, w0, hge, Sample.val, Sample.cells, Sig.val, Sig.cells, Go.IntWalk.iteOmega, show ¬ (1 < c2) by omega, show ¬ (c0 < 0) by omega, show ¬ ((S.length : Int) ≤ c0) by omega, show (c0 < (S.length : Int)) by omega, hlo, show ¬ (sg.lo ≤ v) by omega]
            refine IWp.run [4, 7] ?_
            simp [go_sem, -getElem?_pos, -List.map_take, -List.map_drop, List.getElem?_cons_zero, List.getElem?_cons_succ, Go.IntWalk.iteOmega, Go.IntWalk.toNatUp, h7, h2, b3, g0, g1, g2, w0, hge, Sample.val, Sample.cells, Sig.val, Sig.cells, Go.IntWalk.iteOmega, show ¬ (1 < c2) by omega, show ¬ (c0 < 0) by omega, show ¬ ((S.length : Int) ≤ c0) by omega, show (c0 < (S.length : Int)) by omega, hlo, show ¬ (sg.lo ≤ v) by omega]
            refine IWp.seq ?_
            refine IWp.run [4, 5] ?_
            simp [go_sem, -getElem?_pos, -List.map_take, -List.map_drop, List.getElem?_cons_zero, List.getElem?_cons_succ, Go.IntWalk.iteOmega, Go.IntWalk.toNatUp, h7, h2, b3, g0, g1, g2, w0, hge, Sample.val, Sample.cells, Sig.val, Sig.cells, Go.IntWalk.iteOmega, show ¬ (1 < c2) by omega, show ¬ (c0 < 0) by omega, show ¬ ((S.length : Int) ≤ c0) by omega, show (c0 < (S.length : Int)) by omega, hlo, show ¬ (sg.lo ≤ v) by omega]
            refine IWp.ret ?_
            simp [go_sem, -getElem?_pos, -List.map_take, -List.map_drop, List.getElem?_cons_zero, List.getElem?_cons_succ, Go.IntWalk.iteOmega, Go.IntWalk.toNatUp, h7, h2, b3, g0, g1, g2, w0, hge, Sample.val, Sample.cells, Sig.val, Sig.cells, Go.IntWalk.iteOmega, show ¬ (1 < c2) by omega, show ¬ (c0 < 0) by omega, show ¬ ((S.length : Int) ≤ c0) by omega, show (c0 < (S.length : Int)) by omega, hlo, show ¬ (sg.lo ≤ v) by omega, Try.results27]
          · by_cases hhi : sg.hi < v
            · skip
              refine IWp.seq ?_
              refine IWp.seq ?_
              refine IWp.read [4, 7, 62] follows (by kernel_rfl) ?_
              simp [go_sem, -getElem?_pos, -List.map_take, -List.map_drop, List.getElem?_cons_zero, List.getElem?_cons_succ, Go.IntWalk.iteOmega, Go.IntWalk.toNatUp, h7, h2, b3, g0, g1, g2, w0, hge, Sample.val, Sample.cells, Sig.val, Sig.cells, Go.IntWalk.iteOmega, show ¬ (1 < c2) by omega, show ¬ (c0 < 0) by omega, show ¬ ((S.length : Int) ≤ c0) by omega, show (c0 < (S.length : Int)) by omega, hlo, hhi, show (sg.lo ≤ v) by omega]
              refine IWp.cond ?_
              simp [go_sem, -getElem?_pos, -List.map_take, -List.map_drop, List.getElem?_cons_zero, List.getElem?_cons_succ, Go.IntWalk.iteOmega, Go.IntWalk.toNatUp, h7, h2, b3, g0, g1, g2, w0, hge, Sample.val, Sample.cells, Sig.val, Sig.cells, Go.IntWalk.iteOmega, show ¬ (1 < c2) by omega, show ¬ (c0 < 0) by omega, show ¬ ((S.length : Int) ≤ c0) by omega, show (c0 < (S.length : Int)) by omega, hlo, hhi, show (sg.lo ≤ v) by omega]
              refine IWp.run [4, 7] ?_
              simp [go_sem, -getElem?_pos, -List.map_take, -List.map_drop, List.getElem?_cons_zero, List.getElem?_cons_succ, Go.IntWalk.iteOmega, Go.IntWalk.toNatUp, h7, h2, b3, g0, g1, g2, w0, hge, Sample.val, Sample.cells, Sig.val, Sig.cells, Go.IntWalk.iteOmega, show ¬ (1 < c2) by omega, show ¬ (c0 < 0) by omega, show ¬ ((S.length : Int) ≤ c0) by omega, show (c0 < (S.length : Int)) by omega, hlo, hhi, show (sg.lo ≤ v) by omega]
              refine IWp.seq ?_
              refine IWp.run [4, 5] ?_
              simp [go_sem, -getElem?_pos, -List.map_take, -List.map_drop, List.getElem?_cons_zero, List.getElem?_cons_succ, Go.IntWalk.iteOmega, Go.IntWalk.toNatUp, h7, h2, b3, g0, g1, g2, w0, hge, Sample.val, Sample.cells, Sig.val, Sig.cells, Go.IntWalk.iteOmega, show ¬ (1 < c2) by omega, show ¬ (c0 < 0) by omega, show ¬ ((S.length : Int) ≤ c0) by omega, show (c0 < (S.length : Int)) by omega, hlo, hhi, show (sg.lo ≤ v) by omega]
              refine IWp.ret ?_
              simp [go_sem, -getElem?_pos, -List.map_take, -List.map_drop, List.getElem?_cons_zero, List.getElem?_cons_succ, Go.IntWalk.iteOmega, Go.IntWalk.toNatUp, h7, h2, b3, g0, g1, g2, w0, hge, Sample.val, Sample.cells, Sig.val, Sig.cells, Go.IntWalk.iteOmega, show ¬ (1 < c2) by omega, show ¬ (c0 < 0) by omega, show ¬ ((S.length : Int) ≤ c0) by omega, show (c0 < (S.length : Int)) by omega, hlo, hhi, show (sg.lo ≤ v) by omega, Try.results27]
            · skip
              refine IWp.seq ?_
              refine IWp.seq ?_
              refine IWp.read [4, 7, 62] follows (by kernel_rfl) ?_
              simp [go_sem, -getElem?_pos, -List.map_take, -List.map_drop, List.getElem?_cons_zero, List.getElem?_cons_succ, Go.IntWalk.iteOmega, Go.IntWalk.toNatUp, h7, h2, b3, g0, g1, g2, w0, hge, Sample.val, Sample.cells, Sig.val, Sig.cells, Go.IntWalk.iteOmega, show ¬ (1 < c2) by omega, show ¬ (c0 < 0) by omega, show ¬ ((S.length : Int) ≤ c0) by omega, show (c0 < (S.length : Int)) by omega, hlo, hhi, show (sg.lo ≤ v) by omega]
              refine IWp.cond ?_
              simp [go_sem, -getElem?_pos, -List.map_take, -List.map_drop, List.getElem?_cons_zero, List.getElem?_cons_succ, Go.IntWalk.iteOmega, Go.IntWalk.toNatUp, h7, h2, b3, g0, g1, g2, w0, hge, Sample.val, Sample.cells, Sig.val, Sig.cells, Go.IntWalk.iteOmega, show ¬ (1 < c2) by omega, show ¬ (c0 < 0) by omega, show ¬ ((S.length : Int) ≤ c0) by omega, show (c0 < (S.length : Int)) by omega, hlo, hhi, show (sg.lo ≤ v) by omega]
              refine IWp.trim [4, 7] (IWp.skip ?_)
              simp [go_sem, -getElem?_pos, -List.map_take, -List.map_drop, List.getElem?_cons_zero, List.getElem?_cons_succ, Go.IntWalk.iteOmega, Go.IntWalk.toNatUp, h7, h2, b3, g0, g1, g2, w0, hge, Sample.val, Sample.cells, Sig.val, Sig.cells, Go.IntWalk.iteOmega, show ¬ (1 < c2) by omega, show ¬ (c0 < 0) by omega, show ¬ ((S.length : Int) ≤ c0) by omega, show (c0 < (S.length : Int)) by omega, hlo, hhi, show (sg.lo ≤ v) by omega]
              refine IWp.seq ?_
              refine IWp.run [4, 5] ?_
              simp [go_sem, -getElem?_pos, -List.map_take, -List.map_drop, List.getElem?_cons_zero, List.getElem?_cons_succ, Go.IntWalk.iteOmega, Go.IntWalk.toNatUp, h7, h2, b3, g0, g1, g2, w0, hge, Sample.val, Sample.cells, Sig.val, Sig.cells, Go.IntWalk.iteOmega, show ¬ (1 < c2) by omega, show ¬ (c0 < 0) by omega, show ¬ ((S.length : Int) ≤ c0) by omega, show (c0 < (S.length : Int)) by omega, hlo, hhi, show (sg.lo ≤ v) by omega]
              refine IWp.ret ?_
              simp [go_sem, -getElem?_pos, -List.map_take, -List.map_drop, List.getElem?_cons_zero, List.getElem?_cons_succ, Go.IntWalk.iteOmega, Go.IntWalk.toNatUp, h7, h2, b3, g0, g1, g2, w0, hge, Sample.val, Sample.cells, Sig.val, Sig.cells, Go.IntWalk.iteOmega, show ¬ (1 < c2) by omega, show ¬ (c0 < 0) by omega, show ¬ ((S.length : Int) ≤ c0) by omega, show (c0 < (S.length : Int)) by omega, hlo, hhi, show (sg.lo ≤ v) by omega, Try.results27]
        · skip
          refine ICalls.mono (mInt _ _ ⟨P, 3, 0⟩ o3 (by simp [go_sem, Go.IntWalk.iteOmega, Rd.cells, byts])) ?_
          rintro v _ ⟨rfl, rfl⟩
          simp [go_sem, Go.IntWalk.iteOmega, b3, Rd.cells]
          by_cases hlo : v < sg.lo
          · skip
            refine IWp.seq ?_
            refine IWp.seq ?_
            refine IWp.read [4, 7, 62] follows (by kernel_rfl) ?_
            simp [go_sem, -getElem?_pos, -List.map_take, -List.map_drop, List.getElem?_cons_zero, List.getElem?_cons_succ, Go.IntWalk.iteOmega, Go.IntWalk.toNatUp, h7, h2, b3, g0, g1, g2, w0, hge, Sample.val, Sample.cells, Sig.val, Sig.cells, Go.IntWalk.iteOmega, show ¬ (1 < c2) by omega, show ¬ (c0 < 0) by omega, show ¬ ((S.length : Int) ≤ c0) by omega, show (c0 < (S.length : Int)) by omega, hlo, show ¬ (sg.lo ≤ v) by omega]
            refine IWp.cond ?_
            simp [go_sem, -getElem?_pos, -List.map_take, -List.map_drop, List.getElem?_cons_zero, List.getElem?_cons_succ, Go.IntWalk.iteOmega, Go.IntWalk.toNatUp, h7, h2, b3, g0, g1, g2, w0, hge, Sample.val, Sample.cells, Sig.val, Sig.cells, Go.IntWalk.iteOmega, show ¬ (1 < c2) by omega, show ¬ (c0 < 0) by omega, show ¬ ((S.length : Int) ≤ c0) by omega, show (c0 < (S.length : Int)) by omega, hlo, show ¬ (sg.lo ≤ v) by omega]
            refine IWp.run [4, 7] ?_
            simp [go_sem, -getElem?_pos, -List.map_take, -List.map_drop, List.getElem?_cons_zero, List.getElem?_cons_succ, Go.IntWalk.iteOmega, Go.IntWalk.toNatUp, h7, h2, b3, g0, g1, g2, w0, hge, Sample.val, Sample.cells, Sig.val, Sig.cells, Go.IntWalk.iteOmega, show ¬ (1 < c2) by omega, show ¬ (c0 < 0) by omega, show ¬ ((S.length : Int) ≤ c0) by omega, show (c0 < (S.length : Int)) by omega, hlo, show ¬ (sg.lo ≤ v) by omega]
            refine IWp.seq ?_
            refine IWp.run [4, 5] ?_
            simp [go_sem, -getElem?_pos, -List.map_take, -List.map_drop, List.getElem?_cons_zero, List.getElem?_cons_succ, Go.IntWalk.iteOmega, Go.IntWalk.toNatUp, h7, h2, b3, g0, g1, g2, w0, hge, Sample.val, Sample.cells, Sig.val, Sig.cells, Go.IntWalk.iteOmega, show ¬ (1 < c2) by omega, show ¬ (c0 < 0) by omega, show ¬ ((S.length : Int) ≤ c0) by omega, show (c0 < (S.length : Int)) by omega, hlo, show ¬ (sg.lo ≤ v) by omega]
            refine IWp.ret ?_
            simp [go_sem, -getElem?_pos, -List.map_take, -List.map_drop, List.getElem?_cons_zero, List.getElem?_cons_succ, Go.IntWalk.iteOmega, Go.IntWalk.toNatUp, h7, h2, b3, g0, g1, g2, w0, hge, Sample.val, Sample.cells, Sig.val, Sig.cells, Go.IntWalk.iteOmega, show ¬ (1 < c2) by omega, show ¬ (c0 < 0) by omega, show ¬ ((S.length : Int) ≤ c0) by omega, show (c0 < (S.length : Int)) by omega, hlo, show ¬ (sg.lo ≤ v) by omega, Try.results27]
          · by_cases hhi : sg.hi < v
            · skip
              refine IWp.seq ?_
              refine IWp.seq ?_
              refine IWp.read [4, 7, 62] follows (by kernel_rfl) ?_
              simp [go_sem, -getElem?_pos, -List.map_take, -List.map_drop, List.getElem?_cons_zero, List.getElem?_cons_succ, Go.IntWalk.iteOmega, Go.IntWalk.toNatUp, h7, h2, b3, g0, g1, g2, w0, hge, Sample.val, Sample.cells, Sig.val, Sig.cells, Go.IntWalk.iteOmega, show ¬ (1 < c2) by omega, show ¬ (c0 < 0) by omega, show ¬ ((S.length : Int) ≤ c0) by omega, show (c0 < (S.length : Int)) by omega, hlo, hhi, show (sg.lo ≤ v) by omega]
              refine IWp.cond ?_
              simp [go_sem, -getElem?_pos, -List.map_take, -List.map_drop, List.getElem?_cons_zero, List.getElem?_cons_succ, Go.IntWalk.iteOmega, Go.IntWalk.toNatUp, h7, h2, b3, g0, g1, g2, w0, hge, Sample.val, Sample.cells, Sig.val, Sig.cells, Go.IntWalk.iteOmega, show ¬ (1 < c2) by omega, show ¬ (c0 < 0) by omega, show ¬ ((S.length : Int) ≤ c0) by omega, show (c0 < (S.length : Int)) by omega, hlo, hhi, show (sg.lo ≤ v) by omega]
              refine IWp.run [4, 7] ?_
              simp [go_sem, -getElem?_pos, -List.map_take, -List.map_drop, List.getElem?_cons_zero, List.getElem?_cons_succ, Go.IntWalk.iteOmega, Go.IntWalk.toNatUp, h7, h2, b3, g0, g1, g2, w0, hge, Sample.val, Sample.cells, Sig.val, Sig.cells, Go.IntWalk.iteOmega, show ¬ (1 < c2) by omega, show ¬ (c0 < 0) by omega, show ¬ ((S.length : Int) ≤ c0) by omega, show (c0 < (S.length : Int)) by omega, hlo, hhi, show (sg.lo ≤ v) by omega]
              refine IWp.seq ?_
              refine IWp.run [4, 5] ?_
              simp [go_sem, -getElem?_pos, -List.map_take, -List.map_drop, List.getElem?_cons_zero, List.getElem?_cons_succ, Go.IntWalk.iteOmega, Go.IntWalk.toNatUp, h7, h2, b3, g0, g1, g2, w0, hge, Sample.val, Sample.cells, Sig.val, Sig.cells, Go.IntWalk.iteOmega, show ¬ (1 < c2) by omega, show ¬ (c0 < 0) by omega, show ¬ ((S.length : Int) ≤ c0) by omega, show (c0 < (S.length : Int)) by omega, hlo, hhi, show (sg.lo ≤ v) by omega]
              refine IWp.ret ?_
              simp [go_sem, -getElem?_pos, -List.map_take, -List.map_drop, List.getElem?_cons_zero, List.getElem?_cons_succ, Go.IntWalk.iteOmega, Go.IntWalk.toNatUp, h7, h2, b3, g0, g1, g2, w0, hge, Sample.val, Sample.cells, Sig.val, Sig.cells, Go.IntWalk.iteOmega, show ¬ (1 < c2) by omega, show ¬ (c0 < 0) by omega, show ¬ ((S.length : Int) ≤ c0) by omega, show (c0 < (S.length : Int)) by omega, hlo, hhi, show (sg.lo ≤ v) by omega, Try.results27]
            · skip
              refine IWp.seq ?_
              refine IWp.seq ?_
              refine IWp.read [4, 7, 62] follows (by kernel_rfl) ?_
              simp [go_sem, -getElem?_pos, -List.map_take, -List.map_drop, List.getElem?_cons_zero, List.getElem?_cons_succ, Go.IntWalk.iteOmega, Go.IntWalk.toNatUp, h7, h2, b3, g0, g1, g2, w0, hge, Sample.val, Sample.cells, Sig.val, Sig.cells, Go.IntWalk.iteOmega, show ¬ (1 < c2) by omega, show ¬ (c0 < 0) by omega, show ¬ ((S.length : Int) ≤ c0) by omega, show (c0 < (S.length : Int)) by omega, hlo, hhi, show (sg.lo ≤ v) by omega]
              refine IWp.cond ?_
              simp [go_sem, -getElem?_pos, -List.map_take, -List.map_drop, List.getElem?_cons_zero, List.getElem?_cons_succ, Go.IntWalk.iteOmega, Go.IntWalk.toNatUp, h7, h2, b3, g0, g1, g2, w0, hge, Sample.val, Sample.cells, Sig.val, Sig.cells, Go.IntWalk.iteOmega, show ¬ (1 < c2) by omega, show ¬ (c0 < 0) by omega, show ¬ ((S.length : Int) ≤ c0) by omega, show (c0 < (S.length : Int)) by omega, hlo, hhi, show (sg.lo ≤ v) by omega]
              refine IWp.trim [4, 7] (IWp.skip ?_)
              simp [go_sem, -getElem?_pos, -List.map_take, -List.map_drop, List.getElem?_cons_zero, List.getElem?_cons_succ, Go.IntWalk.iteOmega, Go.IntWalk.toNatUp, h7, h2, b3, g0, g1, g2, w0, hge, Sample.val, Sample.cells, Sig.val, Sig.cells, Go.IntWalk.iteOmega, show ¬ (1 < c2) by omega, show ¬ (c0 < 0) by omega, show ¬ ((S.length : Int) ≤ c0) by omega, show (c0 < (S.length : Int)) by omega, hlo, hhi, show (sg.lo ≤ v) by omega]
              refine IWp.seq ?_
              refine IWp.run [4, 5] ?_
              simp [go_sem, -getElem?_pos, -List.map_take, -List.map_drop, List.getElem?_cons_zero, List.getElem?_cons_succ, Go.IntWalk.iteOmega, Go.IntWalk.toNatUp, h7, h2, b3, g0, g1, g2, w0, hge, Sample.val, Sample.cells, Sig.val, Sig.cells, Go.IntWalk.iteOmega, show ¬ (1 < c2) by omega, show ¬ (c0 < 0) by omega, show ¬ ((S.length : Int) ≤ c0) by omega, show (c0 < (S.length : Int)) by omega, hlo, hhi, show (sg.lo ≤ v) by omega]
              refine IWp.ret ?_
              simp [go_sem, -getElem?_pos, -List.map_take, -List.map_drop, List.getElem?_cons_zero, List.getElem?_cons_succ, Go.IntWalk.iteOmega, Go.IntWalk.toNatUp, h7, h2, b3, g0, g1, g2, w0, hge, Sample.val, Sample.cells, Sig.val, Sig.cells, Go.IntWalk.iteOmega, show ¬ (1 < c2) by omega, show ¬ (c0 < 0) by omega, show ¬ ((S.length : Int) ≤ c0) by omega, show (c0 < (S.length : Int)) by omega, hlo, hhi, show (sg.lo ≤ v) by omega, Try.results27]
      · rw [dif_neg hS]
        refine IBody.of Try.func27 rfl (by rw [Try.ntmps27]; simp) ?_
        rw [Try.ntmps27]
        refine IWp.seq ?_
        refine IWp.run [0, 1, 4] ?_
        simp [go_sem, -getElem?_pos, -List.map_take, -List.map_drop, List.getElem?_cons_zero, List.getElem?_cons_succ, Go.IntWalk.iteOmega, Go.IntWalk.toNatUp, h7, h2, g0, g2, w0, Sample.val, Sample.cells, Go.IntWalk.iteOmega, show ¬ (1 < c2) by omega, show ((S.length : Int) ≤ c0) by omega]
        refine IWp.seq ?_
        refine IWp.seq ?_
        refine IWp.run [0, 1, 4, 16] ?_
        simp [go_sem, -getElem?_pos, -List.map_take, -List.map_drop, List.getElem?_cons_zero, List.getElem?_cons_succ, Go.IntWalk.iteOmega, Go.IntWalk.toNatUp, h7, h2, g0, g2, w0, Sample.val, Sample.cells, Go.IntWalk.iteOmega, show ¬ (1 < c2) by omega, show ((S.length : Int) ≤ c0) by omega]
        refine IWp.cond ?_
        simp [go_sem, -getElem?_pos, -List.map_take, -List.map_drop, List.getElem?_cons_zero, List.getElem?_cons_succ, Go.IntWalk.iteOmega, Go.IntWalk.toNatUp, h7, h2, g0, g2, w0, Sample.val, Sample.cells, Go.IntWalk.iteOmega, show ¬ (1 < c2) by omega, show ((S.length : Int) ≤ c0) by omega]
        refine IWp.trim [0, 1, 4] (IWp.skip ?_)
        simp [go_sem, -getElem?_pos, -List.map_take, -List.map_drop, List.getElem?_cons_zero, List.getElem?_cons_succ, Go.IntWalk.iteOmega, Go.IntWalk.toNatUp, h7, h2, g0, g2, w0, Sample.val, Sample.cells, Go.IntWalk.iteOmega, show ¬ (1 < c2) by omega, show ((S.length : Int) ≤ c0) by omega]
        refine IWp.seq ?_
        refine IWp.seq ?_
        refine IWp.run [0, 1, 4, 24] ?_
        simp [go_sem, -getElem?_pos, -List.map_take, -List.map_drop, List.getElem?_cons_zero, List.getElem?_cons_succ, Go.IntWalk.iteOmega, Go.IntWalk.toNatUp, h7, h2, g0, g2, w0, Sample.val, Sample.cells, Go.IntWalk.iteOmega, show ¬ (1 < c2) by omega, show ((S.length : Int) ≤ c0) by omega]
        refine IWp.cond ?_
        simp [go_sem, -getElem?_pos, -List.map_take, -List.map_drop, List.getElem?_cons_zero, List.getElem?_cons_succ, Go.IntWalk.iteOmega, Go.IntWalk.toNatUp, h7, h2, g0, g2, w0, Sample.val, Sample.cells, Go.IntWalk.iteOmega, show ¬ (1 < c2) by omega, show ((S.length : Int) ≤ c0) by omega]
        refine IWp.seq ?_
        refine IWp.run [4, 5] ?_
        simp [go_sem, -getElem?_pos, -List.map_take, -List.map_drop, List.getElem?_cons_zero, List.getElem?_cons_succ, Go.IntWalk.iteOmega, Go.IntWalk.toNatUp, h7, h2, g0, g2, w0, Sample.val, Sample.cells, Go.IntWalk.iteOmega, show ¬ (1 < c2) by omega, show ((S.length : Int) ≤ c0) by omega]
        refine IWp.ret ?_
        simp [go_sem, -getElem?_pos, -List.map_take, -List.map_drop, List.getElem?_cons_zero, List.getElem?_cons_succ, Go.IntWalk.iteOmega, Go.IntWalk.toNatUp, h7, h2, g0, g2, w0, Sample.val, Sample.cells, Go.IntWalk.iteOmega, show ¬ (1 < c2) by omega, show ((S.length : Int) ≤ c0) by omega, Try.results27]
    · have hr : readS P S = (⟨0, 0, 0, false⟩, 2) := by unfold readS; rw [if_neg (fun h => h2 h.2)]
      rw [hr]
      generalize P.getD 2 0 = c2 at g2 h2
      refine IBody.of Try.func27 rfl (by rw [Try.ntmps27]; simp) ?_
      rw [Try.ntmps27]
      refine IWp.seq ?_
      refine IWp.run [0, 1, 4] ?_
      simp [go_sem, -getElem?_pos, -List.map_take, -List.map_drop, List.getElem?_cons_zero, List.getElem?_cons_succ, Go.IntWalk.iteOmega, Go.IntWalk.toNatUp, h7, h2, g2, Sample.val, Sample.cells, show (1 < c2) by omega]
      refine IWp.seq ?_
      refine IWp.seq ?_
      refine IWp.run [0, 1, 4, 16] ?_
      simp [go_sem, -getElem?_pos, -List.map_take, -List.map_drop, List.getElem?_cons_zero, List.getElem?_cons_succ, Go.IntWalk.iteOmega, Go.IntWalk.toNatUp, h7, h2, g2, Sample.val, Sample.cells, show (1 < c2) by omega]
      refine IWp.cond ?_
      simp [go_sem, -getElem?_pos, -List.map_take, -List.map_drop, List.getElem?_cons_zero, List.getElem?_cons_succ, Go.IntWalk.iteOmega, Go.IntWalk.toNatUp, h7, h2, g2, Sample.val, Sample.cells, show (1 < c2) by omega]
      refine IWp.seq ?_
      refine IWp.run [4, 5] ?_
      simp [go_sem, -getElem?_pos, -List.map_take, -List.map_drop, List.getElem?_cons_zero, List.getElem?_cons_succ, Go.IntWalk.iteOmega, Go.IntWalk.toNatUp, h7, h2, g2, Sample.val, Sample.cells, show (1 < c2) by omega]
      refine IWp.ret ?_
      simp [go_sem, -getElem?_pos, -List.map_take, -List.map_drop, List.getElem?_cons_zero, List.getElem?_cons_succ, Go.IntWalk.iteOmega, Go.IntWalk.toNatUp, h7, h2, g2, Sample.val, Sample.cells, show (1 < c2) by omega, Try.results27]
  · have hr : readS P S = (⟨0, 0, 0, false⟩, 2) := by unfold readS; rw [if_neg (fun h => h7 h.1)]
    rw [hr]
    have h8 : ¬ (P.length : Int) = 7 := by omega
    have h9 : ((P.length : Int) != 7) = true := by simpa using h8
    refine IBody.of Try.func27 rfl (by rw [Try.ntmps27]; simp) ?_
    rw [Try.ntmps27]
    refine IWp.seq ?_
    refine IWp.run [0, 1, 4] ?_
    simp [go_sem, -getElem?_pos, -List.map_take, -List.map_drop, List.getElem?_cons_zero, List.getElem?_cons_succ, Go.IntWalk.iteOmega, Go.IntWalk.toNatUp, h9, Sample.val, Sample.cells]
    refine IWp.seq ?_
    refine IWp.seq ?_
    refine IWp.run [0, 1, 4, 16] ?_
    simp [go_sem, -getElem?_pos, -List.map_take, -List.map_drop, List.getElem?_cons_zero, List.getElem?_cons_succ, Go.IntWalk.iteOmega, Go.IntWalk.toNatUp, h9, Sample.val, Sample.cells]
    refine IWp.cond ?_
    simp [go_sem, -getElem?_pos, -List.map_take, -List.map_drop, List.getElem?_cons_zero, List.getElem?_cons_succ, Go.IntWalk.iteOmega, Go.IntWalk.toNatUp, h9, Sample.val, Sample.cells]
    refine IWp.seq ?_
    refine IWp.run [4, 5] ?_
    simp [go_sem, -getElem?_pos, -List.map_take, -List.map_drop, List.getElem?_cons_zero, List.getElem?_cons_succ, Go.IntWalk.iteOmega, Go.IntWalk.toNatUp, h9, Sample.val, Sample.cells]
    refine IWp.ret ?_
    simp [go_sem, -getElem?_pos, -List.map_take, -List.map_drop, List.getElem?_cons_zero, List.getElem?_cons_succ, Go.IntWalk.iteOmega, Go.IntWalk.toNatUp, h9, Sample.val, Sample.cells, Try.results27]

theorem sampB_bs (x : Sample) (hx : x.wf) : Bs (sampB x) := by
  intro y hy
  obtain ⟨h1, h2, h3⟩ := hx
  simp only [sampB, i4, List.cons_append, List.nil_append, List.mem_cons, List.not_mem_nil, or_false] at hy
  rcases hy with rfl | rfl | rfl | rfl | rfl | rfl | rfl
  · omega
  · exact h2
  · split <;> decide
  all_goals omega

theorem sampleBytes_law (H : Heap) (signal value seq : Int) (bad : Bool) (w0 : -9223372036854775808 ≤ signal ∧ signal < 9223372036854775808) (w1 : -9223372036854775808 ≤ value ∧ value < 9223372036854775808) (w2 : 0 ≤ seq ∧ seq < 256) :
    IBody Try.prog 7 [.int .i64 signal, .int .i64 value, .int .u8 seq, .bool bad] H fun v _ => v = .bool true := by
  have hb := sampB_bs ⟨signal, seq, value, bad⟩ ⟨w0, w2, w1⟩
  have hl : (sampB ⟨signal, seq, value, bad⟩).length = 7 := rfl
  refine IBody.of Try.func7 rfl (by rw [Try.ntmps7]; simp) ?_
  rw [Try.ntmps7]
  refine IWp.seq ?_
  refine IWp.run [0, 1, 2, 3] ?_
  simp [go_sem, -getElem?_pos, -List.map_take, -List.map_drop, List.getElem?_cons_zero, List.getElem?_cons_succ, Go.IntWalk.iteOmega, Go.IntWalk.toNatUp, hl]
  refine IWp.seq ?_
  refine IWp.run [9] ?_
  simp [go_sem, -getElem?_pos, -List.map_take, -List.map_drop, List.getElem?_cons_zero, List.getElem?_cons_succ, Go.IntWalk.iteOmega, Go.IntWalk.toNatUp, hl]
  refine IWp.seq ?_
  refine IWp.draw [8] [H.next] (.eff 0 (.val 1 (.ld 2 [3, 5, 6, 7, 8] (.val 4 (.eff 3 (.eff 5 (.eff 6 (.val 7 (.val 8 .done)) .done) .done) .done)))) .done) follows (by kernel_rfl) ?_
  simp [go_sem, -getElem?_pos, -List.map_take, -List.map_drop, List.getElem?_cons_zero, List.getElem?_cons_succ, Go.IntWalk.iteOmega, Go.IntWalk.toNatUp, hl]
  refine ICalls.mono (gapsP _) ?_
  rintro v _ ⟨rfl, rfl⟩
  try simp [go_sem, -getElem?_pos, -List.map_take, -List.map_drop, List.getElem?_cons_zero, List.getElem?_cons_succ, Go.IntWalk.iteOmega, Go.IntWalk.toNatUp, hl]
  refine ICalls.mono (sampleBytes _ ⟨signal, seq, value, bad⟩) ?_
  rintro v _ ⟨rfl, rfl⟩
  try simp [go_sem, -getElem?_pos, -List.map_take, -List.map_drop, List.getElem?_cons_zero, List.getElem?_cons_succ, Go.IntWalk.iteOmega, Go.IntWalk.toNatUp, hl]
  refine ICalls.mono (refSampleBytes _ ⟨signal, seq, value, bad⟩ ⟨w0, w2, w1⟩) ?_
  rintro v _ ⟨rfl, rfl⟩
  try simp [go_sem, -getElem?_pos, -List.map_take, -List.map_drop, List.getElem?_cons_zero, List.getElem?_cons_succ, Go.IntWalk.iteOmega, Go.IntWalk.toNatUp, hl]
  refine ICalls.mono (refBytes _ 0 0 _ _ (by omega)) ?_
  rintro v _ ⟨rfl, rfl⟩
  try simp [go_sem, -getElem?_pos, -List.map_take, -List.map_drop, List.getElem?_cons_zero, List.getElem?_cons_succ, Go.IntWalk.iteOmega, Go.IntWalk.toNatUp, hl]
  refine IWp.ret ?_
  simp [go_sem, -getElem?_pos, -List.map_take, -List.map_drop, List.getElem?_cons_zero, List.getElem?_cons_succ, Go.IntWalk.iteOmega, Go.IntWalk.toNatUp, hl, Try.results7]

theorem sampleReads_law (H : Heap) (P : List Int) (n : Int) (hB : Bs P) (w1 : 0 ≤ n ∧ n < 256) :
    IBody Try.prog 8 [byts P, .int .u8 n] H fun v _ => v = .bool true := by
  by_cases hl : 50 < P.length
  · skip
    refine IBody.of Try.func8 rfl (by rw [Try.ntmps8]; simp) ?_
    rw [Try.ntmps8]
    refine IWp.seq ?_
    refine IWp.run [0, 1] ?_
    simp [go_sem, -getElem?_pos, -List.map_take, -List.map_drop, List.getElem?_cons_zero, List.getElem?_cons_succ, Go.IntWalk.iteOmega, Go.IntWalk.toNatUp, show (50 : Int) < P.length by omega]
    refine IWp.seq ?_
    refine IWp.seq ?_
    refine IWp.run [0, 1, 16] ?_
    simp [go_sem, -getElem?_pos, -List.map_take, -List.map_drop, List.getElem?_cons_zero, List.getElem?_cons_succ, Go.IntWalk.iteOmega, Go.IntWalk.toNatUp, show (50 : Int) < P.length by omega]
    refine ICalls.mono (gapsP _) ?_
    rintro v _ ⟨rfl, rfl⟩
    try simp [go_sem, -getElem?_pos, -List.map_take, -List.map_drop, List.getElem?_cons_zero, List.getElem?_cons_succ, Go.IntWalk.iteOmega, Go.IntWalk.toNatUp, show (50 : Int) < P.length by omega]
    refine IWp.cond ?_
    simp [go_sem, -getElem?_pos, -List.map_take, -List.map_drop, List.getElem?_cons_zero, List.getElem?_cons_succ, Go.IntWalk.iteOmega, Go.IntWalk.toNatUp, show (50 : Int) < P.length by omega]
    refine IWp.seq ?_
    refine IWp.run [4] ?_
    simp [go_sem, -getElem?_pos, -List.map_take, -List.map_drop, List.getElem?_cons_zero, List.getElem?_cons_succ, Go.IntWalk.iteOmega, Go.IntWalk.toNatUp, show (50 : Int) < P.length by omega]
    refine ICalls.mono (gapsP _) ?_
    rintro v _ ⟨rfl, rfl⟩
    try simp [go_sem, -getElem?_pos, -List.map_take, -List.map_drop, List.getElem?_cons_zero, List.getElem?_cons_succ, Go.IntWalk.iteOmega, Go.IntWalk.toNatUp, show (50 : Int) < P.length by omega]
    refine IWp.ret ?_
    simp [go_sem, -getElem?_pos, -List.map_take, -List.map_drop, List.getElem?_cons_zero, List.getElem?_cons_succ, Go.IntWalk.iteOmega, Go.IntWalk.toNatUp, show (50 : Int) < P.length by omega, Try.results8]
  · have w2 := IntWalk.i64_in n (by omega)
    have ht : n.tmod 4 = n % 4 := Int.tmod_eq_emod_of_nonneg (by omega)
    have hsl : sigs.length = 3 := rfl
    have hm : (sigs.map Sig.val).take (n % 4).toNat = (sigs.take (n % 4).toNat).map Sig.val := by simp
    have hA := fun K => sampleRead K 0 0 P (sigs.take (n % 4).toNat) hB (by omega)
    have hC := fun K => refRead K 0 P (sigs.take (n % 4).toNat) hB (by omega)
    generalize readS P (sigs.take (n % 4).toNat) = q at hA hC
    obtain ⟨x, e⟩ := q
    refine IBody.of Try.func8 rfl (by rw [Try.ntmps8]; simp) ?_
    rw [Try.ntmps8]
    refine IWp.seq ?_
    refine IWp.run [0, 1] ?_
    simp [go_sem, -getElem?_pos, -List.map_take, -List.map_drop, List.getElem?_cons_zero, List.getElem?_cons_succ, Go.IntWalk.iteOmega, Go.IntWalk.toNatUp, w2, Sample.val, Sample.cells, ht, hsl, hm, show ¬ (50 : Int) < P.length by omega, show ¬ n % 4 < 0 by omega, show ¬ 3 < n % 4 by omega, show n % 4 ≤ 3 by omega]
    refine IWp.seq ?_
    refine IWp.seq ?_
    refine IWp.run [0, 1, 16] ?_
    simp [go_sem, -getElem?_pos, -List.map_take, -List.map_drop, List.getElem?_cons_zero, List.getElem?_cons_succ, Go.IntWalk.iteOmega, Go.IntWalk.toNatUp, w2, Sample.val, Sample.cells, ht, hsl, hm, show ¬ (50 : Int) < P.length by omega, show ¬ n % 4 < 0 by omega, show ¬ 3 < n % 4 by omega, show n % 4 ≤ 3 by omega]
    refine ICalls.mono (gapsP _) ?_
    rintro v _ ⟨rfl, rfl⟩
    try simp [go_sem, -getElem?_pos, -List.map_take, -List.map_drop, List.getElem?_cons_zero, List.getElem?_cons_succ, Go.IntWalk.iteOmega, Go.IntWalk.toNatUp, w2, Sample.val, Sample.cells, ht, hsl, hm, show ¬ (50 : Int) < P.length by omega, show ¬ n % 4 < 0 by omega, show ¬ 3 < n % 4 by omega, show n % 4 ≤ 3 by omega]
    refine IWp.cond ?_
    simp [go_sem, -getElem?_pos, -List.map_take, -List.map_drop, List.getElem?_cons_zero, List.getElem?_cons_succ, Go.IntWalk.iteOmega, Go.IntWalk.toNatUp, w2, Sample.val, Sample.cells, ht, hsl, hm, show ¬ (50 : Int) < P.length by omega, show ¬ n % 4 < 0 by omega, show ¬ 3 < n % 4 by omega, show n % 4 ≤ 3 by omega]
    refine IWp.trim [0, 1] (IWp.skip ?_)
    simp [go_sem, -getElem?_pos, -List.map_take, -List.map_drop, List.getElem?_cons_zero, List.getElem?_cons_succ, Go.IntWalk.iteOmega, Go.IntWalk.toNatUp, w2, Sample.val, Sample.cells, ht, hsl, hm, show ¬ (50 : Int) < P.length by omega, show ¬ n % 4 < 0 by omega, show ¬ 3 < n % 4 by omega, show n % 4 ≤ 3 by omega]
    refine IWp.seq ?_
    refine IWp.run [0, 5] ?_
    simp [go_sem, -getElem?_pos, -List.map_take, -List.map_drop, List.getElem?_cons_zero, List.getElem?_cons_succ, Go.IntWalk.iteOmega, Go.IntWalk.toNatUp, w2, Sample.val, Sample.cells, ht, hsl, hm, show ¬ (50 : Int) < P.length by omega, show ¬ n % 4 < 0 by omega, show ¬ 3 < n % 4 by omega, show n % 4 ≤ 3 by omega]
    refine ICalls.mono (signals _) ?_
    rintro v _ ⟨rfl, rfl⟩
    try simp [go_sem, -getElem?_pos, -List.map_take, -List.map_drop, List.getElem?_cons_zero, List.getElem?_cons_succ, Go.IntWalk.iteOmega, Go.IntWalk.toNatUp, w2, Sample.val, Sample.cells, ht, hsl, hm, show ¬ (50 : Int) < P.length by omega, show ¬ n % 4 < 0 by omega, show ¬ 3 < n % 4 by omega, show n % 4 ≤ 3 by omega]
    refine IWp.seq ?_
    refine IWp.run [0, 5, 6, 7] ?_
    simp [go_sem, -getElem?_pos, -List.map_take, -List.map_drop, List.getElem?_cons_zero, List.getElem?_cons_succ, Go.IntWalk.iteOmega, Go.IntWalk.toNatUp, w2, Sample.val, Sample.cells, ht, hsl, hm, show ¬ (50 : Int) < P.length by omega, show ¬ n % 4 < 0 by omega, show ¬ 3 < n % 4 by omega, show n % 4 ≤ 3 by omega]
    refine ICalls.mono (hA _) ?_
    rintro v _ ⟨rfl, rfl⟩
    try simp [go_sem, -getElem?_pos, -List.map_take, -List.map_drop, List.getElem?_cons_zero, List.getElem?_cons_succ, Go.IntWalk.iteOmega, Go.IntWalk.toNatUp, w2, Sample.val, Sample.cells, ht, hsl, hm, show ¬ (50 : Int) < P.length by omega, show ¬ n % 4 < 0 by omega, show ¬ 3 < n % 4 by omega, show n % 4 ≤ 3 by omega]
    refine IWp.seq ?_
    refine IWp.run [6, 7, 8, 9] ?_
    simp [go_sem, -getElem?_pos, -List.map_take, -List.map_drop, List.getElem?_cons_zero, List.getElem?_cons_succ, Go.IntWalk.iteOmega, Go.IntWalk.toNatUp, w2, Sample.val, Sample.cells, ht, hsl, hm, show ¬ (50 : Int) < P.length by omega, show ¬ n % 4 < 0 by omega, show ¬ 3 < n % 4 by omega, show n % 4 ≤ 3 by omega]
    refine ICalls.mono (hC _) ?_
    rintro v _ ⟨rfl, rfl⟩
    try simp [go_sem, -getElem?_pos, -List.map_take, -List.map_drop, List.getElem?_cons_zero, List.getElem?_cons_succ, Go.IntWalk.iteOmega, Go.IntWalk.toNatUp, w2, Sample.val, Sample.cells, ht, hsl, hm, show ¬ (50 : Int) < P.length by omega, show ¬ n % 4 < 0 by omega, show ¬ 3 < n % 4 by omega, show n % 4 ≤ 3 by omega]
    refine IWp.seq ?_
    refine IWp.run [4] ?_
    simp [go_sem, -getElem?_pos, -List.map_take, -List.map_drop, List.getElem?_cons_zero, List.getElem?_cons_succ, Go.IntWalk.iteOmega, Go.IntWalk.toNatUp, w2, Sample.val, Sample.cells, ht, hsl, hm, show ¬ (50 : Int) < P.length by omega, show ¬ n % 4 < 0 by omega, show ¬ 3 < n % 4 by omega, show n % 4 ≤ 3 by omega]
    refine IWp.ret ?_
    simp [go_sem, -getElem?_pos, -List.map_take, -List.map_drop, List.getElem?_cons_zero, List.getElem?_cons_succ, Go.IntWalk.iteOmega, Go.IntWalk.toNatUp, w2, Sample.val, Sample.cells, ht, hsl, hm, show ¬ (50 : Int) < P.length by omega, show ¬ n % 4 < 0 by omega, show ¬ 3 < n % 4 by omega, show n % 4 ≤ 3 by omega, Try.results8]

theorem be4_i4 (n : Int) (h : -2147483648 ≤ n ∧ n < 2147483648) : be4 (n / 16777216 % 256) (n / 65536 % 256) (n / 256 % 256) (n % 256) = n := by
  unfold be4; split <;> omega

theorem sampleBack_law (H : Heap) (signal seq value : Int) (bad : Bool) (w0 : 0 ≤ signal ∧ signal < 256) (w1 : 0 ≤ seq ∧ seq < 256) (w2 : -2147483648 ≤ value ∧ value < 2147483648) :
    IBody Try.prog 9 [.int .u8 signal, .int .u8 seq, .int .i32 value, .bool bad] H fun v _ => v = .bool true := by
  have ht : signal.tmod 3 = signal % 3 := Int.tmod_eq_emod_of_nonneg (by omega)
  obtain ⟨c, hc⟩ : ∃ c, signal % 3 = c := ⟨_, rfl⟩
  have hc3 : 0 ≤ c ∧ c < 3 := by omega
  rw [hc] at ht
  have w3 := IntWalk.u8_in c (by omega)
  have w4 := IntWalk.i64_in c (by omega)
  have w5 := IntWalk.i64_in value (by omega)
  have hsl : sigs.length = 3 := rfl
  have hS : c.toNat < sigs.length := by rw [hsl]; omega
  have hge : (sigs.map Sig.val)[c.toNat]? = some (sigs[c.toNat].val) := by simp [hS]
  have hbs := sampB_bs ⟨c, seq, value, bad⟩ (by simp only [Sample.wf]; omega)
  have hlen : (sampB ⟨c, seq, value, bad⟩).length = 7 := rfl
  have hA := fun K => sampleRead K 0 0 (sampB ⟨c, seq, value, bad⟩) sigs hbs (by rw [hlen]; decide)
  have hr : readS (sampB ⟨c, seq, value, bad⟩) sigs = (⟨c, seq, value, bad || (decide (value < sigs[c.toNat].lo) || decide (sigs[c.toNat].hi < value))⟩, 0) := by
    have e0 : (sampB ⟨c, seq, value, bad⟩).getD 0 0 = c := by show c % 256 = c; omega
    have e1 : (sampB ⟨c, seq, value, bad⟩).getD 1 0 = seq := rfl
    have e2 : (sampB ⟨c, seq, value, bad⟩).getD 2 0 = if bad then 1 else 0 := rfl
    have e3 : be4 ((sampB ⟨c, seq, value, bad⟩).getD 3 0) ((sampB ⟨c, seq, value, bad⟩).getD 4 0) ((sampB ⟨c, seq, value, bad⟩).getD 5 0) ((sampB ⟨c, seq, value, bad⟩).getD 6 0) = value := be4_i4 value w2
    unfold readS
    rw [if_pos ⟨hlen, by rw [e2]; cases bad <;> decide⟩]
    simp only [e0, e1, e2, e3]
    rw [dif_pos hS]
    cases bad <;> simp
  rw [hr] at hA
  generalize sigs[c.toNat] = sg at hge hA
  obtain ⟨sgs, hsg⟩ : ∃ l, sigs.map Sig.val = l := ⟨_, rfl⟩
  have hW := sampleBytes
  have hG := signals
  have hsl2 : sgs.length = 3 := by rw [← hsg]; rfl
  rw [hsg] at hA hge
  simp only [hsg] at hG
  cases bad with
  | true =>
    refine IBody.of Try.func9 rfl (by rw [Try.ntmps9]; simp) ?_
    rw [Try.ntmps9]
    refine IWp.seq ?_
    refine IWp.run [0, 1, 2, 3] ?_
    simp [go_sem, -getElem?_pos, -List.map_take, -List.map_drop, List.getElem?_cons_zero, List.getElem?_cons_succ, Go.IntWalk.iteOmega, Go.IntWalk.toNatUp, ht, hc, w3, w4, w5, hlen, hsl2, hge, Sample.val, Sample.cells, Sig.val, Sig.cells, show ¬ c < 0 by omega, show c < 3 by omega, show ¬ 3 ≤ c by omega]
    refine IWp.seq ?_
    refine IWp.seq ?_
    refine IWp.run [0, 1, 2, 3, 15] ?_
    simp [go_sem, -getElem?_pos, -List.map_take, -List.map_drop, List.getElem?_cons_zero, List.getElem?_cons_succ, Go.IntWalk.iteOmega, Go.IntWalk.toNatUp, ht, hc, w3, w4, w5, hlen, hsl2, hge, Sample.val, Sample.cells, Sig.val, Sig.cells, show ¬ c < 0 by omega, show c < 3 by omega, show ¬ 3 ≤ c by omega]
    refine ICalls.mono (gapsP _) ?_
    rintro v H ⟨rfl, rfl⟩
    try simp [go_sem, -getElem?_pos, -List.map_take, -List.map_drop, List.getElem?_cons_zero, List.getElem?_cons_succ, Go.IntWalk.iteOmega, Go.IntWalk.toNatUp, ht, hc, w3, w4, w5, hlen, hsl2, hge, Sample.val, Sample.cells, Sig.val, Sig.cells, show ¬ c < 0 by omega, show c < 3 by omega, show ¬ 3 ≤ c by omega]
    refine IWp.cond ?_
    simp [go_sem, -getElem?_pos, -List.map_take, -List.map_drop, List.getElem?_cons_zero, List.getElem?_cons_succ, Go.IntWalk.iteOmega, Go.IntWalk.toNatUp, ht, hc, w3, w4, w5, hlen, hsl2, hge, Sample.val, Sample.cells, Sig.val, Sig.cells, show ¬ c < 0 by omega, show c < 3 by omega, show ¬ 3 ≤ c by omega]
    refine IWp.trim [0, 1, 2, 3] (IWp.skip ?_)
    simp [go_sem, -getElem?_pos, -List.map_take, -List.map_drop, List.getElem?_cons_zero, List.getElem?_cons_succ, Go.IntWalk.iteOmega, Go.IntWalk.toNatUp, ht, hc, w3, w4, w5, hlen, hsl2, hge, Sample.val, Sample.cells, Sig.val, Sig.cells, show ¬ c < 0 by omega, show c < 3 by omega, show ¬ 3 ≤ c by omega]
    refine IWp.seq ?_
    refine IWp.run [3, 9] ?_
    simp [go_sem, -getElem?_pos, -List.map_take, -List.map_drop, List.getElem?_cons_zero, List.getElem?_cons_succ, Go.IntWalk.iteOmega, Go.IntWalk.toNatUp, ht, hc, w3, w4, w5, hlen, hsl2, hge, Sample.val, Sample.cells, Sig.val, Sig.cells, show ¬ c < 0 by omega, show c < 3 by omega, show ¬ 3 ≤ c by omega]
    refine IWp.seq ?_
    refine IWp.run [3, 9, 10] ?_
    simp [go_sem, -getElem?_pos, -List.map_take, -List.map_drop, List.getElem?_cons_zero, List.getElem?_cons_succ, Go.IntWalk.iteOmega, Go.IntWalk.toNatUp, ht, hc, w3, w4, w5, hlen, hsl2, hge, Sample.val, Sample.cells, Sig.val, Sig.cells, show ¬ c < 0 by omega, show c < 3 by omega, show ¬ 3 ≤ c by omega]
    refine ICalls.mono (hW _ ⟨c, seq, value, _⟩) ?_
    rintro v _ ⟨rfl, rfl⟩
    try simp [go_sem, -getElem?_pos, -List.map_take, -List.map_drop, List.getElem?_cons_zero, List.getElem?_cons_succ, Go.IntWalk.iteOmega, Go.IntWalk.toNatUp, ht, hc, w3, w4, w5, hlen, hsl2, hge, Sample.val, Sample.cells, Sig.val, Sig.cells, show ¬ c < 0 by omega, show c < 3 by omega, show ¬ 3 ≤ c by omega]
    refine IWp.seq ?_
    refine IWp.run [3, 9, 10, 11, 12] ?_
    simp [go_sem, -getElem?_pos, -List.map_take, -List.map_drop, List.getElem?_cons_zero, List.getElem?_cons_succ, Go.IntWalk.iteOmega, Go.IntWalk.toNatUp, ht, hc, w3, w4, w5, hlen, hsl2, hge, Sample.val, Sample.cells, Sig.val, Sig.cells, show ¬ c < 0 by omega, show c < 3 by omega, show ¬ 3 ≤ c by omega]
    refine ICalls.mono (hG _) ?_
    rintro v _ ⟨rfl, rfl⟩
    try simp [go_sem, -getElem?_pos, -List.map_take, -List.map_drop, List.getElem?_cons_zero, List.getElem?_cons_succ, Go.IntWalk.iteOmega, Go.IntWalk.toNatUp, ht, hc, w3, w4, w5, hlen, hsl2, hge, Sample.val, Sample.cells, Sig.val, Sig.cells, show ¬ c < 0 by omega, show c < 3 by omega, show ¬ 3 ≤ c by omega]
    refine ICalls.mono (hA _) ?_
    rintro v _ ⟨rfl, rfl⟩
    try simp [go_sem, -getElem?_pos, -List.map_take, -List.map_drop, List.getElem?_cons_zero, List.getElem?_cons_succ, Go.IntWalk.iteOmega, Go.IntWalk.toNatUp, ht, hc, w3, w4, w5, hlen, hsl2, hge, Sample.val, Sample.cells, Sig.val, Sig.cells, show ¬ c < 0 by omega, show c < 3 by omega, show ¬ 3 ≤ c by omega]
    refine IWp.seq ?_
    refine IWp.draw [3, 9, 10, 11, 12, 13] [H.next] (.val 1 (.val 2 (.eff 0 (.val 3 (.val 4 (.eff 5 (.eff 6 .done .done) .done))) (.eff 5 (.eff 0 (.val 3 (.ld 4 [6] (.eff 6 .done .done))) .done) .done)))) follows (by kernel_rfl) ?_
    simp [go_sem, -getElem?_pos, -List.map_take, -List.map_drop, List.getElem?_cons_zero, List.getElem?_cons_succ, Go.IntWalk.iteOmega, Go.IntWalk.toNatUp, ht, hc, w3, w4, w5, hlen, hsl2, hge, Sample.val, Sample.cells, Sig.val, Sig.cells, show ¬ c < 0 by omega, show c < 3 by omega, show ¬ 3 ≤ c by omega]
    -- 2 ORDERS
    -- CALLS LEFT ['!']
    refine ⟨?_, ?_⟩
    · skip
      refine ICalls.mono (hG _) ?_
      rintro v _ ⟨rfl, rfl⟩
      simp [go_sem, -getElem?_pos, -List.map_take, -List.map_drop, List.getElem?_cons_zero, List.getElem?_cons_succ, Go.IntWalk.iteOmega, Go.IntWalk.toNatUp, ht, hc, w3, w4, w5, hlen, hsl2, hge, Sample.val, Sample.cells, Sig.val, Sig.cells, show ¬ c < 0 by omega, show c < 3 by omega, show ¬ 3 ≤ c by omega]
      refine IWp.seq ?_
      refine IWp.run [9, 10, 11, 12] ?_
      simp [go_sem, -getElem?_pos, -List.map_take, -List.map_drop, List.getElem?_cons_zero, List.getElem?_cons_succ, Go.IntWalk.iteOmega, Go.IntWalk.toNatUp, ht, hc, w3, w4, w5, hlen, hsl2, hge, Sample.val, Sample.cells, Sig.val, Sig.cells, show ¬ c < 0 by omega, show c < 3 by omega, show ¬ 3 ≤ c by omega]
      refine IWp.seq ?_
      refine IWp.run [8] ?_
      simp [go_sem, -getElem?_pos, -List.map_take, -List.map_drop, List.getElem?_cons_zero, List.getElem?_cons_succ, Go.IntWalk.iteOmega, Go.IntWalk.toNatUp, ht, hc, w3, w4, w5, hlen, hsl2, hge, Sample.val, Sample.cells, Sig.val, Sig.cells, show ¬ c < 0 by omega, show c < 3 by omega, show ¬ 3 ≤ c by omega]
      refine IWp.ret ?_
      simp [go_sem, -getElem?_pos, -List.map_take, -List.map_drop, List.getElem?_cons_zero, List.getElem?_cons_succ, Go.IntWalk.iteOmega, Go.IntWalk.toNatUp, ht, hc, w3, w4, w5, hlen, hsl2, hge, Sample.val, Sample.cells, Sig.val, Sig.cells, show ¬ c < 0 by omega, show c < 3 by omega, show ¬ 3 ≤ c by omega, Try.results9]
    · skip
      refine ICalls.mono (hG _) ?_
      rintro v _ ⟨rfl, rfl⟩
      simp [go_sem, -getElem?_pos, -List.map_take, -List.map_drop, List.getElem?_cons_zero, List.getElem?_cons_succ, Go.IntWalk.iteOmega, Go.IntWalk.toNatUp, ht, hc, w3, w4, w5, hlen, hsl2, hge, Sample.val, Sample.cells, Sig.val, Sig.cells, show ¬ c < 0 by omega, show c < 3 by omega, show ¬ 3 ≤ c by omega]
      refine IWp.seq ?_
      refine IWp.run [9, 10, 11, 12] ?_
      simp [go_sem, -getElem?_pos, -List.map_take, -List.map_drop, List.getElem?_cons_zero, List.getElem?_cons_succ, Go.IntWalk.iteOmega, Go.IntWalk.toNatUp, ht, hc, w3, w4, w5, hlen, hsl2, hge, Sample.val, Sample.cells, Sig.val, Sig.cells, show ¬ c < 0 by omega, show c < 3 by omega, show ¬ 3 ≤ c by omega]
      refine IWp.seq ?_
      refine IWp.run [8] ?_
      simp [go_sem, -getElem?_pos, -List.map_take, -List.map_drop, List.getElem?_cons_zero, List.getElem?_cons_succ, Go.IntWalk.iteOmega, Go.IntWalk.toNatUp, ht, hc, w3, w4, w5, hlen, hsl2, hge, Sample.val, Sample.cells, Sig.val, Sig.cells, show ¬ c < 0 by omega, show c < 3 by omega, show ¬ 3 ≤ c by omega]
      refine IWp.ret ?_
      simp [go_sem, -getElem?_pos, -List.map_take, -List.map_drop, List.getElem?_cons_zero, List.getElem?_cons_succ, Go.IntWalk.iteOmega, Go.IntWalk.toNatUp, ht, hc, w3, w4, w5, hlen, hsl2, hge, Sample.val, Sample.cells, Sig.val, Sig.cells, show ¬ c < 0 by omega, show c < 3 by omega, show ¬ 3 ≤ c by omega, Try.results9]
  | false =>
    by_cases hlo : value < sg.lo
    · skip
      refine IBody.of Try.func9 rfl (by rw [Try.ntmps9]; simp) ?_
      rw [Try.ntmps9]
      refine IWp.seq ?_
      refine IWp.run [0, 1, 2, 3] ?_
      simp [go_sem, -getElem?_pos, -List.map_take, -List.map_drop, List.getElem?_cons_zero, List.getElem?_cons_succ, Go.IntWalk.iteOmega, Go.IntWalk.toNatUp, ht, hc, w3, w4, w5, hlen, hsl2, hge, Sample.val, Sample.cells, Sig.val, Sig.cells, show ¬ c < 0 by omega, show c < 3 by omega, show ¬ 3 ≤ c by omega, hlo, show ¬ sg.lo ≤ value by omega]
      refine IWp.seq ?_
      refine IWp.seq ?_
      refine IWp.run [0, 1, 2, 3, 15] ?_
      simp [go_sem, -getElem?_pos, -List.map_take, -List.map_drop, List.getElem?_cons_zero, List.getElem?_cons_succ, Go.IntWalk.iteOmega, Go.IntWalk.toNatUp, ht, hc, w3, w4, w5, hlen, hsl2, hge, Sample.val, Sample.cells, Sig.val, Sig.cells, show ¬ c < 0 by omega, show c < 3 by omega, show ¬ 3 ≤ c by omega, hlo, show ¬ sg.lo ≤ value by omega]
      refine ICalls.mono (gapsP _) ?_
      rintro v H ⟨rfl, rfl⟩
      try simp [go_sem, -getElem?_pos, -List.map_take, -List.map_drop, List.getElem?_cons_zero, List.getElem?_cons_succ, Go.IntWalk.iteOmega, Go.IntWalk.toNatUp, ht, hc, w3, w4, w5, hlen, hsl2, hge, Sample.val, Sample.cells, Sig.val, Sig.cells, show ¬ c < 0 by omega, show c < 3 by omega, show ¬ 3 ≤ c by omega, hlo, show ¬ sg.lo ≤ value by omega]
      refine IWp.cond ?_
      simp [go_sem, -getElem?_pos, -List.map_take, -List.map_drop, List.getElem?_cons_zero, List.getElem?_cons_succ, Go.IntWalk.iteOmega, Go.IntWalk.toNatUp, ht, hc, w3, w4, w5, hlen, hsl2, hge, Sample.val, Sample.cells, Sig.val, Sig.cells, show ¬ c < 0 by omega, show c < 3 by omega, show ¬ 3 ≤ c by omega, hlo, show ¬ sg.lo ≤ value by omega]
      refine IWp.trim [0, 1, 2, 3] (IWp.skip ?_)
      simp [go_sem, -getElem?_pos, -List.map_take, -List.map_drop, List.getElem?_cons_zero, List.getElem?_cons_succ, Go.IntWalk.iteOmega, Go.IntWalk.toNatUp, ht, hc, w3, w4, w5, hlen, hsl2, hge, Sample.val, Sample.cells, Sig.val, Sig.cells, show ¬ c < 0 by omega, show c < 3 by omega, show ¬ 3 ≤ c by omega, hlo, show ¬ sg.lo ≤ value by omega]
      refine IWp.seq ?_
      refine IWp.run [3, 9] ?_
      simp [go_sem, -getElem?_pos, -List.map_take, -List.map_drop, List.getElem?_cons_zero, List.getElem?_cons_succ, Go.IntWalk.iteOmega, Go.IntWalk.toNatUp, ht, hc, w3, w4, w5, hlen, hsl2, hge, Sample.val, Sample.cells, Sig.val, Sig.cells, show ¬ c < 0 by omega, show c < 3 by omega, show ¬ 3 ≤ c by omega, hlo, show ¬ sg.lo ≤ value by omega]
      refine IWp.seq ?_
      refine IWp.run [3, 9, 10] ?_
      simp [go_sem, -getElem?_pos, -List.map_take, -List.map_drop, List.getElem?_cons_zero, List.getElem?_cons_succ, Go.IntWalk.iteOmega, Go.IntWalk.toNatUp, ht, hc, w3, w4, w5, hlen, hsl2, hge, Sample.val, Sample.cells, Sig.val, Sig.cells, show ¬ c < 0 by omega, show c < 3 by omega, show ¬ 3 ≤ c by omega, hlo, show ¬ sg.lo ≤ value by omega]
      refine ICalls.mono (hW _ ⟨c, seq, value, _⟩) ?_
      rintro v _ ⟨rfl, rfl⟩
      try simp [go_sem, -getElem?_pos, -List.map_take, -List.map_drop, List.getElem?_cons_zero, List.getElem?_cons_succ, Go.IntWalk.iteOmega, Go.IntWalk.toNatUp, ht, hc, w3, w4, w5, hlen, hsl2, hge, Sample.val, Sample.cells, Sig.val, Sig.cells, show ¬ c < 0 by omega, show c < 3 by omega, show ¬ 3 ≤ c by omega, hlo, show ¬ sg.lo ≤ value by omega]
      refine IWp.seq ?_
      refine IWp.run [3, 9, 10, 11, 12] ?_
      simp [go_sem, -getElem?_pos, -List.map_take, -List.map_drop, List.getElem?_cons_zero, List.getElem?_cons_succ, Go.IntWalk.iteOmega, Go.IntWalk.toNatUp, ht, hc, w3, w4, w5, hlen, hsl2, hge, Sample.val, Sample.cells, Sig.val, Sig.cells, show ¬ c < 0 by omega, show c < 3 by omega, show ¬ 3 ≤ c by omega, hlo, show ¬ sg.lo ≤ value by omega]
      refine ICalls.mono (hG _) ?_
      rintro v _ ⟨rfl, rfl⟩
      try simp [go_sem, -getElem?_pos, -List.map_take, -List.map_drop, List.getElem?_cons_zero, List.getElem?_cons_succ, Go.IntWalk.iteOmega, Go.IntWalk.toNatUp, ht, hc, w3, w4, w5, hlen, hsl2, hge, Sample.val, Sample.cells, Sig.val, Sig.cells, show ¬ c < 0 by omega, show c < 3 by omega, show ¬ 3 ≤ c by omega, hlo, show ¬ sg.lo ≤ value by omega]
      refine ICalls.mono (hA _) ?_
      rintro v _ ⟨rfl, rfl⟩
      try simp [go_sem, -getElem?_pos, -List.map_take, -List.map_drop, List.getElem?_cons_zero, List.getElem?_cons_succ, Go.IntWalk.iteOmega, Go.IntWalk.toNatUp, ht, hc, w3, w4, w5, hlen, hsl2, hge, Sample.val, Sample.cells, Sig.val, Sig.cells, show ¬ c < 0 by omega, show c < 3 by omega, show ¬ 3 ≤ c by omega, hlo, show ¬ sg.lo ≤ value by omega]
      refine IWp.seq ?_
      refine IWp.draw [3, 9, 10, 11, 12, 13] [H.next] (.val 1 (.val 2 (.eff 0 (.val 3 (.val 4 (.eff 5 (.eff 6 .done .done) .done))) (.eff 5 (.eff 0 (.val 3 (.ld 4 [6] (.eff 6 .done .done))) .done) .done)))) follows (by kernel_rfl) ?_
      simp [go_sem, -getElem?_pos, -List.map_take, -List.map_drop, List.getElem?_cons_zero, List.getElem?_cons_succ, Go.IntWalk.iteOmega, Go.IntWalk.toNatUp, ht, hc, w3, w4, w5, hlen, hsl2, hge, Sample.val, Sample.cells, Sig.val, Sig.cells, show ¬ c < 0 by omega, show c < 3 by omega, show ¬ 3 ≤ c by omega, hlo, show ¬ sg.lo ≤ value by omega]
      -- 2 ORDERS
      -- CALLS LEFT ['!']
      refine ⟨?_, ?_⟩
      · skip
        refine ICalls.mono (hG _) ?_
        rintro v _ ⟨rfl, rfl⟩
        simp [go_sem, -getElem?_pos, -List.map_take, -List.map_drop, List.getElem?_cons_zero, List.getElem?_cons_succ, Go.IntWalk.iteOmega, Go.IntWalk.toNatUp, ht, hc, w3, w4, w5, hlen, hsl2, hge, Sample.val, Sample.cells, Sig.val, Sig.cells, show ¬ c < 0 by omega, show c < 3 by omega, show ¬ 3 ≤ c by omega, hlo, show ¬ sg.lo ≤ value by omega]
        refine IWp.seq ?_
        refine IWp.run [9, 10, 11, 12] ?_
        simp [go_sem, -getElem?_pos, -List.map_take, -List.map_drop, List.getElem?_cons_zero, List.getElem?_cons_succ, Go.IntWalk.iteOmega, Go.IntWalk.toNatUp, ht, hc, w3, w4, w5, hlen, hsl2, hge, Sample.val, Sample.cells, Sig.val, Sig.cells, show ¬ c < 0 by omega, show c < 3 by omega, show ¬ 3 ≤ c by omega, hlo, show ¬ sg.lo ≤ value by omega]
        refine IWp.seq ?_
        refine IWp.run [8] ?_
        simp [go_sem, -getElem?_pos, -List.map_take, -List.map_drop, List.getElem?_cons_zero, List.getElem?_cons_succ, Go.IntWalk.iteOmega, Go.IntWalk.toNatUp, ht, hc, w3, w4, w5, hlen, hsl2, hge, Sample.val, Sample.cells, Sig.val, Sig.cells, show ¬ c < 0 by omega, show c < 3 by omega, show ¬ 3 ≤ c by omega, hlo, show ¬ sg.lo ≤ value by omega]
        refine IWp.ret ?_
        simp [go_sem, -getElem?_pos, -List.map_take, -List.map_drop, List.getElem?_cons_zero, List.getElem?_cons_succ, Go.IntWalk.iteOmega, Go.IntWalk.toNatUp, ht, hc, w3, w4, w5, hlen, hsl2, hge, Sample.val, Sample.cells, Sig.val, Sig.cells, show ¬ c < 0 by omega, show c < 3 by omega, show ¬ 3 ≤ c by omega, hlo, show ¬ sg.lo ≤ value by omega, Try.results9]
      · skip
        refine ICalls.mono (hG _) ?_
        rintro v _ ⟨rfl, rfl⟩
        simp [go_sem, -getElem?_pos, -List.map_take, -List.map_drop, List.getElem?_cons_zero, List.getElem?_cons_succ, Go.IntWalk.iteOmega, Go.IntWalk.toNatUp, ht, hc, w3, w4, w5, hlen, hsl2, hge, Sample.val, Sample.cells, Sig.val, Sig.cells, show ¬ c < 0 by omega, show c < 3 by omega, show ¬ 3 ≤ c by omega, hlo, show ¬ sg.lo ≤ value by omega]
        refine IWp.seq ?_
        refine IWp.run [9, 10, 11, 12] ?_
        simp [go_sem, -getElem?_pos, -List.map_take, -List.map_drop, List.getElem?_cons_zero, List.getElem?_cons_succ, Go.IntWalk.iteOmega, Go.IntWalk.toNatUp, ht, hc, w3, w4, w5, hlen, hsl2, hge, Sample.val, Sample.cells, Sig.val, Sig.cells, show ¬ c < 0 by omega, show c < 3 by omega, show ¬ 3 ≤ c by omega, hlo, show ¬ sg.lo ≤ value by omega]
        refine IWp.seq ?_
        refine IWp.run [8] ?_
        simp [go_sem, -getElem?_pos, -List.map_take, -List.map_drop, List.getElem?_cons_zero, List.getElem?_cons_succ, Go.IntWalk.iteOmega, Go.IntWalk.toNatUp, ht, hc, w3, w4, w5, hlen, hsl2, hge, Sample.val, Sample.cells, Sig.val, Sig.cells, show ¬ c < 0 by omega, show c < 3 by omega, show ¬ 3 ≤ c by omega, hlo, show ¬ sg.lo ≤ value by omega]
        refine IWp.ret ?_
        simp [go_sem, -getElem?_pos, -List.map_take, -List.map_drop, List.getElem?_cons_zero, List.getElem?_cons_succ, Go.IntWalk.iteOmega, Go.IntWalk.toNatUp, ht, hc, w3, w4, w5, hlen, hsl2, hge, Sample.val, Sample.cells, Sig.val, Sig.cells, show ¬ c < 0 by omega, show c < 3 by omega, show ¬ 3 ≤ c by omega, hlo, show ¬ sg.lo ≤ value by omega, Try.results9]
    · by_cases hhi : sg.hi < value
      · skip
        refine IBody.of Try.func9 rfl (by rw [Try.ntmps9]; simp) ?_
        rw [Try.ntmps9]
        refine IWp.seq ?_
        refine IWp.run [0, 1, 2, 3] ?_
        simp [go_sem, -getElem?_pos, -List.map_take, -List.map_drop, List.getElem?_cons_zero, List.getElem?_cons_succ, Go.IntWalk.iteOmega, Go.IntWalk.toNatUp, ht, hc, w3, w4, w5, hlen, hsl2, hge, Sample.val, Sample.cells, Sig.val, Sig.cells, show ¬ c < 0 by omega, show c < 3 by omega, show ¬ 3 ≤ c by omega, hlo, hhi, show sg.lo ≤ value by omega]
        refine IWp.seq ?_
        refine IWp.seq ?_
        refine IWp.run [0, 1, 2, 3, 15] ?_
        simp [go_sem, -getElem?_pos, -List.map_take, -List.map_drop, List.getElem?_cons_zero, List.getElem?_cons_succ, Go.IntWalk.iteOmega, Go.IntWalk.toNatUp, ht, hc, w3, w4, w5, hlen, hsl2, hge, Sample.val, Sample.cells, Sig.val, Sig.cells, show ¬ c < 0 by omega, show c < 3 by omega, show ¬ 3 ≤ c by omega, hlo, hhi, show sg.lo ≤ value by omega]
        refine ICalls.mono (gapsP _) ?_
        rintro v H ⟨rfl, rfl⟩
        try simp [go_sem, -getElem?_pos, -List.map_take, -List.map_drop, List.getElem?_cons_zero, List.getElem?_cons_succ, Go.IntWalk.iteOmega, Go.IntWalk.toNatUp, ht, hc, w3, w4, w5, hlen, hsl2, hge, Sample.val, Sample.cells, Sig.val, Sig.cells, show ¬ c < 0 by omega, show c < 3 by omega, show ¬ 3 ≤ c by omega, hlo, hhi, show sg.lo ≤ value by omega]
        refine IWp.cond ?_
        simp [go_sem, -getElem?_pos, -List.map_take, -List.map_drop, List.getElem?_cons_zero, List.getElem?_cons_succ, Go.IntWalk.iteOmega, Go.IntWalk.toNatUp, ht, hc, w3, w4, w5, hlen, hsl2, hge, Sample.val, Sample.cells, Sig.val, Sig.cells, show ¬ c < 0 by omega, show c < 3 by omega, show ¬ 3 ≤ c by omega, hlo, hhi, show sg.lo ≤ value by omega]
        refine IWp.trim [0, 1, 2, 3] (IWp.skip ?_)
        simp [go_sem, -getElem?_pos, -List.map_take, -List.map_drop, List.getElem?_cons_zero, List.getElem?_cons_succ, Go.IntWalk.iteOmega, Go.IntWalk.toNatUp, ht, hc, w3, w4, w5, hlen, hsl2, hge, Sample.val, Sample.cells, Sig.val, Sig.cells, show ¬ c < 0 by omega, show c < 3 by omega, show ¬ 3 ≤ c by omega, hlo, hhi, show sg.lo ≤ value by omega]
        refine IWp.seq ?_
        refine IWp.run [3, 9] ?_
        simp [go_sem, -getElem?_pos, -List.map_take, -List.map_drop, List.getElem?_cons_zero, List.getElem?_cons_succ, Go.IntWalk.iteOmega, Go.IntWalk.toNatUp, ht, hc, w3, w4, w5, hlen, hsl2, hge, Sample.val, Sample.cells, Sig.val, Sig.cells, show ¬ c < 0 by omega, show c < 3 by omega, show ¬ 3 ≤ c by omega, hlo, hhi, show sg.lo ≤ value by omega]
        refine IWp.seq ?_
        refine IWp.run [3, 9, 10] ?_
        simp [go_sem, -getElem?_pos, -List.map_take, -List.map_drop, List.getElem?_cons_zero, List.getElem?_cons_succ, Go.IntWalk.iteOmega, Go.IntWalk.toNatUp, ht, hc, w3, w4, w5, hlen, hsl2, hge, Sample.val, Sample.cells, Sig.val, Sig.cells, show ¬ c < 0 by omega, show c < 3 by omega, show ¬ 3 ≤ c by omega, hlo, hhi, show sg.lo ≤ value by omega]
        refine ICalls.mono (hW _ ⟨c, seq, value, _⟩) ?_
        rintro v _ ⟨rfl, rfl⟩
        try simp [go_sem, -getElem?_pos, -List.map_take, -List.map_drop, List.getElem?_cons_zero, List.getElem?_cons_succ, Go.IntWalk.iteOmega, Go.IntWalk.toNatUp, ht, hc, w3, w4, w5, hlen, hsl2, hge, Sample.val, Sample.cells, Sig.val, Sig.cells, show ¬ c < 0 by omega, show c < 3 by omega, show ¬ 3 ≤ c by omega, hlo, hhi, show sg.lo ≤ value by omega]
        refine IWp.seq ?_
        refine IWp.run [3, 9, 10, 11, 12] ?_
        simp [go_sem, -getElem?_pos, -List.map_take, -List.map_drop, List.getElem?_cons_zero, List.getElem?_cons_succ, Go.IntWalk.iteOmega, Go.IntWalk.toNatUp, ht, hc, w3, w4, w5, hlen, hsl2, hge, Sample.val, Sample.cells, Sig.val, Sig.cells, show ¬ c < 0 by omega, show c < 3 by omega, show ¬ 3 ≤ c by omega, hlo, hhi, show sg.lo ≤ value by omega]
        refine ICalls.mono (hG _) ?_
        rintro v _ ⟨rfl, rfl⟩
        try simp [go_sem, -getElem?_pos, -List.map_take, -List.map_drop, List.getElem?_cons_zero, List.getElem?_cons_succ, Go.IntWalk.iteOmega, Go.IntWalk.toNatUp, ht, hc, w3, w4, w5, hlen, hsl2, hge, Sample.val, Sample.cells, Sig.val, Sig.cells, show ¬ c < 0 by omega, show c < 3 by omega, show ¬ 3 ≤ c by omega, hlo, hhi, show sg.lo ≤ value by omega]
        refine ICalls.mono (hA _) ?_
        rintro v _ ⟨rfl, rfl⟩
        try simp [go_sem, -getElem?_pos, -List.map_take, -List.map_drop, List.getElem?_cons_zero, List.getElem?_cons_succ, Go.IntWalk.iteOmega, Go.IntWalk.toNatUp, ht, hc, w3, w4, w5, hlen, hsl2, hge, Sample.val, Sample.cells, Sig.val, Sig.cells, show ¬ c < 0 by omega, show c < 3 by omega, show ¬ 3 ≤ c by omega, hlo, hhi, show sg.lo ≤ value by omega]
        refine IWp.seq ?_
        refine IWp.draw [3, 9, 10, 11, 12, 13] [H.next] (.val 1 (.val 2 (.eff 0 (.val 3 (.val 4 (.eff 5 (.eff 6 .done .done) .done))) (.eff 5 (.eff 0 (.val 3 (.ld 4 [6] (.eff 6 .done .done))) .done) .done)))) follows (by kernel_rfl) ?_
        simp [go_sem, -getElem?_pos, -List.map_take, -List.map_drop, List.getElem?_cons_zero, List.getElem?_cons_succ, Go.IntWalk.iteOmega, Go.IntWalk.toNatUp, ht, hc, w3, w4, w5, hlen, hsl2, hge, Sample.val, Sample.cells, Sig.val, Sig.cells, show ¬ c < 0 by omega, show c < 3 by omega, show ¬ 3 ≤ c by omega, hlo, hhi, show sg.lo ≤ value by omega]
        -- 2 ORDERS
        -- CALLS LEFT ['!']
        refine ⟨?_, ?_⟩
        · skip
          refine ICalls.mono (hG _) ?_
          rintro v _ ⟨rfl, rfl⟩
          simp [go_sem, -getElem?_pos, -List.map_take, -List.map_drop, List.getElem?_cons_zero, List.getElem?_cons_succ, Go.IntWalk.iteOmega, Go.IntWalk.toNatUp, ht, hc, w3, w4, w5, hlen, hsl2, hge, Sample.val, Sample.cells, Sig.val, Sig.cells, show ¬ c < 0 by omega, show c < 3 by omega, show ¬ 3 ≤ c by omega, hlo, hhi, show sg.lo ≤ value by omega]
          refine IWp.seq ?_
          refine IWp.run [9, 10, 11, 12] ?_
          simp [go_sem, -getElem?_pos, -List.map_take, -List.map_drop, List.getElem?_cons_zero, List.getElem?_cons_succ, Go.IntWalk.iteOmega, Go.IntWalk.toNatUp, ht, hc, w3, w4, w5, hlen, hsl2, hge, Sample.val, Sample.cells, Sig.val, Sig.cells, show ¬ c < 0 by omega, show c < 3 by omega, show ¬ 3 ≤ c by omega, hlo, hhi, show sg.lo ≤ value by omega]
          refine IWp.seq ?_
          refine IWp.run [8] ?_
          simp [go_sem, -getElem?_pos, -List.map_take, -List.map_drop, List.getElem?_cons_zero, List.getElem?_cons_succ, Go.IntWalk.iteOmega, Go.IntWalk.toNatUp, ht, hc, w3, w4, w5, hlen, hsl2, hge, Sample.val, Sample.cells, Sig.val, Sig.cells, show ¬ c < 0 by omega, show c < 3 by omega, show ¬ 3 ≤ c by omega, hlo, hhi, show sg.lo ≤ value by omega]
          refine IWp.ret ?_
          simp [go_sem, -getElem?_pos, -List.map_take, -List.map_drop, List.getElem?_cons_zero, List.getElem?_cons_succ, Go.IntWalk.iteOmega, Go.IntWalk.toNatUp, ht, hc, w3, w4, w5, hlen, hsl2, hge, Sample.val, Sample.cells, Sig.val, Sig.cells, show ¬ c < 0 by omega, show c < 3 by omega, show ¬ 3 ≤ c by omega, hlo, hhi, show sg.lo ≤ value by omega, Try.results9]
        · skip
          refine ICalls.mono (hG _) ?_
          rintro v _ ⟨rfl, rfl⟩
          simp [go_sem, -getElem?_pos, -List.map_take, -List.map_drop, List.getElem?_cons_zero, List.getElem?_cons_succ, Go.IntWalk.iteOmega, Go.IntWalk.toNatUp, ht, hc, w3, w4, w5, hlen, hsl2, hge, Sample.val, Sample.cells, Sig.val, Sig.cells, show ¬ c < 0 by omega, show c < 3 by omega, show ¬ 3 ≤ c by omega, hlo, hhi, show sg.lo ≤ value by omega]
          refine IWp.seq ?_
          refine IWp.run [9, 10, 11, 12] ?_
          simp [go_sem, -getElem?_pos, -List.map_take, -List.map_drop, List.getElem?_cons_zero, List.getElem?_cons_succ, Go.IntWalk.iteOmega, Go.IntWalk.toNatUp, ht, hc, w3, w4, w5, hlen, hsl2, hge, Sample.val, Sample.cells, Sig.val, Sig.cells, show ¬ c < 0 by omega, show c < 3 by omega, show ¬ 3 ≤ c by omega, hlo, hhi, show sg.lo ≤ value by omega]
          refine IWp.seq ?_
          refine IWp.run [8] ?_
          simp [go_sem, -getElem?_pos, -List.map_take, -List.map_drop, List.getElem?_cons_zero, List.getElem?_cons_succ, Go.IntWalk.iteOmega, Go.IntWalk.toNatUp, ht, hc, w3, w4, w5, hlen, hsl2, hge, Sample.val, Sample.cells, Sig.val, Sig.cells, show ¬ c < 0 by omega, show c < 3 by omega, show ¬ 3 ≤ c by omega, hlo, hhi, show sg.lo ≤ value by omega]
          refine IWp.ret ?_
          simp [go_sem, -getElem?_pos, -List.map_take, -List.map_drop, List.getElem?_cons_zero, List.getElem?_cons_succ, Go.IntWalk.iteOmega, Go.IntWalk.toNatUp, ht, hc, w3, w4, w5, hlen, hsl2, hge, Sample.val, Sample.cells, Sig.val, Sig.cells, show ¬ c < 0 by omega, show c < 3 by omega, show ¬ 3 ≤ c by omega, hlo, hhi, show sg.lo ≤ value by omega, Try.results9]
      · skip
        refine IBody.of Try.func9 rfl (by rw [Try.ntmps9]; simp) ?_
        rw [Try.ntmps9]
        refine IWp.seq ?_
        refine IWp.run [0, 1, 2, 3] ?_
        simp [go_sem, -getElem?_pos, -List.map_take, -List.map_drop, List.getElem?_cons_zero, List.getElem?_cons_succ, Go.IntWalk.iteOmega, Go.IntWalk.toNatUp, ht, hc, w3, w4, w5, hlen, hsl2, hge, Sample.val, Sample.cells, Sig.val, Sig.cells, show ¬ c < 0 by omega, show c < 3 by omega, show ¬ 3 ≤ c by omega, hlo, hhi, show sg.lo ≤ value by omega]
        refine IWp.seq ?_
        refine IWp.seq ?_
        refine IWp.run [0, 1, 2, 3, 15] ?_
        simp [go_sem, -getElem?_pos, -List.map_take, -List.map_drop, List.getElem?_cons_zero, List.getElem?_cons_succ, Go.IntWalk.iteOmega, Go.IntWalk.toNatUp, ht, hc, w3, w4, w5, hlen, hsl2, hge, Sample.val, Sample.cells, Sig.val, Sig.cells, show ¬ c < 0 by omega, show c < 3 by omega, show ¬ 3 ≤ c by omega, hlo, hhi, show sg.lo ≤ value by omega]
        refine ICalls.mono (gapsP _) ?_
        rintro v H ⟨rfl, rfl⟩
        try simp [go_sem, -getElem?_pos, -List.map_take, -List.map_drop, List.getElem?_cons_zero, List.getElem?_cons_succ, Go.IntWalk.iteOmega, Go.IntWalk.toNatUp, ht, hc, w3, w4, w5, hlen, hsl2, hge, Sample.val, Sample.cells, Sig.val, Sig.cells, show ¬ c < 0 by omega, show c < 3 by omega, show ¬ 3 ≤ c by omega, hlo, hhi, show sg.lo ≤ value by omega]
        refine IWp.cond ?_
        simp [go_sem, -getElem?_pos, -List.map_take, -List.map_drop, List.getElem?_cons_zero, List.getElem?_cons_succ, Go.IntWalk.iteOmega, Go.IntWalk.toNatUp, ht, hc, w3, w4, w5, hlen, hsl2, hge, Sample.val, Sample.cells, Sig.val, Sig.cells, show ¬ c < 0 by omega, show c < 3 by omega, show ¬ 3 ≤ c by omega, hlo, hhi, show sg.lo ≤ value by omega]
        refine IWp.trim [0, 1, 2, 3] (IWp.skip ?_)
        simp [go_sem, -getElem?_pos, -List.map_take, -List.map_drop, List.getElem?_cons_zero, List.getElem?_cons_succ, Go.IntWalk.iteOmega, Go.IntWalk.toNatUp, ht, hc, w3, w4, w5, hlen, hsl2, hge, Sample.val, Sample.cells, Sig.val, Sig.cells, show ¬ c < 0 by omega, show c < 3 by omega, show ¬ 3 ≤ c by omega, hlo, hhi, show sg.lo ≤ value by omega]
        refine IWp.seq ?_
        refine IWp.run [3, 9] ?_
        simp [go_sem, -getElem?_pos, -List.map_take, -List.map_drop, List.getElem?_cons_zero, List.getElem?_cons_succ, Go.IntWalk.iteOmega, Go.IntWalk.toNatUp, ht, hc, w3, w4, w5, hlen, hsl2, hge, Sample.val, Sample.cells, Sig.val, Sig.cells, show ¬ c < 0 by omega, show c < 3 by omega, show ¬ 3 ≤ c by omega, hlo, hhi, show sg.lo ≤ value by omega]
        refine IWp.seq ?_
        refine IWp.run [3, 9, 10] ?_
        simp [go_sem, -getElem?_pos, -List.map_take, -List.map_drop, List.getElem?_cons_zero, List.getElem?_cons_succ, Go.IntWalk.iteOmega, Go.IntWalk.toNatUp, ht, hc, w3, w4, w5, hlen, hsl2, hge, Sample.val, Sample.cells, Sig.val, Sig.cells, show ¬ c < 0 by omega, show c < 3 by omega, show ¬ 3 ≤ c by omega, hlo, hhi, show sg.lo ≤ value by omega]
        refine ICalls.mono (hW _ ⟨c, seq, value, _⟩) ?_
        rintro v _ ⟨rfl, rfl⟩
        try simp [go_sem, -getElem?_pos, -List.map_take, -List.map_drop, List.getElem?_cons_zero, List.getElem?_cons_succ, Go.IntWalk.iteOmega, Go.IntWalk.toNatUp, ht, hc, w3, w4, w5, hlen, hsl2, hge, Sample.val, Sample.cells, Sig.val, Sig.cells, show ¬ c < 0 by omega, show c < 3 by omega, show ¬ 3 ≤ c by omega, hlo, hhi, show sg.lo ≤ value by omega]
        refine IWp.seq ?_
        refine IWp.run [3, 9, 10, 11, 12] ?_
        simp [go_sem, -getElem?_pos, -List.map_take, -List.map_drop, List.getElem?_cons_zero, List.getElem?_cons_succ, Go.IntWalk.iteOmega, Go.IntWalk.toNatUp, ht, hc, w3, w4, w5, hlen, hsl2, hge, Sample.val, Sample.cells, Sig.val, Sig.cells, show ¬ c < 0 by omega, show c < 3 by omega, show ¬ 3 ≤ c by omega, hlo, hhi, show sg.lo ≤ value by omega]
        refine ICalls.mono (hG _) ?_
        rintro v _ ⟨rfl, rfl⟩
        try simp [go_sem, -getElem?_pos, -List.map_take, -List.map_drop, List.getElem?_cons_zero, List.getElem?_cons_succ, Go.IntWalk.iteOmega, Go.IntWalk.toNatUp, ht, hc, w3, w4, w5, hlen, hsl2, hge, Sample.val, Sample.cells, Sig.val, Sig.cells, show ¬ c < 0 by omega, show c < 3 by omega, show ¬ 3 ≤ c by omega, hlo, hhi, show sg.lo ≤ value by omega]
        refine ICalls.mono (hA _) ?_
        rintro v _ ⟨rfl, rfl⟩
        try simp [go_sem, -getElem?_pos, -List.map_take, -List.map_drop, List.getElem?_cons_zero, List.getElem?_cons_succ, Go.IntWalk.iteOmega, Go.IntWalk.toNatUp, ht, hc, w3, w4, w5, hlen, hsl2, hge, Sample.val, Sample.cells, Sig.val, Sig.cells, show ¬ c < 0 by omega, show c < 3 by omega, show ¬ 3 ≤ c by omega, hlo, hhi, show sg.lo ≤ value by omega]
        refine IWp.seq ?_
        refine IWp.draw [3, 9, 10, 11, 12, 13] [H.next] (.val 1 (.val 2 (.eff 0 (.val 3 (.val 4 (.eff 5 (.eff 6 .done .done) .done))) (.eff 5 (.eff 0 (.val 3 (.ld 4 [6] (.eff 6 .done .done))) .done) .done)))) follows (by kernel_rfl) ?_
        simp [go_sem, -getElem?_pos, -List.map_take, -List.map_drop, List.getElem?_cons_zero, List.getElem?_cons_succ, Go.IntWalk.iteOmega, Go.IntWalk.toNatUp, ht, hc, w3, w4, w5, hlen, hsl2, hge, Sample.val, Sample.cells, Sig.val, Sig.cells, show ¬ c < 0 by omega, show c < 3 by omega, show ¬ 3 ≤ c by omega, hlo, hhi, show sg.lo ≤ value by omega]
        -- 2 ORDERS
        -- CALLS LEFT ['!']
        refine ⟨?_, ?_⟩
        · skip
          refine ICalls.mono (hG _) ?_
          rintro v _ ⟨rfl, rfl⟩
          simp [go_sem, -getElem?_pos, -List.map_take, -List.map_drop, List.getElem?_cons_zero, List.getElem?_cons_succ, Go.IntWalk.iteOmega, Go.IntWalk.toNatUp, ht, hc, w3, w4, w5, hlen, hsl2, hge, Sample.val, Sample.cells, Sig.val, Sig.cells, show ¬ c < 0 by omega, show c < 3 by omega, show ¬ 3 ≤ c by omega, hlo, hhi, show sg.lo ≤ value by omega]
          refine IWp.seq ?_
          refine IWp.run [9, 10, 11, 12] ?_
          simp [go_sem, -getElem?_pos, -List.map_take, -List.map_drop, List.getElem?_cons_zero, List.getElem?_cons_succ, Go.IntWalk.iteOmega, Go.IntWalk.toNatUp, ht, hc, w3, w4, w5, hlen, hsl2, hge, Sample.val, Sample.cells, Sig.val, Sig.cells, show ¬ c < 0 by omega, show c < 3 by omega, show ¬ 3 ≤ c by omega, hlo, hhi, show sg.lo ≤ value by omega]
          refine IWp.seq ?_
          refine IWp.run [8] ?_
          simp [go_sem, -getElem?_pos, -List.map_take, -List.map_drop, List.getElem?_cons_zero, List.getElem?_cons_succ, Go.IntWalk.iteOmega, Go.IntWalk.toNatUp, ht, hc, w3, w4, w5, hlen, hsl2, hge, Sample.val, Sample.cells, Sig.val, Sig.cells, show ¬ c < 0 by omega, show c < 3 by omega, show ¬ 3 ≤ c by omega, hlo, hhi, show sg.lo ≤ value by omega]
          refine IWp.ret ?_
          simp [go_sem, -getElem?_pos, -List.map_take, -List.map_drop, List.getElem?_cons_zero, List.getElem?_cons_succ, Go.IntWalk.iteOmega, Go.IntWalk.toNatUp, ht, hc, w3, w4, w5, hlen, hsl2, hge, Sample.val, Sample.cells, Sig.val, Sig.cells, show ¬ c < 0 by omega, show c < 3 by omega, show ¬ 3 ≤ c by omega, hlo, hhi, show sg.lo ≤ value by omega, Try.results9]
        · skip
          refine ICalls.mono (hG _) ?_
          rintro v _ ⟨rfl, rfl⟩
          simp [go_sem, -getElem?_pos, -List.map_take, -List.map_drop, List.getElem?_cons_zero, List.getElem?_cons_succ, Go.IntWalk.iteOmega, Go.IntWalk.toNatUp, ht, hc, w3, w4, w5, hlen, hsl2, hge, Sample.val, Sample.cells, Sig.val, Sig.cells, show ¬ c < 0 by omega, show c < 3 by omega, show ¬ 3 ≤ c by omega, hlo, hhi, show sg.lo ≤ value by omega]
          refine IWp.seq ?_
          refine IWp.run [9, 10, 11, 12] ?_
          simp [go_sem, -getElem?_pos, -List.map_take, -List.map_drop, List.getElem?_cons_zero, List.getElem?_cons_succ, Go.IntWalk.iteOmega, Go.IntWalk.toNatUp, ht, hc, w3, w4, w5, hlen, hsl2, hge, Sample.val, Sample.cells, Sig.val, Sig.cells, show ¬ c < 0 by omega, show c < 3 by omega, show ¬ 3 ≤ c by omega, hlo, hhi, show sg.lo ≤ value by omega]
          refine IWp.seq ?_
          refine IWp.run [8] ?_
          simp [go_sem, -getElem?_pos, -List.map_take, -List.map_drop, List.getElem?_cons_zero, List.getElem?_cons_succ, Go.IntWalk.iteOmega, Go.IntWalk.toNatUp, ht, hc, w3, w4, w5, hlen, hsl2, hge, Sample.val, Sample.cells, Sig.val, Sig.cells, show ¬ c < 0 by omega, show c < 3 by omega, show ¬ 3 ≤ c by omega, hlo, hhi, show sg.lo ≤ value by omega]
          refine IWp.ret ?_
          simp [go_sem, -getElem?_pos, -List.map_take, -List.map_drop, List.getElem?_cons_zero, List.getElem?_cons_succ, Go.IntWalk.iteOmega, Go.IntWalk.toNatUp, ht, hc, w3, w4, w5, hlen, hsl2, hge, Sample.val, Sample.cells, Sig.val, Sig.cells, show ¬ c < 0 by omega, show c < 3 by omega, show ¬ 3 ≤ c by omega, hlo, hhi, show sg.lo ≤ value by omega, Try.results9]

end Go.Proofs.Ytjhmajcakhdcnaa.I
