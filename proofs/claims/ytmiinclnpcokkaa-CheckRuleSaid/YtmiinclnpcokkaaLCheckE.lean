/- A rule in which any number is another one: the law's body. No condition. -/
import Derived.Test.YtmiinclnpcokkaaLCheck
import Derived.Test.YtmiinclnpcokkaaGMakeO
import Derived.Test.YtmiinclnpcokkaaIApp2
namespace Go.Proofs.Ytmiinclnpcokkaa.I
open Go Go.RowKit
set_option linter.unusedVariables false
set_option linter.unusedSimpArgs false

def rowR (L : List Rule) : List Value := L.flatMap Rule.cells
theorem rowR_eq (L : List Rule) : ((L.map Rule.val).flatMap fun u => u.cells.toList) = rowR L := by rw [List.flatMap_map]; rfl
theorem Rule.len9 (x : Rule) : x.cells.length = 9 := rfl
theorem rowR_len (L : List Rule) : (rowR L).length = L.length * 9 := flat_length Rule.len9 L
theorem splice_pre (A B vs : List Value) (o : Nat) : splice (A ++ B) (A.length + o) vs = A ++ splice B o vs := by
  unfold splice
  rw [List.take_append, List.drop_append, List.take_of_length_le (show A.length ≤ A.length + o by omega), List.drop_of_length_le (show A.length ≤ A.length + o + vs.length by omega)]
  rw [show A.length + o - A.length = o by omega, show A.length + o + vs.length - A.length = o + vs.length by omega]
  simp
theorem splice_post (B C vs : List Value) (o : Nat) (h : o + vs.length ≤ B.length) : splice (B ++ C) o vs = splice B o vs ++ C := by
  unfold splice
  rw [List.take_append_of_le_length (by omega), List.drop_append_of_le_length h]
  simp
theorem frzE_at {K : Heap} {S : Nat → Bool} {x : List Value} {r' : Rule} (hx : FrzL K S x r'.cells) (post : List Rule) : ∀ pre : List Rule, FrzE K S 9 (rowR pre ++ (x ++ rowR post)) ((pre ++ r' :: post).map Rule.val)
  | [] => by
    have := FrzE.same (H := K) (S := S) (sz := 9) (post.map Rule.val) (fun u hu => by obtain ⟨r, _, rfl⟩ := List.mem_map.1 hu; rfl) []
    rw [List.append_nil, rowR_eq] at this
    rw [show rowR [] = [] from rfl, List.nil_append]
    exact .cons hx.length hx this
  | p :: pre => by
    show FrzE K S 9 ((p.cells ++ rowR pre) ++ (x ++ rowR post)) (p.val :: (pre ++ r' :: post).map Rule.val)
    rw [List.append_assoc]
    exact .cons rfl (FrzL.same _) (frzE_at hx post pre)

theorem same_own3 (K : Heap) (sb rb ns nr : Nat) (c : Config) (hS : Sized c) (hns : c.sigs.length = ns) (hnr : c.rules.length = nr) (h1 : K.get sb = some ⟨(c.sigs.map Sig.val).flatMap fun u => u.cells.toList, true⟩) (cs : List Value) (h2 : K.get rb = some ⟨cs, true⟩) (h3 : FrzE K (fun _ => true) 9 cs (c.rules.map Rule.val)) :
    ICalls Try.prog 31 [.agg ⟨[.slice (some ⟨sb, 0, some 2⟩) ns 1, .slice (some ⟨rb, 0, some 9⟩) nr 1, frow 1 0 (c.table.map (ints .i64)), .int .i64 c.b0, .int .i64 c.b1, .int .i64 c.b2, .int .i64 c.drain, .int .i64 c.pause, .int .i64 c.off, .bool c.brk, .int .i64 c.log]⟩] K fun v H' => v = .bool true ∧ H' = K := by
  refine ICalls.view (us := [c.val]) (.cons (.agg ?_) .nil) (by rw [ClL_cons, Config.cl_val, ClL_nil]; exact ⟨trivial, trivial⟩) ((sameC Heap.empty c hS).mono ?_)
  · refine .cons ?_ (.cons ?_ (FrzL.same _))
    · exact frz_lit (c.sigs.map Sig.val) h1 rfl (fun u hu => by obtain ⟨r, _, rfl⟩ := List.mem_map.1 hu; rfl) (by simp [hns]) rfl
    · have := Frz.row (H := K) (S := fun _ => true) (b := rb) (o := 0) (sz := 9) (c := 1) (us := c.rules.map Rule.val) h2 rfl (by rw [List.drop_zero]; exact h3)
      rwa [List.length_map, hnr] at this
  · rintro v _ ⟨rfl, rfl⟩
    exact ⟨rfl, rfl⟩

set_option maxHeartbeats 2000000 in
theorem checkRule_law (H : Heap) (d : Draft) (at_ what n : Int) (small : Bool) (hw : d.wf) (w0 : 0 ≤ at_ ∧ at_ < 256) (w1 : 0 ≤ what ∧ what < 256) (w2 : -9223372036854775808 ≤ n ∧ n < 9223372036854775808) :
    IBody Try.prog 10 [d.val, .int .u8 at_, .int .u8 what, .int .i64 n, .bool small] H fun v _ => v = .bool true := by
  by_cases hs : shortD d
  case neg =>
    have h1 := shorts07F d hs
    simp only [Draft.cells] at h1
    refine IBody.of Try.func10 rfl (by rw [Try.ntmps10]; simp) ?_
    rw [Try.ntmps10]
    refine IWp.seq ?_
    refine IWp.run [1, 2, 3, 4, 5] ?_
    simp [go_sem, -getElem?_pos, -List.map_take, -List.map_drop, List.getElem?_cons_zero, List.getElem?_cons_succ, Go.IntWalk.iteOmega, Go.IntWalk.toNatUp, Draft.val, Draft.cells]
    refine IWp.seq ?_
    refine IWp.seq ?_
    refine IWp.run [1, 2, 3, 4, 5, 19] ?_
    simp [go_sem, -getElem?_pos, -List.map_take, -List.map_drop, List.getElem?_cons_zero, List.getElem?_cons_succ, Go.IntWalk.iteOmega, Go.IntWalk.toNatUp, Draft.val, Draft.cells]
    refine ICalls.then (nothing _) ?_
    try simp [go_sem, -getElem?_pos, -List.map_take, -List.map_drop, List.getElem?_cons_zero, List.getElem?_cons_succ, Go.IntWalk.iteOmega, Go.IntWalk.toNatUp, Draft.val, Draft.cells]
    refine ICalls.then (h1 _) ?_
    try simp [go_sem, -getElem?_pos, -List.map_take, -List.map_drop, List.getElem?_cons_zero, List.getElem?_cons_succ, Go.IntWalk.iteOmega, Go.IntWalk.toNatUp, Draft.val, Draft.cells]
    refine IWp.cond ?_
    simp [go_sem, -getElem?_pos, -List.map_take, -List.map_drop, List.getElem?_cons_zero, List.getElem?_cons_succ, Go.IntWalk.iteOmega, Go.IntWalk.toNatUp, Draft.val, Draft.cells]
    refine IWp.seq ?_
    refine IWp.run [10] ?_
    simp [go_sem, -getElem?_pos, -List.map_take, -List.map_drop, List.getElem?_cons_zero, List.getElem?_cons_succ, Go.IntWalk.iteOmega, Go.IntWalk.toNatUp, Draft.val, Draft.cells]
    refine ICalls.then (nothing _) ?_
    try simp [go_sem, -getElem?_pos, -List.map_take, -List.map_drop, List.getElem?_cons_zero, List.getElem?_cons_succ, Go.IntWalk.iteOmega, Go.IntWalk.toNatUp, Draft.val, Draft.cells]
    refine IWp.ret ?_
    simp [go_sem, -getElem?_pos, -List.map_take, -List.map_drop, List.getElem?_cons_zero, List.getElem?_cons_succ, Go.IntWalk.iteOmega, Go.IntWalk.toNatUp, Draft.val, Draft.cells, Try.results10]
  have h1 := shorts07T d hs
  have h2 := fun K => makeO K d hw
  have hS := sized_make hw
  have hR1 := rulesS_pos d
  have hcs : (makeS d).sigs = sigsS := rfl
  have hcr : (makeS d).rules = rulesS d := rfl
  unfold MadeO at h2
  rw [← hcr] at h2 hR1
  simp only [Draft.val, Draft.cells] at h1 h2
  generalize makeS d = c at *
  obtain ⟨sigs, rules, table, b0, b1, b2, drain, pause, off, brk, log⟩ := c
  simp only at hcs hcr hR1
  subst hcs
  refine IBody.of Try.func10 rfl (by rw [Try.ntmps10]; simp) ?_
  rw [Try.ntmps10]
  refine IWp.seq ?_
  refine IWp.run [1, 2, 3, 4, 5] ?_
  simp [go_sem, -getElem?_pos, -List.map_take, -List.map_drop, List.getElem?_cons_zero, List.getElem?_cons_succ, Go.IntWalk.iteOmega, Go.IntWalk.toNatUp, Draft.val, Draft.cells, confO]
  refine IWp.seq ?_
  refine IWp.seq ?_
  refine IWp.run [1, 2, 3, 4, 5, 19] ?_
  simp [go_sem, -getElem?_pos, -List.map_take, -List.map_drop, List.getElem?_cons_zero, List.getElem?_cons_succ, Go.IntWalk.iteOmega, Go.IntWalk.toNatUp, Draft.val, Draft.cells, confO]
  refine ICalls.then (nothing _) ?_
  try simp [go_sem, -getElem?_pos, -List.map_take, -List.map_drop, List.getElem?_cons_zero, List.getElem?_cons_succ, Go.IntWalk.iteOmega, Go.IntWalk.toNatUp, Draft.val, Draft.cells, confO]
  refine ICalls.then (h1 _) ?_
  try simp [go_sem, -getElem?_pos, -List.map_take, -List.map_drop, List.getElem?_cons_zero, List.getElem?_cons_succ, Go.IntWalk.iteOmega, Go.IntWalk.toNatUp, Draft.val, Draft.cells, confO]
  refine IWp.cond ?_
  simp [go_sem, -getElem?_pos, -List.map_take, -List.map_drop, List.getElem?_cons_zero, List.getElem?_cons_succ, Go.IntWalk.iteOmega, Go.IntWalk.toNatUp, Draft.val, Draft.cells, confO]
  refine IWp.trim [1, 2, 3, 4, 5] (IWp.skip ?_)
  simp [go_sem, -getElem?_pos, -List.map_take, -List.map_drop, List.getElem?_cons_zero, List.getElem?_cons_succ, Go.IntWalk.iteOmega, Go.IntWalk.toNatUp, Draft.val, Draft.cells, confO]
  refine IWp.seq ?_
  refine IWp.run [1, 2, 3, 4, 11] ?_
  simp [go_sem, -getElem?_pos, -List.map_take, -List.map_drop, List.getElem?_cons_zero, List.getElem?_cons_succ, Go.IntWalk.iteOmega, Go.IntWalk.toNatUp, Draft.val, Draft.cells, confO]
  refine ICalls.mono (h2 _) ?_
  rintro v H2 ⟨sb, rb, m1, m2, m3, m4, m5, m6, m7⟩
  subst m4
  try simp [go_sem, -getElem?_pos, -List.map_take, -List.map_drop, List.getElem?_cons_zero, List.getElem?_cons_succ, Go.IntWalk.iteOmega, Go.IntWalk.toNatUp, Draft.val, Draft.cells, confO, confO]
  -- CUT live [1, 2, 3, 11]
  have hsb := Heap.lt_of_get m5
  have hrb := Heap.lt_of_get m6
  obtain ⟨H3, hH3⟩ : ∃ H3, H3 = H2.alloc (confO sb rb ⟨sigsS, rules, table, b0, b1, b2, drain, pause, off, brk, log⟩) := ⟨_, rfl⟩
  have g3 : H3.get H2.next = some ⟨confO sb rb ⟨sigsS, rules, table, b0, b1, b2, drain, pause, off, brk, log⟩, true⟩ := by rw [hH3]; exact Heap.get_alloc_new _ _
  have gs : H3.get sb = some ⟨sigsS.flatMap Sig.cells, true⟩ := by rw [hH3, Heap.get_alloc_lt _ _ _ hsb]; exact m5
  have gr : H3.get rb = some ⟨rowR rules, true⟩ := by rw [hH3, Heap.get_alloc_lt _ _ _ hrb, m6, rowR_eq]
  simp only [confO, sigsS, List.length_cons, List.length_nil] at hH3 g3
  simp only [sigsS, List.length_cons, List.length_nil, Nat.zero_add] at *
  rw [← hH3]
  generalize hcb : H2.next = cb at *
  have n1 : ¬ sb = cb := by omega
  have n2 : ¬ rb = cb := by omega
  have n3 : ¬ rb = sb := fun e => m3 e.symm
  have hnx : cb < H3.next := Heap.lt_of_get g3
  clear hH3 m5 m6 m7 h1 h2
  refine IWp.cut (fun e K => ∃ n' : Int, e = [(1, .int .u8 at_), (2, .int .u8 what), (3, .int .i64 n'), (11, ptrTo cb 0)] ∧ K = H3) ?_ ?_
  · cases small with
    | true =>
      refine IWp.seq ?_
      refine IWp.run [1, 2, 3, 11, 23] ?_
      simp [go_sem, -getElem?_pos, -List.map_take, -List.map_drop, List.getElem?_cons_zero, List.getElem?_cons_succ, Go.IntWalk.iteOmega, Go.IntWalk.toNatUp, show ¬ (20 : Int) = 0 by omega]
      refine IWp.cond ?_
      simp [go_sem, -getElem?_pos, -List.map_take, -List.map_drop, List.getElem?_cons_zero, List.getElem?_cons_succ, Go.IntWalk.iteOmega, Go.IntWalk.toNatUp, show ¬ (20 : Int) = 0 by omega]
      refine IWp.run [1, 2, 3, 11] ?_
      simp [go_sem, -getElem?_pos, -List.map_take, -List.map_drop, List.getElem?_cons_zero, List.getElem?_cons_succ, Go.IntWalk.iteOmega, Go.IntWalk.toNatUp, show ¬ (20 : Int) = 0 by omega]
      try exact ⟨_, rfl⟩
    | false =>
      refine IWp.seq ?_
      refine IWp.run [1, 2, 3, 11, 23] ?_
      simp [go_sem, -getElem?_pos, -List.map_take, -List.map_drop, List.getElem?_cons_zero, List.getElem?_cons_succ, Go.IntWalk.iteOmega, Go.IntWalk.toNatUp]
      refine IWp.cond ?_
      simp [go_sem, -getElem?_pos, -List.map_take, -List.map_drop, List.getElem?_cons_zero, List.getElem?_cons_succ, Go.IntWalk.iteOmega, Go.IntWalk.toNatUp]
      refine IWp.trim [1, 2, 3, 11] (IWp.skip ?_)
      simp [go_sem, -getElem?_pos, -List.map_take, -List.map_drop, List.getElem?_cons_zero, List.getElem?_cons_succ, Go.IntWalk.iteOmega, Go.IntWalk.toNatUp]
      try exact ⟨_, rfl⟩
  rintro e K ⟨n', rfl, rfl⟩
  obtain ⟨k, hkk⟩ : ∃ k : Nat, at_ % (rules.length : Int) = k := ⟨(at_ % (rules.length : Int)).toNat, by have := Int.emod_nonneg at_ (show (rules.length : Int) ≠ 0 by omega); omega⟩
  have hkl : k < rules.length := by have := Int.emod_lt_of_pos at_ (show 0 < (rules.length : Int) by omega); omega
  have htm : at_.tmod (rules.length : Int) = k := by rw [Int.tmod_eq_emod_of_nonneg w0.1, hkk]
  have wk := IntWalk.i64_in (k : Int) (by omega)
  have wa := IntWalk.i64_in at_ (by omega)
  have hR0 : ¬ (rules.length : Int) = 0 := by omega
  have hR00 : ¬ rules = [] := fun e => by rw [e] at hkl; simp at hkl
  refine IWp.seq ?_
  refine IWp.read [2, 3, 11, 12] follows (by kernel_rfl) ?_
  simp [go_sem, -getElem?_pos, -List.map_take, -List.map_drop, List.getElem?_cons_zero, List.getElem?_cons_succ, Go.IntWalk.iteOmega, Go.IntWalk.toNatUp, g3, gr, htm, wk, wa, hR0, hR00, hkl]
  -- CUT live [11]
  have hrl := rowR_len rules
  have hroom : k * 9 + 9 ≤ rules.length * 9 := by omega
  obtain ⟨Z, hZ⟩ : ∃ Z : Heap → Prop, Z = fun K' => K'.get cb = K.get cb ∧ K'.get sb = K.get sb ∧ ∃ (cs : List Value) (rules' : List Rule), K'.get rb = some ⟨cs, true⟩ ∧ FrzE K' (fun _ => true) 9 cs (rules'.map Rule.val) ∧ rules'.length = rules.length ∧ ∀ r ∈ rules', r.stages.length ≤ 1000000 := ⟨_, rfl⟩
  have hstg : ∀ r ∈ rules, r.stages.length ≤ 5000 := fun r hr => by
    rw [hcr] at hr
    obtain ⟨x, hx, rfl⟩ := rules_mem hw hr
    show (stagesS _ _).length ≤ _
    rw [stagesS_len]; simp; omega
  have hZset : ∀ (f : Nat) (v : Value) (r' : Rule), f < 9 → r'.cells = splice rules[k].cells f [v] → r'.stages = rules[k].stages → Z (K.set rb (splice (rowR rules) (k * 9 + f) [v])) := fun f v r' hf hr' hst => by
    rw [hZ]
    refine ⟨by rw [get_set, if_neg (by omega)], by rw [get_set, if_neg (by omega)], rowR (rules.set k r'), rules.set k r', ?_, ?_, by simp, fun r hr => ?_⟩
    · rw [get_set, if_pos rfl, gr]
      simp only [Option.map_some]
      rw [show splice (rowR rules) (k * 9 + f) [v] = rowR (rules.set k r') from flat_splice Rule.len9 rules k f [v] r' hkl (by simp; omega) hr']
    · have := FrzE.same (H := K.set rb (splice (rowR rules) (k * 9 + f) [v])) (S := fun _ => true) (sz := 9) ((rules.set k r').map Rule.val) (fun u hu => by obtain ⟨r, _, rfl⟩ := List.mem_map.1 hu; rfl) []
      rw [List.append_nil, rowR_eq] at this
      exact this
    · rcases List.mem_or_eq_of_mem_set hr with hr | rfl
      · have := hstg r hr; omega
      · rw [hst]; have := hstg _ (List.getElem_mem hkl); omega
  refine IWp.cut (fun e K' => e = [(11, ptrTo cb 0)] ∧ Z K') ?_ ?_
  case refine_2 =>
    rintro e K' ⟨rfl, hz⟩
    rw [hZ] at hz
    obtain ⟨z1, z2, cs, rules', z3, z4, z5, z6⟩ := hz
    rw [g3] at z1
    rw [gs] at z2
    refine IWp.seq ?_
    refine IWp.run [10] ?_
    simp [go_sem, -getElem?_pos, -List.map_take, -List.map_drop, List.getElem?_cons_zero, List.getElem?_cons_succ, Go.IntWalk.iteOmega, Go.IntWalk.toNatUp, z1]
    refine ICalls.then (same_own3 _ sb rb 3 rules.length ⟨[⟨-100, 300⟩, ⟨0, 250⟩, ⟨-2147483648, 2147483647⟩], rules', table, b0, b1, b2, drain, pause, off, brk, log⟩ ⟨by simp, by have := hS.rules; simp only at this ⊢; omega, hS.table, hS.rows, z6⟩ rfl z5 z2 cs z3 z4) ?_
    simp [go_sem]
    refine IWp.ret ?_
    simp [go_sem, -getElem?_pos, -List.map_take, -List.map_drop, List.getElem?_cons_zero, List.getElem?_cons_succ, Go.IntWalk.iteOmega, Go.IntWalk.toNatUp, Try.results10]
  have hkc : what % 8 = 0 ∨ what % 8 = 1 ∨ what % 8 = 2 ∨ what % 8 = 3 ∨ what % 8 = 4 ∨ what % 8 = 5 ∨ what % 8 = 6 ∨ what % 8 = 7 := by omega
  rcases hkc with hk | hk | hk | hk | hk | hk | hk | hk
  · have hz := hZset 0 (.int .u8 (IntKind.u8.wrap n')) { rules[k] with kind := IntKind.u8.wrap n' } (by omega) rfl rfl
    try simp only [Nat.add_zero] at hz
    refine IWp.seq ?_
    refine IWp.run [2, 3, 11, 12, 36] ?_
    simp (disch := omega) [go_sem, -getElem?_pos, -List.map_take, -List.map_drop, List.getElem?_cons_zero, List.getElem?_cons_succ, Go.IntWalk.iteOmega, Go.IntWalk.toNatUp, Go.IntWalk.i64_in, Go.IntWalk.u8_in, Go.IntWalk.i64_quo, Go.IntWalk.u8_quo, Go.IntWalk.rem_in, hk, gr, hrl, hz, show k * 9 + 1 ≤ rules.length * 9 by omega, show k * 9 < rules.length * 9 by omega]
    refine IWp.block ?_
    refine IWp.seq ?_
    refine IWp.run [2, 3, 11, 12, 36, 52] ?_
    simp (disch := omega) [go_sem, -getElem?_pos, -List.map_take, -List.map_drop, List.getElem?_cons_zero, List.getElem?_cons_succ, Go.IntWalk.iteOmega, Go.IntWalk.toNatUp, Go.IntWalk.i64_in, Go.IntWalk.u8_in, Go.IntWalk.i64_quo, Go.IntWalk.u8_quo, Go.IntWalk.rem_in, hk, gr, hrl, hz, show k * 9 + 1 ≤ rules.length * 9 by omega, show k * 9 < rules.length * 9 by omega]
    refine IWp.cond ?_
    simp (disch := omega) [go_sem, -getElem?_pos, -List.map_take, -List.map_drop, List.getElem?_cons_zero, List.getElem?_cons_succ, Go.IntWalk.iteOmega, Go.IntWalk.toNatUp, Go.IntWalk.i64_in, Go.IntWalk.u8_in, Go.IntWalk.i64_quo, Go.IntWalk.u8_quo, Go.IntWalk.rem_in, hk, gr, hrl, hz, show k * 9 + 1 ≤ rules.length * 9 by omega, show k * 9 < rules.length * 9 by omega]
    refine IWp.run [11] ?_
    simp (disch := omega) [go_sem, -getElem?_pos, -List.map_take, -List.map_drop, List.getElem?_cons_zero, List.getElem?_cons_succ, Go.IntWalk.iteOmega, Go.IntWalk.toNatUp, Go.IntWalk.i64_in, Go.IntWalk.u8_in, Go.IntWalk.i64_quo, Go.IntWalk.u8_quo, Go.IntWalk.rem_in, hk, gr, hrl, hz, show k * 9 + 1 ≤ rules.length * 9 by omega, show k * 9 < rules.length * 9 by omega]
  · have hz := hZset 1 (.int .i64 n') { rules[k] with sg := n' } (by omega) rfl rfl
    try simp only [Nat.add_zero] at hz
    refine IWp.seq ?_
    refine IWp.run [2, 3, 11, 12, 36] ?_
    simp (disch := omega) [go_sem, -getElem?_pos, -List.map_take, -List.map_drop, List.getElem?_cons_zero, List.getElem?_cons_succ, Go.IntWalk.iteOmega, Go.IntWalk.toNatUp, Go.IntWalk.i64_in, Go.IntWalk.u8_in, Go.IntWalk.i64_quo, Go.IntWalk.u8_quo, Go.IntWalk.rem_in, hk, gr, hrl, hz, show k * 9 + 1 + 1 ≤ rules.length * 9 by omega, show k * 9 + 1 < rules.length * 9 by omega]
    refine IWp.block ?_
    refine IWp.seq ?_
    refine IWp.run [2, 3, 11, 12, 36, 52] ?_
    simp (disch := omega) [go_sem, -getElem?_pos, -List.map_take, -List.map_drop, List.getElem?_cons_zero, List.getElem?_cons_succ, Go.IntWalk.iteOmega, Go.IntWalk.toNatUp, Go.IntWalk.i64_in, Go.IntWalk.u8_in, Go.IntWalk.i64_quo, Go.IntWalk.u8_quo, Go.IntWalk.rem_in, hk, gr, hrl, hz, show k * 9 + 1 + 1 ≤ rules.length * 9 by omega, show k * 9 + 1 < rules.length * 9 by omega]
    refine IWp.cond ?_
    simp (disch := omega) [go_sem, -getElem?_pos, -List.map_take, -List.map_drop, List.getElem?_cons_zero, List.getElem?_cons_succ, Go.IntWalk.iteOmega, Go.IntWalk.toNatUp, Go.IntWalk.i64_in, Go.IntWalk.u8_in, Go.IntWalk.i64_quo, Go.IntWalk.u8_quo, Go.IntWalk.rem_in, hk, gr, hrl, hz, show k * 9 + 1 + 1 ≤ rules.length * 9 by omega, show k * 9 + 1 < rules.length * 9 by omega]
    refine IWp.seq ?_
    refine IWp.run [2, 3, 11, 12, 36, 59] ?_
    simp (disch := omega) [go_sem, -getElem?_pos, -List.map_take, -List.map_drop, List.getElem?_cons_zero, List.getElem?_cons_succ, Go.IntWalk.iteOmega, Go.IntWalk.toNatUp, Go.IntWalk.i64_in, Go.IntWalk.u8_in, Go.IntWalk.i64_quo, Go.IntWalk.u8_quo, Go.IntWalk.rem_in, hk, gr, hrl, hz, show k * 9 + 1 + 1 ≤ rules.length * 9 by omega, show k * 9 + 1 < rules.length * 9 by omega]
    refine IWp.cond ?_
    simp (disch := omega) [go_sem, -getElem?_pos, -List.map_take, -List.map_drop, List.getElem?_cons_zero, List.getElem?_cons_succ, Go.IntWalk.iteOmega, Go.IntWalk.toNatUp, Go.IntWalk.i64_in, Go.IntWalk.u8_in, Go.IntWalk.i64_quo, Go.IntWalk.u8_quo, Go.IntWalk.rem_in, hk, gr, hrl, hz, show k * 9 + 1 + 1 ≤ rules.length * 9 by omega, show k * 9 + 1 < rules.length * 9 by omega]
    refine IWp.run [11] ?_
    simp (disch := omega) [go_sem, -getElem?_pos, -List.map_take, -List.map_drop, List.getElem?_cons_zero, List.getElem?_cons_succ, Go.IntWalk.iteOmega, Go.IntWalk.toNatUp, Go.IntWalk.i64_in, Go.IntWalk.u8_in, Go.IntWalk.i64_quo, Go.IntWalk.u8_quo, Go.IntWalk.rem_in, hk, gr, hrl, hz, show k * 9 + 1 + 1 ≤ rules.length * 9 by omega, show k * 9 + 1 < rules.length * 9 by omega]
  · have hz := hZset 2 (.int .i64 n') { rules[k] with lim := n' } (by omega) rfl rfl
    try simp only [Nat.add_zero] at hz
    refine IWp.seq ?_
    refine IWp.run [2, 3, 11, 12, 36] ?_
    simp (disch := omega) [go_sem, -getElem?_pos, -List.map_take, -List.map_drop, List.getElem?_cons_zero, List.getElem?_cons_succ, Go.IntWalk.iteOmega, Go.IntWalk.toNatUp, Go.IntWalk.i64_in, Go.IntWalk.u8_in, Go.IntWalk.i64_quo, Go.IntWalk.u8_quo, Go.IntWalk.rem_in, hk, gr, hrl, hz, show k * 9 + 2 + 1 ≤ rules.length * 9 by omega, show k * 9 + 2 < rules.length * 9 by omega]
    refine IWp.block ?_
    refine IWp.seq ?_
    refine IWp.run [2, 3, 11, 12, 36, 52] ?_
    simp (disch := omega) [go_sem, -getElem?_pos, -List.map_take, -List.map_drop, List.getElem?_cons_zero, List.getElem?_cons_succ, Go.IntWalk.iteOmega, Go.IntWalk.toNatUp, Go.IntWalk.i64_in, Go.IntWalk.u8_in, Go.IntWalk.i64_quo, Go.IntWalk.u8_quo, Go.IntWalk.rem_in, hk, gr, hrl, hz, show k * 9 + 2 + 1 ≤ rules.length * 9 by omega, show k * 9 + 2 < rules.length * 9 by omega]
    refine IWp.cond ?_
    simp (disch := omega) [go_sem, -getElem?_pos, -List.map_take, -List.map_drop, List.getElem?_cons_zero, List.getElem?_cons_succ, Go.IntWalk.iteOmega, Go.IntWalk.toNatUp, Go.IntWalk.i64_in, Go.IntWalk.u8_in, Go.IntWalk.i64_quo, Go.IntWalk.u8_quo, Go.IntWalk.rem_in, hk, gr, hrl, hz, show k * 9 + 2 + 1 ≤ rules.length * 9 by omega, show k * 9 + 2 < rules.length * 9 by omega]
    refine IWp.seq ?_
    refine IWp.run [2, 3, 11, 12, 36, 59] ?_
    simp (disch := omega) [go_sem, -getElem?_pos, -List.map_take, -List.map_drop, List.getElem?_cons_zero, List.getElem?_cons_succ, Go.IntWalk.iteOmega, Go.IntWalk.toNatUp, Go.IntWalk.i64_in, Go.IntWalk.u8_in, Go.IntWalk.i64_quo, Go.IntWalk.u8_quo, Go.IntWalk.rem_in, hk, gr, hrl, hz, show k * 9 + 2 + 1 ≤ rules.length * 9 by omega, show k * 9 + 2 < rules.length * 9 by omega]
    refine IWp.cond ?_
    simp (disch := omega) [go_sem, -getElem?_pos, -List.map_take, -List.map_drop, List.getElem?_cons_zero, List.getElem?_cons_succ, Go.IntWalk.iteOmega, Go.IntWalk.toNatUp, Go.IntWalk.i64_in, Go.IntWalk.u8_in, Go.IntWalk.i64_quo, Go.IntWalk.u8_quo, Go.IntWalk.rem_in, hk, gr, hrl, hz, show k * 9 + 2 + 1 ≤ rules.length * 9 by omega, show k * 9 + 2 < rules.length * 9 by omega]
    refine IWp.seq ?_
    refine IWp.run [2, 3, 11, 12, 36, 65] ?_
    simp (disch := omega) [go_sem, -getElem?_pos, -List.map_take, -List.map_drop, List.getElem?_cons_zero, List.getElem?_cons_succ, Go.IntWalk.iteOmega, Go.IntWalk.toNatUp, Go.IntWalk.i64_in, Go.IntWalk.u8_in, Go.IntWalk.i64_quo, Go.IntWalk.u8_quo, Go.IntWalk.rem_in, hk, gr, hrl, hz, show k * 9 + 2 + 1 ≤ rules.length * 9 by omega, show k * 9 + 2 < rules.length * 9 by omega]
    refine IWp.cond ?_
    simp (disch := omega) [go_sem, -getElem?_pos, -List.map_take, -List.map_drop, List.getElem?_cons_zero, List.getElem?_cons_succ, Go.IntWalk.iteOmega, Go.IntWalk.toNatUp, Go.IntWalk.i64_in, Go.IntWalk.u8_in, Go.IntWalk.i64_quo, Go.IntWalk.u8_quo, Go.IntWalk.rem_in, hk, gr, hrl, hz, show k * 9 + 2 + 1 ≤ rules.length * 9 by omega, show k * 9 + 2 < rules.length * 9 by omega]
    refine IWp.run [11] ?_
    simp (disch := omega) [go_sem, -getElem?_pos, -List.map_take, -List.map_drop, List.getElem?_cons_zero, List.getElem?_cons_succ, Go.IntWalk.iteOmega, Go.IntWalk.toNatUp, Go.IntWalk.i64_in, Go.IntWalk.u8_in, Go.IntWalk.i64_quo, Go.IntWalk.u8_quo, Go.IntWalk.rem_in, hk, gr, hrl, hz, show k * 9 + 2 + 1 ≤ rules.length * 9 by omega, show k * 9 + 2 < rules.length * 9 by omega]
  · have hz := hZset 3 (.int .i64 n') { rules[k] with back := n' } (by omega) rfl rfl
    try simp only [Nat.add_zero] at hz
    refine IWp.seq ?_
    refine IWp.run [2, 3, 11, 12, 36] ?_
    simp (disch := omega) [go_sem, -getElem?_pos, -List.map_take, -List.map_drop, List.getElem?_cons_zero, List.getElem?_cons_succ, Go.IntWalk.iteOmega, Go.IntWalk.toNatUp, Go.IntWalk.i64_in, Go.IntWalk.u8_in, Go.IntWalk.i64_quo, Go.IntWalk.u8_quo, Go.IntWalk.rem_in, hk, gr, hrl, hz, show k * 9 + 3 + 1 ≤ rules.length * 9 by omega, show k * 9 + 3 < rules.length * 9 by omega]
    refine IWp.block ?_
    refine IWp.seq ?_
    refine IWp.run [2, 3, 11, 12, 36, 52] ?_
    simp (disch := omega) [go_sem, -getElem?_pos, -List.map_take, -List.map_drop, List.getElem?_cons_zero, List.getElem?_cons_succ, Go.IntWalk.iteOmega, Go.IntWalk.toNatUp, Go.IntWalk.i64_in, Go.IntWalk.u8_in, Go.IntWalk.i64_quo, Go.IntWalk.u8_quo, Go.IntWalk.rem_in, hk, gr, hrl, hz, show k * 9 + 3 + 1 ≤ rules.length * 9 by omega, show k * 9 + 3 < rules.length * 9 by omega]
    refine IWp.cond ?_
    simp (disch := omega) [go_sem, -getElem?_pos, -List.map_take, -List.map_drop, List.getElem?_cons_zero, List.getElem?_cons_succ, Go.IntWalk.iteOmega, Go.IntWalk.toNatUp, Go.IntWalk.i64_in, Go.IntWalk.u8_in, Go.IntWalk.i64_quo, Go.IntWalk.u8_quo, Go.IntWalk.rem_in, hk, gr, hrl, hz, show k * 9 + 3 + 1 ≤ rules.length * 9 by omega, show k * 9 + 3 < rules.length * 9 by omega]
    refine IWp.seq ?_
    refine IWp.run [2, 3, 11, 12, 36, 59] ?_
    simp (disch := omega) [go_sem, -getElem?_pos, -List.map_take, -List.map_drop, List.getElem?_cons_zero, List.getElem?_cons_succ, Go.IntWalk.iteOmega, Go.IntWalk.toNatUp, Go.IntWalk.i64_in, Go.IntWalk.u8_in, Go.IntWalk.i64_quo, Go.IntWalk.u8_quo, Go.IntWalk.rem_in, hk, gr, hrl, hz, show k * 9 + 3 + 1 ≤ rules.length * 9 by omega, show k * 9 + 3 < rules.length * 9 by omega]
    refine IWp.cond ?_
    simp (disch := omega) [go_sem, -getElem?_pos, -List.map_take, -List.map_drop, List.getElem?_cons_zero, List.getElem?_cons_succ, Go.IntWalk.iteOmega, Go.IntWalk.toNatUp, Go.IntWalk.i64_in, Go.IntWalk.u8_in, Go.IntWalk.i64_quo, Go.IntWalk.u8_quo, Go.IntWalk.rem_in, hk, gr, hrl, hz, show k * 9 + 3 + 1 ≤ rules.length * 9 by omega, show k * 9 + 3 < rules.length * 9 by omega]
    refine IWp.seq ?_
    refine IWp.run [2, 3, 11, 12, 36, 65] ?_
    simp (disch := omega) [go_sem, -getElem?_pos, -List.map_take, -List.map_drop, List.getElem?_cons_zero, List.getElem?_cons_succ, Go.IntWalk.iteOmega, Go.IntWalk.toNatUp, Go.IntWalk.i64_in, Go.IntWalk.u8_in, Go.IntWalk.i64_quo, Go.IntWalk.u8_quo, Go.IntWalk.rem_in, hk, gr, hrl, hz, show k * 9 + 3 + 1 ≤ rules.length * 9 by omega, show k * 9 + 3 < rules.length * 9 by omega]
    refine IWp.cond ?_
    simp (disch := omega) [go_sem, -getElem?_pos, -List.map_take, -List.map_drop, List.getElem?_cons_zero, List.getElem?_cons_succ, Go.IntWalk.iteOmega, Go.IntWalk.toNatUp, Go.IntWalk.i64_in, Go.IntWalk.u8_in, Go.IntWalk.i64_quo, Go.IntWalk.u8_quo, Go.IntWalk.rem_in, hk, gr, hrl, hz, show k * 9 + 3 + 1 ≤ rules.length * 9 by omega, show k * 9 + 3 < rules.length * 9 by omega]
    refine IWp.seq ?_
    refine IWp.run [2, 3, 11, 12, 36, 71] ?_
    simp (disch := omega) [go_sem, -getElem?_pos, -List.map_take, -List.map_drop, List.getElem?_cons_zero, List.getElem?_cons_succ, Go.IntWalk.iteOmega, Go.IntWalk.toNatUp, Go.IntWalk.i64_in, Go.IntWalk.u8_in, Go.IntWalk.i64_quo, Go.IntWalk.u8_quo, Go.IntWalk.rem_in, hk, gr, hrl, hz, show k * 9 + 3 + 1 ≤ rules.length * 9 by omega, show k * 9 + 3 < rules.length * 9 by omega]
    refine IWp.cond ?_
    simp (disch := omega) [go_sem, -getElem?_pos, -List.map_take, -List.map_drop, List.getElem?_cons_zero, List.getElem?_cons_succ, Go.IntWalk.iteOmega, Go.IntWalk.toNatUp, Go.IntWalk.i64_in, Go.IntWalk.u8_in, Go.IntWalk.i64_quo, Go.IntWalk.u8_quo, Go.IntWalk.rem_in, hk, gr, hrl, hz, show k * 9 + 3 + 1 ≤ rules.length * 9 by omega, show k * 9 + 3 < rules.length * 9 by omega]
    refine IWp.run [11] ?_
    simp (disch := omega) [go_sem, -getElem?_pos, -List.map_take, -List.map_drop, List.getElem?_cons_zero, List.getElem?_cons_succ, Go.IntWalk.iteOmega, Go.IntWalk.toNatUp, Go.IntWalk.i64_in, Go.IntWalk.u8_in, Go.IntWalk.i64_quo, Go.IntWalk.u8_quo, Go.IntWalk.rem_in, hk, gr, hrl, hz, show k * 9 + 3 + 1 ≤ rules.length * 9 by omega, show k * 9 + 3 < rules.length * 9 by omega]
  · have hz := hZset 4 (.int .i64 n') { rules[k] with delay := n' } (by omega) rfl rfl
    try simp only [Nat.add_zero] at hz
    refine IWp.seq ?_
    refine IWp.run [2, 3, 11, 12, 36] ?_
    simp (disch := omega) [go_sem, -getElem?_pos, -List.map_take, -List.map_drop, List.getElem?_cons_zero, List.getElem?_cons_succ, Go.IntWalk.iteOmega, Go.IntWalk.toNatUp, Go.IntWalk.i64_in, Go.IntWalk.u8_in, Go.IntWalk.i64_quo, Go.IntWalk.u8_quo, Go.IntWalk.rem_in, hk, gr, hrl, hz, show k * 9 + 4 + 1 ≤ rules.length * 9 by omega, show k * 9 + 4 < rules.length * 9 by omega]
    refine IWp.block ?_
    refine IWp.seq ?_
    refine IWp.run [2, 3, 11, 12, 36, 52] ?_
    simp (disch := omega) [go_sem, -getElem?_pos, -List.map_take, -List.map_drop, List.getElem?_cons_zero, List.getElem?_cons_succ, Go.IntWalk.iteOmega, Go.IntWalk.toNatUp, Go.IntWalk.i64_in, Go.IntWalk.u8_in, Go.IntWalk.i64_quo, Go.IntWalk.u8_quo, Go.IntWalk.rem_in, hk, gr, hrl, hz, show k * 9 + 4 + 1 ≤ rules.length * 9 by omega, show k * 9 + 4 < rules.length * 9 by omega]
    refine IWp.cond ?_
    simp (disch := omega) [go_sem, -getElem?_pos, -List.map_take, -List.map_drop, List.getElem?_cons_zero, List.getElem?_cons_succ, Go.IntWalk.iteOmega, Go.IntWalk.toNatUp, Go.IntWalk.i64_in, Go.IntWalk.u8_in, Go.IntWalk.i64_quo, Go.IntWalk.u8_quo, Go.IntWalk.rem_in, hk, gr, hrl, hz, show k * 9 + 4 + 1 ≤ rules.length * 9 by omega, show k * 9 + 4 < rules.length * 9 by omega]
    refine IWp.seq ?_
    refine IWp.run [2, 3, 11, 12, 36, 59] ?_
    simp (disch := omega) [go_sem, -getElem?_pos, -List.map_take, -List.map_drop, List.getElem?_cons_zero, List.getElem?_cons_succ, Go.IntWalk.iteOmega, Go.IntWalk.toNatUp, Go.IntWalk.i64_in, Go.IntWalk.u8_in, Go.IntWalk.i64_quo, Go.IntWalk.u8_quo, Go.IntWalk.rem_in, hk, gr, hrl, hz, show k * 9 + 4 + 1 ≤ rules.length * 9 by omega, show k * 9 + 4 < rules.length * 9 by omega]
    refine IWp.cond ?_
    simp (disch := omega) [go_sem, -getElem?_pos, -List.map_take, -List.map_drop, List.getElem?_cons_zero, List.getElem?_cons_succ, Go.IntWalk.iteOmega, Go.IntWalk.toNatUp, Go.IntWalk.i64_in, Go.IntWalk.u8_in, Go.IntWalk.i64_quo, Go.IntWalk.u8_quo, Go.IntWalk.rem_in, hk, gr, hrl, hz, show k * 9 + 4 + 1 ≤ rules.length * 9 by omega, show k * 9 + 4 < rules.length * 9 by omega]
    refine IWp.seq ?_
    refine IWp.run [2, 3, 11, 12, 36, 65] ?_
    simp (disch := omega) [go_sem, -getElem?_pos, -List.map_take, -List.map_drop, List.getElem?_cons_zero, List.getElem?_cons_succ, Go.IntWalk.iteOmega, Go.IntWalk.toNatUp, Go.IntWalk.i64_in, Go.IntWalk.u8_in, Go.IntWalk.i64_quo, Go.IntWalk.u8_quo, Go.IntWalk.rem_in, hk, gr, hrl, hz, show k * 9 + 4 + 1 ≤ rules.length * 9 by omega, show k * 9 + 4 < rules.length * 9 by omega]
    refine IWp.cond ?_
    simp (disch := omega) [go_sem, -getElem?_pos, -List.map_take, -List.map_drop, List.getElem?_cons_zero, List.getElem?_cons_succ, Go.IntWalk.iteOmega, Go.IntWalk.toNatUp, Go.IntWalk.i64_in, Go.IntWalk.u8_in, Go.IntWalk.i64_quo, Go.IntWalk.u8_quo, Go.IntWalk.rem_in, hk, gr, hrl, hz, show k * 9 + 4 + 1 ≤ rules.length * 9 by omega, show k * 9 + 4 < rules.length * 9 by omega]
    refine IWp.seq ?_
    refine IWp.run [2, 3, 11, 12, 36, 71] ?_
    simp (disch := omega) [go_sem, -getElem?_pos, -List.map_take, -List.map_drop, List.getElem?_cons_zero, List.getElem?_cons_succ, Go.IntWalk.iteOmega, Go.IntWalk.toNatUp, Go.IntWalk.i64_in, Go.IntWalk.u8_in, Go.IntWalk.i64_quo, Go.IntWalk.u8_quo, Go.IntWalk.rem_in, hk, gr, hrl, hz, show k * 9 + 4 + 1 ≤ rules.length * 9 by omega, show k * 9 + 4 < rules.length * 9 by omega]
    refine IWp.cond ?_
    simp (disch := omega) [go_sem, -getElem?_pos, -List.map_take, -List.map_drop, List.getElem?_cons_zero, List.getElem?_cons_succ, Go.IntWalk.iteOmega, Go.IntWalk.toNatUp, Go.IntWalk.i64_in, Go.IntWalk.u8_in, Go.IntWalk.i64_quo, Go.IntWalk.u8_quo, Go.IntWalk.rem_in, hk, gr, hrl, hz, show k * 9 + 4 + 1 ≤ rules.length * 9 by omega, show k * 9 + 4 < rules.length * 9 by omega]
    refine IWp.seq ?_
    refine IWp.run [2, 3, 11, 12, 36, 77] ?_
    simp (disch := omega) [go_sem, -getElem?_pos, -List.map_take, -List.map_drop, List.getElem?_cons_zero, List.getElem?_cons_succ, Go.IntWalk.iteOmega, Go.IntWalk.toNatUp, Go.IntWalk.i64_in, Go.IntWalk.u8_in, Go.IntWalk.i64_quo, Go.IntWalk.u8_quo, Go.IntWalk.rem_in, hk, gr, hrl, hz, show k * 9 + 4 + 1 ≤ rules.length * 9 by omega, show k * 9 + 4 < rules.length * 9 by omega]
    refine IWp.cond ?_
    simp (disch := omega) [go_sem, -getElem?_pos, -List.map_take, -List.map_drop, List.getElem?_cons_zero, List.getElem?_cons_succ, Go.IntWalk.iteOmega, Go.IntWalk.toNatUp, Go.IntWalk.i64_in, Go.IntWalk.u8_in, Go.IntWalk.i64_quo, Go.IntWalk.u8_quo, Go.IntWalk.rem_in, hk, gr, hrl, hz, show k * 9 + 4 + 1 ≤ rules.length * 9 by omega, show k * 9 + 4 < rules.length * 9 by omega]
    refine IWp.run [11] ?_
    simp (disch := omega) [go_sem, -getElem?_pos, -List.map_take, -List.map_drop, List.getElem?_cons_zero, List.getElem?_cons_succ, Go.IntWalk.iteOmega, Go.IntWalk.toNatUp, Go.IntWalk.i64_in, Go.IntWalk.u8_in, Go.IntWalk.i64_quo, Go.IntWalk.u8_quo, Go.IntWalk.rem_in, hk, gr, hrl, hz, show k * 9 + 4 + 1 ≤ rules.length * 9 by omega, show k * 9 + 4 < rules.length * 9 by omega]
  · have hz := hZset 5 (.int .i64 n') { rules[k] with span := n' } (by omega) rfl rfl
    try simp only [Nat.add_zero] at hz
    refine IWp.seq ?_
    refine IWp.run [2, 3, 11, 12, 36] ?_
    simp (disch := omega) [go_sem, -getElem?_pos, -List.map_take, -List.map_drop, List.getElem?_cons_zero, List.getElem?_cons_succ, Go.IntWalk.iteOmega, Go.IntWalk.toNatUp, Go.IntWalk.i64_in, Go.IntWalk.u8_in, Go.IntWalk.i64_quo, Go.IntWalk.u8_quo, Go.IntWalk.rem_in, hk, gr, hrl, hz, show k * 9 + 5 + 1 ≤ rules.length * 9 by omega, show k * 9 + 5 < rules.length * 9 by omega]
    refine IWp.block ?_
    refine IWp.seq ?_
    refine IWp.run [2, 3, 11, 12, 36, 52] ?_
    simp (disch := omega) [go_sem, -getElem?_pos, -List.map_take, -List.map_drop, List.getElem?_cons_zero, List.getElem?_cons_succ, Go.IntWalk.iteOmega, Go.IntWalk.toNatUp, Go.IntWalk.i64_in, Go.IntWalk.u8_in, Go.IntWalk.i64_quo, Go.IntWalk.u8_quo, Go.IntWalk.rem_in, hk, gr, hrl, hz, show k * 9 + 5 + 1 ≤ rules.length * 9 by omega, show k * 9 + 5 < rules.length * 9 by omega]
    refine IWp.cond ?_
    simp (disch := omega) [go_sem, -getElem?_pos, -List.map_take, -List.map_drop, List.getElem?_cons_zero, List.getElem?_cons_succ, Go.IntWalk.iteOmega, Go.IntWalk.toNatUp, Go.IntWalk.i64_in, Go.IntWalk.u8_in, Go.IntWalk.i64_quo, Go.IntWalk.u8_quo, Go.IntWalk.rem_in, hk, gr, hrl, hz, show k * 9 + 5 + 1 ≤ rules.length * 9 by omega, show k * 9 + 5 < rules.length * 9 by omega]
    refine IWp.seq ?_
    refine IWp.run [2, 3, 11, 12, 36, 59] ?_
    simp (disch := omega) [go_sem, -getElem?_pos, -List.map_take, -List.map_drop, List.getElem?_cons_zero, List.getElem?_cons_succ, Go.IntWalk.iteOmega, Go.IntWalk.toNatUp, Go.IntWalk.i64_in, Go.IntWalk.u8_in, Go.IntWalk.i64_quo, Go.IntWalk.u8_quo, Go.IntWalk.rem_in, hk, gr, hrl, hz, show k * 9 + 5 + 1 ≤ rules.length * 9 by omega, show k * 9 + 5 < rules.length * 9 by omega]
    refine IWp.cond ?_
    simp (disch := omega) [go_sem, -getElem?_pos, -List.map_take, -List.map_drop, List.getElem?_cons_zero, List.getElem?_cons_succ, Go.IntWalk.iteOmega, Go.IntWalk.toNatUp, Go.IntWalk.i64_in, Go.IntWalk.u8_in, Go.IntWalk.i64_quo, Go.IntWalk.u8_quo, Go.IntWalk.rem_in, hk, gr, hrl, hz, show k * 9 + 5 + 1 ≤ rules.length * 9 by omega, show k * 9 + 5 < rules.length * 9 by omega]
    refine IWp.seq ?_
    refine IWp.run [2, 3, 11, 12, 36, 65] ?_
    simp (disch := omega) [go_sem, -getElem?_pos, -List.map_take, -List.map_drop, List.getElem?_cons_zero, List.getElem?_cons_succ, Go.IntWalk.iteOmega, Go.IntWalk.toNatUp, Go.IntWalk.i64_in, Go.IntWalk.u8_in, Go.IntWalk.i64_quo, Go.IntWalk.u8_quo, Go.IntWalk.rem_in, hk, gr, hrl, hz, show k * 9 + 5 + 1 ≤ rules.length * 9 by omega, show k * 9 + 5 < rules.length * 9 by omega]
    refine IWp.cond ?_
    simp (disch := omega) [go_sem, -getElem?_pos, -List.map_take, -List.map_drop, List.getElem?_cons_zero, List.getElem?_cons_succ, Go.IntWalk.iteOmega, Go.IntWalk.toNatUp, Go.IntWalk.i64_in, Go.IntWalk.u8_in, Go.IntWalk.i64_quo, Go.IntWalk.u8_quo, Go.IntWalk.rem_in, hk, gr, hrl, hz, show k * 9 + 5 + 1 ≤ rules.length * 9 by omega, show k * 9 + 5 < rules.length * 9 by omega]
    refine IWp.seq ?_
    refine IWp.run [2, 3, 11, 12, 36, 71] ?_
    simp (disch := omega) [go_sem, -getElem?_pos, -List.map_take, -List.map_drop, List.getElem?_cons_zero, List.getElem?_cons_succ, Go.IntWalk.iteOmega, Go.IntWalk.toNatUp, Go.IntWalk.i64_in, Go.IntWalk.u8_in, Go.IntWalk.i64_quo, Go.IntWalk.u8_quo, Go.IntWalk.rem_in, hk, gr, hrl, hz, show k * 9 + 5 + 1 ≤ rules.length * 9 by omega, show k * 9 + 5 < rules.length * 9 by omega]
    refine IWp.cond ?_
    simp (disch := omega) [go_sem, -getElem?_pos, -List.map_take, -List.map_drop, List.getElem?_cons_zero, List.getElem?_cons_succ, Go.IntWalk.iteOmega, Go.IntWalk.toNatUp, Go.IntWalk.i64_in, Go.IntWalk.u8_in, Go.IntWalk.i64_quo, Go.IntWalk.u8_quo, Go.IntWalk.rem_in, hk, gr, hrl, hz, show k * 9 + 5 + 1 ≤ rules.length * 9 by omega, show k * 9 + 5 < rules.length * 9 by omega]
    refine IWp.seq ?_
    refine IWp.run [2, 3, 11, 12, 36, 77] ?_
    simp (disch := omega) [go_sem, -getElem?_pos, -List.map_take, -List.map_drop, List.getElem?_cons_zero, List.getElem?_cons_succ, Go.IntWalk.iteOmega, Go.IntWalk.toNatUp, Go.IntWalk.i64_in, Go.IntWalk.u8_in, Go.IntWalk.i64_quo, Go.IntWalk.u8_quo, Go.IntWalk.rem_in, hk, gr, hrl, hz, show k * 9 + 5 + 1 ≤ rules.length * 9 by omega, show k * 9 + 5 < rules.length * 9 by omega]
    refine IWp.cond ?_
    simp (disch := omega) [go_sem, -getElem?_pos, -List.map_take, -List.map_drop, List.getElem?_cons_zero, List.getElem?_cons_succ, Go.IntWalk.iteOmega, Go.IntWalk.toNatUp, Go.IntWalk.i64_in, Go.IntWalk.u8_in, Go.IntWalk.i64_quo, Go.IntWalk.u8_quo, Go.IntWalk.rem_in, hk, gr, hrl, hz, show k * 9 + 5 + 1 ≤ rules.length * 9 by omega, show k * 9 + 5 < rules.length * 9 by omega]
    refine IWp.seq ?_
    refine IWp.run [2, 3, 11, 12, 36, 83] ?_
    simp (disch := omega) [go_sem, -getElem?_pos, -List.map_take, -List.map_drop, List.getElem?_cons_zero, List.getElem?_cons_succ, Go.IntWalk.iteOmega, Go.IntWalk.toNatUp, Go.IntWalk.i64_in, Go.IntWalk.u8_in, Go.IntWalk.i64_quo, Go.IntWalk.u8_quo, Go.IntWalk.rem_in, hk, gr, hrl, hz, show k * 9 + 5 + 1 ≤ rules.length * 9 by omega, show k * 9 + 5 < rules.length * 9 by omega]
    refine IWp.cond ?_
    simp (disch := omega) [go_sem, -getElem?_pos, -List.map_take, -List.map_drop, List.getElem?_cons_zero, List.getElem?_cons_succ, Go.IntWalk.iteOmega, Go.IntWalk.toNatUp, Go.IntWalk.i64_in, Go.IntWalk.u8_in, Go.IntWalk.i64_quo, Go.IntWalk.u8_quo, Go.IntWalk.rem_in, hk, gr, hrl, hz, show k * 9 + 5 + 1 ≤ rules.length * 9 by omega, show k * 9 + 5 < rules.length * 9 by omega]
    refine IWp.run [11] ?_
    simp (disch := omega) [go_sem, -getElem?_pos, -List.map_take, -List.map_drop, List.getElem?_cons_zero, List.getElem?_cons_succ, Go.IntWalk.iteOmega, Go.IntWalk.toNatUp, Go.IntWalk.i64_in, Go.IntWalk.u8_in, Go.IntWalk.i64_quo, Go.IntWalk.u8_quo, Go.IntWalk.rem_in, hk, gr, hrl, hz, show k * 9 + 5 + 1 ≤ rules.length * 9 by omega, show k * 9 + 5 < rules.length * 9 by omega]
  · have hz := hZset 6 (.int .u8 (IntKind.u8.wrap n')) { rules[k] with prio := IntKind.u8.wrap n' } (by omega) rfl rfl
    try simp only [Nat.add_zero] at hz
    refine IWp.seq ?_
    refine IWp.run [2, 3, 11, 12, 36] ?_
    simp (disch := omega) [go_sem, -getElem?_pos, -List.map_take, -List.map_drop, List.getElem?_cons_zero, List.getElem?_cons_succ, Go.IntWalk.iteOmega, Go.IntWalk.toNatUp, Go.IntWalk.i64_in, Go.IntWalk.u8_in, Go.IntWalk.i64_quo, Go.IntWalk.u8_quo, Go.IntWalk.rem_in, hk, gr, hrl, hz, show k * 9 + 6 + 1 ≤ rules.length * 9 by omega, show k * 9 + 6 < rules.length * 9 by omega]
    refine IWp.block ?_
    refine IWp.seq ?_
    refine IWp.run [2, 3, 11, 12, 36, 52] ?_
    simp (disch := omega) [go_sem, -getElem?_pos, -List.map_take, -List.map_drop, List.getElem?_cons_zero, List.getElem?_cons_succ, Go.IntWalk.iteOmega, Go.IntWalk.toNatUp, Go.IntWalk.i64_in, Go.IntWalk.u8_in, Go.IntWalk.i64_quo, Go.IntWalk.u8_quo, Go.IntWalk.rem_in, hk, gr, hrl, hz, show k * 9 + 6 + 1 ≤ rules.length * 9 by omega, show k * 9 + 6 < rules.length * 9 by omega]
    refine IWp.cond ?_
    simp (disch := omega) [go_sem, -getElem?_pos, -List.map_take, -List.map_drop, List.getElem?_cons_zero, List.getElem?_cons_succ, Go.IntWalk.iteOmega, Go.IntWalk.toNatUp, Go.IntWalk.i64_in, Go.IntWalk.u8_in, Go.IntWalk.i64_quo, Go.IntWalk.u8_quo, Go.IntWalk.rem_in, hk, gr, hrl, hz, show k * 9 + 6 + 1 ≤ rules.length * 9 by omega, show k * 9 + 6 < rules.length * 9 by omega]
    refine IWp.seq ?_
    refine IWp.run [2, 3, 11, 12, 36, 59] ?_
    simp (disch := omega) [go_sem, -getElem?_pos, -List.map_take, -List.map_drop, List.getElem?_cons_zero, List.getElem?_cons_succ, Go.IntWalk.iteOmega, Go.IntWalk.toNatUp, Go.IntWalk.i64_in, Go.IntWalk.u8_in, Go.IntWalk.i64_quo, Go.IntWalk.u8_quo, Go.IntWalk.rem_in, hk, gr, hrl, hz, show k * 9 + 6 + 1 ≤ rules.length * 9 by omega, show k * 9 + 6 < rules.length * 9 by omega]
    refine IWp.cond ?_
    simp (disch := omega) [go_sem, -getElem?_pos, -List.map_take, -List.map_drop, List.getElem?_cons_zero, List.getElem?_cons_succ, Go.IntWalk.iteOmega, Go.IntWalk.toNatUp, Go.IntWalk.i64_in, Go.IntWalk.u8_in, Go.IntWalk.i64_quo, Go.IntWalk.u8_quo, Go.IntWalk.rem_in, hk, gr, hrl, hz, show k * 9 + 6 + 1 ≤ rules.length * 9 by omega, show k * 9 + 6 < rules.length * 9 by omega]
    refine IWp.seq ?_
    refine IWp.run [2, 3, 11, 12, 36, 65] ?_
    simp (disch := omega) [go_sem, -getElem?_pos, -List.map_take, -List.map_drop, List.getElem?_cons_zero, List.getElem?_cons_succ, Go.IntWalk.iteOmega, Go.IntWalk.toNatUp, Go.IntWalk.i64_in, Go.IntWalk.u8_in, Go.IntWalk.i64_quo, Go.IntWalk.u8_quo, Go.IntWalk.rem_in, hk, gr, hrl, hz, show k * 9 + 6 + 1 ≤ rules.length * 9 by omega, show k * 9 + 6 < rules.length * 9 by omega]
    refine IWp.cond ?_
    simp (disch := omega) [go_sem, -getElem?_pos, -List.map_take, -List.map_drop, List.getElem?_cons_zero, List.getElem?_cons_succ, Go.IntWalk.iteOmega, Go.IntWalk.toNatUp, Go.IntWalk.i64_in, Go.IntWalk.u8_in, Go.IntWalk.i64_quo, Go.IntWalk.u8_quo, Go.IntWalk.rem_in, hk, gr, hrl, hz, show k * 9 + 6 + 1 ≤ rules.length * 9 by omega, show k * 9 + 6 < rules.length * 9 by omega]
    refine IWp.seq ?_
    refine IWp.run [2, 3, 11, 12, 36, 71] ?_
    simp (disch := omega) [go_sem, -getElem?_pos, -List.map_take, -List.map_drop, List.getElem?_cons_zero, List.getElem?_cons_succ, Go.IntWalk.iteOmega, Go.IntWalk.toNatUp, Go.IntWalk.i64_in, Go.IntWalk.u8_in, Go.IntWalk.i64_quo, Go.IntWalk.u8_quo, Go.IntWalk.rem_in, hk, gr, hrl, hz, show k * 9 + 6 + 1 ≤ rules.length * 9 by omega, show k * 9 + 6 < rules.length * 9 by omega]
    refine IWp.cond ?_
    simp (disch := omega) [go_sem, -getElem?_pos, -List.map_take, -List.map_drop, List.getElem?_cons_zero, List.getElem?_cons_succ, Go.IntWalk.iteOmega, Go.IntWalk.toNatUp, Go.IntWalk.i64_in, Go.IntWalk.u8_in, Go.IntWalk.i64_quo, Go.IntWalk.u8_quo, Go.IntWalk.rem_in, hk, gr, hrl, hz, show k * 9 + 6 + 1 ≤ rules.length * 9 by omega, show k * 9 + 6 < rules.length * 9 by omega]
    refine IWp.seq ?_
    refine IWp.run [2, 3, 11, 12, 36, 77] ?_
    simp (disch := omega) [go_sem, -getElem?_pos, -List.map_take, -List.map_drop, List.getElem?_cons_zero, List.getElem?_cons_succ, Go.IntWalk.iteOmega, Go.IntWalk.toNatUp, Go.IntWalk.i64_in, Go.IntWalk.u8_in, Go.IntWalk.i64_quo, Go.IntWalk.u8_quo, Go.IntWalk.rem_in, hk, gr, hrl, hz, show k * 9 + 6 + 1 ≤ rules.length * 9 by omega, show k * 9 + 6 < rules.length * 9 by omega]
    refine IWp.cond ?_
    simp (disch := omega) [go_sem, -getElem?_pos, -List.map_take, -List.map_drop, List.getElem?_cons_zero, List.getElem?_cons_succ, Go.IntWalk.iteOmega, Go.IntWalk.toNatUp, Go.IntWalk.i64_in, Go.IntWalk.u8_in, Go.IntWalk.i64_quo, Go.IntWalk.u8_quo, Go.IntWalk.rem_in, hk, gr, hrl, hz, show k * 9 + 6 + 1 ≤ rules.length * 9 by omega, show k * 9 + 6 < rules.length * 9 by omega]
    refine IWp.seq ?_
    refine IWp.run [2, 3, 11, 12, 36, 83] ?_
    simp (disch := omega) [go_sem, -getElem?_pos, -List.map_take, -List.map_drop, List.getElem?_cons_zero, List.getElem?_cons_succ, Go.IntWalk.iteOmega, Go.IntWalk.toNatUp, Go.IntWalk.i64_in, Go.IntWalk.u8_in, Go.IntWalk.i64_quo, Go.IntWalk.u8_quo, Go.IntWalk.rem_in, hk, gr, hrl, hz, show k * 9 + 6 + 1 ≤ rules.length * 9 by omega, show k * 9 + 6 < rules.length * 9 by omega]
    refine IWp.cond ?_
    simp (disch := omega) [go_sem, -getElem?_pos, -List.map_take, -List.map_drop, List.getElem?_cons_zero, List.getElem?_cons_succ, Go.IntWalk.iteOmega, Go.IntWalk.toNatUp, Go.IntWalk.i64_in, Go.IntWalk.u8_in, Go.IntWalk.i64_quo, Go.IntWalk.u8_quo, Go.IntWalk.rem_in, hk, gr, hrl, hz, show k * 9 + 6 + 1 ≤ rules.length * 9 by omega, show k * 9 + 6 < rules.length * 9 by omega]
    refine IWp.seq ?_
    refine IWp.run [2, 3, 11, 12, 89] ?_
    simp (disch := omega) [go_sem, -getElem?_pos, -List.map_take, -List.map_drop, List.getElem?_cons_zero, List.getElem?_cons_succ, Go.IntWalk.iteOmega, Go.IntWalk.toNatUp, Go.IntWalk.i64_in, Go.IntWalk.u8_in, Go.IntWalk.i64_quo, Go.IntWalk.u8_quo, Go.IntWalk.rem_in, hk, gr, hrl, hz, show k * 9 + 6 + 1 ≤ rules.length * 9 by omega, show k * 9 + 6 < rules.length * 9 by omega]
    refine IWp.cond ?_
    simp (disch := omega) [go_sem, -getElem?_pos, -List.map_take, -List.map_drop, List.getElem?_cons_zero, List.getElem?_cons_succ, Go.IntWalk.iteOmega, Go.IntWalk.toNatUp, Go.IntWalk.i64_in, Go.IntWalk.u8_in, Go.IntWalk.i64_quo, Go.IntWalk.u8_quo, Go.IntWalk.rem_in, hk, gr, hrl, hz, show k * 9 + 6 + 1 ≤ rules.length * 9 by omega, show k * 9 + 6 < rules.length * 9 by omega]
    refine IWp.run [11] ?_
    simp (disch := omega) [go_sem, -getElem?_pos, -List.map_take, -List.map_drop, List.getElem?_cons_zero, List.getElem?_cons_succ, Go.IntWalk.iteOmega, Go.IntWalk.toNatUp, Go.IntWalk.i64_in, Go.IntWalk.u8_in, Go.IntWalk.i64_quo, Go.IntWalk.u8_quo, Go.IntWalk.rem_in, hk, gr, hrl, hz, show k * 9 + 6 + 1 ≤ rules.length * 9 by omega, show k * 9 + 6 < rules.length * 9 by omega]
  · obtain ⟨r0, hr0⟩ : ∃ r0, r0 = rules[k] := ⟨_, rfl⟩
    have hst0 : r0.stages.length ≤ 5000 := by rw [hr0]; exact hstg _ (List.getElem_mem hkl)
    have hget : (rowR rules)[k * 9 + 8]? = some (frow 2 0 (r0.stages.map Stage.val)) := by
      rw [show (rowR rules)[k * 9 + 8]? = (rules[k].cells)[8]? from flat_get Rule.len9 rules k 8 hkl (by decide), hr0]; rfl
    obtain ⟨⟨va, K3, vb, K4, e3, e4, o3, o4, q, q1, rfl, q3⟩, ⟨va', K3', vb', K4', e3', e4', o3', o4', q', q1', rfl, q3'⟩⟩ := app_two (P := Try.prog) (t := 47) (e := 55) (sz := 2) (by_ := 16) (z := .agg ⟨[.int .i64 0, .int .u8 0]⟩) (by kernel_rfl) (by kernel_rfl) (by kernel_rfl) (by kernel_rfl) rfl K (r0.stages.map Stage.val) (frow 2 0 (r0.stages.map Stage.val)) (Stage.val ⟨n', what / 8 % 5⟩) [.int .i64 n', .int .u8 (what / 8 % 5)] (fun u hu => by obtain ⟨r, _, rfl⟩ := List.mem_map.1 hu; rfl) (fun K => by rw [irow_frow]; simp) (one0_row (sz := 2) fun u hu => by obtain ⟨r, _, rfl⟩ := List.mem_map.1 hu; simp [Stage.val, Stage.cells, Value.cells, one0]) rfl rfl (by simp [one0]) (by simp; omega) (by simp; omega)
    have hcbK := Heap.lt_of_get g3
    have hsbK := Heap.lt_of_get gs
    have hrbK := Heap.lt_of_get gr
    have hlen : (rowR (rules.take k)).length = k * 9 := by rw [rowR_len, List.length_take, Nat.min_eq_left (by omega)]
    have hsplit : rowR rules = rowR (rules.take k) ++ (r0.cells ++ rowR (rules.drop (k + 1))) := by
      conv => lhs; rw [← List.take_append_drop k rules, List.drop_eq_getElem_cons hkl, ← hr0]
      unfold rowR
      rw [List.flatMap_append, List.flatMap_cons]
    have hZ7 : ∀ (K4 : Heap) (q : Nat), Old K K4 → K.next ≤ q → K4.get q = some ⟨(r0.stages.map Stage.val ++ [Stage.val ⟨n', what / 8 % 5⟩]).flatMap (fun u => u.cells.toList), true⟩ → Z (K4.set rb (splice (rowR rules) (k * 9 + 8) [.slice (some ⟨q, 0, some 2⟩) (r0.stages.length + 1) 1])) := fun K4 q o4 q1 q3 => by
      rw [hZ]
      refine ⟨by rw [get_set, if_neg (by omega)]; exact o4.1 cb hcbK, by rw [get_set, if_neg (by omega)]; exact o4.1 sb hsbK, _, rules.take k ++ { r0 with stages := r0.stages ++ [⟨n', what / 8 % 5⟩] } :: rules.drop (k + 1), by rw [get_set, if_pos rfl, o4.1 rb hrbK, gr]; rfl, ?_, by simp; omega, fun r hr => ?_⟩
      · rw [hsplit, ← hlen, splice_pre, splice_post _ _ _ _ (show 8 + 1 ≤ r0.cells.length from Nat.le_refl 9)]
        refine frzE_at ?_ _ _
        refine .cons (.same _) (.cons (.same _) (.cons (.same _) (.cons (.same _) (.cons (.same _) (.cons (.same _) (.cons (.same _) (.cons (.same _) (.cons ?_ .nil))))))))
        refine frz_lit (b := q) (sz := 2) (n := r0.stages.length + 1) (c := 1) (cs := (r0.stages.map Stage.val ++ [Stage.val ⟨n', what / 8 % 5⟩]).flatMap (fun u => u.cells.toList)) ((r0.stages ++ [(⟨n', what / 8 % 5⟩ : Stage)]).map Stage.val) ?_ ?_ ?_ ?_ rfl
        · rw [get_set, if_neg (by omega)]; exact q3
        · rw [List.map_append]; rfl
        · intro u hu
          obtain ⟨r, _, rfl⟩ := List.mem_map.1 hu; rfl
        · simp
      · rcases List.mem_append.1 hr with hr | hr
        · have := hstg r (List.mem_of_mem_take hr); omega
        · rcases List.mem_cons.1 hr with rfl | hr
          · simp; omega
          · have := hstg r (List.mem_of_mem_drop hr); omega
    have hz1 := hZ7 K4 q o4 q1 q3
    have hz2 := hZ7 K4' q' o4' q1' q3'
    have gr3 := (o3.1 rb hrbK).trans gr
    have gr4 := (o4.1 rb hrbK).trans gr
    have gr3' := (o3'.1 rb hrbK).trans gr
    have gr4' := (o4'.1 rb hrbK).trans gr
    have gra := (show (K.alloc [.int .i64 n', .int .u8 (what / 8 % 5)]).get rb = K.get rb from Heap.get_alloc_lt _ _ _ hrbK).trans gr
    simp only [List.length_map] at e4 e4' hz1 hz2
    have hx1 : ¬ rb = K3.next := by have := o3.2; omega
    refine IWp.seq ?_
    refine IWp.run [2, 3, 11, 12, 36] ?_
    simp (disch := omega) [go_sem, -getElem?_pos, -List.map_take, -List.map_drop, List.getElem?_cons_zero, List.getElem?_cons_succ, Go.IntWalk.iteOmega, Go.IntWalk.toNatUp, Go.IntWalk.i64_in, Go.IntWalk.u8_in, Go.IntWalk.i64_quo, Go.IntWalk.u8_quo, Go.IntWalk.rem_in, hk, gr, hrl, hget, e3, e4, e3', e4', gr3, gr4, gr3', gr4', gra, hz1, hz2, hx1, show k * 9 + 8 + 1 ≤ rules.length * 9 by omega, show k * 9 + 8 < rules.length * 9 by omega]
    refine IWp.block ?_
    refine IWp.seq ?_
    refine IWp.run [2, 3, 11, 12, 36, 52] ?_
    simp (disch := omega) [go_sem, -getElem?_pos, -List.map_take, -List.map_drop, List.getElem?_cons_zero, List.getElem?_cons_succ, Go.IntWalk.iteOmega, Go.IntWalk.toNatUp, Go.IntWalk.i64_in, Go.IntWalk.u8_in, Go.IntWalk.i64_quo, Go.IntWalk.u8_quo, Go.IntWalk.rem_in, hk, gr, hrl, hget, e3, e4, e3', e4', gr3, gr4, gr3', gr4', gra, hz1, hz2, hx1, show k * 9 + 8 + 1 ≤ rules.length * 9 by omega, show k * 9 + 8 < rules.length * 9 by omega]
    refine IWp.cond ?_
    simp (disch := omega) [go_sem, -getElem?_pos, -List.map_take, -List.map_drop, List.getElem?_cons_zero, List.getElem?_cons_succ, Go.IntWalk.iteOmega, Go.IntWalk.toNatUp, Go.IntWalk.i64_in, Go.IntWalk.u8_in, Go.IntWalk.i64_quo, Go.IntWalk.u8_quo, Go.IntWalk.rem_in, hk, gr, hrl, hget, e3, e4, e3', e4', gr3, gr4, gr3', gr4', gra, hz1, hz2, hx1, show k * 9 + 8 + 1 ≤ rules.length * 9 by omega, show k * 9 + 8 < rules.length * 9 by omega]
    refine IWp.seq ?_
    refine IWp.run [2, 3, 11, 12, 36, 59] ?_
    simp (disch := omega) [go_sem, -getElem?_pos, -List.map_take, -List.map_drop, List.getElem?_cons_zero, List.getElem?_cons_succ, Go.IntWalk.iteOmega, Go.IntWalk.toNatUp, Go.IntWalk.i64_in, Go.IntWalk.u8_in, Go.IntWalk.i64_quo, Go.IntWalk.u8_quo, Go.IntWalk.rem_in, hk, gr, hrl, hget, e3, e4, e3', e4', gr3, gr4, gr3', gr4', gra, hz1, hz2, hx1, show k * 9 + 8 + 1 ≤ rules.length * 9 by omega, show k * 9 + 8 < rules.length * 9 by omega]
    refine IWp.cond ?_
    simp (disch := omega) [go_sem, -getElem?_pos, -List.map_take, -List.map_drop, List.getElem?_cons_zero, List.getElem?_cons_succ, Go.IntWalk.iteOmega, Go.IntWalk.toNatUp, Go.IntWalk.i64_in, Go.IntWalk.u8_in, Go.IntWalk.i64_quo, Go.IntWalk.u8_quo, Go.IntWalk.rem_in, hk, gr, hrl, hget, e3, e4, e3', e4', gr3, gr4, gr3', gr4', gra, hz1, hz2, hx1, show k * 9 + 8 + 1 ≤ rules.length * 9 by omega, show k * 9 + 8 < rules.length * 9 by omega]
    refine IWp.seq ?_
    refine IWp.run [2, 3, 11, 12, 36, 65] ?_
    simp (disch := omega) [go_sem, -getElem?_pos, -List.map_take, -List.map_drop, List.getElem?_cons_zero, List.getElem?_cons_succ, Go.IntWalk.iteOmega, Go.IntWalk.toNatUp, Go.IntWalk.i64_in, Go.IntWalk.u8_in, Go.IntWalk.i64_quo, Go.IntWalk.u8_quo, Go.IntWalk.rem_in, hk, gr, hrl, hget, e3, e4, e3', e4', gr3, gr4, gr3', gr4', gra, hz1, hz2, hx1, show k * 9 + 8 + 1 ≤ rules.length * 9 by omega, show k * 9 + 8 < rules.length * 9 by omega]
    refine IWp.cond ?_
    simp (disch := omega) [go_sem, -getElem?_pos, -List.map_take, -List.map_drop, List.getElem?_cons_zero, List.getElem?_cons_succ, Go.IntWalk.iteOmega, Go.IntWalk.toNatUp, Go.IntWalk.i64_in, Go.IntWalk.u8_in, Go.IntWalk.i64_quo, Go.IntWalk.u8_quo, Go.IntWalk.rem_in, hk, gr, hrl, hget, e3, e4, e3', e4', gr3, gr4, gr3', gr4', gra, hz1, hz2, hx1, show k * 9 + 8 + 1 ≤ rules.length * 9 by omega, show k * 9 + 8 < rules.length * 9 by omega]
    refine IWp.seq ?_
    refine IWp.run [2, 3, 11, 12, 36, 71] ?_
    simp (disch := omega) [go_sem, -getElem?_pos, -List.map_take, -List.map_drop, List.getElem?_cons_zero, List.getElem?_cons_succ, Go.IntWalk.iteOmega, Go.IntWalk.toNatUp, Go.IntWalk.i64_in, Go.IntWalk.u8_in, Go.IntWalk.i64_quo, Go.IntWalk.u8_quo, Go.IntWalk.rem_in, hk, gr, hrl, hget, e3, e4, e3', e4', gr3, gr4, gr3', gr4', gra, hz1, hz2, hx1, show k * 9 + 8 + 1 ≤ rules.length * 9 by omega, show k * 9 + 8 < rules.length * 9 by omega]
    refine IWp.cond ?_
    simp (disch := omega) [go_sem, -getElem?_pos, -List.map_take, -List.map_drop, List.getElem?_cons_zero, List.getElem?_cons_succ, Go.IntWalk.iteOmega, Go.IntWalk.toNatUp, Go.IntWalk.i64_in, Go.IntWalk.u8_in, Go.IntWalk.i64_quo, Go.IntWalk.u8_quo, Go.IntWalk.rem_in, hk, gr, hrl, hget, e3, e4, e3', e4', gr3, gr4, gr3', gr4', gra, hz1, hz2, hx1, show k * 9 + 8 + 1 ≤ rules.length * 9 by omega, show k * 9 + 8 < rules.length * 9 by omega]
    refine IWp.seq ?_
    refine IWp.run [2, 3, 11, 12, 36, 77] ?_
    simp (disch := omega) [go_sem, -getElem?_pos, -List.map_take, -List.map_drop, List.getElem?_cons_zero, List.getElem?_cons_succ, Go.IntWalk.iteOmega, Go.IntWalk.toNatUp, Go.IntWalk.i64_in, Go.IntWalk.u8_in, Go.IntWalk.i64_quo, Go.IntWalk.u8_quo, Go.IntWalk.rem_in, hk, gr, hrl, hget, e3, e4, e3', e4', gr3, gr4, gr3', gr4', gra, hz1, hz2, hx1, show k * 9 + 8 + 1 ≤ rules.length * 9 by omega, show k * 9 + 8 < rules.length * 9 by omega]
    refine IWp.cond ?_
    simp (disch := omega) [go_sem, -getElem?_pos, -List.map_take, -List.map_drop, List.getElem?_cons_zero, List.getElem?_cons_succ, Go.IntWalk.iteOmega, Go.IntWalk.toNatUp, Go.IntWalk.i64_in, Go.IntWalk.u8_in, Go.IntWalk.i64_quo, Go.IntWalk.u8_quo, Go.IntWalk.rem_in, hk, gr, hrl, hget, e3, e4, e3', e4', gr3, gr4, gr3', gr4', gra, hz1, hz2, hx1, show k * 9 + 8 + 1 ≤ rules.length * 9 by omega, show k * 9 + 8 < rules.length * 9 by omega]
    refine IWp.seq ?_
    refine IWp.run [2, 3, 11, 12, 36, 83] ?_
    simp (disch := omega) [go_sem, -getElem?_pos, -List.map_take, -List.map_drop, List.getElem?_cons_zero, List.getElem?_cons_succ, Go.IntWalk.iteOmega, Go.IntWalk.toNatUp, Go.IntWalk.i64_in, Go.IntWalk.u8_in, Go.IntWalk.i64_quo, Go.IntWalk.u8_quo, Go.IntWalk.rem_in, hk, gr, hrl, hget, e3, e4, e3', e4', gr3, gr4, gr3', gr4', gra, hz1, hz2, hx1, show k * 9 + 8 + 1 ≤ rules.length * 9 by omega, show k * 9 + 8 < rules.length * 9 by omega]
    refine IWp.cond ?_
    simp (disch := omega) [go_sem, -getElem?_pos, -List.map_take, -List.map_drop, List.getElem?_cons_zero, List.getElem?_cons_succ, Go.IntWalk.iteOmega, Go.IntWalk.toNatUp, Go.IntWalk.i64_in, Go.IntWalk.u8_in, Go.IntWalk.i64_quo, Go.IntWalk.u8_quo, Go.IntWalk.rem_in, hk, gr, hrl, hget, e3, e4, e3', e4', gr3, gr4, gr3', gr4', gra, hz1, hz2, hx1, show k * 9 + 8 + 1 ≤ rules.length * 9 by omega, show k * 9 + 8 < rules.length * 9 by omega]
    refine IWp.seq ?_
    refine IWp.run [2, 3, 11, 12, 89] ?_
    simp (disch := omega) [go_sem, -getElem?_pos, -List.map_take, -List.map_drop, List.getElem?_cons_zero, List.getElem?_cons_succ, Go.IntWalk.iteOmega, Go.IntWalk.toNatUp, Go.IntWalk.i64_in, Go.IntWalk.u8_in, Go.IntWalk.i64_quo, Go.IntWalk.u8_quo, Go.IntWalk.rem_in, hk, gr, hrl, hget, e3, e4, e3', e4', gr3, gr4, gr3', gr4', gra, hz1, hz2, hx1, show k * 9 + 8 + 1 ≤ rules.length * 9 by omega, show k * 9 + 8 < rules.length * 9 by omega]
    refine IWp.cond ?_
    simp (disch := omega) [go_sem, -getElem?_pos, -List.map_take, -List.map_drop, List.getElem?_cons_zero, List.getElem?_cons_succ, Go.IntWalk.iteOmega, Go.IntWalk.toNatUp, Go.IntWalk.i64_in, Go.IntWalk.u8_in, Go.IntWalk.i64_quo, Go.IntWalk.u8_quo, Go.IntWalk.rem_in, hk, gr, hrl, hget, e3, e4, e3', e4', gr3, gr4, gr3', gr4', gra, hz1, hz2, hx1, show k * 9 + 8 + 1 ≤ rules.length * 9 by omega, show k * 9 + 8 < rules.length * 9 by omega]
    refine IWp.run [11] ?_
    simp (disch := omega) [go_sem, -getElem?_pos, -List.map_take, -List.map_drop, List.getElem?_cons_zero, List.getElem?_cons_succ, Go.IntWalk.iteOmega, Go.IntWalk.toNatUp, Go.IntWalk.i64_in, Go.IntWalk.u8_in, Go.IntWalk.i64_quo, Go.IntWalk.u8_quo, Go.IntWalk.rem_in, hk, gr, hrl, hget, e3, e4, e3', e4', gr3, gr4, gr3', gr4', gra, hz1, hz2, hx1, show k * 9 + 8 + 1 ≤ rules.length * 9 by omega, show k * 9 + 8 < rules.length * 9 by omega]

end Go.Proofs.Ytmiinclnpcokkaa.I
