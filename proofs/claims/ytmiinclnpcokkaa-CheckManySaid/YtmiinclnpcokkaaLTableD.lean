/- Tables: the bounds: the law's body. No condition. -/
import Derived.Test.YtmiinclnpcokkaaLTableC
import Derived.Test.YtmiinclnpcokkaaIApp2
namespace Go.Proofs.Ytmiinclnpcokkaa.I
open Go Go.RowKit
set_option linter.unusedVariables false
set_option linter.unusedSimpArgs false


theorem Rule.all1 (RS : List Rule) : ((RS.map Rule.val).flatMap fun u => u.cells.toList).all one0 = true := by
  rw [List.all_eq_true]
  intro x hx
  obtain ⟨u, hu, hx⟩ := List.mem_flatMap.1 hx
  obtain ⟨r, _, rfl⟩ := List.mem_map.1 hu
  simp [Rule.val, Rule.cells, Value.cells] at hx
  rcases hx with rfl | rfl | rfl | rfl | rfl | rfl | rfl | rfl | rfl <;> first | rfl | simp [one0_frow] | simp [one0]
theorem Rule.sz9 (RS : List Rule) : ∀ u ∈ RS.map Rule.val, u.cells.toList.length = 9 := fun u hu => by
  obtain ⟨r, _, rfl⟩ := List.mem_map.1 hu
  rfl
theorem rows_all1 (T : List (List Int)) : ((T.map (ints .i64)).flatMap fun u => u.cells.toList).all one0 = true := by
  rw [rows_flatI, List.all_eq_true]
  intro x hx
  obtain ⟨r, _, rfl⟩ := List.mem_map.1 hx
  simp [ints, one0_frow]
theorem rows_sz1 (T : List (List Int)) : ∀ u ∈ T.map (ints .i64), u.cells.toList.length = 1 := fun u hu => by
  obtain ⟨r, _, rfl⟩ := List.mem_map.1 hu
  rfl
theorem ints_all1 (L : List Int) : ((L.map (Value.int .i64)).flatMap fun u => u.cells.toList).all one0 = true := by
  rw [map_flat, List.all_eq_true]
  intro x hx
  obtain ⟨r, _, rfl⟩ := List.mem_map.1 hx
  simp [one0]

set_option maxHeartbeats 1000000 in
theorem tableBounds_law (H : Heap) (d : Draft) (rule : Int) (hw : d.wf) (w1 : 0 ≤ rule ∧ rule < 256) :
    IBody Try.prog 8 [d.val, .int .u8 rule] H fun v _ => v = .bool true := by
  by_cases hs : shortD d
  case neg =>
    have h1 := shortsF d hs
    simp only [Draft.cells] at h1
    refine IBody.of Try.func8 rfl (by rw [Try.ntmps8]; simp) ?_
    rw [Try.ntmps8]
    refine IWp.seq ?_
    refine IWp.run [1, 2] ?_
    simp [go_sem, -getElem?_pos, -List.map_take, -List.map_drop, List.getElem?_cons_zero, List.getElem?_cons_succ, Go.IntWalk.iteOmega, Go.IntWalk.toNatUp, Draft.val, Draft.cells]
    refine IWp.seq ?_
    refine IWp.seq ?_
    refine IWp.run [1, 2, 14] ?_
    simp [go_sem, -getElem?_pos, -List.map_take, -List.map_drop, List.getElem?_cons_zero, List.getElem?_cons_succ, Go.IntWalk.iteOmega, Go.IntWalk.toNatUp, Draft.val, Draft.cells]
    refine ICalls.then (gaps _) ?_
    try simp [go_sem, -getElem?_pos, -List.map_take, -List.map_drop, List.getElem?_cons_zero, List.getElem?_cons_succ, Go.IntWalk.iteOmega, Go.IntWalk.toNatUp, Draft.val, Draft.cells]
    refine ICalls.then (h1 _) ?_
    try simp [go_sem, -getElem?_pos, -List.map_take, -List.map_drop, List.getElem?_cons_zero, List.getElem?_cons_succ, Go.IntWalk.iteOmega, Go.IntWalk.toNatUp, Draft.val, Draft.cells]
    refine IWp.cond ?_
    simp [go_sem, -getElem?_pos, -List.map_take, -List.map_drop, List.getElem?_cons_zero, List.getElem?_cons_succ, Go.IntWalk.iteOmega, Go.IntWalk.toNatUp, Draft.val, Draft.cells]
    refine IWp.seq ?_
    refine IWp.run [4] ?_
    simp [go_sem, -getElem?_pos, -List.map_take, -List.map_drop, List.getElem?_cons_zero, List.getElem?_cons_succ, Go.IntWalk.iteOmega, Go.IntWalk.toNatUp, Draft.val, Draft.cells]
    refine ICalls.then (gaps _) ?_
    try simp [go_sem, -getElem?_pos, -List.map_take, -List.map_drop, List.getElem?_cons_zero, List.getElem?_cons_succ, Go.IntWalk.iteOmega, Go.IntWalk.toNatUp, Draft.val, Draft.cells]
    refine IWp.ret ?_
    simp [go_sem, -getElem?_pos, -List.map_take, -List.map_drop, List.getElem?_cons_zero, List.getElem?_cons_succ, Go.IntWalk.iteOmega, Go.IntWalk.toNatUp, Draft.val, Draft.cells, Try.results8]
  have h1 := shortsT d hs
  have h2 := fun K => make K d hw
  have hS := small_make hw
  obtain ⟨hk, htm, hR0, hR8⟩ := rule_in hw w1
  obtain ⟨oi, ho1, ho2⟩ := occ_in hw hk
  have hrows := rows_make hw
  simp only [Draft.val, Draft.cells, Config.val, Config.cells] at h1 h2
  generalize makeS d = c at *
  generalize rule % (c.rules.length : Int) = k at *
  have hl := hS.tab
  have hk1 := hk.1
  have hk2 := hk.2
  have q1 := (gapP_one c.table k (first_of_occ c.table k ho1 ho2)).1
  obtain ⟨r, r1, r2, r3, r4⟩ := delayAt_get hS hk
  have v1 := IntWalk.i64_in rule (by omega)
  have v2 := IntWalk.i64_in k (by omega)
  have hRne : c.rules ≠ [] := fun e => hR0 (by rw [e]; rfl)
  have cl := fun K => lateT K c hS k (by omega)
  have cp := fun K => gapT K c k (by omega) hS.rows
  have co := fun K => goneT K c hS k (by omega)
  have cw := fun K => waitT K c (by omega) (by omega)
  have hlate : lateS (gapP c.table k) c k = r.delay + 2 * gapP c.table k + waitN c := by unfold lateS; rw [if_pos hk, r2]
  have hgone : goneS (gapP c.table k) c k = gapP c.table k + waitN c := by unfold goneS; rw [if_pos hk]
  have hgi := gapP_in c.table k
  have hwl := waitN_le c (by omega) hl
  have hwn : (c.rules.length + 1) * c.table.length = waitN c := rfl
  have hwm : (c.rules.length + 1 + 1) * c.table.length = waitN c + c.table.length := by rw [Nat.add_mul (c.rules.length + 1) 1, hwn]; omega
  rw [if_pos ⟨hk1, hk2⟩] at cp
  rw [hlate] at cl
  rw [hgone] at co
  rw [hwn] at cw
  have hcap : c.rules.length + 1 ≤ 9 := by omega
  simp only [Config.val, Config.cells] at cl cp co cw
  generalize gapP c.table k = g at *
  generalize waitN c = W at *
  have hg := Heap.get_alloc_new (H.alloc d.cells) c.cells
  simp only [Config.cells, Draft.cells, next_alloc] at hg
  have hr3 : k.toNat < c.rules.length := by omega
  refine IBody.of Try.func8 rfl (by rw [Try.ntmps8]; simp) ?_
  rw [Try.ntmps8]
  refine IWp.seq ?_
  refine IWp.run [1, 2] ?_
  simp [go_sem, -getElem?_pos, -List.map_take, -List.map_drop, List.getElem?_cons_zero, List.getElem?_cons_succ, Go.IntWalk.iteOmega, Go.IntWalk.toNatUp, Draft.val, Draft.cells, hg, v1, v2, htm, hRne, show ¬ (c.rules.length : Int) = 0 by omega]
  refine IWp.seq ?_
  refine IWp.seq ?_
  refine IWp.run [1, 2, 14] ?_
  simp [go_sem, -getElem?_pos, -List.map_take, -List.map_drop, List.getElem?_cons_zero, List.getElem?_cons_succ, Go.IntWalk.iteOmega, Go.IntWalk.toNatUp, Draft.val, Draft.cells, hg, v1, v2, htm, hRne, show ¬ (c.rules.length : Int) = 0 by omega]
  refine ICalls.then (gaps _) ?_
  try simp [go_sem, -getElem?_pos, -List.map_take, -List.map_drop, List.getElem?_cons_zero, List.getElem?_cons_succ, Go.IntWalk.iteOmega, Go.IntWalk.toNatUp, Draft.val, Draft.cells, hg, v1, v2, htm, hRne, show ¬ (c.rules.length : Int) = 0 by omega]
  refine ICalls.then (h1 _) ?_
  try simp [go_sem, -getElem?_pos, -List.map_take, -List.map_drop, List.getElem?_cons_zero, List.getElem?_cons_succ, Go.IntWalk.iteOmega, Go.IntWalk.toNatUp, Draft.val, Draft.cells, hg, v1, v2, htm, hRne, show ¬ (c.rules.length : Int) = 0 by omega]
  refine IWp.cond ?_
  simp [go_sem, -getElem?_pos, -List.map_take, -List.map_drop, List.getElem?_cons_zero, List.getElem?_cons_succ, Go.IntWalk.iteOmega, Go.IntWalk.toNatUp, Draft.val, Draft.cells, hg, v1, v2, htm, hRne, show ¬ (c.rules.length : Int) = 0 by omega]
  refine IWp.trim [1, 2] (IWp.skip ?_)
  simp [go_sem, -getElem?_pos, -List.map_take, -List.map_drop, List.getElem?_cons_zero, List.getElem?_cons_succ, Go.IntWalk.iteOmega, Go.IntWalk.toNatUp, Draft.val, Draft.cells, hg, v1, v2, htm, hRne, show ¬ (c.rules.length : Int) = 0 by omega]
  refine IWp.seq ?_
  refine IWp.run [1, 5] ?_
  simp [go_sem, -getElem?_pos, -List.map_take, -List.map_drop, List.getElem?_cons_zero, List.getElem?_cons_succ, Go.IntWalk.iteOmega, Go.IntWalk.toNatUp, Draft.val, Draft.cells, hg, v1, v2, htm, hRne, show ¬ (c.rules.length : Int) = 0 by omega]
  refine ICalls.then (h2 _) ?_
  try simp [go_sem, -getElem?_pos, -List.map_take, -List.map_drop, List.getElem?_cons_zero, List.getElem?_cons_succ, Go.IntWalk.iteOmega, Go.IntWalk.toNatUp, Draft.val, Draft.cells, hg, v1, v2, htm, hRne, show ¬ (c.rules.length : Int) = 0 by omega]
  refine IWp.seq ?_
  refine IWp.run [5, 6] ?_
  simp [go_sem, -getElem?_pos, -List.map_take, -List.map_drop, List.getElem?_cons_zero, List.getElem?_cons_succ, Go.IntWalk.iteOmega, Go.IntWalk.toNatUp, Draft.val, Draft.cells, hg, v1, v2, htm, hRne, show ¬ (c.rules.length : Int) = 0 by omega]
  refine IWp.seq ?_
  generalize H.next + 1 = cb at *
  generalize (H.alloc _).alloc _ = H1 at *
  clear h1 h2 hlate hgone hk htm r2 ho2
  obtain ⟨sigs, rules, table, b0, b1, b2, drain, pause, off, brk, log⟩ := c
  simp only at *
  obtain ⟨r0, R', hRc⟩ : ∃ r0 R', rules = r0 :: R' := List.exists_cons_of_ne_nil hRne
  obtain ⟨X, T', hTc⟩ : ∃ X T', table = X :: T' := by
    have := hS.tab0
    cases table with
    | nil => simp at this
    | cons X T' => exact ⟨_, _, rfl⟩
  have hX : X.length ≤ 32 := hrows X (by rw [hTc]; simp)
  have hcb := Heap.lt_of_get hg
  obtain ⟨H2, hH2⟩ : ∃ H2, H2 = H1.alloc [frow 2 0 (sigs.map Sig.val), frow 9 0 (rules.map Rule.val), frow 1 0 (table.map (ints .i64)), .int .i64 b0, .int .i64 b1, .int .i64 b2, .int .i64 drain, .int .i64 pause, .int .i64 off, .bool brk, .int .i64 log] := ⟨_, rfl⟩
  have hn2 : H2.next = H1.next + 1 := by rw [hH2]; rfl
  have g2 : H2.get H1.next = some ⟨[frow 2 0 (sigs.map Sig.val), frow 9 0 (rules.map Rule.val), frow 1 0 (table.map (ints .i64)), .int .i64 b0, .int .i64 b1, .int .i64 b2, .int .i64 drain, .int .i64 pause, .int .i64 off, .bool brk, .int .i64 log], true⟩ := by rw [hH2]; exact Heap.get_alloc_new _ _
  have k2 : H2.get cb = H1.get cb := by rw [hH2]; exact Heap.get_alloc_lt _ _ _ hcb
  generalize hmb : H1.next = mb at *
  obtain ⟨⟨va, H3, vb, H4, e3, e4, o3, o4, q, q1, rfl, q3⟩, ⟨va', H3', vb', H4', e3', e4', o3', o4', q', q1', rfl, q3'⟩⟩ := app_two (P := Try.prog) (t := 29) (e := 49) (sz := 9) (by_ := 80) (z := .agg ⟨[.int .u8 0, .int .i64 0, .int .i64 0, .int .i64 0, .int .i64 0, .int .i64 0, .int .u8 0, .bool false, .slice none 0 0]⟩) (by kernel_rfl) (by kernel_rfl) (by kernel_rfl) (by kernel_rfl) rfl H2 (rules.map Rule.val) (frow 9 0 (rules.map Rule.val)) (Rule.val r0) r0.cells (Rule.sz9 _) (fun K => by rw [irow_frow]; simp) (Rule.all1 _) rfl rfl (by have := Rule.all1 [r0]; simpa [Rule.val, Value.cells] using this) (by simp; omega) (by simp; omega)
  have hmcb : ¬ cb = mb := by omega
  have hr0 : (rules.map Rule.val)[0]? = some r0.val := by rw [hRc]; rfl
  have l2 := k2.trans hg
  have l3 := (o3.1 cb (by omega)).trans l2
  have l4 := (o4.1 cb (by omega)).trans l2
  have m4 := (o4.1 mb (by omega)).trans g2
  have l3' := (o3'.1 cb (by omega)).trans l2
  have l4' := (o4'.1 cb (by omega)).trans l2
  have m4' := (o4'.1 mb (by omega)).trans g2
  simp only [Rule.cells] at e4 e3' e4'
  rw [← hmb] at hmcb
  refine IWp.run [5, 6, 7] ?_
  simp [go_sem, -getElem?_pos, -List.map_take, -List.map_drop, List.getElem?_cons_zero, List.getElem?_cons_succ, Go.IntWalk.iteOmega, Go.IntWalk.toNatUp, hg, hmb, hH2.symm, show ¬ cb = H1.next by omega]
  -- CUT live [5, 6, 7]
  rw [hmb] at hmcb
  have la := (show (H2.alloc r0.cells).get cb = H2.get cb from Heap.get_alloc_lt _ _ _ (by omega)).trans l2
  simp only [Rule.cells] at la
  obtain ⟨RW, hRW⟩ : ∃ RW, RW = ((rules.map Rule.val ++ [Rule.val r0]).flatMap fun u => u.cells.toList) := ⟨_, rfl⟩
  rw [← hRW] at q3 q3'
  obtain ⟨Z, hZ⟩ : ∃ Z : Heap → Prop, Z = fun K => K.get cb = H1.get cb ∧ mb < K.next ∧ ∃ q, mb < q ∧ K.get mb = some ⟨[frow 2 0 (sigs.map Sig.val), .slice (some ⟨q, 0, some 9⟩) (rules.length + 1) 1, frow 1 0 (table.map (ints .i64)), .int .i64 b0, .int .i64 b1, .int .i64 b2, .int .i64 drain, .int .i64 pause, .int .i64 off, .bool brk, .int .i64 log], true⟩ ∧ K.get q = some ⟨RW, true⟩ := ⟨_, rfl⟩
  have hZi : ∀ K q, Old H2 K → H2.next ≤ q → K.get q = some ⟨RW, true⟩ → Z (K.set mb [frow 2 0 (sigs.map Sig.val), .slice (some ⟨q, 0, some 9⟩) (rules.length + 1) 1, frow 1 0 (table.map (ints .i64)), .int .i64 b0, .int .i64 b1, .int .i64 b2, .int .i64 drain, .int .i64 pause, .int .i64 off, .bool brk, .int .i64 log]) := fun K q ho hq hk => by
    rw [hZ]
    refine ⟨by rw [get_set, if_neg hmcb, ho.1 cb (by omega), k2], by have := ho.2; show mb < K.next; omega, q, by omega, ?_, by rw [get_set, if_neg (by omega), hk]⟩
    rw [get_set, if_pos rfl, ho.1 mb (by omega), g2]
    simp
  have hz1 := hZi H4 q o4 q1 q3
  have hz2 := hZi H4' q' o4' q1' q3'
  refine IWp.cut (fun e' K => e' = [(5, ptrTo cb 0), (6, .int .i64 k), (7, ptrTo mb 0)] ∧ Z K) ?_ ?_
  · skip
    refine IWp.draw [5, 6, 7] [cb] (.val 0 (.val 3 (.val 1 (.val 4 (.val 5 (.val 6 (.eff 2 (.eff 7 (.eff 8 (.val 9 (.eff 10 .done .done)) .done) .done) (.eff 7 (.eff 2 (.eff 8 (.val 9 (.eff 10 .done .done)) .done) .done) .done)))))))) follows (by kernel_rfl) ?_
    simp [go_sem, -getElem?_pos, -List.map_take, -List.map_drop, List.getElem?_cons_zero, List.getElem?_cons_succ, Go.IntWalk.iteOmega, Go.IntWalk.toNatUp, l2, e3, l3, l4, l3', l4', la, hr0, hRne, hmcb, Rule.val, Rule.cells, e4, e3', e4', m4, m4', hz1, hz2]
    have := o3.2
    omega
  rintro e' K ⟨rfl, hK⟩
  clear hz1 hz2 hZi e3 e4 e3' e4' q3 q3' o3 o4 o3' o4' q1 q1' l2 l3 l4 l3' l4' la m4 m4' k2 g2
  rw [hZ] at hK
  obtain ⟨kcb, hmK, q, hq, kmb, kq⟩ := hK
  rw [hg] at kcb
  obtain ⟨vc, H6, e6, a6, o6, n6, f6, t6⟩ := app_own (P := Try.prog) (t := 30) (e := 36) (sz := 1) (by_ := 24) (z := .slice none 0 0) (ws := table.map (ints .i64)) (x := frow 1 0 (table.map (ints .i64))) (by kernel_rfl) (by kernel_rfl) (by kernel_rfl) (by kernel_rfl) rfl (Bld.nil 1 K K.next) (rows_sz1 _) (by rw [irow_frow]; simp) (rows_all1 _) (Nat.le_refl _) (by simp; omega) (by simp; omega)
  rw [List.nil_append] at a6 t6
  have t6 : vc = .slice (some ⟨K.next, 0, some 1⟩) table.length 1 := by
    rcases t6 with ⟨_, _, h⟩ | h
    · rw [hTc] at h; cases h
    · rw [h]; simp
  subst t6
  have htb : H6.get K.next = some ⟨table.map (ints .i64), true⟩ := by
    rcases a6.2 with ⟨h, _⟩ | ⟨b, _, h1, h2⟩
    · cases h
    · injection h1 with h1; injection h1 with h1; injection h1 with h1
      subst h1
      rw [rows_flatI] at h2; exact h2
  have hcbK := Heap.lt_of_get kcb
  have g6 := (o6 mb hmK).trans kmb
  have k6 := (o6 cb hcbK).trans kcb
  have q6 := (o6 q (Heap.lt_of_get kq)).trans kq
  have hqK := Heap.lt_of_get kq
  generalize htbn : K.next = tb at *
  refine IWp.seq ?_
  refine IWp.run [5, 6, 7] ?_
  simp [go_sem, -getElem?_pos, -List.map_take, -List.map_drop, List.getElem?_cons_zero, List.getElem?_cons_succ, Go.IntWalk.iteOmega, Go.IntWalk.toNatUp, kcb, e6, k6, hmcb, g6]
  -- CUT live [5, 6, 7]
  obtain ⟨H7, hH7⟩ : ∃ H7, H7 = H6.set mb [frow 2 0 (sigs.map Sig.val), .slice (some ⟨q, 0, some 9⟩) (rules.length + 1) 1, .slice (some ⟨tb, 0, some 1⟩) table.length 1, .int .i64 b0, .int .i64 b1, .int .i64 b2, .int .i64 drain, .int .i64 pause, .int .i64 off, .bool brk, .int .i64 log] := ⟨_, rfl⟩
  rw [← hH7]
  have g7 : H7.get mb = some ⟨[frow 2 0 (sigs.map Sig.val), .slice (some ⟨q, 0, some 9⟩) (rules.length + 1) 1, .slice (some ⟨tb, 0, some 1⟩) table.length 1, .int .i64 b0, .int .i64 b1, .int .i64 b2, .int .i64 drain, .int .i64 pause, .int .i64 off, .bool brk, .int .i64 log], true⟩ := by rw [hH7, get_set, if_pos rfl, g6]; simp
  have k7 := k6
  rw [← show H7.get cb = H6.get cb by rw [hH7, get_set, if_neg hmcb]] at k7
  have q7 := q6
  rw [← show H7.get q = H6.get q by rw [hH7, get_set, if_neg (by omega)]] at q7
  have t7 := htb
  rw [← show H7.get tb = H6.get tb by rw [hH7, get_set, if_neg (by omega)]] at t7
  have n7 : H7.next = H6.next := by rw [hH7]; rfl
  clear hH7 g6 k6 q6 htb
  obtain ⟨⟨va, H8, vb, H9, e8, e9, o8, o9, p, p1, rfl, p3⟩, ⟨va', H8', vb', H9', e8', e9', o8', o9', p', p1', rfl, p3'⟩⟩ := app_two (P := Try.prog) (t := 36) (e := 3) (sz := 1) (by_ := 8) (z := .int .i64 0) (by kernel_rfl) (by kernel_rfl) (by kernel_rfl) (by kernel_rfl) rfl H7 (X.map (Value.int .i64)) (ints .i64 X) (.int .i64 rules.length) [.int .i64 rules.length] (map_sz .i64 _) (fun K => by rw [show ints .i64 X = frow 1 0 (X.map (Value.int .i64)) from rfl, irow_frow]; simp) (ints_all1 _) rfl rfl rfl (by simp; omega) (by simp; omega)
  obtain ⟨XW, hXW⟩ : ∃ XW, XW = ((X.map (Value.int .i64) ++ [Value.int .i64 rules.length]).flatMap fun u => u.cells.toList) := ⟨_, rfl⟩
  rw [← hXW] at p3 p3'
  rw [List.length_map] at *
  have hcb7 := Heap.lt_of_get k7
  have hmb7 := Heap.lt_of_get g7
  have hq7 := Heap.lt_of_get q7
  have ht7 := Heap.lt_of_get t7
  obtain ⟨cbc, hcbc⟩ : ∃ cbc : List Value, cbc = [frow 2 0 (sigs.map Sig.val), frow 9 0 (rules.map Rule.val), frow 1 0 (table.map (ints .i64)), .int .i64 b0, .int .i64 b1, .int .i64 b2, .int .i64 drain, .int .i64 pause, .int .i64 off, .bool brk, .int .i64 log] := ⟨_, rfl⟩
  obtain ⟨mbc, hmbc⟩ : ∃ mbc : List Value, mbc = [frow 2 0 (sigs.map Sig.val), .slice (some ⟨q, 0, some 9⟩) (rules.length + 1) 1, .slice (some ⟨tb, 0, some 1⟩) table.length 1, .int .i64 b0, .int .i64 b1, .int .i64 b2, .int .i64 drain, .int .i64 pause, .int .i64 off, .bool brk, .int .i64 log] := ⟨_, rfl⟩
  obtain ⟨Z2, hZ2⟩ : ∃ Z2 : Heap → Prop, Z2 = fun K => K.get cb = some ⟨cbc, true⟩ ∧ K.get mb = some ⟨mbc, true⟩ ∧ K.get q = some ⟨RW, true⟩ ∧ ∃ p, tb < p ∧ K.get tb = some ⟨.slice (some ⟨p, 0, some 1⟩) (X.length + 1) 1 :: T'.map (ints .i64), true⟩ ∧ K.get p = some ⟨XW, true⟩ := ⟨_, rfl⟩
  have hZ2i : ∀ K p, Old H7 K → H7.next ≤ p → K.get p = some ⟨XW, true⟩ → Z2 (K.set tb (.slice (some ⟨p, 0, some 1⟩) (X.length + 1) 1 :: T'.map (ints .i64))) := fun K p ho hq hk => by
    rw [hZ2]
    refine ⟨by rw [get_set, if_neg (by omega), ho.1 cb hcb7, k7, hcbc], by rw [get_set, if_neg (by omega), ho.1 mb hmb7, g7, hmbc], by rw [get_set, if_neg (by omega), ho.1 q hq7, q7], p, by omega, ?_, by rw [get_set, if_neg (by omega), hk]⟩
    rw [get_set, if_pos rfl, ho.1 tb ht7, t7]
    simp
  have hz1 := hZ2i H9 p o9 p1 p3
  have hz2 := hZ2i H9' p' o9' p1' p3'
  have a8 := (o8.1 cb hcb7).trans k7
  have a8' := (o8'.1 cb hcb7).trans k7
  have a9 := (o9.1 cb hcb7).trans k7
  have a9' := (o9'.1 cb hcb7).trans k7
  have c8 := (o8.1 mb hmb7).trans g7
  have c8' := (o8'.1 mb hmb7).trans g7
  have c9 := (o9.1 mb hmb7).trans g7
  have c9' := (o9'.1 mb hmb7).trans g7
  have d9 := (o9.1 tb ht7).trans t7
  have d9' := (o9'.1 tb ht7).trans t7
  have la := (show (H7.alloc [.int .i64 rules.length]).get cb = H7.get cb from Heap.get_alloc_lt _ _ _ (by omega)).trans k7
  have lb := (show (H7.alloc [.int .i64 rules.length]).get mb = H7.get mb from Heap.get_alloc_lt _ _ _ (by omega)).trans g7
  have htm0 : (table.map (ints .i64))[0]? = some (ints .i64 X) := by rw [hTc]; rfl
  have hspl : splice (table.map (ints .i64)) 0 [.slice (some ⟨p, 0, some 1⟩) (X.length + 1) 1] = .slice (some ⟨p, 0, some 1⟩) (X.length + 1) 1 :: T'.map (ints .i64) := by rw [hTc]; rfl
  have hspl' : splice (table.map (ints .i64)) 0 [.slice (some ⟨p', 0, some 1⟩) (X.length + 1) 1] = .slice (some ⟨p', 0, some 1⟩) (X.length + 1) 1 :: T'.map (ints .i64) := by rw [hTc]; rfl
  have htl0 := hS.tab0
  refine IWp.cut (fun e' K => e' = [(5, ptrTo cb 0), (6, .int .i64 k), (7, ptrTo mb 0)] ∧ Z2 K) ?_ ?_
  · skip
    refine IWp.draw [5, 6, 7] [cb, mb] (.val 0 (.val 2 (.val 7 (.val 1 (.val 3 (.val 4 (.val 5 (.val 8 (.val 9 (.eff 6 (.eff 10 (.eff 11 (.val 12 (.eff 13 .done .done)) .done) .done) (.eff 10 (.eff 6 (.eff 11 (.val 12 (.eff 13 .done .done)) .done) .done) .done))))))))))) follows (by kernel_rfl) ?_
    simp [go_sem, -getElem?_pos, -List.map_take, -List.map_drop, List.getElem?_cons_zero, List.getElem?_cons_succ, Go.IntWalk.iteOmega, Go.IntWalk.toNatUp, k7, g7, t7, e8, e9, e8', e9', a8, a8', a9, a9', c8, c8', c9, c9', d9, d9', la, lb, htm0, hspl, hspl', hz1, hz2, htl0, show ¬ table = [] from fun e => by rw [e] at htl0; simp at htl0]
    have := o8.2
    omega
  rintro e' K2 ⟨rfl, hK⟩
  clear hz1 hz2 hZ2i e8 e9 e8' e9' p3 p3' o8 o9 o8' o9' p1 p1' a8 a8' a9 a9' c8 c8' c9 c9' d9 d9' la lb hspl hspl' k7 g7 q7 t7
  rw [hZ2] at hK
  obtain ⟨y1, y2, y3, p, hp, y4, y5⟩ := hK
  obtain ⟨mo, hmo⟩ : ∃ mo : Config, mo = ⟨sigs, rules ++ [r0], (X ++ [(rules.length : Int)]) :: T', b0, b1, b2, drain, pause, off, brk, log⟩ := ⟨_, rfl⟩
  have cm := fun K => waitT K mo (by rw [hmo]; simp; omega) (by rw [hmo]; rw [hTc] at hl; simpa using (by simp at hl ⊢; omega))
  have hmt : (mo.rules.length + 1) * mo.table.length = W + table.length := by
    rw [hmo, ← hwm, hTc]; simp
  rw [hmt] at cm
  obtain ⟨K3, hf3, k3, ho3, _⟩ := FrzH.one (S := fun j => decide (mb < j)) (b := mb) (cs' := mo.cells) (by simp) y2 (by
    rw [hmbc, hmo]
    refine .cons (.same _) (.cons ?_ (.cons ?_ (FrzL.same _)))
    · have := frz_lit (H := K2) (S := fun j => decide (mb < j)) (sz := 9) (b := q) ((rules ++ [r0]).map Rule.val) y3 (by rw [hRW, List.map_append]; rfl) (Rule.sz9 _) (n := rules.length + 1) (by simp) (c := 1) (by simpa using hq)
      exact this
    · have hx := frz_lit (H := K2) (S := fun j => decide (mb < j)) (sz := 1) (b := p) ((X ++ [(rules.length : Int)]).map (Value.int .i64)) y5 (by rw [hXW, List.map_append]; rfl) (map_sz .i64 _) (n := X.length + 1) (by simp) (c := 1) (by simp; omega)
      have hrest := FrzE.same (H := K2) (S := fun j => decide (mb < j)) (sz := 1) (T'.map (ints .i64)) (rows_sz1 _) []
      rw [List.append_nil, rows_flatI] at hrest
      have := Frz.row (H := K2) (S := fun j => decide (mb < j)) (b := tb) (o := 0) (sz := 1) (c := 1) (us := ((X ++ [(rules.length : Int)]) :: T').map (ints .i64)) y4 (by simp; omega) (by
        rw [List.drop_zero, List.map_cons]
        exact FrzE.cons (l := [_]) rfl (.cons hx .nil) hrest)
      rw [hTc]
      simpa using this)
  refine IWp.freezeH K3 _ (.cons (.same _) (.cons (.same _) (.cons (.same _) .nil))) hf3 ?_
  have z1 := (ho3 cb (by omega) (by simp; omega)).trans y1
  rw [hcbc] at z1
  clear hf3 ho3 y1 y2 y3 y4 y5
  simp only [Config.val, Config.cells] at cm
  simp only [Config.cells] at k3
  have wa := IntWalk.i64_in (r.delay + g) (by omega)
  have wb := IntWalk.i64_in (g + (W : Int)) (by omega)
  have wc := IntWalk.i64_in (r.delay + g + (g + (W : Int))) (by omega)
  have wd := IntWalk.i64_in ((W : Int) + table.length) (by omega)
  have hmkb := Heap.lt_of_get k3
  have hckb := Heap.lt_of_get z1
  have hfin : r.delay + 2 * g + (W : Int) = r.delay + g + (g + (W : Int)) := by omega
  rw [hfin] at cl
  refine IWp.seq ?_
  refine IWp.draw [4] [cb, mb] (.ld 0 [2, 11, 12, 15, 16, 17, 18, 19, 20, 21, 22, 23, 24, 25, 26, 27, 28, 29, 30, 31, 32, 33, 34, 35, 36, 37] (.val 1 (.val 3 (.val 5 (.val 10 (.val 14 (.val 4 (.val 6 (.val 7 (.val 8 (.val 9 (.val 13 (.eff 2 (.eff 11 (.val 12 (.eff 15 (.val 16 (.val 17 (.val 18 (.ld 19 [20, 22, 26, 27, 28, 29, 30, 31, 32, 33, 34, 35, 36, 37] (.val 23 (.val 21 (.val 24 (.val 25 (.eff 20 (.eff 22 (.val 26 (.val 27 (.val 28 (.val 29 (.ld 30 [32, 34, 35, 36, 37] (.val 31 (.val 33 (.eff 32 (.eff 34 (.val 35 (.val 36 (.val 37 .done))) .done) .done)))))))) .done) .done))))))))) .done)) .done) .done))))))))))))) follows (by kernel_rfl) ?_
  simp [go_sem, -getElem?_pos, -List.map_take, -List.map_drop, List.getElem?_cons_zero, List.getElem?_cons_succ, Go.IntWalk.iteOmega, Go.IntWalk.toNatUp, z1, k3, r1, hk1, hk2, hr3, Rule.val, Rule.cells, wa, wb, wc, wd, show (W : Int) < g + W by omega]
  refine ICalls.then (cl _) ?_
  try simp [go_sem, -getElem?_pos, -List.map_take, -List.map_drop, List.getElem?_cons_zero, List.getElem?_cons_succ, Go.IntWalk.iteOmega, Go.IntWalk.toNatUp, z1, k3, r1, hk1, hk2, hr3, Rule.val, Rule.cells, wa, wb, wc, wd, show (W : Int) < g + W by omega]
  refine ICalls.then (cp _) ?_
  try simp [go_sem, -getElem?_pos, -List.map_take, -List.map_drop, List.getElem?_cons_zero, List.getElem?_cons_succ, Go.IntWalk.iteOmega, Go.IntWalk.toNatUp, z1, k3, r1, hk1, hk2, hr3, Rule.val, Rule.cells, wa, wb, wc, wd, show (W : Int) < g + W by omega]
  refine ICalls.then (co _) ?_
  try simp [go_sem, -getElem?_pos, -List.map_take, -List.map_drop, List.getElem?_cons_zero, List.getElem?_cons_succ, Go.IntWalk.iteOmega, Go.IntWalk.toNatUp, z1, k3, r1, hk1, hk2, hr3, Rule.val, Rule.cells, wa, wb, wc, wd, show (W : Int) < g + W by omega]
  refine ICalls.then (cm _) ?_
  try simp [go_sem, -getElem?_pos, -List.map_take, -List.map_drop, List.getElem?_cons_zero, List.getElem?_cons_succ, Go.IntWalk.iteOmega, Go.IntWalk.toNatUp, z1, k3, r1, hk1, hk2, hr3, Rule.val, Rule.cells, wa, wb, wc, wd, show (W : Int) < g + W by omega]
  refine ICalls.then (cw _) ?_
  try simp [go_sem, -getElem?_pos, -List.map_take, -List.map_drop, List.getElem?_cons_zero, List.getElem?_cons_succ, Go.IntWalk.iteOmega, Go.IntWalk.toNatUp, z1, k3, r1, hk1, hk2, hr3, Rule.val, Rule.cells, wa, wb, wc, wd, show (W : Int) < g + W by omega]
  refine ICalls.then (co _) ?_
  try simp [go_sem, -getElem?_pos, -List.map_take, -List.map_drop, List.getElem?_cons_zero, List.getElem?_cons_succ, Go.IntWalk.iteOmega, Go.IntWalk.toNatUp, z1, k3, r1, hk1, hk2, hr3, Rule.val, Rule.cells, wa, wb, wc, wd, show (W : Int) < g + W by omega]
  refine ICalls.then (cw _) ?_
  try simp [go_sem, -getElem?_pos, -List.map_take, -List.map_drop, List.getElem?_cons_zero, List.getElem?_cons_succ, Go.IntWalk.iteOmega, Go.IntWalk.toNatUp, z1, k3, r1, hk1, hk2, hr3, Rule.val, Rule.cells, wa, wb, wc, wd, show (W : Int) < g + W by omega]
  refine IWp.ret ?_
  simp [go_sem, -getElem?_pos, -List.map_take, -List.map_drop, List.getElem?_cons_zero, List.getElem?_cons_succ, Go.IntWalk.iteOmega, Go.IntWalk.toNatUp, z1, k3, r1, hk1, hk2, hr3, Rule.val, Rule.cells, wa, wb, wc, wd, show (W : Int) < g + W by omega, Try.results8]

end Go.Proofs.Ytmiinclnpcokkaa.I
