/- The laws of lamps: told in whichever order; a hush silences sound alone. No condition. -/
import Derived.Test.YtdimnoeldnfikaaLPanel
namespace Go.Proofs.Ytdimnoeldnfikaa.I
open Go Go.RowKit
set_option linter.unusedVariables false
set_option linter.unusedSimpArgs false

instance : Inhabited Light := ⟨⟨0, 0, ⟨false, false, false, 0, 0⟩⟩⟩
/-- Where the one that is told k-th stands. -/
def turnF (n turn k : Nat) : Nat := (n - 1 - k + turn) % n
def turnL (a : List Light) (turn : Nat) (i : Nat) : List Light := (List.range i).map fun k => a.getD (turnF a.length turn k) default
theorem turnF_lt {n turn k : Nat} (h : 0 < n) : turnF n turn k < n := Nat.mod_lt _ h
theorem turnF_eq {n turn k : Nat} (h : k < n) : turnF n turn k = if n - 1 - k + turn % n < n then n - 1 - k + turn % n else turn % n - 1 - k := by
  unfold turnF
  have hn : 0 < n := by omega
  rw [← Nat.add_mod_mod]
  have := Nat.mod_lt turn hn
  split
  · rename_i h1; exact Nat.mod_eq_of_lt h1
  · rename_i h1
    rw [Nat.mod_eq_sub_mod (by omega), Nat.mod_eq_of_lt (by omega)]; omega
theorem turnF_perm (n turn : Nat) : ((List.range n).map (turnF n turn)).Perm (List.range n) := by
  refine (List.perm_ext_iff_of_nodup ?_ List.nodup_range).mpr fun j => ?_
  · unfold List.Nodup
    rw [List.pairwise_map]
    have : (List.range n).Pairwise fun x y => x < n ∧ y < n ∧ x ≠ y := by
      have h := List.nodup_range (n := n)
      rw [List.pairwise_iff_getElem]
      intro i k hi hk hik
      simp at hi hk ⊢
      omega
    refine this.imp ?_
    rintro x y ⟨hx, hy, hne⟩ e
    rw [turnF_eq hx, turnF_eq hy] at e
    have := Nat.mod_lt turn (show 0 < n by omega)
    generalize turn % n = t at *
    split at e <;> split at e <;> omega
  · simp only [List.mem_map, List.mem_range]
    constructor
    · rintro ⟨k, hk, rfl⟩; exact turnF_lt (by omega)
    · intro hj
      have ht := Nat.mod_lt turn (show 0 < n by omega)
      refine ⟨if j < turn % n then turn % n - 1 - j else n - 1 + turn % n - j, by split <;> omega, ?_⟩
      rw [turnF_eq (by split <;> omega)]
      generalize turn % n = t at *
      split <;> split <;> omega
theorem turnL_perm (a : List Light) (turn : Nat) : (turnL a turn a.length).Perm a := by
  unfold turnL
  have h1 := (turnF_perm a.length turn).map fun k => a.getD k default
  rw [List.map_map] at h1
  refine h1.trans ?_
  have : (List.range a.length).map (fun k => a.getD k default) = a := by
    apply List.ext_getElem (by simp)
    intro i h2 h3
    simp [List.getD_eq_getElem?_getD, h3]
  rw [this]
theorem turnL_snoc (a : List Light) (turn i : Nat) : turnL a turn (i + 1) = turnL a turn i ++ [a.getD (turnF a.length turn i) default] := by
  unfold turnL
  rw [List.range_succ, List.map_append, List.map_singleton]
theorem topS_perm (p : Life → Bool) {L M : List Light} (h : L.Perm M) : topS p L = topS p M := by
  unfold topS
  refine h.foldl_eq' ?_ _
  intro x _ y _ z
  by_cases h1 : p x.life = true <;> by_cases h2 : p y.life = true <;> simp [h1, h2] <;> omega

set_option maxRecDepth 100000 in
set_option maxHeartbeats 2000000 in
theorem panelOrder_law (H : Heap) (l : List One) (turn : Int) (hw : ∀ x ∈ l, x.ok) (w1 : 0 ≤ turn ∧ turn < 256) : IBody Try.prog 11 [frow 4 0 (l.map One.val), .int .u8 turn] H fun v _ => v = .bool true := by
  by_cases hl : 20 < l.length
  · skip
    refine IBody.of Try.func11 rfl (by rw [Try.ntmps11]; simp) ?_
    rw [Try.ntmps11]
    refine IWp.seq ?_
    refine IWp.run [0, 1] ?_
    simp [go_sem, -getElem?_pos, -List.map_take, -List.map_drop, List.getElem?_cons_zero, List.getElem?_cons_succ, Go.IntWalk.iteOmega, Go.IntWalk.toNatUp, hl]
    refine IWp.seq ?_
    refine IWp.seq ?_
    refine IWp.run [0, 1, 15] ?_
    simp [go_sem, -getElem?_pos, -List.map_take, -List.map_drop, List.getElem?_cons_zero, List.getElem?_cons_succ, Go.IntWalk.iteOmega, Go.IntWalk.toNatUp, hl]
    refine ICalls.then (darkC _) ?_
    try simp [go_sem, -getElem?_pos, -List.map_take, -List.map_drop, List.getElem?_cons_zero, List.getElem?_cons_succ, Go.IntWalk.iteOmega, Go.IntWalk.toNatUp, hl]
    refine IWp.cond ?_
    simp [go_sem, -getElem?_pos, -List.map_take, -List.map_drop, List.getElem?_cons_zero, List.getElem?_cons_succ, Go.IntWalk.iteOmega, Go.IntWalk.toNatUp, hl]
    refine IWp.seq ?_
    refine IWp.run [4] ?_
    simp [go_sem, -getElem?_pos, -List.map_take, -List.map_drop, List.getElem?_cons_zero, List.getElem?_cons_succ, Go.IntWalk.iteOmega, Go.IntWalk.toNatUp, hl]
    refine ICalls.then (darkC _) ?_
    try simp [go_sem, -getElem?_pos, -List.map_take, -List.map_drop, List.getElem?_cons_zero, List.getElem?_cons_succ, Go.IntWalk.iteOmega, Go.IntWalk.toNatUp, hl]
    refine IWp.ret ?_
    simp [go_sem, -getElem?_pos, -List.map_take, -List.map_drop, List.getElem?_cons_zero, List.getElem?_cons_succ, Go.IntWalk.iteOmega, Go.IntWalk.toNatUp, hl, Try.results11]
    try rfl
  have c1 := fun K => ofC K l false (by omega) hw
  have hL := ofL_len false l
  have hn := ofL_nodup false l
  generalize ofL false l = a at *
  obtain ⟨t, rfl⟩ : ∃ t : Nat, turn = t := ⟨turn.toNat, by omega⟩
  have hp := turnL_perm a t
  have hsame := lampsS_turned hp hn
  have htop := topS_perm loudB hp
  have hnm : ((turnL a t a.length).map Light.cond).Nodup := (hp.map _).nodup_iff.mpr hn
  have hlm : (turnL a t a.length).length = a.length := hp.length_eq
  have c2 := fun K => lampsC K a (by omega) hn
  have c3 := fun K => lampsC K (turnL a t a.length) (by omega) hnm
  have c4 := fun K => sameC K (lampsO (lampsS a)) (by have := lampsS_len a; simp only [lampsO]; omega)
  have c5 := fun K => loudestC K a (by omega)
  have c6 := fun K => loudestC K (turnL a t a.length) (by omega)
  rw [hsame] at c3
  rw [htop] at c6
  simp only [lampsO, Outp.val, Outp.cells] at c4
  refine IBody.of Try.func11 rfl (by rw [Try.ntmps11]; simp) ?_
  rw [Try.ntmps11]
  refine IWp.seq ?_
  refine IWp.run [0, 1] ?_
  simp [go_sem, -getElem?_pos, -List.map_take, -List.map_drop, List.getElem?_cons_zero, List.getElem?_cons_succ, Go.IntWalk.iteOmega, Go.IntWalk.toNatUp, hl]
  refine IWp.seq ?_
  refine IWp.seq ?_
  refine IWp.run [0, 1, 15] ?_
  simp [go_sem, -getElem?_pos, -List.map_take, -List.map_drop, List.getElem?_cons_zero, List.getElem?_cons_succ, Go.IntWalk.iteOmega, Go.IntWalk.toNatUp, hl]
  refine ICalls.then (darkC _) ?_
  try simp [go_sem, -getElem?_pos, -List.map_take, -List.map_drop, List.getElem?_cons_zero, List.getElem?_cons_succ, Go.IntWalk.iteOmega, Go.IntWalk.toNatUp, hl]
  refine IWp.cond ?_
  simp [go_sem, -getElem?_pos, -List.map_take, -List.map_drop, List.getElem?_cons_zero, List.getElem?_cons_succ, Go.IntWalk.iteOmega, Go.IntWalk.toNatUp, hl]
  refine IWp.trim [0, 1] (IWp.skip ?_)
  simp [go_sem, -getElem?_pos, -List.map_take, -List.map_drop, List.getElem?_cons_zero, List.getElem?_cons_succ, Go.IntWalk.iteOmega, Go.IntWalk.toNatUp, hl]
  refine IWp.seq ?_
  refine IWp.run [1, 5] ?_
  simp [go_sem, -getElem?_pos, -List.map_take, -List.map_drop, List.getElem?_cons_zero, List.getElem?_cons_succ, Go.IntWalk.iteOmega, Go.IntWalk.toNatUp, hl]
  refine ICalls.then (c1 _) ?_
  try simp [go_sem, -getElem?_pos, -List.map_take, -List.map_drop, List.getElem?_cons_zero, List.getElem?_cons_succ, Go.IntWalk.iteOmega, Go.IntWalk.toNatUp, hl]
  refine IWp.seq ?_
  refine IWp.run [1, 5, 7] ?_
  simp [go_sem, -getElem?_pos, -List.map_take, -List.map_drop, List.getElem?_cons_zero, List.getElem?_cons_succ, Go.IntWalk.iteOmega, Go.IntWalk.toNatUp, hl]
  refine IWp.seq ?_
  refine IWp.seq ?_
  refine IWp.run [1, 5, 7, 8] ?_
  simp [go_sem, -getElem?_pos, -List.map_take, -List.map_drop, List.getElem?_cons_zero, List.getElem?_cons_succ, Go.IntWalk.iteOmega, Go.IntWalk.toNatUp, hl]
  refine IWp.block ?_
  -- LOOP live [1, 5, 7, 8]
  refine IWp.loop (fun q e K => ∃ (i : Nat) (v : Value), q = a.length - i ∧ i ≤ a.length ∧ Bld 7 K 0 v ((turnL a t i).map Light.val) ∧ e = [(1, .int .u8 t), (5, frow 7 0 (a.map Light.val)), (7, v), (8, .int .i64 (i : Int))]) a.length ⟨0, .slice none 0 0, rfl, Nat.zero_le _, Bld.nil _ _ _, by simp [go_sem]⟩ ?_
  rintro q e K ⟨i, v, rfl, hi, hv, rfl⟩
  by_cases hlt : i < a.length
  case neg =>
    obtain rfl : i = a.length := by omega
    refine IWp.seq ?_
    refine IWp.seq ?_
    refine IWp.run [1, 5, 7, 8, 25] ?_
    simp [go_sem, -getElem?_pos, -List.map_take, -List.map_drop, List.getElem?_cons_zero, List.getElem?_cons_succ, Go.IntWalk.iteOmega, Go.IntWalk.toNatUp, hlt]
    refine IWp.cond ?_
    simp [go_sem, -getElem?_pos, -List.map_take, -List.map_drop, List.getElem?_cons_zero, List.getElem?_cons_succ, Go.IntWalk.iteOmega, Go.IntWalk.toNatUp, hlt]
    refine IWp.trim [5, 7] (IWp.exit ?_)
    simp [go_sem, -getElem?_pos, -List.map_take, -List.map_drop, List.getElem?_cons_zero, List.getElem?_cons_succ, Go.IntWalk.iteOmega, Go.IntWalk.toNatUp, hlt]
    refine IWp.seq ?_
    refine IWp.freezeE (fun _ => true) (e' := [(5, frow 7 0 (a.map Light.val)), (7, frow 7 0 ((turnL a t a.length).map Light.val))]) (.cons (.same _) (.cons hv.frz .nil)) ?_
    refine IWp.run [4] ?_
    simp [go_sem, -getElem?_pos, -List.map_take, -List.map_drop, List.getElem?_cons_zero, List.getElem?_cons_succ, Go.IntWalk.iteOmega, Go.IntWalk.toNatUp]
    refine ICalls.then (c2 _) ?_
    try simp [go_sem, -getElem?_pos, -List.map_take, -List.map_drop, List.getElem?_cons_zero, List.getElem?_cons_succ, Go.IntWalk.iteOmega, Go.IntWalk.toNatUp]
    refine ICalls.then (c3 _) ?_
    try simp [go_sem, -getElem?_pos, -List.map_take, -List.map_drop, List.getElem?_cons_zero, List.getElem?_cons_succ, Go.IntWalk.iteOmega, Go.IntWalk.toNatUp]
    refine ICalls.then (c4 _) ?_
    try simp [go_sem, -getElem?_pos, -List.map_take, -List.map_drop, List.getElem?_cons_zero, List.getElem?_cons_succ, Go.IntWalk.iteOmega, Go.IntWalk.toNatUp]
    refine ICalls.then (c5 _) ?_
    try simp [go_sem, -getElem?_pos, -List.map_take, -List.map_drop, List.getElem?_cons_zero, List.getElem?_cons_succ, Go.IntWalk.iteOmega, Go.IntWalk.toNatUp]
    refine ICalls.then (c6 _) ?_
    try simp [go_sem, -getElem?_pos, -List.map_take, -List.map_drop, List.getElem?_cons_zero, List.getElem?_cons_succ, Go.IntWalk.iteOmega, Go.IntWalk.toNatUp]
    refine IWp.ret ?_
    simp [go_sem, -getElem?_pos, -List.map_take, -List.map_drop, List.getElem?_cons_zero, List.getElem?_cons_succ, Go.IntWalk.iteOmega, Go.IntWalk.toNatUp, Try.results11]
    try rfl
  have hs := turnL_snoc a t i
  have hf := turnF_lt (n := a.length) (turn := t) (k := i) (by omega)
  have gf : (a.map Light.val)[turnF a.length t i]? = some (a.getD (turnF a.length t i) default).val := by
    rw [List.getElem?_map, List.getD_eq_getElem?_getD, List.getElem?_eq_getElem hf]; rfl
  have hm : ((a.length : Int) - 1 - i + t).tmod a.length = (turnF a.length t i : Nat) := by
    rw [Int.tmod_eq_emod_of_nonneg (by omega)]
    unfold turnF
    rw [Int.natCast_emod]
    congr 1
    omega
  have hlen : (turnL a t i).length = i := by unfold turnL; simp
  generalize a.getD (turnF a.length t i) default = x at *
  generalize turnF a.length t i = f at *
  have v1 := IntWalk.i64_in ((i : Int) + 1) (by omega)
  have v2 := IntWalk.i64_in ((a.length : Int) - 1) (by omega)
  have v3 := IntWalk.i64_in ((a.length : Int) - 1 - i) (by omega)
  have v4 := IntWalk.i64_in ((a.length : Int) - 1 - i + t) (by omega)
  have v5 := IntWalk.i64_in (t : Int) (by omega)
  have v6 := IntWalk.i64_in (f : Int) (by omega)
  obtain ⟨v', H', e2, b2, s2, n2, _⟩ := app_one (P := Try.prog) (t := 53) (e := 69) (sz := 7) (by_ := 40) (z := .agg ⟨[.int .i64 0, .int .u8 0, .bool false, .bool false, .bool false, .int .i64 0, .int .i64 0]⟩) (by kernel_rfl) (by kernel_rfl) (by kernel_rfl) (by kernel_rfl) rfl x.val x.cells hv rfl rfl rfl (Nat.zero_le _) (by simp; omega) (by simp; omega)
  rw [← List.map_singleton, ← List.map_append, ← hs] at b2
  simp only [Light.cells, Life.cells, List.cons_append, List.nil_append] at e2
  refine IWp.seq ?_
  refine IWp.seq ?_
  refine IWp.run [1, 5, 7, 8, 25] ?_
  simp [go_sem, -getElem?_pos, -List.map_take, -List.map_drop, List.getElem?_cons_zero, List.getElem?_cons_succ, Go.IntWalk.iteOmega, Go.IntWalk.toNatUp, hlt, v1, v2, v3, v4, v5, v6, hm, hf, gf, Light.val, Light.cells, Life.cells, e2, show ¬ (a.length : Int) = 0 by omega, show a ≠ [] from fun e => by rw [e] at hlt; simp at hlt]
  refine IWp.cond ?_
  simp [go_sem, -getElem?_pos, -List.map_take, -List.map_drop, List.getElem?_cons_zero, List.getElem?_cons_succ, Go.IntWalk.iteOmega, Go.IntWalk.toNatUp, hlt, v1, v2, v3, v4, v5, v6, hm, hf, gf, Light.val, Light.cells, Life.cells, e2, show ¬ (a.length : Int) = 0 by omega, show a ≠ [] from fun e => by rw [e] at hlt; simp at hlt]
  refine IWp.trim [1, 5, 7, 8] (IWp.skip ?_)
  simp [go_sem, -getElem?_pos, -List.map_take, -List.map_drop, List.getElem?_cons_zero, List.getElem?_cons_succ, Go.IntWalk.iteOmega, Go.IntWalk.toNatUp, hlt, v1, v2, v3, v4, v5, v6, hm, hf, gf, Light.val, Light.cells, Life.cells, e2, show ¬ (a.length : Int) = 0 by omega, show a ≠ [] from fun e => by rw [e] at hlt; simp at hlt]
  refine IWp.seq ?_
  refine IWp.block ?_
  refine IWp.run [1, 5, 7, 8] ?_
  simp [go_sem, -getElem?_pos, -List.map_take, -List.map_drop, List.getElem?_cons_zero, List.getElem?_cons_succ, Go.IntWalk.iteOmega, Go.IntWalk.toNatUp, hlt, v1, v2, v3, v4, v5, v6, hm, hf, gf, Light.val, Light.cells, Life.cells, e2, show ¬ (a.length : Int) = 0 by omega, show a ≠ [] from fun e => by rw [e] at hlt; simp at hlt]
  refine IWp.run [1, 5, 7, 8] ?_
  simp [go_sem, -getElem?_pos, -List.map_take, -List.map_drop, List.getElem?_cons_zero, List.getElem?_cons_succ, Go.IntWalk.iteOmega, Go.IntWalk.toNatUp, hlt, v1, v2, v3, v4, v5, v6, hm, hf, gf, Light.val, Light.cells, Life.cells, e2, show ¬ (a.length : Int) = 0 by omega, show a ≠ [] from fun e => by rw [e] at hlt; simp at hlt]
  exact ⟨a.length - (i + 1), by omega, i + 1, by omega, by omega, v', b2, rfl, by omega⟩

end Go.Proofs.Ytdimnoeldnfikaa.I
