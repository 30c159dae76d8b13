/- The rules for code on the ideal heap: one behind the other, branches, blocks, loops, regions; and how a function's body gives its contract. No condition. -/
import Derived.Test.YtoecebibhcadoaaDoorICode
namespace Go.Proofs.YtoecebibhcadoaaDoor.I
open Go Go.RowKit
set_option linter.unusedVariables false
set_option linter.unusedSimpArgs false
def IWp (P : Program) (n : Nat) (c : Code) (Q : Exit → Env → Heap → Prop) (e : Env) (H : Heap) : Prop :=
  ∀ (B : Nat) (w0 : World) (ρ : Ren) (a : Act) (w : World), AR n ρ e a → HR B w0 ρ H w → c.wp P (fun x a' w' => Goes n B w0 ρ H (Q x) a' w') a w
structure Tok {α : Type} (a : α) : Type where
  mk ::
def IWpS (P : Program) (n : Nat) (c : Code) (Q : Exit → Env → Heap → Prop) (e : Env) (H : Heap) (_ : Tok (c, Q)) : Prop := IWp P n c Q e H
theorem IWp.mono {P : Program} {n : Nat} {c : Code} {Q Q' : Exit → Env → Heap → Prop} {e : Env} {H : Heap} (h : IWp P n c Q e H) (hq : ∀ x e H, Q x e H → Q' x e H) : IWp P n c Q' e H :=
  fun B w0 ρ a w ha hh => wp_mono (h B w0 ρ a w ha hh) fun x a' w' g => g.mono (hq x)
section rules
variable {P : Program} {n : Nat} {Q : Exit → Env → Heap → Prop} {e : Env} {H : Heap}
theorem now {B : Nat} {w0 w : World} {ρ : Ren} {a : Act} {K : Env → Heap → Prop} (ha : AR n ρ e a) (hh : HR B w0 ρ H w) (h : K e H) : Goes n B w0 ρ H K a w := ⟨ρ, e, H, h, ha, hh, Ren.Le.refl _, Nat.le_refl _⟩
theorem IWp.skip (h : Q .normal e H) : IWp P n .skip Q e H := fun B w0 ρ a w ha hh => wp_skip (now ha hh h)
theorem IWp.exit {id : Nat} (h : Q (.exit id) e H) : IWp P n (.exit id) Q e H := fun B w0 ρ a w ha hh => wp_exit (now ha hh h)
theorem IWp.ret (h : Q .ret e H) : IWp P n .ret Q e H := fun B w0 ρ a w ha hh => wp_ret (now ha hh h)
theorem IWp.label {l : Nat} (h : Q .normal e H) : IWp P n (.label l) Q e H := fun B w0 ρ a w ha hh => wp_label (now ha hh h)
def ithen (K : Env → Heap → Prop) (Q : Exit → Env → Heap → Prop) : Exit → Env → Heap → Prop
  | .normal, e, H => K e H
  | x, e, H => Q x e H
def iblock (id : Nat) (Q : Exit → Env → Heap → Prop) : Exit → Env → Heap → Prop
  | .exit id', e, H => if id' = id then Q .normal e H else Q (.exit id') e H
  | x, e, H => Q x e H
theorem IWp.seq {x y : Code} (h : IWp P n x (ithen (fun e' H' => IWpS P n y Q e' H' ⟨⟩) Q) e H) : IWp P n (.seq x y) Q e H := by
  intro B w0 ρ a w ha hh
  refine wp_seq (wp_mono (h B w0 ρ a w ha hh) fun z a' w' g => ?_)
  cases z with
  | normal =>
    obtain ⟨ρ', e', H', k, ha', hh', hl, hn⟩ := g
    exact wp_mono (k B w0 ρ' a' w' ha' hh') fun z2 a2 w2 g2 => g2.later hl hn
  | _ => exact g
theorem IWp.cut {x y : Code} (I : Env → Heap → Prop) (h1 : IWp P n x (ithen I Q) e H) (h2 : ∀ e' H', I e' H' → IWp P n y Q e' H') : IWp P n (.seq x y) Q e H :=
  IWp.seq (h1.mono fun z e' H' h => by cases z <;> first | exact h2 e' H' h | exact h)
def icond (v : Value) (x y : Prop) : Prop :=
  match v with
  | .bool t => if t = true then x else y
  | _ => False
theorem IWp.cond {c : Operand} {x y : Code} (h : got (e.eval c) fun v => icond v (IWpS P n x Q e H ⟨⟩) (IWpS P n y Q e H ⟨⟩)) : IWp P n (.cond c x y) Q e H := by
  intro B w0 ρ a w ha hh
  obtain ⟨v, hv, h⟩ := h
  unfold icond at h
  split at h
  · rename_i t
    have hc : a.eval c = .bool t := (Env.eval_sound ha hv).eq_of_plain0 rfl
    refine wp_cond hc ?_
    cases t with
    | true => exact h B w0 ρ a w ha hh
    | false => exact h B w0 ρ a w ha hh
  · exact h.elim
theorem IWp.condB {c : Operand} {x y : Code} {b : Bool} (hv : e.eval c = some (.bool b)) (h1 : b = true → IWpS P n x Q e H ⟨⟩) (h2 : b = false → IWpS P n y Q e H ⟨⟩) : IWp P n (.cond c x y) Q e H :=
  IWp.cond ⟨_, hv, by
    cases b with
    | true => exact h1 rfl
    | false => exact h2 rfl⟩
theorem IWp.block {id : Nat} {c : Code} (h : IWp P n c (iblock id Q) e H) : IWp P n (.block id c) Q e H := by
  intro B w0 ρ a w ha hh
  refine wp_block (wp_mono (h B w0 ρ a w ha hh) fun z a' w' g => ?_)
  cases z with
  | exit id' =>
    by_cases hid : id' = id
    · simp only [Exit.inBlock, if_pos hid]
      exact g.mono fun e H k => by simp only [iblock] at k; rw [if_pos hid] at k; exact k
    · simp only [Exit.inBlock, if_neg hid]
      exact g.mono fun e H k => by simp only [iblock] at k; rw [if_neg hid] at k; exact k
  | _ => exact g
theorem IWp.loop {c : Code} (I : Nat → Env → Heap → Prop) (k : Nat) (h0 : I k e H) (round : ∀ k e H, I k e H → IWp P n c (ithen (fun e' H' => ∃ k', k' < k ∧ I k' e' H') Q) e H) : IWp P n (.loop c) Q e H := by
  intro B w0 ρ a w ha hh
  refine wp_loop_ghost (fun k a' w' => Goes n B w0 ρ H (I k) a' w') k (now ha hh h0) fun k a' w' g => ?_
  obtain ⟨ρ', e', H', hi, ha', hh', hl, hn⟩ := g
  refine wp_mono (round k e' H' hi B w0 ρ' a' w' ha' hh') fun z a2 w2 g2 => ?_
  cases z with
  | normal =>
    obtain ⟨σ, e2, H2, ⟨k', hk, hi2⟩, r1, r2, r3, r4⟩ := g2
    exact ⟨k', hk, σ, e2, H2, hi2, r1, r2, hl.trans r3, Nat.le_trans hn r4⟩
  | _ => exact g2.later hl hn
theorem IWp.forget {c : Code} (e' : Env) (hs : ∀ i v, e'.get i = some v → e.get i = some v) (h : IWp P n c Q e' H) : IWp P n c Q e H :=
  fun B w0 ρ a w ha hh => h B w0 ρ a w (ha.sub hs) hh
theorem iops_sound {ops : Array Oper} {B : Nat} {w0 : World} : ∀ (l : List Nat) (e : Env) (H : Heap) (ρ : Ren) (a : Act) (w : World) (K : Env → Heap → Prop) (Q' : Exit → Act → World → Prop), AR n ρ e a → HR B w0 ρ H w →
    iops P n ops K l e H → (∀ a' w', Goes n B w0 ρ H K a' w' → Q' .normal a' w') → wpOps P ops Q' l a w
  | [], e, H, ρ, a, w, K, Q', ha, hh, h, hQ => hQ _ _ (now ha hh h)
  | i :: r, e, H, ρ, a, w, K, Q', ha, hh, h, hQ => by
    rw [wpOps_cons]
    refine iopAt_sound ha hh h (fun a' w' g => ?_) Q'
    obtain ⟨ρ', e', H', hk, ha', hh', hl, hn⟩ := g
    exact iops_sound r e' H' ρ' a' w' K Q' ha' hh' hk fun a2 w2 g2 => hQ _ _ (g2.later hl hn)
theorem IWp.region {id : Nat} {ops : Array Oper} (h : iops P n ops (Q .normal) (List.range ops.size) e H) : IWp P n (.region id ops false) Q e H :=
  fun B w0 ρ a w ha hh => wp_region (iops_sound _ e H ρ a w (Q .normal) _ ha hh h fun _ _ g => g)
def ivals (P : Program) (n : Nat) (ops : Array Oper) (H : Heap) (K : Env → Prop) : List Oper → Env → Prop
  | [], e => K e
  | o :: r, e =>
    match o.guard with
    | none => got (ival P o.op e H) fun v => iput n o.dst v e (ivals P n ops H K r)
    | some (j, want) => got (iyield ops e j) fun y =>
      if y = some want then got (ival P o.op e H) fun v => iput n o.dst v e (ivals P n ops H K r) else iput n o.dst undef e (ivals P n ops H K r)
theorem iput_ar {n : Nat} {ρ : Ren} {e : Env} {a : Act} {dst : Option Tmp} {v v' : Value} {k : Env → Prop} (ha : AR n ρ e a) (hv : VR ρ v v') (h : iput n dst v e k) : ∃ e', AR n ρ e' (a.put dst v') ∧ k e' := by
  cases dst with
  | none => exact ⟨e, by simpa [Act.put] using ha, h⟩
  | some d => exact ⟨e.put d v, ha.put h.1 hv, h.2⟩
theorem ivals_sound {ops : Array Oper} {B : Nat} {w0 w : World} {ρ : Ren} (hh : HR B w0 ρ H w) {K : Env → Prop} {K' : Act → Prop} (hK : ∀ e a, AR n ρ e a → K e → K' a) : ∀ (l : List Oper) (e : Env) (a : Act), AR n ρ e a →
    ivals P n ops H K l e → wpQuiet P ops (fun w' => w' = w) K' l a
  | [], e, a, ha, h => hK e a ha h
  | o :: r, e, a, ha, h => by
    have run : got (ival P o.op e H) (fun v => iput n o.dst v e (ivals P n ops H K r)) → o.quiet P a (fun w' => w' = w) (wpQuiet P ops (fun w' => w' = w) K' r) := fun h => by
      obtain ⟨v, h1, h2⟩ := h
      obtain ⟨v', h3, h4⟩ := ival_sound (P := P) ha hh h1
      obtain ⟨e', ha', hk⟩ := iput_ar ha h4 h2
      refine ⟨v', fun w1 hw1 => ?_, ivals_sound hh hK r e' _ ha' hk⟩
      subst hw1
      unfold Oper.quietAt
      rw [h3]; exact ⟨rfl, rfl⟩
    simp only [ivals] at h
    simp only [wpQuiet]
    split at h
    · rename_i hg
      have hw : Region.wanted o (yielded ops a.tmps) = true := by simp [Region.wanted, hg]
      rw [if_pos hw]; exact run h
    · rename_i j want hg
      obtain ⟨y, hy, h⟩ := h
      have hys := iyield_sound (ops := ops) ha hy
      by_cases hw : y = some want
      · rw [if_pos hw] at h
        rw [if_pos (by simp [Region.wanted, hg, hys, hw])]; exact run h
      · rw [if_neg hw] at h
        have hwt : Region.wanted o (yielded ops a.tmps) = false := by simp [Region.wanted, hg, hys, hw]
        simp only [hwt, Bool.false_eq_true, if_false]
        obtain ⟨e', ha', hk⟩ := iput_ar ha (.tuple .nil) h
        exact ivals_sound hh hK r e' _ ha' hk
theorem IWp.quiet {id : Nat} {ops : Array Oper} (hm : P.follows .mixedOrders = true) (hB : Region.lexB .any ops = true) (h : ivals P n ops H (fun e' => Q .normal e' H) ops.toList e) : IWp P n (.region id ops true) Q e H := by
  intro B w0 ρ a w ha hh
  have hh' := HR.drew hh
  refine wp_region_quiet (C := fun w' => w' = { w with drawn := w.drawn + 1 }) hm hB rfl ?_
  refine ivals_sound hh' (fun e' a' ha' hk => ?_) _ e a ha h
  rintro w' rfl
  exact ⟨ρ, e', H, hk, ha', hh', Ren.Le.refl _, Nat.le_refl _⟩
end rules
def iresult (P : Program) (H : Heap) (e : Env) : ResultVar → Option Value
  | .tmp t => e.get t
  | .cell a t => (e.get a).bind fun v => iload P t H v
def iresults (P : Program) (H : Heap) (e : Env) : List ResultVar → Option (List Value)
  | [] => some []
  | r :: l => (iresult P H e r).bind fun v => (iresults P H e l).bind fun vs => some (v :: vs)
def ipack : List Value → Value
  | [v] => v
  | l => .tuple l.toArray
def resultOf (a : Act) (r : ResultVar) : Sem Value :=
  match r with
  | .tmp t => pure (a.tmps.getD t undef)
  | .cell x t => do loadVar t (← asAddr (a.tmps.getD x undef))
theorem iresults_sound {P : Program} {n B : Nat} {w0 w : World} {ρ : Ren} {H : Heap} {e : Env} {a : Act} (ha : AR n ρ e a) (hh : HR B w0 ρ H w) : ∀ (rs : List ResultVar) (vs : List Value), iresults P H e rs = some vs →
    ∃ vs', VRL ρ vs vs' ∧ (rs.mapM (resultOf a)).run P w = .ok vs' w
  | [], vs, h => by cases h; exact ⟨[], .nil, by simp⟩
  | r :: l, vs, h => by
    simp only [iresults] at h
    obtain ⟨v, h1, h⟩ := Option.bind_eq_some_iff.mp h
    obtain ⟨ws, h2, h⟩ := Option.bind_eq_some_iff.mp h
    cases h
    obtain ⟨ws', h3, h4⟩ := iresults_sound ha hh l ws h2
    have hv : ∃ v', VR ρ v v' ∧ (resultOf a r).run P w = .ok v' w := by
      unfold resultOf
      cases r with
      | tmp t =>
        obtain ⟨v', h5, h6⟩ := ha.slot t v h1
        exact ⟨v', h6, by simp [Array.getD_eq_getD_getElem?, h5]⟩
      | cell x t =>
        simp only [iresult] at h1
        obtain ⟨p, h5, h6⟩ := Option.bind_eq_some_iff.mp h1
        obtain ⟨p', h7, h8⟩ := ha.slot x p h5
        obtain ⟨v', h9, h10⟩ := iload_sound hh h8 h6
        refine ⟨v', h10, ?_⟩
        have hp : ∃ q, p' = .pointer (some q) := by
          unfold iload at h6
          split at h6
          · cases h8 with
            | plain hq => simp [plain0] at hq
            | ptr hb => exact ⟨_, rfl⟩
          · cases h8 with
            | plain hq => simp [plain0] at hq
            | fptr _ _ => exact ⟨_, rfl⟩
          · cases h6
        obtain ⟨q, rfl⟩ := hp
        have hg : a.tmps.getD x undef = .pointer (some q) := by simp [Array.getD_eq_getD_getElem?, h7]
        simp only [hg, asAddr, Sem.run_bind, Sem.run_pure, Result.andThen_ok]
        simpa [Instr.loadAt, Instr.sureAddr] using h9
    obtain ⟨v', h5, h6⟩ := hv
    refine ⟨v' :: ws', .cons h5 h3, ?_⟩
    simp only [List.mapM_cons, Sem.run_bind, h6, Result.andThen_ok, h4, Sem.run_pure]
def IEnd (P : Program) (fn : Func) (K : Value → Heap → Prop) : Exit → Env → Heap → Prop
  | .normal, e, H => got (iresults P H e fn.results.toList) fun vs => K (ipack vs) H
  | .ret, e, H => got (iresults P H e fn.results.toList) fun vs => K (ipack vs) H
  | _, _, _ => False
def ienv : Nat → List Value → Env
  | _, [] => []
  | i, v :: r => (i, v) :: ienv (i + 1) r
theorem ienv_get : ∀ (l : List Value) (k i : Nat) (v : Value), (ienv k l).get i = some v → k ≤ i ∧ l[i - k]? = some v
  | [], k, i, v, h => by cases h
  | u :: r, k, i, v, h => by
    simp only [ienv, Env.get] at h
    split at h
    · rename_i e; cases h; subst e; exact ⟨Nat.le_refl _, by simp⟩
    · rename_i e
      obtain ⟨h1, h2⟩ := ienv_get r (k + 1) i v h
      exact ⟨by omega, by rw [show i - k = (i - (k + 1)) + 1 by omega, List.getElem?_cons_succ]; exact h2⟩
theorem IBody.of {P : Program} {f : FuncId} {fn : Func} {c : Code} {args : List Value} {H : Heap} {K : Value → Heap → Prop} (hf : P.funcs[f]? = some fn) (hb : fn.body = some c) (hn : args.length ≤ fn.ntmps)
    (h : IWp P fn.ntmps c (IEnd P fn K) (ienv 0 args) H) : IBody P f args H K := by
  intro B w0 ρ args' w hh hargs
  refine calls_of_wp hf hb ?_
  have hlen := hargs.length
  have hsz : args'.size = args.length := by rw [hlen, Array.length_toList]
  have ha : AR fn.ntmps ρ (ienv 0 args) { tmps := args' ++ Array.replicate (fn.ntmps - args'.size) undef, defers := [] } := by
    refine ⟨rfl, by simp; omega, fun i v hv => ?_⟩
    obtain ⟨_, h2⟩ := ienv_get args 0 i v hv
    rw [Nat.sub_zero] at h2
    obtain ⟨v', h3, h4⟩ := hargs.get i v h2
    have hlt : i < args'.size := by
      rcases Nat.lt_or_ge i args'.size with h | h
      · exact h
      · rw [Array.getElem?_toList, Array.getElem?_eq_none h] at h3; cases h3
    exact ⟨v', by rw [Array.getElem?_append_left hlt]; simpa using h3, h4⟩
  refine wp_mono (h B w0 ρ _ w ha hh) fun x a' w' g => ?_
  obtain ⟨ρ', e', H', hk, ha', hh', hl, hn'⟩ := g
  have fin : got (iresults P H' e' fn.results.toList) (fun vs => K (ipack vs) H') → a'.defers = [] ∧ ∃ v, (results fn a'.tmps).run P w' = .ok v w' ∧ Left B w0 ρ H K (.returned v) w' := fun g => by
    obtain ⟨vs, h1, h2⟩ := g
    obtain ⟨vs', h3, h4⟩ := iresults_sound (P := P) ha' hh' _ vs h1
    have hrun : (results fn a'.tmps).run P w' = .ok (ipack vs') w' := by
      show (do let vs ← fn.results.mapM (resultOf a'); pure (if h : vs.size = 1 then vs[0] else .tuple vs) : Sem Value).run P w' = _
      rw [Sem.run_bind, Array.mapM_eq_mapM_toList, Sem.run_map]
      rw [h4]
      simp only [Result.andThen_ok, Sem.run_pure]
      congr 1
      cases vs' with
      | nil => rfl
      | cons x r => cases r <;> simp [ipack]
    refine ⟨ha'.defers, ipack vs', hrun, ρ', ipack vs, ipack vs', H', rfl, h2, ?_, hh', hl, hn'⟩
    cases h3 with
    | nil => exact .tuple .nil
    | cons hx hr =>
      cases hr with
      | nil => exact hx
      | cons hy hr2 => exact .tuple (by simpa [ipack] using VRL.cons hx (.cons hy hr2))
  cases x with
  | normal => exact fin hk
  | ret => exact fin hk
  | exit id => exact hk.elim
  | goto l => exact hk.elim
  | panic ch => exact hk.elim
  | outgrown => exact hk.elim
end Go.Proofs.YtoecebibhcadoaaDoor.I
