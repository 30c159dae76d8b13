/- Code on the ideal heap: what must be shown of it so that in every world that shows the heap it does what is said; calls by contracts. No condition. -/
import Derived.Test.YtoecebibhcadoaaDoorIConv
import Derived.Deep.LoopGhost
namespace Go.Proofs.YtoecebibhcadoaaDoor.I
open Go Go.RowKit
set_option linter.unusedVariables false
set_option linter.unusedSimpArgs false
def got {α : Type} (o : Option α) (k : α → Prop) : Prop := ∃ v, o = some v ∧ k v
section got
variable {α β : Type} {k : β → Prop}
theorem got_some (v : β) : got (some v) k = k v := by simp [got]
theorem got_none : got none k = False := by simp [got]
theorem got_bind (o : Option α) (f : α → Option β) : got (o.bind f) k = got o fun x => got (f x) k := by
  cases o <;> simp [got]
theorem got_map (o : Option α) (f : α → β) : got (o.map f) k = got o fun x => k (f x) := by
  cases o <;> simp [got]
theorem got_ite (c : Prop) [Decidable c] (x y : Option β) : got (if c then x else y) k = if c then got x k else got y k := by split <;> rfl
theorem got_guard (c : Prop) [Decidable c] (x : Option β) : got (if c then x else none) k = (c ∧ got x k) := by
  by_cases h : c <;> simp [got, h]
theorem got.mono {o : Option β} {k' : β → Prop} (h : got o k) (hk : ∀ v, k v → k' v) : got o k' := let ⟨v, e, r⟩ := h; ⟨v, e, hk v r⟩
end got
def Left (B : Nat) (w0 : World) (ρ : Ren) (H : Heap) (K : Value → Heap → Prop) : Ending → World → Prop :=
  fun x w' => ∃ ρ' v v' H', x = .returned v' ∧ K v H' ∧ VR ρ' v v' ∧ HR B w0 ρ' H' w' ∧ Ren.Le B ρ ρ' ∧ H.next ≤ H'.next
def IBody (P : Program) (f : FuncId) (args : List Value) (H : Heap) (K : Value → Heap → Prop) : Prop :=
  ∀ (B : Nat) (w0 : World) (ρ : Ren) (args' : Array Value) (w : World), HR B w0 ρ H w → VRL ρ args args'.toList → Calls P f args' w (Left B w0 ρ H K)
def ICalls (P : Program) (f : FuncId) (args : List Value) (H : Heap) (K : Value → Heap → Prop) : Prop :=
  ∀ (B : Nat) (w0 : World) (ρ : Ren) (args' : Array Value) (w : World), HR B w0 ρ H w → VRL ρ args args'.toList →
    ((callFunc f args').run P w = .ok (.enter f args') w ∧ Calls P f args' w (Left B w0 ρ H K)) ∨
    ∃ v' w', (callFunc f args').run P w = .ok (.value v') w' ∧ Left B w0 ρ H K (.returned v') w'
theorem Left.mono {B : Nat} {w0 : World} {ρ : Ren} {H : Heap} {K K' : Value → Heap → Prop} {x : Ending} {w : World} (h : Left B w0 ρ H K x w) (hk : ∀ v H', K v H' → K' v H') : Left B w0 ρ H K' x w :=
  let ⟨ρ', v, v', H', e, k, r⟩ := h; ⟨ρ', v, v', H', e, hk v H' k, r⟩
theorem IBody.mono {P : Program} {f : FuncId} {args : List Value} {H : Heap} {K K' : Value → Heap → Prop} (h : IBody P f args H K) (hk : ∀ v H', K v H' → K' v H') : IBody P f args H K' :=
  fun B w0 ρ args' w h1 h2 => (h B w0 ρ args' w h1 h2).mono fun _ _ r => r.mono hk
theorem ICalls.mono {P : Program} {f : FuncId} {args : List Value} {H : Heap} {K K' : Value → Heap → Prop} (h : ICalls P f args H K) (hk : ∀ v H', K v H' → K' v H') : ICalls P f args H K' :=
  fun B w0 ρ args' w h1 h2 => (h B w0 ρ args' w h1 h2).imp (fun r => ⟨r.1, r.2.mono fun _ _ r => r.mono hk⟩) fun ⟨v', w', e, r⟩ => ⟨v', w', e, r.mono hk⟩
def isBody (P : Program) (f : FuncId) : Bool :=
  match P.funcs[f]? with
  | some fn => fn.name != "runtime.NumGoroutine" && fn.body.isSome
  | none => false
theorem IBody.calls {P : Program} {f : FuncId} {args : List Value} {H : Heap} {K : Value → Heap → Prop} (hb : isBody P f = true) (h : IBody P f args H K) : ICalls P f args H K := by
  intro B w0 ρ args' w h1 h2
  refine .inl ⟨?_, h B w0 ρ args' w h1 h2⟩
  unfold isBody at hb
  split at hb
  · rename_i fn hf
    simp only [Bool.and_eq_true, bne_iff_ne, ne_eq] at hb
    have h3 : (fn.name == "runtime.NumGoroutine") = false := by simpa using hb.1
    have h4 : fn.body.isNone = false := by cases hx : fn.body <;> simp_all
    unfold callFunc
    simp only [Sem.run_bind, run_program, Result.andThen_ok, hf, h3, h4, Bool.false_eq_true, if_false, Sem.run_pure]
  · cases hb
theorem IBody.drop {P : Program} {f : FuncId} {args : List Value} {H : Heap} {K : Value → Heap → Prop} (p : Nat → Bool) (h : IBody P f args H fun v H' => K v (H'.only p)) : IBody P f args H K :=
  fun B w0 ρ args' w h1 h2 => (h B w0 ρ args' w h1 h2).mono fun x w' ⟨ρ', v, v', H', e, k, hv, hr, hl, hn⟩ =>
    ⟨ρ', v, v', H'.only p, e, k, hv, hr.weaken (Nat.le_refl _) (fun b kk hk => by
      unfold Heap.only at hk
      simp only at hk
      split at hk
      · exact ⟨kk, hk, rfl, fun h => h⟩
      · cases hk), hl, hn⟩
def iput (n : Nat) (dst : Option Tmp) (v : Value) (e : Env) (k : Env → Prop) : Prop :=
  match dst with
  | some d => d < n ∧ k (e.put d v)
  | none => k e
theorem iput_some {n d : Nat} {v : Value} {e : Env} {k : Env → Prop} : iput n (some d) v e k = (d < n ∧ k (e.put d v)) := rfl
theorem iput_none {n : Nat} {v : Value} {e : Env} {k : Env → Prop} : iput n none v e k = k e := rfl
def iop (P : Program) (n : Nat) (o : Oper) (e : Env) (H : Heap) (K : Env → Heap → Prop) : Prop :=
  match o.op with
  | .call ⟨.value g, as, _⟩ => got (e.eval g) fun gv => got (evals e as.toList) fun vs =>
    match gv with
    | .func (.func f) first cap => ICalls P f (first.toList ++ vs ++ cap.toList) H fun v H' => iput n o.dst v e fun e' => K e' H'
    | _ => False
  | .call ⟨.builtin .append, ⟨[s, x]⟩, ⟨[t, t2]⟩⟩ => (tKind P t2 = some .slice ∨ tKind P t2 = some .string) ∧ got (e.eval s) fun s => got (e.eval x) fun x => got (iapp P t s x H) fun r => iput n o.dst r.1 e fun e' => K e' r.2
  | .convert s t x => if isRowT P s = true then got (e.eval x) fun u => got (iconvm P s t u H) fun r => iput n o.dst r.1 e fun e' => K e' r.2
    else got (ival P (.convert s t x) e H) fun v => iput n o.dst v e fun e' => K e' H
  | .box t x => got (imem P (.box t x) e H) fun r => iput n o.dst r.1 e fun e' => K e' r.2
  | .alloc t => got (imem P (.alloc t) e H) fun r => iput n o.dst r.1 e fun e' => K e' r.2
  | .store t x y => got (imem P (.store t x y) e H) fun r => iput n o.dst r.1 e fun e' => K e' r.2
  | .makeSlice t x y => got (imem P (.makeSlice t x y) e H) fun r => iput n o.dst r.1 e fun e' => K e' r.2
  | .buildSlice t x y => got (imem P (.buildSlice t x y) e H) fun r => iput n o.dst r.1 e fun e' => K e' r.2
  | op => got (ival P op e H) fun v => iput n o.dst v e fun e' => K e' H
def Goes (n B : Nat) (w0 : World) (ρ : Ren) (H : Heap) (K : Env → Heap → Prop) (a : Act) (w : World) : Prop :=
  ∃ ρ' e' H', K e' H' ∧ AR n ρ' e' a ∧ HR B w0 ρ' H' w ∧ Ren.Le B ρ ρ' ∧ H.next ≤ H'.next
theorem Goes.mono {n B : Nat} {w0 : World} {ρ : Ren} {H : Heap} {K K' : Env → Heap → Prop} {a : Act} {w : World} (h : Goes n B w0 ρ H K a w) (hk : ∀ e H', K e H' → K' e H') : Goes n B w0 ρ H K' a w :=
  let ⟨ρ', e', H', k, r⟩ := h; ⟨ρ', e', H', hk _ _ k, r⟩
theorem Goes.later {n B : Nat} {w0 : World} {ρ ρ' : Ren} {H H' : Heap} {K : Env → Heap → Prop} {a : Act} {w : World} (hl : Ren.Le B ρ ρ') (hn : H.next ≤ H'.next) (h : Goes n B w0 ρ' H' K a w) : Goes n B w0 ρ H K a w :=
  let ⟨σ, e', H2, k, ha, hr, hl2, hn2⟩ := h; ⟨σ, e', H2, k, ha, hr, hl.trans hl2, Nat.le_trans hn hn2⟩
theorem iput_sound {n B : Nat} {w0 w' : World} {ρ ρ' : Ren} {H H' : Heap} {e : Env} {a : Act} {dst : Option Tmp} {v v' : Value} {K : Env → Heap → Prop} (ha : AR n ρ e a) (hl : Ren.Le B ρ ρ') (hn : H.next ≤ H'.next)
    (hr : HR B w0 ρ' H' w') (hv : VR ρ' v v') (hp : iput n dst v e fun e' => K e' H') : Goes n B w0 ρ H K (a.put dst v') w' := by
  cases dst with
  | none => exact ⟨ρ', e, H', hp, by simpa [Act.put] using ha.mono hl, hr, hl, hn⟩
  | some d => exact ⟨ρ', e.put d v, H', hp.2, (ha.mono hl).put hp.1 hv, hr, hl, hn⟩
theorem iop_sound {P : Program} {n B : Nat} {w0 w : World} {ρ : Ren} {H : Heap} {e : Env} {a : Act} (ha : AR n ρ e a) (hh : HR B w0 ρ H w) {o : Oper} {K : Env → Heap → Prop} (hp : iop P n o e H K)
    (Q' : Exit → Act → World → Prop) : o.wp P a w (Goes n B w0 ρ H K) Q' := by
  have mem : got (imem P o.op e H) (fun r => iput n o.dst r.1 e fun e' => K e' r.2) → o.wp P a w (Goes n B w0 ρ H K) Q' := fun h => by
    obtain ⟨⟨v, H'⟩, h1, h2⟩ := h
    obtain ⟨x, v', w', ρ', h3, h4, h5, h6, h7, h8⟩ := imem_sound ha hh h1
    unfold Oper.wp
    rw [h3]
    rcases h4 with rfl | ⟨rfl, rfl⟩
    · exact iput_sound ha h7 h8 h6 h5 h2
    · exact iput_sound ha h7 h8 h6 h5 h2
  have val : got (ival P o.op e H) (fun v => iput n o.dst v e fun e' => K e' H) → o.wp P a w (Goes n B w0 ρ H K) Q' := fun h => by
    obtain ⟨v, h1, h2⟩ := h
    obtain ⟨v', h3, h4⟩ := ival_sound (P := P) ha hh h1
    unfold Oper.wp
    rw [h3]
    show Goes n B w0 ρ H K (a.put o.dst v') w
    exact iput_sound ha (Ren.Le.refl _) (Nat.le_refl _) hh h4 h2
  unfold iop at hp
  split at hp
  · rename_i g as tys hop
    obtain ⟨gv, h1, vs, h2, h3⟩ := hp
    split at h3
    · rename_i f first cap
      have hg := Env.eval_sound ha h1
      have hvs := evals_sound ha h2
      generalize hge : a.eval g = gv' at hg
      cases hg with
      | plain hq => simp [plain0] at hq
      | func hx hy =>
        rename_i first' cap'
        have hargs : VRL ρ (first.toList ++ vs ++ cap.toList) (first' ++ as.map a.eval ++ cap').toList := by
          simp only [Array.toList_append, Array.toList_map]
          exact VRL.append (VRL.append hx hvs) hy
        have hrun : (execOp a.eval o).run P w = (callFunc f (first' ++ as.map a.eval ++ cap')).run P w := by
          obtain ⟨dst, op, type, pos, after, guard⟩ := o
          simp only at hop
          subst hop
          simp only [execOp, Sem.run_bind, resolve, hge, Deferred.ofValue, Sem.run_pure, Result.andThen_ok, invoke]
        rcases h3 B w0 ρ _ w hh hargs with ⟨h4, h5⟩ | ⟨v', w', h4, h5⟩
        · unfold Oper.wp
          rw [hrun, h4]
          refine Calls.mono h5 ?_
          rintro x w' ⟨ρ', v, v', H', rfl, hk, hv, hr, hl, hn⟩
          exact iput_sound ha hl hn hr hv hk
        · unfold Oper.wp
          rw [hrun, h4]
          obtain ⟨ρ', v, v2, H', hx2, hk, hv, hr, hl, hn⟩ := h5
          cases hx2
          exact iput_sound ha hl hn hr hv hk
    · exact h3.elim
  · rename_i s x t t2 hop
    obtain ⟨ht2, sv, h1, xv, h2, ⟨v, H'⟩, h3, h4⟩ := hp
    obtain ⟨v', w', ρ', h5, h6, h7, h8, h9⟩ := iapp_sound (P := P) (ty := o.type) hh ht2 (Env.eval_sound ha h1) (Env.eval_sound ha h2) h3
    have hrun : (execOp a.eval o).run P w = .ok (.value v') w' := by
      obtain ⟨dst, op, type, pos, after, guard⟩ := o
      simp only at hop
      subst hop
      simp only [execOp, Sem.run_bind, resolve, Sem.run_pure, Result.andThen_ok, invoke, builtin]
      have e1 : Array.map a.eval (#[s, x] : Array Operand) = #[a.eval s, a.eval x] := by simp
      rw [show (⟨[s, x]⟩ : Array Operand) = #[s, x] from rfl, e1, show (⟨[t, t2]⟩ : Array TypeId) = #[t, t2] from rfl, h5]
      rfl
    unfold Oper.wp
    rw [hrun]
    exact iput_sound ha h8 h9 h7 h6 h4
  · rename_i s t x hop
    split at hp
    · obtain ⟨u, h1, ⟨v, H'⟩, h2, h3⟩ := hp
      obtain ⟨v', w', h4, h5, h6⟩ := iconvm_sound (P := P) hh (Env.eval_sound ha h1) h2
      have hsame := iconvm_same h2
      have hrun : (execOp a.eval o).run P w = .ok (.value v') w' := by
        obtain ⟨dst, op, type, pos, after, guard⟩ := o
        simp only at hop
        subst hop
        simp only [execOp, Sem.run_bind, h4, Result.andThen_ok, Sem.run_pure]
      unfold Oper.wp
      rw [hrun]
      exact iput_sound ha (Ren.Le.refl _) (by rw [hsame]; exact Nat.le_refl _) h6 h5 h3
    · exact val (by rw [hop]; exact hp)
  · rename_i hop; exact mem (by rw [hop]; exact hp)
  · rename_i hop; exact mem (by rw [hop]; exact hp)
  · rename_i hop; exact mem (by rw [hop]; exact hp)
  · rename_i hop; exact mem (by rw [hop]; exact hp)
  · rename_i hop; exact mem (by rw [hop]; exact hp)
  · exact val hp
theorem iop_mono {P : Program} {n : Nat} {o : Oper} {e : Env} {H : Heap} {K K' : Env → Heap → Prop} (hk : ∀ e H, K e H → K' e H) (h : iop P n o e H K) : iop P n o e H K' := by
  have pm : ∀ {v : Value} {H' : Heap}, iput n o.dst v e (fun e' => K e' H') → iput n o.dst v e (fun e' => K' e' H') := fun {v H'} h => by
    unfold iput at h ⊢
    split at h
    · exact ⟨h.1, hk _ _ h.2⟩
    · exact hk _ _ h
  unfold iop at h ⊢
  split at h
  · obtain ⟨gv, h1, vs, h2, h3⟩ := h
    refine ⟨gv, h1, vs, h2, ?_⟩
    split at h3
    · exact ICalls.mono h3 fun v H' r => pm r
    · exact h3.elim
  · obtain ⟨ht2, sv, h1, xv, h2, r, h3, h4⟩ := h
    exact ⟨ht2, sv, h1, xv, h2, r, h3, pm h4⟩
  · split at h
    · rename_i hr
      obtain ⟨u, h1, r, h2, h3⟩ := h
      rw [if_pos hr]; exact ⟨u, h1, r, h2, pm h3⟩
    · rename_i hr
      rw [if_neg hr]; exact h.mono fun r h => pm h
  · exact h.mono fun r h => pm h
  · exact h.mono fun r h => pm h
  · exact h.mono fun r h => pm h
  · exact h.mono fun r h => pm h
  · exact h.mono fun r h => pm h
  · exact h.mono fun r h => pm h
def iyield (ops : Array Oper) (e : Env) (j : Nat) : Option (Option Bool) :=
  match (ops[j]?).bind (·.dst) with
  | none => none
  | some d =>
    match e.get d with
    | some (.bool b) => some (some b)
    | some (.tuple _) => some none
    | _ => none
def iopAt (P : Program) (n : Nat) (ops : Array Oper) (i : Nat) (K : Env → Heap → Prop) (e : Env) (H : Heap) : Prop :=
  match ops[i]? with
  | none => K e H
  | some o =>
    match o.guard with
    | none => iop P n o e H K
    | some (j, want) => got (iyield ops e j) fun y => if y = some want then iop P n o e H K else iput n o.dst undef e fun e' => K e' H
def iops (P : Program) (n : Nat) (ops : Array Oper) (K : Env → Heap → Prop) : List Nat → Env → Heap → Prop
  | [], e, H => K e H
  | i :: r, e, H => iopAt P n ops i (fun e' H' => iops P n ops K r e' H') e H
theorem iyield_sound {n : Nat} {ρ : Ren} {ops : Array Oper} {e : Env} {a : Act} (ha : AR n ρ e a) {j : Nat} {y : Option Bool} (h : iyield ops e j = some y) : yielded ops a.tmps j = y := by
  unfold iyield at h
  split at h
  · cases h
  · rename_i d hd
    split at h
    · rename_i b hb
      cases h
      obtain ⟨v', h1, h2⟩ := ha.slot d _ hb
      rw [h2.eq_of_plain0 rfl] at h1
      unfold yielded
      rw [hd]; simp [h1]
    · rename_i l hl
      cases h
      obtain ⟨v', h1, h2⟩ := ha.slot d _ hl
      cases h2 with
      | plain hq => simp [plain0] at hq
      | tuple hx => unfold yielded; rw [hd]; simp [h1]
    · cases h
theorem iopAt_sound {P : Program} {n B : Nat} {w0 w : World} {ρ : Ren} {H : Heap} {e : Env} {a : Act} (ha : AR n ρ e a) (hh : HR B w0 ρ H w) {ops : Array Oper} {i : Nat} {K : Env → Heap → Prop} {K' : Act → World → Prop}
    (hp : iopAt P n ops i K e H) (hK : ∀ a' w', Goes n B w0 ρ H K a' w' → K' a' w') (Q' : Exit → Act → World → Prop) : wpOp P ops Q' i K' a w := by
  unfold iopAt at hp
  unfold wpOp
  split at hp
  · rename_i ho
    simp only [ho]
    exact hK _ _ ⟨ρ, e, H, hp, ha, hh, Ren.Le.refl _, Nat.le_refl _⟩
  · rename_i o ho
    simp only [ho]
    split at hp
    · rename_i hg
      have hw : Region.wanted o (yielded ops a.tmps) = true := by simp [Region.wanted, hg]
      rw [if_pos hw]
      exact .inl (Oper.wp_mono hK (iop_sound ha hh hp Q'))
    · rename_i j want hg
      obtain ⟨y, hy, hp⟩ := hp
      have hys := iyield_sound (ops := ops) ha hy
      by_cases hw : y = some want
      · rw [if_pos hw] at hp
        have hwt : Region.wanted o (yielded ops a.tmps) = true := by simp [Region.wanted, hg, hys, hw]
        rw [if_pos hwt]
        exact .inl (Oper.wp_mono hK (iop_sound ha hh hp Q'))
      · rw [if_neg hw] at hp
        have hwt : Region.wanted o (yielded ops a.tmps) = false := by simp [Region.wanted, hg, hys, hw]
        simp only [hwt, Bool.false_eq_true, if_false]
        exact hK _ _ (iput_sound ha (Ren.Le.refl _) (Nat.le_refl _) hh (.tuple .nil) hp)
end Go.Proofs.YtoecebibhcadoaaDoor.I
