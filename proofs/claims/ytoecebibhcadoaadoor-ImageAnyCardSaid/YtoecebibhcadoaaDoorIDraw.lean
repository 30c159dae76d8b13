/- Regions whose order is drawn and that do more than answer values: a plan says what is taken first and what is branched over. No condition. -/
import Derived.Test.YtoecebibhcadoaaDoorISim
import Derived.Orders
namespace Go.Proofs.YtoecebibhcadoaaDoor.I
open Go Go.RowKit
set_option linter.unusedVariables false
set_option linter.unusedSimpArgs false
def iopK (P : Program) (op : Op) (e : Env) (H : Heap) (k : Value → Heap → Prop) : Prop :=
  match op with
  | .call ⟨.value g, as, _⟩ => got (e.eval g) fun gv => got (evals e as.toList) fun vs =>
    match gv with
    | .func (.func f) first cap => ICalls P f (first.toList ++ vs ++ cap.toList) H k
    | _ => False
  | .call ⟨.builtin .append, ⟨[s, x]⟩, ⟨[t, t2]⟩⟩ => (tKind P t2 = some .slice ∨ tKind P t2 = some .string) ∧ got (e.eval s) fun s => got (e.eval x) fun x => got (iapp P t s x H) fun r => k r.1 r.2
  | .convert s t x => if isRowT P s = true then got (e.eval x) fun u => got (iconvm P s t u H) fun r => k r.1 r.2 else got (ival P (.convert s t x) e H) fun v => k v H
  | .box t x => got (imem P (.box t x) e H) fun r => k r.1 r.2
  | .alloc t => got (imem P (.alloc t) e H) fun r => k r.1 r.2
  | .store t x y => got (imem P (.store t x y) e H) fun r => k r.1 r.2
  | .makeSlice t x y => got (imem P (.makeSlice t x y) e H) fun r => k r.1 r.2
  | .buildSlice t x y => got (imem P (.buildSlice t x y) e H) fun r => k r.1 r.2
  | op => got (ival P op e H) fun v => k v H
theorem iop_K {P : Program} {n : Nat} {o : Oper} {e : Env} {H : Heap} {K : Env → Heap → Prop} : iop P n o e H K = iopK P o.op e H fun v H' => iput n o.dst v e fun e' => K e' H' := by
  obtain ⟨dst, op, ty, pos, aft, g⟩ := o
  cases op <;> try rfl
theorem iopK_mono {P : Program} {op : Op} {e : Env} {H : Heap} {k k' : Value → Heap → Prop} (hk : ∀ v H, k v H → k' v H) (h : iopK P op e H k) : iopK P op e H k' := by
  unfold iopK at h ⊢
  split at h
  · obtain ⟨gv, h1, vs, h2, h3⟩ := h
    refine ⟨gv, h1, vs, h2, ?_⟩
    split at h3
    · exact ICalls.mono h3 fun v H' r => hk _ _ r
    · exact h3.elim
  · obtain ⟨ht2, sv, h1, xv, h2, r, h3, h4⟩ := h
    exact ⟨ht2, sv, h1, xv, h2, r, h3, hk _ _ h4⟩
  · split at h
    · rename_i hr
      obtain ⟨u, h1, r, h2, h3⟩ := h
      rw [if_pos hr]; exact ⟨u, h1, r, h2, hk _ _ h3⟩
    · rename_i hr
      rw [if_neg hr]; exact h.mono fun r h => hk _ _ h
  all_goals exact h.mono fun r h => hk _ _ h
theorem evals_congr {e e' : Env} : ∀ {l : List Operand}, (∀ x ∈ l, e'.eval x = e.eval x) → evals e' l = evals e l
  | [], _ => rfl
  | x :: r, h => by simp only [evals]; rw [h x (by simp), evals_congr fun y hy => h y (by simp [hy])]
theorem ival_congr {P : Program} {op : Op} {e e' : Env} {H : Heap} (h : ∀ x ∈ op.operands, e'.eval x = e.eval x) : ival P op e' H = ival P op e H := by
  unfold ival
  split <;> simp only [Op.operands, Call.operands] at h <;> first
    | rfl
    | (simp_all; done)
    | (rw [evals_congr (e := e) (e' := e') fun x hx => h x (by simpa using hx)]; done)
    | skip
  · rename_i a b
    rw [evals_congr (e := e) (e' := e') (l := a.toList) fun x hx => h x (by simp at hx ⊢; exact .inl hx), evals_congr (e := e) (e' := e') (l := b.toList) fun x hx => h x (by simp at hx ⊢; exact .inr hx)]
theorem imem_congr {P : Program} {op : Op} {e e' : Env} {H : Heap} (h : ∀ x ∈ op.operands, e'.eval x = e.eval x) : imem P op e' H = imem P op e H := by
  unfold imem
  split <;> simp only [Op.operands] at h <;> first
    | rfl
    | (simp_all; done)
    | (rw [evals_congr (e := e) (e' := e') fun x hx => h x (by simpa using hx)]; done)
theorem iopK_congr {P : Program} {op : Op} {e e' : Env} {H : Heap} {k : Value → Heap → Prop} (h : ∀ x ∈ op.operands, e'.eval x = e.eval x) : iopK P op e' H k = iopK P op e H k := by
  unfold iopK
  split
  · rename_i g as tys
    simp only [Op.operands, Call.operands] at h
    rw [h g (by simp), evals_congr (e := e) (e' := e') (l := as.toList) fun x hx => h x (by simp at hx ⊢; exact .inr hx)]
  · rename_i s x t t2
    simp only [Op.operands, Call.operands] at h
    rw [h s (by simp), h x (by simp)]
  · rename_i s t x
    rw [ival_congr h]
    simp only [Op.operands] at h
    rw [h x (by simp)]
  · rw [imem_congr h]
  · rw [imem_congr h]
  · rw [imem_congr h]
  · rw [imem_congr h]
  · rw [imem_congr h]
  · rw [ival_congr h]
def Env.putO (e : Env) (d : Option Tmp) (v : Value) : Env :=
  match d with
  | some d => e.put d v
  | none => e
theorem Env.put_comm (i j : Nat) (v u : Value) (hij : i ≠ j) : ∀ e : Env, (e.put i v).put j u = (e.put j u).put i v
  | [] => by
    simp only [Env.put]
    by_cases h : j < i
    · rw [if_neg (Ne.symm hij), if_pos h, if_neg hij, if_neg (by omega)]
    · rw [if_neg (Ne.symm hij), if_neg h, if_neg hij, if_pos (by omega)]
  | (k, x) :: r => by
    simp only [Env.put]
    have ih := Env.put_comm i j v u hij r
    by_cases h1 : i = k
    · subst h1
      by_cases h2 : j < i
      · simp [h2, hij, Ne.symm hij, Env.put, show ¬ i < j by omega]
      · simp [h2, hij, Ne.symm hij, Env.put]
    · by_cases h2 : j = k
      · subst h2
        by_cases h3 : i < j
        · simp [h1, h3, hij, Ne.symm hij, Env.put, show ¬ j < i by omega]
        · simp [h1, h3, hij, Ne.symm hij, Env.put]
      · by_cases h3 : i < k
        · by_cases h4 : j < k
          · by_cases h5 : i < j
            · simp [h1, h2, h3, h4, h5, hij, Ne.symm hij, Env.put, show ¬ j < i by omega]
            · simp [h1, h2, h3, h4, h5, hij, Ne.symm hij, Env.put, show j < i by omega]
          · simp [h1, h2, h3, h4, hij, Ne.symm hij, Env.put, show ¬ j < i by omega]
        · by_cases h4 : j < k
          · simp [h1, h2, h3, h4, hij, Ne.symm hij, Env.put, show ¬ i < j by omega]
          · simp [h1, h2, h3, h4, Env.put, ih]
theorem Env.putO_comm (e : Env) {x y : Option Tmp} (v u : Value) (h : ∀ d, x = some d → y ≠ some d) : (e.putO x v).putO y u = (e.putO y u).putO x v := by
  cases x with
  | none => rfl
  | some d =>
    cases y with
    | none => rfl
    | some d' => exact Env.put_comm d d' v u (fun e => h d rfl (by rw [e])) e
theorem Env.eval_putO {e : Env} {d : Option Tmp} {v : Value} {x : Operand} (h : ∀ t, d = some t → x ≠ .tmp t) : (e.putO d v).eval x = e.eval x := by
  cases d with
  | none => rfl
  | some d =>
    cases x with
    | tmp t =>
      have hne : t ≠ d := fun q => h d rfl (q ▸ rfl)
      show (e.put d v).get t = e.get t
      rw [Env.get_put, if_neg hne]
    | _ => rfl
def dstOk (n : Nat) : Option Tmp → Prop
  | some d => d < n
  | none => True
theorem iput_O {n : Nat} {d : Option Tmp} {v : Value} {e : Env} {k : Env → Prop} : iput n d v e k ↔ dstOk n d ∧ k (e.putO d v) := by
  cases d <;> simp [iput, dstOk, Env.putO]
theorem looks_eval {ops : Array Oper} {o : Oper} {e : Env} {d : Option Tmp} {v : Value} (h : ∀ t, d = some t → t ∉ o.looksAt ops) : ∀ x ∈ o.op.operands, (e.putO d v).eval x = e.eval x := fun x hx =>
  Env.eval_putO fun t ht hxt => h t ht (by
    subst hxt
    exact List.mem_append_left _ (List.mem_filterMap.2 ⟨.tmp t, by simpa using hx, rfl⟩))
theorem looks_yield {ops : Array Oper} {o : Oper} {e : Env} {d : Option Tmp} {v : Value} {j : Nat} {want : Bool} (hg : o.guard = some (j, want)) (h : ∀ t, d = some t → t ∉ o.looksAt ops) : iyield ops (e.putO d v) j = iyield ops e j := by
  cases d with
  | none => rfl
  | some t =>
    unfold iyield
    cases ht : (ops[j]?).bind (·.dst) with
    | none => rfl
    | some t' =>
      have hne : t' ≠ t := fun q => h t rfl (by subst q; simp [Oper.looksAt, hg, ht])
      simp only [Env.putO, Env.get_put, if_neg hne]
section
variable {P : Program} {n : Nat} {ops : Array Oper} {S : Heap → Prop} {Q : Env → Heap → Prop}
def iany (P : Program) (n : Nat) (ops : Array Oper) (S : Heap → Prop) (Q : Env → Heap → Prop) : Nat → Array Bool → Env → Heap → Prop
  | 0, listed, e, H => Region.ready .any ops listed = [] ∧ Q e H
  | fuel + 1, listed, e, H =>
    (Region.ready .any ops listed = [] → Q e H) ∧
    ∀ i ∈ Region.ready .any ops listed, iopAt P n ops i (fun e' H' => S H' ∧ iany P n ops S Q fuel (listed.setIfInBounds i true) e' H') e H
theorem iany_sound {B : Nat} {w0 : World} {Q' : Exit → Act → World → Prop} : ∀ (fuel : Nat) (listed : Array Bool) (e : Env) (H : Heap) (ρ : Ren) (a : Act) (w : World), AR n ρ e a → HR B w0 ρ H w → iany P n ops S Q fuel listed e H →
    (∀ a' w', Goes n B w0 ρ H Q a' w' → Q' .normal a' w') → wpAny P .any ops Q' fuel listed a w
  | 0, listed, e, H, ρ, a, w, ha, hh, h, hQ => ⟨h.1, hQ _ _ (now ha hh h.2)⟩
  | fuel + 1, listed, e, H, ρ, a, w, ha, hh, h, hQ => by
    refine ⟨fun hr => hQ _ _ (now ha hh (h.1 hr)), fun i hi => ?_⟩
    refine iopAt_sound ha hh (h.2 i hi) (fun a' w' g => ?_) Q'
    obtain ⟨ρ', e', H', hk, ha', hh', hl, hn⟩ := g
    exact iany_sound fuel _ e' H' ρ' a' w' ha' hh' hk.2 fun a2 w2 g2 => hQ _ _ (g2.later hl hn)
theorem iopAt_of {i : Nat} {o : Oper} (ho : ops[i]? = some o) {K : Env → Heap → Prop} {e : Env} {H : Heap} : iopAt P n ops i K e H =
    match o.guard with
    | none => iopK P o.op e H fun v H' => iput n o.dst v e fun e' => K e' H'
    | some (j, want) => got (iyield ops e j) fun y => if y = some want then iopK P o.op e H fun v H' => iput n o.dst v e fun e' => K e' H' else iput n o.dst undef e fun e' => K e' H := by
  unfold iopAt
  simp only [ho, iop_K]
  cases o.guard <;> rfl
theorem iopAt_mono {i : Nat} {K K' : Env → Heap → Prop} {e : Env} {H : Heap} (hk : ∀ e H, K e H → K' e H) (h : iopAt P n ops i K e H) : iopAt P n ops i K' e H := by
  cases ho : ops[i]? with
  | none => unfold iopAt at h ⊢; simp only [ho] at h ⊢; exact hk _ _ h
  | some o =>
    rw [iopAt_of ho] at h ⊢
    have pm : ∀ {v : Value} {H' : Heap}, iput n o.dst v e (fun e' => K e' H') → iput n o.dst v e (fun e' => K' e' H') := fun {v H'} h => by
      rw [iput_O] at h ⊢; exact ⟨h.1, hk _ _ h.2⟩
    cases hg : o.guard with
    | none => simp only [hg] at h ⊢; exact iopK_mono (fun v H r => pm r) h
    | some jw =>
      obtain ⟨j, want⟩ := jw
      simp only [hg] at h ⊢
      obtain ⟨y, hy, h⟩ := h
      refine ⟨y, hy, ?_⟩
      show if y = some want then _ else _
      split
      · rename_i hw; rw [if_pos hw] at h; exact iopK_mono (fun v H r => pm r) h
      · rename_i hw; rw [if_neg hw] at h; exact pm h
def IYields (P : Program) (ops : Array Oper) (S : Heap → Prop) (o : Oper) (v : Value) (e : Env) : Prop :=
  ((match o.guard with | none => True | some (j, want) => iyield ops e j = some (some want)) ∧ ∀ H, S H → ival P o.op e H = some v) ∨
  ((match o.guard with | none => False | some (j, want) => ∃ y, iyield ops e j = some y ∧ y ≠ some want) ∧ v = undef)
def isVal (P : Program) : Op → Bool
  | .move _ | .assign _ | .pick _ _ _ | .load _ _ | .nilCheck _ | .binOp _ _ _ _ _ | .unOp _ _ _ | .fieldAddr _ _ _ | .field _ _ _ | .indexAddr _ _ _ | .index _ _ _ | .extract _ _ | .makeFunc _ _ _ | .build _ _ | .slice _ _ _ _ _ => true
  | .convert s _ _ => !isRowT P s
  | .call ⟨.builtin .len, _, _⟩ | .call ⟨.builtin .min, _, _⟩ | .call ⟨.builtin .max, _, _⟩ => true
  | _ => false
theorem iopK_val {op : Op} (h : isVal P op = true) {e : Env} {H : Heap} {k : Value → Heap → Prop} : iopK P op e H k = got (ival P op e H) fun v => k v H := by
  unfold iopK
  split <;> first | rfl | (simp [isVal] at h; done) | skip
  rename_i s t x
  simp only [isVal, Bool.not_eq_true'] at h
  rw [if_neg (by simp [h])]
theorem IYields.same {o : Oper} {v u : Value} {d : Option Tmp} {e : Env} (h : ∀ t, d = some t → t ∉ o.looksAt ops) (hy : IYields P ops S o v e) : IYields P ops S o v (e.putO d u) := by
  unfold IYields at *
  have hv : ∀ H, ival P o.op (e.putO d u) H = ival P o.op e H := fun H => ival_congr (looks_eval h)
  cases hg : o.guard with
  | none => simp only [hg] at hy ⊢; simpa [hv] using hy
  | some jw =>
    obtain ⟨j, want⟩ := jw
    simp only [hg, hv, looks_yield hg h] at hy ⊢
    exact hy
theorem IYields.at {i : Nat} {o : Oper} {v : Value} {e : Env} {H : Heap} (ho : ops[i]? = some o) (hv : isVal P o.op = true) (hd : dstOk n o.dst) (hy : IYields P ops S o v e) {K : Env → Heap → Prop} (hS : S H) (h : K (e.putO o.dst v) H) : iopAt P n ops i K e H := by
  rw [iopAt_of ho]
  unfold IYields at hy
  cases hg : o.guard with
  | none =>
    simp only [hg] at hy ⊢
    rcases hy with ⟨_, hy⟩ | ⟨hy, _⟩
    · rw [iopK_val hv]; exact ⟨v, hy H hS, iput_O.mpr ⟨hd, h⟩⟩
    · exact hy.elim
  | some jw =>
    obtain ⟨j, want⟩ := jw
    simp only [hg] at hy ⊢
    rcases hy with ⟨h1, hy⟩ | ⟨⟨y, h1, h2⟩, rfl⟩
    · refine ⟨_, h1, ?_⟩
      show if some want = some want then _ else _
      rw [if_pos rfl, iopK_val hv]; exact ⟨v, hy H hS, iput_O.mpr ⟨hd, h⟩⟩
    · refine ⟨_, h1, ?_⟩
      show if y = some want then _ else _
      rw [if_neg h2]; exact iput_O.mpr ⟨hd, h⟩
theorem iopAt_put {j : Nat} {oi oj : Oper} {v : Value} (hj : ops[j]? = some oj) (hap : oi.apart ops oj = true) {K : Env → Heap → Prop} {e : Env} {H : Heap}
    (hy : IYields P ops S oi v e) (h : iopAt P n ops j K (e.putO oi.dst v) H) : iopAt P n ops j (fun e' H' => IYields P ops S oi v e' ∧ K (e'.putO oi.dst v) H') e H := by
  obtain ⟨h1, h2, h3⟩ := Oper.apart_spec hap
  have pm : ∀ {u : Value} {H' : Heap}, iput n oj.dst u (e.putO oi.dst v) (fun e' => K e' H') → iput n oj.dst u e (fun e' => IYields P ops S oi v e' ∧ K (e'.putO oi.dst v) H') := fun {u H'} h => by
    rw [iput_O] at h ⊢
    refine ⟨h.1, hy.same h3, ?_⟩
    rw [← Env.putO_comm e v u h2]; exact h.2
  rw [iopAt_of hj] at h ⊢
  cases hg : oj.guard with
  | none =>
    simp only [hg] at h ⊢
    rw [iopK_congr (looks_eval h1)] at h
    exact iopK_mono (fun v H r => pm r) h
  | some jw =>
    obtain ⟨g, want⟩ := jw
    simp only [hg] at h ⊢
    rw [looks_yield hg h1] at h
    obtain ⟨y, hy2, h⟩ := h
    refine ⟨y, hy2, ?_⟩
    show if y = some want then _ else _
    split
    · rename_i hw; rw [if_pos hw, iopK_congr (looks_eval h1)] at h; exact iopK_mono (fun v H r => pm r) h
    · rename_i hw; rw [if_neg hw] at h; exact pm h
theorem iany_first {i : Nat} {oi : Oper} {v : Value} (hi : ops[i]? = some oi) (hv : isVal P oi.op = true) (hd : dstOk n oi.dst) :
    ∀ (fuel : Nat) (listed : Array Bool) (e : Env) (H : Heap),
      (∀ j oj, ops[j]? = some oj → j ≠ i → listed.getD j true = false → (∀ x ∈ oj.after, Region.binds .any x = true → x.on ≠ i) → oi.apart ops oj = true) →
      i ∈ Region.ready .any ops listed → IYields P ops S oi v e → S H →
      iany P n ops S Q fuel (listed.setIfInBounds i true) (e.putO oi.dst v) H → iany P n ops S Q (fuel + 1) listed e H := by
  intro fuel
  induction fuel with
  | zero =>
    intro listed e H _ hr hy hS h
    refine ⟨fun h => (by rw [h] at hr; cases hr), fun j hj => ?_⟩
    by_cases hji : j = i
    · subst hji; exact hy.at hi hv hd hS ⟨hS, h⟩
    · have := ready_mono hj hji
      rw [h.1] at this
      cases this
  | succ fuel ih =>
    intro listed e H hfree hr hy hS h
    refine ⟨fun h => (by rw [h] at hr; cases hr), fun j hj => ?_⟩
    by_cases hji : j = i
    · subst hji; exact hy.at hi hv hd hS ⟨hS, h⟩
    · have h1 := h.2 j (ready_mono hj hji)
      obtain ⟨hjun, oj, hoj, hall⟩ := mem_ready.1 hj
      have hnot : ∀ x ∈ oj.after, Region.binds .any x = true → x.on ≠ i := fun x he hb heq => by
        have h1 := hall x he hb
        have h0 := (mem_ready.1 hr).1
        rw [heq] at h1
        rcases Nat.lt_or_ge i listed.size with h' | h'
        · simp [h'] at h0 h1; rw [h0] at h1; cases h1
        · simp [Array.getElem?_eq_none h'] at h1
      have h2 := iopAt_put hoj (hfree j oj hoj hji hjun hnot) hy h1
      have hfree' : ∀ k ok, ops[k]? = some ok → k ≠ i → (listed.setIfInBounds j true).getD k true = false →
          (∀ x ∈ ok.after, Region.binds .any x = true → x.on ≠ i) → oi.apart ops ok = true := fun k ok hk hki hun hno => by
        refine hfree k ok hk hki ?_ hno
        by_cases hjk : j = k
        · subst hjk; exact hjun
        · rw [getD_set_ne true hjk] at hun; exact hun
      refine iopAt_mono (fun e' H' h3 => ⟨h3.2.1, ih (listed.setIfInBounds j true) e' H' hfree' (ready_mono hr (Ne.symm hji)) h3.1 h3.2.1 ?_⟩) h2
      rw [Array.setIfInBounds_comm _ _ hji]
      exact h3.2.2
theorem iopAt_same {j : Nat} {o : Oper} (hj : ops[j]? = some o) (hv : isVal P o.op = true) {K : Env → Heap → Prop} {e : Env} {H : Heap} (h : iopAt P n ops j K e H) : iopAt P n ops j (fun e' H' => H' = H ∧ K e' H') e H := by
  have pm : ∀ {u : Value}, iput n o.dst u e (fun e' => K e' H) → iput n o.dst u e (fun e' => H = H ∧ K e' H) := fun {u} h => by
    rw [iput_O] at h ⊢; exact ⟨h.1, rfl, h.2⟩
  rw [iopAt_of hj] at h ⊢
  cases hg : o.guard with
  | none =>
    simp only [hg] at h ⊢
    rw [iopK_val hv] at h ⊢
    exact h.mono fun v h => pm h
  | some jw =>
    obtain ⟨g, want⟩ := jw
    simp only [hg] at h ⊢
    obtain ⟨y, hy, h⟩ := h
    refine ⟨y, hy, ?_⟩
    show if y = some want then _ else _
    split
    · rename_i hw
      rw [if_pos hw, iopK_val hv] at h
      rw [iopK_val hv]
      exact h.mono fun v h => by simpa using pm h
    · rename_i hw; rw [if_neg hw] at h; simpa using pm h
structure Waits (P : Program) (ops : Array Oper) (i : Nat) (D : List Nat) (listed : Array Bool) : Prop where
  here : listed.getD i true = false
  open_ : ∀ j ∈ D, listed.getD j true = false
  edge : ∀ j ∈ D, ∀ o, ops[j]? = some o → ∃ x ∈ o.after, Region.binds .any x = true ∧ x.on ∈ i :: D
  vals : ∀ j o, ops[j]? = some o → listed.getD j true = false → isVal P o.op = false → j ∈ D
theorem getD_both {listed : Array Bool} {i : Nat} (h : listed.getD i true = false) : listed.getD i false = false := by
  rcases Nat.lt_or_ge i listed.size with h' | h'
  · simp [h'] at h ⊢; exact h
  · simp [Array.getElem?_eq_none h']
theorem Waits.notin {i j : Nat} {D : List Nat} {listed : Array Bool} (h : Waits P ops i D listed) (hr : j ∈ Region.ready .any ops listed) : j ∉ D := fun hj => by
  obtain ⟨_, o, ho, hall⟩ := mem_ready.1 hr
  obtain ⟨x, hx, hb, hin⟩ := h.edge j hj o ho
  have h1 := hall x hx hb
  rcases List.mem_cons.1 hin with e | e
  · rw [e, getD_both h.here] at h1; cases h1
  · rw [getD_both (h.open_ _ e)] at h1; cases h1
theorem Waits.next {i j : Nat} {D : List Nat} {listed : Array Bool} (h : Waits P ops i D listed) (hr : j ∈ Region.ready .any ops listed) (hne : j ≠ i) : Waits P ops i D (listed.setIfInBounds j true) :=
  ⟨by rw [getD_set_ne true hne]; exact h.here, fun k hk => by
    have : j ≠ k := fun e => h.notin hr (e ▸ hk)
    rw [getD_set_ne true this]; exact h.open_ k hk, h.edge, fun k o hk hl hv => by
    by_cases e : j = k
    · subst e
      exact h.vals j o hk (mem_ready.1 hr).1 hv
    · rw [getD_set_ne true e] at hl; exact h.vals k o hk hl hv⟩
theorem iany_load {i : Nat} {oi : Oper} {v : Value} {D : List Nat} (hi : ops[i]? = some oi) (hv : isVal P oi.op = true) (hd : dstOk n oi.dst) {H : Heap} (hS : S H) :
    ∀ (fuel : Nat) (listed : Array Bool) (e : Env),
      (∀ j oj, ops[j]? = some oj → j ≠ i → listed.getD j true = false → (∀ x ∈ oj.after, Region.binds .any x = true → x.on ≠ i) → oi.apart ops oj = true) →
      i ∈ Region.ready .any ops listed → Waits P ops i D listed → IYields P ops (fun K => K = H) oi v e →
      iany P n ops S Q fuel (listed.setIfInBounds i true) (e.putO oi.dst v) H → iany P n ops S Q (fuel + 1) listed e H := by
  intro fuel
  induction fuel with
  | zero =>
    intro listed e _ hr _ hy h
    refine ⟨fun h => (by rw [h] at hr; cases hr), fun j hj => ?_⟩
    by_cases hji : j = i
    · subst hji; exact hy.at hi hv hd rfl ⟨hS, h⟩
    · have := ready_mono hj hji
      rw [h.1] at this
      cases this
  | succ fuel ih =>
    intro listed e hfree hr hw hy h
    refine ⟨fun h => (by rw [h] at hr; cases hr), fun j hj => ?_⟩
    by_cases hji : j = i
    · subst hji; exact hy.at hi hv hd rfl ⟨hS, h⟩
    · have h1 := h.2 j (ready_mono hj hji)
      obtain ⟨hjun, oj, hoj, hall⟩ := mem_ready.1 hj
      have hnot : ∀ x ∈ oj.after, Region.binds .any x = true → x.on ≠ i := fun x he hb heq => by
        have h1 := hall x he hb
        rw [heq, getD_both hw.here] at h1
        cases h1
      have hvj : isVal P oj.op = true := by
        cases hb : isVal P oj.op with
        | true => rfl
        | false => exact absurd (hw.vals j oj hoj hjun hb) (hw.notin hj)
      have h2 := iopAt_same hoj hvj (iopAt_put hoj (hfree j oj hoj hji hjun hnot) hy h1)
      have hfree' : ∀ k ok, ops[k]? = some ok → k ≠ i → (listed.setIfInBounds j true).getD k true = false →
          (∀ x ∈ ok.after, Region.binds .any x = true → x.on ≠ i) → oi.apart ops ok = true := fun k ok hk hki hun hno => by
        refine hfree k ok hk hki ?_ hno
        by_cases hjk : j = k
        · subst hjk; exact hjun
        · rw [getD_set_ne true hjk] at hun; exact hun
      refine iopAt_mono (fun e' H' h3 => ?_) h2
      obtain ⟨rfl, h3⟩ := h3
      refine ⟨h3.2.1, ih (listed.setIfInBounds j true) e' hfree' (ready_mono hr (Ne.symm hji)) (hw.next hj hji) h3.1 ?_⟩
      rw [Array.setIfInBounds_comm _ _ hji]
      exact h3.2.2
def waitsB (P : Program) (ops : Array Oper) (i : Nat) (D : List Nat) (listed : Array Bool) : Bool :=
  !listed.getD i true && (D.all fun j => !listed.getD j true && match ops[j]? with | some o => o.after.any fun x => Region.binds .any x && (i :: D).contains x.on | none => true) &&
  (List.range ops.size).all fun j => listed.getD j true || D.contains j || match ops[j]? with | some o => isVal P o.op | none => true
theorem waitsB_spec {i : Nat} {D : List Nat} {listed : Array Bool} (h : waitsB P ops i D listed = true) : Waits P ops i D listed := by
  simp only [waitsB, Bool.and_eq_true, Bool.not_eq_true', List.all_eq_true] at h
  obtain ⟨⟨h1, h2⟩, h3⟩ := h
  refine ⟨h1, fun j hj => (h2 j hj).1, fun j hj o ho => ?_, fun j o ho hl hv => ?_⟩
  · have := (h2 j hj).2
    simp only [ho] at this
    obtain ⟨x, hx, hb⟩ := Array.any_eq_true'.1 this
    rw [Bool.and_eq_true] at hb
    exact ⟨x, hx, hb.1, by simpa using hb.2⟩
  · have := h3 j (List.mem_range.2 (Array.getElem?_eq_some_iff.1 ho).1)
    simp only [hl, ho, hv, Bool.false_or, Bool.or_false] at this
    simpa using this
inductive Plan where
  | done
  | ld (i : Nat) (D : List Nat) (p : Plan)
  | val (i : Nat) (p : Plan)
  | eff (i : Nat) (p : Plan) (others : Plan)
def Plan.heads : Plan → List Nat
  | .eff i _ r => i :: r.heads
  | _ => []
def Plan.depth : Plan → Nat
  | .done => 0
  | .ld _ _ p => p.depth + 1
  | .val _ p => p.depth + 1
  | .eff _ p r => max (p.depth + 1) r.depth
def isValAt (P : Program) (n : Nat) (ops : Array Oper) (i : Nat) : Bool :=
  match ops[i]? with
  | some o => isVal P o.op && (match o.dst with | some d => decide (d < n) | none => true)
  | none => false
def Plan.ok (P : Program) (n : Nat) (ops : Array Oper) (top : Bool) (listed : Array Bool) : Plan → Bool
  | .done => !top || Region.ready .any ops listed == []
  | .ld i D p => top && (Region.ready .any ops listed).contains i && Region.free .any ops listed i && isValAt P n ops i && waitsB P ops i D listed && p.ok P n ops true (listed.setIfInBounds i true)
  | .val i p => top && (Region.ready .any ops listed).contains i && Region.free .any ops listed i && isValAt P n ops i && p.ok P n ops true (listed.setIfInBounds i true)
  | .eff i p r => (!top || Region.ready .any ops listed == Plan.heads (.eff i p r)) && p.ok P n ops true (listed.setIfInBounds i true) && r.ok P n ops false listed
def inKs (ks : List Nat) (v : Value) : Prop :=
  match v with
  | .pointer (some ⟨b, _, _⟩) => b ∈ ks
  | .func (.yield _) _ _ => True
  | _ => False
def ikeep (P : Program) (ks : List Nat) (op : Op) (e : Env) (H : Heap) (k : Value → Prop) : Prop :=
  match op with
  | .load t x => got (e.eval x) fun p => got (iload P t H p) fun v => inKs ks p ∧ k v
  | op => got (ival P op e H) k
def Plan.walk (P : Program) (n : Nat) (ops : Array Oper) (ks : List Nat) (H0 : Heap) (Q : Env → Heap → Prop) (top : Bool) : Plan → Env → Heap → Prop
  | .done, e, H => if top = true then Q e H else True
  | .ld i D p, e, H =>
    match ops[i]? with
    | none => False
    | some o =>
      match o.guard with
      | none => got (ival P o.op e H) fun v => p.walk P n ops ks H0 Q true (e.putO o.dst v) H
      | some (j, want) => got (iyield ops e j) fun y => if y = some want then got (ival P o.op e H) fun v => p.walk P n ops ks H0 Q true (e.putO o.dst v) H else p.walk P n ops ks H0 Q true (e.putO o.dst undef) H
  | .val i p, e, H =>
    match ops[i]? with
    | none => False
    | some o =>
      match o.guard with
      | none => ikeep P ks o.op e H fun v => p.walk P n ops ks H0 Q true (e.putO o.dst v) H
      | some (j, want) => got (iyield ops e j) fun y => if y = some want then ikeep P ks o.op e H fun v => p.walk P n ops ks H0 Q true (e.putO o.dst v) H else p.walk P n ops ks H0 Q true (e.putO o.dst undef) H
  | .eff i p r, e, H => ((ops[i]?).isSome = true ∧ iopAt P n ops i (fun e' H' => (∀ b ∈ ks, H'.get b = H0.get b) ∧ p.walk P n ops ks H0 Q true e' H') e H) ∧ r.walk P n ops ks H0 Q false e H
theorem iload_same {P : Program} {t : TypeId} {H K : Heap} {ks : List Nat} {p v : Value} (hk : inKs ks p) (hs : ∀ b ∈ ks, K.get b = H.get b) (h : iload P t H p = some v) : iload P t K p = some v := by
  unfold iload at h ⊢
  split at h
  · rename_i b o
    have hb : K.get b = H.get b := hs b hk
    unfold Heap.cell Heap.row at *
    rw [hb]; exact h
  · exact h
  · cases h
theorem ival_still {P : Program} {op : Op} {e : Env} {H K : Heap} (hl : ∀ t x, op ≠ .load t x) : ival P op e K = ival P op e H := by
  unfold ival
  split <;> first | rfl | (rename_i t x; exact absurd rfl (hl t x))
theorem ikeep_yields {ks : List Nat} {H0 H : Heap} {op : Op} {e : Env} {k : Value → Prop} (hs : ∀ b ∈ ks, H.get b = H0.get b) (h : ikeep P ks op e H k) : ∃ v, k v ∧ ∀ K : Heap, (∀ b ∈ ks, K.get b = H0.get b) → ival P op e K = some v := by
  unfold ikeep at h
  split at h
  · obtain ⟨p, h1, v, h2, h3, h4⟩ := h
    refine ⟨v, h4, fun K hK => ?_⟩
    show (e.eval _).bind _ = _
    rw [h1]
    exact iload_same h3 (fun b hb => (hK b hb).trans (hs b hb).symm) h2
  · rename_i hl
    obtain ⟨v, h1, h2⟩ := h
    exact ⟨v, h2, fun K _ => by rw [ival_still (H := H) fun t x e => hl t x e]; exact h1⟩
theorem Plan.sound {ks : List Nat} {H0 : Heap} : ∀ (p : Plan),
    (∀ (fuel : Nat) (listed : Array Bool) (e : Env) (H : Heap), p.depth ≤ fuel → p.ok P n ops true listed = true → (∀ b ∈ ks, H.get b = H0.get b) → p.walk P n ops ks H0 Q true e H → iany P n ops (fun K => ∀ b ∈ ks, K.get b = H0.get b) Q fuel listed e H) ∧
    (∀ (fuel : Nat) (listed : Array Bool) (e : Env) (H : Heap), p.depth ≤ fuel + 1 → p.ok P n ops false listed = true → (∀ b ∈ ks, H.get b = H0.get b) → p.walk P n ops ks H0 Q false e H → ∀ i ∈ p.heads, iopAt P n ops i (fun e' H' => (∀ b ∈ ks, H'.get b = H0.get b) ∧ iany P n ops (fun K => ∀ b ∈ ks, K.get b = H0.get b) Q fuel (listed.setIfInBounds i true) e' H') e H)
  | .done => by
    refine ⟨fun fuel listed e H _ hok _ h => ?_, fun fuel listed e H _ _ _ _ i hi => by cases hi⟩
    simp only [Plan.ok, Bool.not_true, Bool.false_or, beq_iff_eq] at hok
    simp only [Plan.walk, if_true] at h
    cases fuel with
    | zero => exact ⟨hok, h⟩
    | succ fuel => exact ⟨fun _ => h, by rw [hok]; simp⟩
  | .ld i D p => by
    refine ⟨fun fuel listed e H hd hok hs h => ?_, fun fuel listed e H _ hok => by simp [Plan.ok] at hok⟩
    obtain ⟨ih, _⟩ := Plan.sound p
    simp only [Plan.ok, Bool.true_and, Bool.and_eq_true] at hok
    obtain ⟨⟨⟨⟨hr, hf⟩, hv⟩, hwb⟩, hp⟩ := hok
    simp only [Plan.depth] at hd
    obtain ⟨fuel, rfl⟩ : ∃ k, fuel = k + 1 := ⟨fuel - 1, by omega⟩
    unfold isValAt at hv
    cases ho : ops[i]? with
    | none => rw [ho] at hv; cases hv
    | some o =>
      simp only [ho, Bool.and_eq_true] at hv
      have hdst : dstOk n o.dst := by
        cases hx : o.dst with
        | none => trivial
        | some d => simpa [hx, dstOk] using hv.2
      simp only [Plan.walk, ho] at h
      have fin : ∀ v, IYields P ops (fun K => K = H) o v e → p.walk P n ops ks H0 Q true (e.putO o.dst v) H → iany P n ops (fun K => ∀ b ∈ ks, K.get b = H0.get b) Q (fuel + 1) listed e H := fun v hy hw =>
        iany_load ho hv.1 hdst hs fuel listed e (Region.free_spec ho hf) (by simpa using hr) (waitsB_spec hwb) hy (ih fuel _ _ H (by omega) hp hs hw)
      cases hg : o.guard with
      | none =>
        simp only [hg] at h
        obtain ⟨v, h1, h2⟩ := h
        exact fin v (.inl ⟨by simp only [hg], fun K e => by rw [e]; exact h1⟩) h2
      | some jw =>
        obtain ⟨j, want⟩ := jw
        simp only [hg] at h
        obtain ⟨y, hy, h⟩ := h
        by_cases hw : y = some want
        · rw [if_pos hw] at h
          obtain ⟨v, h1, h2⟩ := h
          exact fin v (.inl ⟨by simp only [hg]; rw [hy, hw], fun K e => by rw [e]; exact h1⟩) h2
        · rw [if_neg hw] at h
          exact fin undef (.inr ⟨by simp only [hg]; exact ⟨y, hy, hw⟩, rfl⟩) h
  | .val i p => by
    refine ⟨fun fuel listed e H hd hok hs h => ?_, fun fuel listed e H _ hok => by simp [Plan.ok] at hok⟩
    obtain ⟨ih, _⟩ := Plan.sound p
    simp only [Plan.ok, Bool.true_and, Bool.and_eq_true] at hok
    obtain ⟨⟨⟨hr, hf⟩, hv⟩, hp⟩ := hok
    simp only [Plan.depth] at hd
    obtain ⟨fuel, rfl⟩ : ∃ k, fuel = k + 1 := ⟨fuel - 1, by omega⟩
    unfold isValAt at hv
    cases ho : ops[i]? with
    | none => rw [ho] at hv; cases hv
    | some o =>
      simp only [ho, Bool.and_eq_true] at hv
      have hdst : dstOk n o.dst := by
        cases hx : o.dst with
        | none => trivial
        | some d => simpa [hx, dstOk] using hv.2
      simp only [Plan.walk, ho] at h
      have fin : ∀ v, IYields P ops (fun K => ∀ b ∈ ks, K.get b = H0.get b) o v e → p.walk P n ops ks H0 Q true (e.putO o.dst v) H → iany P n ops (fun K => ∀ b ∈ ks, K.get b = H0.get b) Q (fuel + 1) listed e H := fun v hy hw =>
        iany_first ho hv.1 hdst fuel listed e H (Region.free_spec ho hf) (by simpa using hr) hy hs (ih fuel _ _ H (by omega) hp hs hw)
      cases hg : o.guard with
      | none =>
        simp only [hg] at h
        obtain ⟨v, h1, h2⟩ := ikeep_yields hs h
        exact fin v (.inl ⟨by simp only [hg], h2⟩) h1
      | some jw =>
        obtain ⟨j, want⟩ := jw
        simp only [hg] at h
        obtain ⟨y, hy, h⟩ := h
        by_cases hw : y = some want
        · rw [if_pos hw] at h
          obtain ⟨v, h1, h2⟩ := ikeep_yields hs h
          exact fin v (.inl ⟨by simp only [hg]; rw [hy, hw], h2⟩) h1
        · rw [if_neg hw] at h
          exact fin undef (.inr ⟨by simp only [hg]; exact ⟨y, hy, hw⟩, rfl⟩) h
  | .eff i p r => by
    obtain ⟨ih, _⟩ := Plan.sound p
    obtain ⟨_, ih2⟩ := Plan.sound r
    have two : ∀ (fuel : Nat) (listed : Array Bool) (e : Env) (H : Heap), (Plan.eff i p r).depth ≤ fuel + 1 → p.ok P n ops true (listed.setIfInBounds i true) = true → r.ok P n ops false listed = true → (∀ b ∈ ks, H.get b = H0.get b) →
        iopAt P n ops i (fun e' H' => (∀ b ∈ ks, H'.get b = H0.get b) ∧ p.walk P n ops ks H0 Q true e' H') e H → r.walk P n ops ks H0 Q false e H →
        ∀ j ∈ (Plan.eff i p r).heads, iopAt P n ops j (fun e' H' => (∀ b ∈ ks, H'.get b = H0.get b) ∧ iany P n ops (fun K => ∀ b ∈ ks, K.get b = H0.get b) Q fuel (listed.setIfInBounds j true) e' H') e H := by
      intro fuel listed e H hd h1 h2 hs h3 h4 j hj
      simp only [Plan.depth] at hd
      simp only [Plan.heads, List.mem_cons] at hj
      rcases hj with rfl | hj
      · exact iopAt_mono (fun e' H' g => ⟨g.1, ih fuel _ e' H' (by omega) h1 g.1 g.2⟩) h3
      · exact ih2 fuel listed e H (by omega) h2 hs h4 j hj
    refine ⟨fun fuel listed e H hd hok hs h => ?_, fun fuel listed e H hd hok hs h j hj => ?_⟩
    · simp only [Plan.ok, Bool.not_true, Bool.false_or, Bool.and_eq_true, beq_iff_eq] at hok
      obtain ⟨⟨hr, h1⟩, h2⟩ := hok
      simp only [Plan.walk] at h
      obtain ⟨fuel, rfl⟩ : ∃ k, fuel = k + 1 := ⟨fuel - 1, by simp only [Plan.depth] at hd; omega⟩
      refine ⟨fun h0 => (by rw [hr] at h0; simp [Plan.heads] at h0), fun j hj => ?_⟩
      rw [hr] at hj
      exact two fuel listed e H hd h1 h2 hs h.1.2 h.2 j hj
    · simp only [Plan.ok, Bool.not_false, Bool.true_or, Bool.true_and, Bool.and_eq_true] at hok
      simp only [Plan.walk] at h
      exact two fuel listed e H hd hok.1 hok.2 hs h.1.2 h.2 j hj
end
def walkS (P : Program) (n : Nat) (ops : Array Oper) (ks : List Nat) (H0 : Heap) (Q : Env → Heap → Prop) (top : Bool) (p : Plan) (e : Env) (H : Heap) (_ : Tok (ops, Q)) : Prop := p.walk P n ops ks H0 Q top e H
theorem IWp.draw {P : Program} {n : Nat} {Q : Exit → Env → Heap → Prop} {e : Env} {H : Heap} {id : Nat} {l : List Oper} (keep ks : List Nat) (p : Plan) (hm : P.follows .mixedOrders = true)
    (hp : (decide (p.depth ≤ l.toArray.size) && p.ok P n l.toArray true (Array.replicate l.toArray.size false)) = true)
    (h : walkS P n l.toArray ks H (fun e' H' => Q .normal (Env.keep keep e') H') true p e H ⟨⟩) : IWp P n (.region id l.toArray true) Q e H := by
  rw [Bool.and_eq_true, decide_eq_true_eq] at hp
  refine IWp.kept keep fun B w0 ρ a w ha hh => ?_
  refine wp_region_any hm ?_
  have hh' := HR.drew hh
  exact iany_sound _ _ e H ρ a _ ha hh' ((Plan.sound (Q := fun e' H' => Q .normal (Env.keep keep e') H') p).1 _ _ e H hp.1 hp.2 (fun _ _ => rfl) h) fun a' w' g => g
def opAt (l : List Oper) (i : Nat) (k : Oper → Prop) (_ : Tok (l, k)) : Prop := match l[i]? with | some o => k o | none => False
def valS (P : Program) (n : Nat) (ops : Array Oper) (ks : List Nat) (H0 : Heap) (Q : Env → Heap → Prop) (p : Plan) (o : Oper) (e : Env) (H : Heap) (_ : Tok (ops, Q, o, p)) : Prop :=
  match o.guard with
  | none => ikeep P ks o.op e H fun v => p.walk P n ops ks H0 Q true (e.putO o.dst v) H
  | some (j, want) => got (iyield ops e j) fun y => if y = some want then ikeep P ks o.op e H fun v => p.walk P n ops ks H0 Q true (e.putO o.dst v) H else p.walk P n ops ks H0 Q true (e.putO o.dst undef) H
def ldS (P : Program) (n : Nat) (ops : Array Oper) (ks : List Nat) (H0 : Heap) (Q : Env → Heap → Prop) (p : Plan) (o : Oper) (e : Env) (H : Heap) (_ : Tok (ops, Q, o, p)) : Prop :=
  match o.guard with
  | none => got (ival P o.op e H) fun v => p.walk P n ops ks H0 Q true (e.putO o.dst v) H
  | some (j, want) => got (iyield ops e j) fun y => if y = some want then got (ival P o.op e H) fun v => p.walk P n ops ks H0 Q true (e.putO o.dst v) H else p.walk P n ops ks H0 Q true (e.putO o.dst undef) H
def effS (P : Program) (n : Nat) (ops : Array Oper) (o : Oper) (e : Env) (H : Heap) (K : Env → Heap → Prop) (_ : Tok (ops, o, K)) : Prop :=
  match o.guard with
  | none => iop P n o e H K
  | some (j, want) => got (iyield ops e j) fun y => if y = some want then iop P n o e H K else iput n o.dst undef e fun e' => K e' H
def ikeepS (P : Program) (ks : List Nat) (op : Op) (e : Env) (H : Heap) (k : Value → Prop) (_ : Tok k) : Prop := ikeep P ks op e H k
def keepsS (ks : List Nat) (H H0 : Heap) : Prop := ∀ b ∈ ks, H.get b = H0.get b
section sims
variable {P : Program} {n : Nat} {l : List Oper} {ops : Array Oper} {ks : List Nat} {H0 : Heap} {Q : Env → Heap → Prop} {e : Env} {H : Heap} {p r : Plan} {i : Nat}
theorem walkS_done {tk : Tok (ops, Q)} : walkS P n ops ks H0 Q true .done e H tk = Q e H := nr (by simp [walkS, Plan.walk])
theorem walkS_end {tk : Tok (ops, Q)} : walkS P n ops ks H0 Q false .done e H tk = True := nr (by simp [walkS, Plan.walk])
theorem walkS_val {b : Bool} {tk : Tok (l.toArray, Q)} : walkS P n l.toArray ks H0 Q b (.val i p) e H tk = opAt l i (fun o => valS P n l.toArray ks H0 Q p o e H ⟨⟩) ⟨⟩ := by
  simp only [walkS, Plan.walk, opAt, List.getElem?_toArray]
  cases l[i]? <;> rfl
theorem walkS_ld {b : Bool} {D : List Nat} {tk : Tok (l.toArray, Q)} : walkS P n l.toArray ks H0 Q b (.ld i D p) e H tk = opAt l i (fun o => ldS P n l.toArray ks H0 Q p o e H ⟨⟩) ⟨⟩ := by
  simp only [walkS, Plan.walk, opAt, List.getElem?_toArray]
  cases l[i]? <;> rfl
theorem walkS_eff {b : Bool} {tk : Tok (l.toArray, Q)} : walkS P n l.toArray ks H0 Q b (.eff i p r) e H tk = (opAt l i (fun o => effS P n l.toArray o e H (fun e' H' => keepsS ks H' H0 ∧ walkS P n l.toArray ks H0 Q true p e' H' ⟨⟩) ⟨⟩) ⟨⟩ ∧ walkS P n l.toArray ks H0 Q false r e H ⟨⟩) := by
  simp only [walkS, Plan.walk, opAt]
  refine propext (and_congr ?_ Iff.rfl)
  unfold iopAt effS keepsS
  rw [List.getElem?_toArray]
  cases l[i]? with
  | none => simp
  | some o => simp only [Option.isSome_some, true_and]; cases o.guard <;> exact Iff.rfl
theorem opAt_zero {o : Oper} {r : List Oper} {k : Oper → Prop} {tk : Tok (o :: r, k)} : opAt (o :: r) 0 k tk = k o := nr rfl
theorem opAt_succ {o : Oper} {r : List Oper} {k : Oper → Prop} {tk : Tok (o :: r, k)} : opAt (o :: r) (i + 1) k tk = opAt r i k ⟨⟩ := nr (by simp [opAt])
variable {dst : Option Tmp} {d : Tmp} {op : Op} {ty : TypeId} {pos : String} {aft : Array Edge} {j : Nat} {want : Bool}
theorem valS_free {tk : Tok (ops, Q, (⟨some d, op, ty, pos, aft, none⟩ : Oper), p)} : valS P n ops ks H0 Q p ⟨some d, op, ty, pos, aft, none⟩ e H tk = ikeepS P ks op e H (fun v => withinS (e.put d v) (fun e' => walkS P n ops ks H0 Q true p e' H ⟨⟩) ⟨⟩) ⟨⟩ := nr rfl
theorem valS_guard {tk : Tok (ops, Q, (⟨some d, op, ty, pos, aft, some (j, want)⟩ : Oper), p)} : valS P n ops ks H0 Q p ⟨some d, op, ty, pos, aft, some (j, want)⟩ e H tk =
    gotS (iyield ops e j) (fun y => if y = some want then ikeepS P ks op e H (fun v => withinS (e.put d v) (fun e' => walkS P n ops ks H0 Q true p e' H ⟨⟩) ⟨⟩) ⟨⟩ else withinS (e.put d undef) (fun e' => walkS P n ops ks H0 Q true p e' H ⟨⟩) ⟨⟩) ⟨⟩ := nr rfl
theorem ldS_free {tk : Tok (ops, Q, (⟨some d, op, ty, pos, aft, none⟩ : Oper), p)} : ldS P n ops ks H0 Q p ⟨some d, op, ty, pos, aft, none⟩ e H tk = gotS (ival P op e H) (fun v => withinS (e.put d v) (fun e' => walkS P n ops ks H0 Q true p e' H ⟨⟩) ⟨⟩) ⟨⟩ := nr rfl
theorem ldS_guard {tk : Tok (ops, Q, (⟨some d, op, ty, pos, aft, some (j, want)⟩ : Oper), p)} : ldS P n ops ks H0 Q p ⟨some d, op, ty, pos, aft, some (j, want)⟩ e H tk =
    gotS (iyield ops e j) (fun y => if y = some want then gotS (ival P op e H) (fun v => withinS (e.put d v) (fun e' => walkS P n ops ks H0 Q true p e' H ⟨⟩) ⟨⟩) ⟨⟩ else withinS (e.put d undef) (fun e' => walkS P n ops ks H0 Q true p e' H ⟨⟩) ⟨⟩) ⟨⟩ := nr rfl
theorem effS_free {K : Env → Heap → Prop} {tk : Tok (ops, (⟨dst, op, ty, pos, aft, none⟩ : Oper), K)} : effS P n ops ⟨dst, op, ty, pos, aft, none⟩ e H K tk = iopS P n ⟨dst, op, ty, pos, aft, none⟩ e H K ⟨⟩ := nr rfl
theorem effS_guard {K : Env → Heap → Prop} {tk : Tok (ops, (⟨dst, op, ty, pos, aft, some (j, want)⟩ : Oper), K)} : effS P n ops ⟨dst, op, ty, pos, aft, some (j, want)⟩ e H K tk =
    gotS (iyield ops e j) (fun y => if y = some want then iopS P n ⟨dst, op, ty, pos, aft, none⟩ e H K ⟨⟩ else iputS n dst undef e (fun e' => K e' H) ⟨⟩) ⟨⟩ := nr rfl
theorem ikeepS_load {k : Value → Prop} {t : TypeId} {x : Operand} {tk : Tok k} : ikeepS P ks (.load t x) e H k tk = gotS (e.eval x) (fun p => gotS (iload P t H p) (fun v => inKs ks p ∧ k v) ⟨⟩) ⟨⟩ := nr rfl
theorem ikeepS_other {k : Value → Prop} {tk : Tok k} (h : ∀ t x, op ≠ .load t x) : ikeepS P ks op e H k tk = gotS (ival P op e H) k ⟨⟩ := by
  unfold ikeepS ikeep
  split
  · rename_i t x; exact absurd rfl (h t x)
  · rfl
theorem keepsS_nil : keepsS [] H H0 = True := by simp [keepsS]
theorem keepsS_cons {b : Nat} : keepsS (b :: ks) H H0 = (H.get b = H0.get b ∧ keepsS ks H H0) := by simp [keepsS]
theorem inKs_fptr {off : Nat} {x : Value} : inKs ks (fptr off x) = True := nr rfl
theorem inKs_ptr {b o : Nat} {s : Option Nat} : inKs ks (.pointer (some ⟨b, o, s⟩)) = (b ∈ ks) := nr rfl
theorem ikeepS_move {k : Value → Prop} (x : Operand) {tk : Tok k} : ikeepS P ks (.move x) e H k tk = gotS (ival P (.move x) e H) k ⟨⟩ := ikeepS_other (by simp)
theorem ikeepS_assign {k : Value → Prop} (x : Operand) {tk : Tok k} : ikeepS P ks (.assign x) e H k tk = gotS (ival P (.assign x) e H) k ⟨⟩ := ikeepS_other (by simp)
theorem ikeepS_pick {k : Value → Prop} (x y z : Operand) {tk : Tok k} : ikeepS P ks (.pick x y z) e H k tk = gotS (ival P (.pick x y z) e H) k ⟨⟩ := ikeepS_other (by simp)
theorem ikeepS_nilCheck {k : Value → Prop} (x : Operand) {tk : Tok k} : ikeepS P ks (.nilCheck x) e H k tk = gotS (ival P (.nilCheck x) e H) k ⟨⟩ := ikeepS_other (by simp)
theorem ikeepS_binOp {k : Value → Prop} (b : BinOp) (t u : TypeId) (x y : Operand) {tk : Tok k} : ikeepS P ks (.binOp b t x y u) e H k tk = gotS (ival P (.binOp b t x y u) e H) k ⟨⟩ := ikeepS_other (by simp)
theorem ikeepS_unOp {k : Value → Prop} (b : UnOp) (t : TypeId) (x : Operand) {tk : Tok k} : ikeepS P ks (.unOp b t x) e H k tk = gotS (ival P (.unOp b t x) e H) k ⟨⟩ := ikeepS_other (by simp)
theorem ikeepS_convert {k : Value → Prop} (t u : TypeId) (x : Operand) {tk : Tok k} : ikeepS P ks (.convert t u x) e H k tk = gotS (ival P (.convert t u x) e H) k ⟨⟩ := ikeepS_other (by simp)
theorem ikeepS_fieldAddr {k : Value → Prop} (t : TypeId) (x : Operand) (f : Nat) {tk : Tok k} : ikeepS P ks (.fieldAddr t x f) e H k tk = gotS (ival P (.fieldAddr t x f) e H) k ⟨⟩ := ikeepS_other (by simp)
theorem ikeepS_field {k : Value → Prop} (t : TypeId) (x : Operand) (f : Nat) {tk : Tok k} : ikeepS P ks (.field t x f) e H k tk = gotS (ival P (.field t x f) e H) k ⟨⟩ := ikeepS_other (by simp)
theorem ikeepS_indexAddr {k : Value → Prop} (t : TypeId) (x i : Operand) {tk : Tok k} : ikeepS P ks (.indexAddr t x i) e H k tk = gotS (ival P (.indexAddr t x i) e H) k ⟨⟩ := ikeepS_other (by simp)
theorem ikeepS_index {k : Value → Prop} (t : TypeId) (x i : Operand) {tk : Tok k} : ikeepS P ks (.index t x i) e H k tk = gotS (ival P (.index t x i) e H) k ⟨⟩ := ikeepS_other (by simp)
theorem ikeepS_extract {k : Value → Prop} (x : Operand) (i : Nat) {tk : Tok k} : ikeepS P ks (.extract x i) e H k tk = gotS (ival P (.extract x i) e H) k ⟨⟩ := ikeepS_other (by simp)
theorem ikeepS_build {k : Value → Prop} (t : TypeId) (ps : Array (Nat × Operand)) {tk : Tok k} : ikeepS P ks (.build t ps) e H k tk = gotS (ival P (.build t ps) e H) k ⟨⟩ := ikeepS_other (by simp)
theorem ikeepS_slice {k : Value → Prop} (t : TypeId) (x : Operand) (a b c : Option Operand) {tk : Tok k} : ikeepS P ks (.slice t x a b c) e H k tk = gotS (ival P (.slice t x a b c) e H) k ⟨⟩ := ikeepS_other (by simp)
theorem ikeepS_call {k : Value → Prop} (c : Call) {tk : Tok k} : ikeepS P ks (.call c) e H k tk = gotS (ival P (.call c) e H) k ⟨⟩ := ikeepS_other (by simp)
theorem ikeepS_makeFunc {k : Value → Prop} (f : Fn) (a b : Array Operand) {tk : Tok k} : ikeepS P ks (.makeFunc f a b) e H k tk = gotS (ival P (.makeFunc f a b) e H) k ⟨⟩ := ikeepS_other (by simp)
end sims
attribute [go_sem ↓] walkS_done walkS_end walkS_val walkS_ld ldS_free ldS_guard walkS_eff opAt_zero opAt_succ valS_free valS_guard effS_free effS_guard ikeepS_load ikeepS_other ikeepS_move ikeepS_assign ikeepS_pick ikeepS_nilCheck ikeepS_binOp ikeepS_unOp ikeepS_convert ikeepS_fieldAddr ikeepS_field ikeepS_indexAddr ikeepS_index ikeepS_extract ikeepS_build ikeepS_slice ikeepS_call ikeepS_makeFunc
attribute [go_sem] keepsS_nil keepsS_cons inKs_ptr inKs_fptr
end Go.Proofs.YtoecebibhcadoaaDoor.I
