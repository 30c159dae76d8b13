/- The rules as equations for simp: a region is run by `simp only [go_sem]`. No condition. -/
import Derived.Test.YtoecebibhcadoaaDoorIRules
import Derived.Tactics
import Derived.KernelRfl
import Derived.IntWalk
namespace Go.Proofs.YtoecebibhcadoaaDoor.I
open Go Go.RowKit
set_option linter.unusedVariables false
set_option linter.unusedSimpArgs false
def iopsL (P : Program) (n : Nat) (ops : Array Oper) (K : Env → Heap → Prop) : List Oper → Env → Heap → Prop
  | [], e, H => K e H
  | o :: r, e, H =>
    match o.guard with
    | none => iop P n o e H (fun e' H' => iopsL P n ops K r e' H')
    | some (j, want) => got (iyield ops e j) fun y => if y = some want then iop P n o e H (fun e' H' => iopsL P n ops K r e' H') else iput n o.dst undef e fun e' => iopsL P n ops K r e' H
theorem iops_of_L {P : Program} {n : Nat} {ops : Array Oper} {K : Env → Heap → Prop} : ∀ (l : List Oper) (k : Nat) (e : Env) (H : Heap), (∀ j, l[j]? = ops[k + j]?) → iopsL P n ops K l e H → iops P n ops K (List.range' k l.length) e H
  | [], k, e, H, _, h => h
  | o :: r, k, e, H, hl, h => by
    have h0 : ops[k]? = some o := by simpa using (hl 0).symm
    have hr : ∀ j, r[j]? = ops[k + 1 + j]? := fun j => by
      have := hl (j + 1)
      rw [List.getElem?_cons_succ] at this
      rw [this]; congr 1; omega
    rw [List.length_cons, List.range'_succ]
    simp only [iops]
    unfold iopAt
    simp only [h0]
    simp only [iopsL] at h
    split at h
    · rename_i hg
      simp only [hg]
      exact iop_mono (fun e H h => iops_of_L r (k + 1) e H hr h) h
    · rename_i hg
      simp only [hg]
      obtain ⟨y, hy, h⟩ := h
      refine ⟨y, hy, ?_⟩
      show if y = some _ then _ else _
      split
      · rename_i hw; rw [if_pos hw] at h; exact iop_mono (fun e H h => iops_of_L r (k + 1) e H hr h) h
      · rename_i hw; rw [if_neg hw] at h
        unfold iput at h ⊢
        split at h
        · exact ⟨h.1, iops_of_L r (k + 1) _ _ hr h.2⟩
        · exact iops_of_L r (k + 1) _ _ hr h
def Env.keep (ks : List Nat) : Env → Env
  | [] => []
  | (k, v) :: r => if k ∈ ks then (k, v) :: Env.keep ks r else Env.keep ks r
theorem Env.keep_get (ks : List Nat) : ∀ (e : Env) (i : Nat) (v : Value), (Env.keep ks e).get i = some v → e.get i = some v
  | [], _, _, h => by cases h
  | (k, u) :: r, i, v, h => by
    simp only [Env.keep] at h
    simp only [Env.get]
    split at h
    · simp only [Env.get] at h
      split
      · rename_i hi; rw [if_pos hi] at h; exact h
      · rename_i hi; rw [if_neg hi] at h; exact Env.keep_get ks r i v h
    · rename_i hk
      have h2 := Env.keep_get ks r i v h
      split
      · rename_i hi
        exfalso
        have : ∀ (r : Env), (Env.keep ks r).get i = some v → i ∈ ks := by
          intro r
          induction r with
          | nil => intro h; cases h
          | cons x r ih =>
            obtain ⟨k', u'⟩ := x
            intro h
            simp only [Env.keep] at h
            split at h
            · rename_i hm
              simp only [Env.get] at h
              split at h
              · rename_i e; rw [e]; exact hm
              · exact ih h
            · exact ih h
        exact hk (hi ▸ this r h)
      · exact h2
theorem IWp.kept {P : Program} {n : Nat} {c : Code} {Q : Exit → Env → Heap → Prop} {e : Env} {H : Heap} (ks : List Nat) (h : IWp P n c (ithen (fun e' H' => Q .normal (Env.keep ks e') H') Q) e H) : IWp P n c Q e H :=
  fun B w0 ρ a w ha hh => wp_mono (h B w0 ρ a w ha hh) fun x a' w' g => by
    cases x with
    | normal =>
      obtain ⟨ρ', e', H', k, ha', r⟩ := g
      exact ⟨ρ', Env.keep ks e', H', k, ha'.sub (Env.keep_get ks e'), r⟩
    | _ => exact g
theorem IWp.trim {P : Program} {n : Nat} {c : Code} {Q : Exit → Env → Heap → Prop} {e : Env} {H : Heap} (ks : List Nat) (h : IWp P n c Q (Env.keep ks e) H) : IWp P n c Q e H := IWp.forget _ (Env.keep_get ks e) h
theorem IWp.run {P : Program} {n : Nat} {Q : Exit → Env → Heap → Prop} {e : Env} {H : Heap} {id : Nat} {l : List Oper} (ks : List Nat)
    (h : iopsL P n l.toArray (fun e' H' => Q .normal (Env.keep ks e') H') l e H) : IWp P n (.region id l.toArray false) Q e H := by
  refine IWp.kept ks (IWp.region ?_)
  rw [show List.range l.toArray.size = List.range' 0 l.length by simp [List.range_eq_range']]
  exact iops_of_L l 0 e H (fun j => by simp) h
theorem IWp.read {P : Program} {n : Nat} {Q : Exit → Env → Heap → Prop} {e : Env} {H : Heap} {id : Nat} {l : List Oper} (ks : List Nat) (hm : P.follows .mixedOrders = true) (hB : Region.lexB .any l.toArray = true)
    (h : ivals P n l.toArray H (fun e' => Q .normal (Env.keep ks e') H) l e) : IWp P n (.region id l.toArray true) Q e H :=
  IWp.kept ks (IWp.quiet hm hB (by rw [show l.toArray.toList = l from rfl]; exact h))
theorem nr {α : Sort _} {a b : α} (h : a = b) : a = b := h
structure Kept (L : List (List Nat)) : Prop
def stepP (P : Program) (n : Nat) (ks : List Nat) : Code → (Exit → Env → Heap → Prop) → Env → Heap → Prop
  | .seq x y, Q, e, H => stepP P n ks x (ithen (fun e' H' => IWpS P n y Q e' H' ⟨⟩) Q) e H
  | .block id c, Q, e, H => stepP P n ks c (iblock id Q) e H
  | .region id ops false, Q, e, H => iopsL P n ops (fun e' H' => Q .normal (Env.keep ks e') H') ops.toList e H
  | .cond c x y, Q, e, H => got (e.eval c) fun v => icond v (IWpS P n x Q e H ⟨⟩) (IWpS P n y Q e H ⟨⟩)
  | .exit id, Q, e, H => Q (.exit id) (Env.keep ks e) H
  | .skip, Q, e, H => Q .normal (Env.keep ks e) H
  | .ret, Q, e, H => Q .ret e H
  | c, Q, e, H => IWp P n c Q e H
theorem stepP_sound {P : Program} {n : Nat} {ks : List Nat} (c : Code) : ∀ (Q : Exit → Env → Heap → Prop) (e : Env) (H : Heap), stepP P n ks c Q e H → IWp P n c Q e H := by
  induction c with
  | seq x y hx _ => exact fun Q e H h => IWp.seq (hx _ e H h)
  | block id c hc => exact fun Q e H h => IWp.block (hc _ e H h)
  | region id ops d =>
    obtain ⟨l⟩ := ops
    cases d
    · exact fun Q e H h => IWp.run ks h
    · exact fun Q e H h => h
  | cond c x y => exact fun Q e H h => IWp.cond h
  | exit id => exact fun Q e H h => IWp.trim ks (IWp.exit h)
  | skip => exact fun Q e H h => IWp.trim ks (IWp.skip h)
  | ret => exact fun Q e H h => IWp.ret h
  | _ => exact fun Q e H h => h
section
variable {P : Program} {n : Nat} {ks : List Nat} {Q : Exit → Env → Heap → Prop} {e : Env} {H : Heap}
theorem IWp.one {c : Code} (ks : List Nat) (h : stepP P n ks c Q e H) : IWp P n c Q e H := stepP_sound c Q e H h
theorem Kept.s {L : List (List Nat)} {c : Code} (_ : Kept (ks :: L)) (h : Kept L → stepP P n ks c Q e H) : IWp P n c Q e H := stepP_sound c Q e H (h ⟨⟩)
@[go_sem ↓] theorem stepP_seq (x y : Code) : stepP P n ks (.seq x y) Q e H = stepP P n ks x (ithen (fun e' H' => IWpS P n y Q e' H' ⟨⟩) Q) e H := nr rfl
@[go_sem ↓] theorem stepP_block (id : Nat) (c : Code) : stepP P n ks (.block id c) Q e H = stepP P n ks c (iblock id Q) e H := nr rfl
@[go_sem ↓] theorem stepP_region (id : Nat) (l : List Oper) : stepP P n ks (.region id l.toArray false) Q e H = iopsL P n l.toArray (fun e' H' => Q .normal (Env.keep ks e') H') l e H := nr rfl
@[go_sem ↓] theorem stepP_cond (c : Operand) (x y : Code) : stepP P n ks (.cond c x y) Q e H = got (e.eval c) fun v => icond v (IWpS P n x Q e H ⟨⟩) (IWpS P n y Q e H ⟨⟩) := nr rfl
@[go_sem ↓] theorem stepP_exit (id : Nat) : stepP P n ks (.exit id) Q e H = Q (.exit id) (Env.keep ks e) H := nr rfl
@[go_sem ↓] theorem stepP_skip : stepP P n ks .skip Q e H = Q .normal (Env.keep ks e) H := nr rfl
@[go_sem ↓] theorem stepP_ret : stepP P n ks .ret Q e H = Q .ret e H := nr rfl
end
def gotS {α : Type} (o : Option α) (k : α → Prop) (_ : Tok k) : Prop := got o k
def iputS (n : Nat) (dst : Option Tmp) (v : Value) (e : Env) (k : Env → Prop) (_ : Tok k) : Prop := iput n dst v e k
def withinS (e : Env) (k : Env → Prop) (_ : Tok k) : Prop := k e
def iopS (P : Program) (n : Nat) (o : Oper) (e : Env) (H : Heap) (K : Env → Heap → Prop) (_ : Tok (o, K)) : Prop := iop P n o e H K
def iopsS (P : Program) (n : Nat) (ops : Array Oper) (K : Env → Heap → Prop) (l : List Oper) (e : Env) (H : Heap) (_ : Tok (ops, K, l)) : Prop := iopsL P n ops K l e H
def ivalsS (P : Program) (n : Nat) (ops : Array Oper) (k : Env → Prop) (H : Heap) (l : List Oper) (e : Env) (_ : Tok (ops, k, l)) : Prop := ivals P n ops H k l e
def ICallsS (P : Program) (f : FuncId) (args : List Value) (H : Heap) (K : Value → Heap → Prop) (_ : Tok K) : Prop := ICalls P f args H K
section gots
variable {α β : Type} {k : β → Prop} {tk : Tok k}
theorem gotS_some (v : β) : gotS (some v) k tk = k v := got_some v
theorem gotS_none : gotS none k tk = False := got_none
theorem gotS_bind (o : Option α) (f : α → Option β) : gotS (o.bind f) k tk = gotS o (fun x => gotS (f x) k tk) ⟨⟩ := got_bind o f
theorem gotS_map (o : Option α) (f : α → β) : gotS (o.map f) k tk = gotS o (fun x => k (f x)) ⟨⟩ := got_map o f
theorem gotS_ite (c : Prop) [Decidable c] (x y : Option β) : gotS (if c then x else y) k tk = if c then gotS x k tk else gotS y k tk := got_ite c x y
theorem got_S (o : Option β) : got o k = gotS o k ⟨⟩ := nr rfl
end gots
section eqs
variable {P : Program} {n : Nat} {ops : Array Oper} {K : Env → Heap → Prop} {k : Env → Prop} {e : Env} {H : Heap} {r : List Oper} {dst : Option Tmp} {op : Op} {ty : TypeId} {pos : String} {aft : Array Edge} {j : Nat} {want : Bool} {o : Oper}
theorem int_beq (a b : Int) : (a == b) = decide (a = b) := by by_cases h : a = b <;> simp [h]
theorem iopsL_S {l : List Oper} : iopsL P n ops K l e H = iopsS P n ops K l e H ⟨⟩ := nr rfl
theorem ivals_S {l : List Oper} : ivals P n ops H k l e = ivalsS P n ops k H l e ⟨⟩ := nr rfl
theorem iopsS_nil {tk : Tok (ops, K, [])} : iopsS P n ops K [] e H tk = K e H := nr rfl
theorem iopsS_free {tk : Tok (ops, K, ⟨dst, op, ty, pos, aft, none⟩ :: r)} : iopsS P n ops K (⟨dst, op, ty, pos, aft, none⟩ :: r) e H tk = iopS P n ⟨dst, op, ty, pos, aft, none⟩ e H (fun e' H' => iopsS P n ops K r e' H' ⟨⟩) ⟨⟩ := nr rfl
theorem iopsS_guard {tk : Tok (ops, K, ⟨dst, op, ty, pos, aft, some (j, want)⟩ :: r)} : iopsS P n ops K (⟨dst, op, ty, pos, aft, some (j, want)⟩ :: r) e H tk =
    gotS (iyield ops e j) (fun y => if y = some want then iopS P n ⟨dst, op, ty, pos, aft, none⟩ e H (fun e' H' => iopsS P n ops K r e' H' ⟨⟩) ⟨⟩ else iputS n dst undef e (fun e' => iopsS P n ops K r e' H ⟨⟩) ⟨⟩) ⟨⟩ := nr rfl
theorem ivalsS_nil {tk : Tok (ops, k, [])} : ivalsS P n ops k H [] e tk = k e := nr rfl
theorem ivalsS_free {tk : Tok (ops, k, ⟨dst, op, ty, pos, aft, none⟩ :: r)} : ivalsS P n ops k H (⟨dst, op, ty, pos, aft, none⟩ :: r) e tk = gotS (ival P op e H) (fun v => iputS n dst v e (fun e' => ivalsS P n ops k H r e' ⟨⟩) ⟨⟩) ⟨⟩ := nr rfl
theorem ivalsS_guard {tk : Tok (ops, k, ⟨dst, op, ty, pos, aft, some (j, want)⟩ :: r)} : ivalsS P n ops k H (⟨dst, op, ty, pos, aft, some (j, want)⟩ :: r) e tk =
    gotS (iyield ops e j) (fun y => if y = some want then gotS (ival P op e H) (fun v => iputS n dst v e (fun e' => ivalsS P n ops k H r e' ⟨⟩) ⟨⟩) ⟨⟩ else iputS n dst undef e (fun e' => ivalsS P n ops k H r e' ⟨⟩) ⟨⟩) ⟨⟩ := nr rfl
theorem iputS_some {d : Nat} {v : Value} {tk : Tok k} : iputS n (some d) v e k tk = if d < n then withinS (e.put d v) k ⟨⟩ else False := by
  by_cases h : d < n <;> simp [iputS, iput, h, withinS]
theorem iputS_none {v : Value} {tk : Tok k} : iputS n none v e k tk = k e := nr rfl
theorem withinS_eq {tk : Tok k} : withinS e k tk = k e := nr rfl
theorem icond_bool {t : Bool} {x y : Prop} : icond (.bool t) x y = if t = true then x else y := nr rfl
end eqs
theorem Env.get_nil (i : Nat) : Env.get [] i = none := nr rfl
theorem Env.get_cons (k i : Nat) (v : Value) (r : Env) : Env.get ((k, v) :: r) i = if i = k then some v else Env.get r i := nr rfl
theorem Env.put_nil (i : Nat) (v : Value) : Env.put [] i v = [(i, v)] := nr rfl
theorem Env.put_cons (k i : Nat) (u v : Value) (r : Env) : Env.put ((k, u) :: r) i v = if i = k then (i, v) :: r else if i < k then (i, v) :: (k, u) :: r else (k, u) :: Env.put r i v := nr rfl
theorem Env.keep_nil (ks : List Nat) : Env.keep ks [] = [] := nr rfl
theorem Env.keep_cons (ks : List Nat) (k : Nat) (v : Value) (r : Env) : Env.keep ks ((k, v) :: r) = if k ∈ ks then (k, v) :: Env.keep ks r else Env.keep ks r := nr rfl
theorem eval_tmp (e : Env) (t : Nat) : Env.eval e (.tmp t) = Env.get e t := nr rfl
theorem eval_func (e : Env) (f : FuncId) : Env.eval e (.func f) = some (.func (.func f) #[] #[]) := nr rfl
theorem eval_int (e : Env) (k : IntKind) (i : Int) : Env.eval e (.const (.int k i)) = some (.int k i) := nr rfl
theorem eval_bool (e : Env) (b : Bool) : Env.eval e (.const (.bool b)) = some (.bool b) := nr rfl
theorem eval_string (e : Env) (s : ByteArray) : Env.eval e (.const (.string s)) = some (.string s) := nr rfl
theorem eval_nilPtr (e : Env) : Env.eval e (.const (.pointer none)) = some (.pointer none) := nr rfl
theorem eval_nilSlice (e : Env) : Env.eval e (.const (.slice none 0 0)) = some (.slice none 0 0) := nr rfl
theorem eval_nilFunc (e : Env) : Env.eval e (.const .nilFunc) = some .nilFunc := nr rfl
theorem eval_nilIface (e : Env) : Env.eval e (.const .nilIface) = some .nilIface := nr rfl
theorem eval_agg (e : Env) (l : Array Value) : Env.eval e (.const (.agg l)) = if plain1 (.agg l) = true then some (.agg l) else none := nr rfl
theorem pick_bool (t a b : Bool) : (bif t then some (Value.bool a) else some (Value.bool b)) = some (Value.bool (bif t then a else b)) := by cases t <;> rfl
theorem pick_true (x y : Option Value) : (bif true then x else y) = x := nr rfl
theorem pick_false (x y : Option Value) : (bif false then x else y) = y := nr rfl
section gets
variable (H : Heap) (b j n : Nat) (cs : List Value)
theorem get_alloc : (H.alloc cs).get b = if b = H.next then some ⟨cs, true⟩ else H.get b := nr rfl
theorem get_set : (H.set b cs).get j = if j = b then (H.get b).map (fun k => ⟨cs, k.own⟩) else H.get j := nr rfl
theorem get_kill : (H.kill b).get j = if j = b then none else H.get j := nr rfl
theorem next_alloc : (H.alloc cs).next = H.next + 1 := nr rfl
theorem next_set : (H.set b cs).next = H.next := nr rfl
theorem next_kill : (H.kill b).next = H.next := nr rfl
end gets
theorem bind_congr' {α β : Type} {x y : Option α} {f : α → Option β} (h : x = y) : x.bind f = y.bind f := by rw [h]
def icells (vs : List Value) : List Value := vs.flatMap fun v => v.cells.toList
def iall (sz : Nat) (vs : List Value) : Bool := vs.all fun v => v.cells.toList.length == sz
theorem icells_nil : icells [] = [] := nr rfl
theorem icells_cons (v : Value) (l : List Value) : icells (v :: l) = v.cells.toList ++ icells l := nr (by simp [icells])
theorem iall_nil (sz : Nat) : iall sz [] = true := nr rfl
theorem iall_cons (sz : Nat) (v : Value) (l : List Value) : iall sz (v :: l) = ((v.cells.toList.length == sz) && iall sz l) := nr (by simp [iall])
attribute [go_sem] icells_nil icells_cons iall_nil iall_cons List.getElem?_cons_zero List.getElem?_cons_succ
section ops
variable {P : Program} {n : Nat} {K : Env → Heap → Prop} {e : Env} {H : Heap} {dst : Option Tmp} {ty : TypeId} {pos : String} {aft : Array Edge} {g : Option (Nat × Bool)}
theorem iop_move (x : Operand) {tk : Tok ((⟨dst, .move x, ty, pos, aft, g⟩ : Oper), K)} : iopS P n ⟨dst, .move x, ty, pos, aft, g⟩ e H K tk =
    gotS (e.eval x) (fun v => iputS n dst v e (fun e' => K e' H) ⟨⟩) ⟨⟩ := by
  show iop P n ⟨dst, .move x, ty, pos, aft, g⟩ e H K = got (e.eval x) fun v => iput n dst v e fun e' => K e' H
  exact nr rfl
theorem iop_assign (x : Operand) {tk : Tok ((⟨dst, .assign x, ty, pos, aft, g⟩ : Oper), K)} : iopS P n ⟨dst, .assign x, ty, pos, aft, g⟩ e H K tk =
    gotS (e.eval x) (fun v => iputS n dst v e (fun e' => K e' H) ⟨⟩) ⟨⟩ := by
  show iop P n ⟨dst, .assign x, ty, pos, aft, g⟩ e H K = got (e.eval x) fun v => iput n dst v e fun e' => K e' H
  exact nr rfl
theorem ival_move (x : Operand) : ival P (.move x) e H = e.eval x := nr rfl
theorem ival_assign (x : Operand) : ival P (.assign x) e H = e.eval x := nr rfl
def ipick (t : Value) (a b : Option Value) : Option Value :=
  match t with
  | .bool t => bif t then a else b
  | _ => none
theorem ipick_bool (t : Bool) (a b : Option Value) : ipick (.bool t) a b = bif t then a else b := nr rfl
theorem ival_pick (c a b : Operand) : ival P (.pick c a b) e H = (e.eval c).bind fun t => ipick t (e.eval a) (e.eval b) := by
  simp only [ival]; cases e.eval c with
  | none => rfl
  | some v => cases v <;> rfl
theorem iop_pick (c a b : Operand) {tk : Tok ((⟨dst, .pick c a b, ty, pos, aft, g⟩ : Oper), K)} : iopS P n ⟨dst, .pick c a b, ty, pos, aft, g⟩ e H K tk =
    gotS (e.eval c) (fun t => gotS (ipick t (e.eval a) (e.eval b)) (fun v => iputS n dst v e (fun e' => K e' H) ⟨⟩) ⟨⟩) ⟨⟩ := by
  show iop P n ⟨dst, .pick c a b, ty, pos, aft, g⟩ e H K = got (e.eval c) fun t => got (ipick t (e.eval a) (e.eval b)) fun v => iput n dst v e fun e' => K e' H
  simp only [iop, ival_pick, got_bind]
theorem ival_load (t : TypeId) (x : Operand) : ival P (.load t x) e H = (e.eval x).bind fun v => iload P t H v := nr rfl
theorem iop_load (t : TypeId) (x : Operand) {tk : Tok ((⟨dst, .load t x, ty, pos, aft, g⟩ : Oper), K)} : iopS P n ⟨dst, .load t x, ty, pos, aft, g⟩ e H K tk =
    gotS (e.eval x) (fun v => gotS (iload P t H v) (fun v => iputS n dst v e (fun e' => K e' H) ⟨⟩) ⟨⟩) ⟨⟩ := by
  show iop P n ⟨dst, .load t x, ty, pos, aft, g⟩ e H K = got (e.eval x) fun v => got (iload P t H v) fun v => iput n dst v e fun e' => K e' H
  simp only [iop, ival_load, got_bind]
def inil (v : Value) : Option Value :=
  match v with
  | .pointer (some a) => some (.pointer (some a))
  | .func (.func f) p q => some (.func (.func f) p q)
  | .func (.yield off) ⟨[x]⟩ ⟨[]⟩ => some (.func (.yield off) ⟨[x]⟩ ⟨[]⟩)
  | _ => none
theorem inil_fptr (off : Nat) (x : Value) : inil (fptr off x) = some (fptr off x) := nr rfl
theorem inil_ptr (a : Addr) : inil (.pointer (some a)) = some (.pointer (some a)) := nr rfl
theorem inil_func (f : FuncId) (p q : Array Value) : inil (.func (.func f) p q) = some (.func (.func f) p q) := nr rfl
theorem ival_nilCheck (x : Operand) : ival P (.nilCheck x) e H = (e.eval x).bind inil := by
  simp only [ival]
  cases e.eval x with
  | none => rfl
  | some v =>
    simp only [Option.bind_some, inil]
    split <;> split <;> simp_all
theorem iop_nilCheck (x : Operand) {tk : Tok ((⟨dst, .nilCheck x, ty, pos, aft, g⟩ : Oper), K)} : iopS P n ⟨dst, .nilCheck x, ty, pos, aft, g⟩ e H K tk =
    gotS (e.eval x) (fun v => gotS (inil v) (fun v => iputS n dst v e (fun e' => K e' H) ⟨⟩) ⟨⟩) ⟨⟩ := by
  show iop P n ⟨dst, .nilCheck x, ty, pos, aft, g⟩ e H K = got (e.eval x) fun v => got (inil v) fun v => iput n dst v e fun e' => K e' H
  simp only [iop, ival_nilCheck, got_bind]
theorem ival_binOp (op : BinOp) (t t' : TypeId) (x y : Operand) : ival P (.binOp op t x y t') e H = (e.eval x).bind fun u => (e.eval y).bind fun v => ibin P op t u v := nr rfl
theorem iop_binOp (op : BinOp) (t t' : TypeId) (x y : Operand) {tk : Tok ((⟨dst, .binOp op t x y t', ty, pos, aft, g⟩ : Oper), K)} : iopS P n ⟨dst, .binOp op t x y t', ty, pos, aft, g⟩ e H K tk =
    gotS (e.eval x) (fun u => gotS (e.eval y) (fun v => gotS (ibin P op t u v) (fun v => iputS n dst v e (fun e' => K e' H) ⟨⟩) ⟨⟩) ⟨⟩) ⟨⟩ := by
  show iop P n ⟨dst, .binOp op t x y t', ty, pos, aft, g⟩ e H K = got (e.eval x) fun u => got (e.eval y) fun v => got (ibin P op t u v) fun v => iput n dst v e fun e' => K e' H
  simp only [iop, ival_binOp, got_bind]
theorem ival_unOp (op : UnOp) (t : TypeId) (x : Operand) : ival P (.unOp op t x) e H = (e.eval x).bind fun u => iun op u := nr rfl
theorem iop_unOp (op : UnOp) (t : TypeId) (x : Operand) {tk : Tok ((⟨dst, .unOp op t x, ty, pos, aft, g⟩ : Oper), K)} : iopS P n ⟨dst, .unOp op t x, ty, pos, aft, g⟩ e H K tk =
    gotS (e.eval x) (fun u => gotS (iun op u) (fun v => iputS n dst v e (fun e' => K e' H) ⟨⟩) ⟨⟩) ⟨⟩ := by
  show iop P n ⟨dst, .unOp op t x, ty, pos, aft, g⟩ e H K = got (e.eval x) fun u => got (iun op u) fun v => iput n dst v e fun e' => K e' H
  simp only [iop, ival_unOp, got_bind]
theorem ival_convert (s t : TypeId) (x : Operand) : ival P (.convert s t x) e H = (e.eval x).bind fun u => iconv P s t H u := nr rfl
theorem iop_convert (s t : TypeId) (x : Operand) {tk : Tok ((⟨dst, .convert s t x, ty, pos, aft, g⟩ : Oper), K)} : iopS P n ⟨dst, .convert s t x, ty, pos, aft, g⟩ e H K tk =
    if isRowT P s = true then gotS (e.eval x) (fun u => gotS (iconvm P s t u H) (fun r => iputS n dst r.1 e (fun e' => K e' r.2) ⟨⟩) ⟨⟩) ⟨⟩ else gotS (e.eval x) (fun u => gotS (iconv P s t H u) (fun v => iputS n dst v e (fun e' => K e' H) ⟨⟩) ⟨⟩) ⟨⟩ := by
  show iop P n ⟨dst, .convert s t x, ty, pos, aft, g⟩ e H K = if isRowT P s = true then got (e.eval x) (fun u => got (iconvm P s t u H) fun r => iput n dst r.1 e fun e' => K e' r.2) else got (e.eval x) fun u => got (iconv P s t H u) fun v => iput n dst v e fun e' => K e' H
  simp only [iop, ival_convert, got_bind]
theorem iconvm_nil (s t : TypeId) : iconvm P s t (.slice none 0 0) H = if isU8 P s = true then (if tKind P t = some .string then some (.string .empty, H) else none) else none := nr rfl
theorem iconvm_row (s t : TypeId) {b o sz len c : Nat} : iconvm P s t (.slice (some ⟨b, o, some sz⟩) len c) H = if isU8 P s = true then
      (if tKind P t = some .string then (if len = 0 then some (.string .empty, H) else if sz = 1 then ((H.row b o len).bind u8s).map fun ns => (.string (strOf ns), H) else none)
      else if s = t ∧ len ≠ 0 then (match H.get b with | some ⟨_, true⟩ => some (.slice (some ⟨b, o, some sz⟩) len c, H) | _ => none) else none) else none := nr rfl
theorem ival_fieldAddr (t : TypeId) (x : Operand) (f : Nat) : ival P (.fieldAddr t x f) e H = (e.eval x).bind fun u => ifieldAddr P t f u := nr rfl
theorem iop_fieldAddr (t : TypeId) (x : Operand) (f : Nat) {tk : Tok ((⟨dst, .fieldAddr t x f, ty, pos, aft, g⟩ : Oper), K)} : iopS P n ⟨dst, .fieldAddr t x f, ty, pos, aft, g⟩ e H K tk =
    gotS (e.eval x) (fun u => gotS (ifieldAddr P t f u) (fun v => iputS n dst v e (fun e' => K e' H) ⟨⟩) ⟨⟩) ⟨⟩ := by
  show iop P n ⟨dst, .fieldAddr t x f, ty, pos, aft, g⟩ e H K = got (e.eval x) fun u => got (ifieldAddr P t f u) fun v => iput n dst v e fun e' => K e' H
  simp only [iop, ival_fieldAddr, got_bind]
theorem ival_field (t : TypeId) (x : Operand) (f : Nat) : ival P (.field t x f) e H = (e.eval x).bind fun u => ifield P t f u := nr rfl
theorem iop_field (t : TypeId) (x : Operand) (f : Nat) {tk : Tok ((⟨dst, .field t x f, ty, pos, aft, g⟩ : Oper), K)} : iopS P n ⟨dst, .field t x f, ty, pos, aft, g⟩ e H K tk =
    gotS (e.eval x) (fun u => gotS (ifield P t f u) (fun v => iputS n dst v e (fun e' => K e' H) ⟨⟩) ⟨⟩) ⟨⟩ := by
  show iop P n ⟨dst, .field t x f, ty, pos, aft, g⟩ e H K = got (e.eval x) fun u => got (ifield P t f u) fun v => iput n dst v e fun e' => K e' H
  simp only [iop, ival_field, got_bind]
theorem ival_indexAddr (t : TypeId) (x i : Operand) : ival P (.indexAddr t x i) e H = (e.eval x).bind fun u => (e.eval i).bind fun v => iindexAddr P t u v := nr rfl
theorem iop_indexAddr (t : TypeId) (x i : Operand) {tk : Tok ((⟨dst, .indexAddr t x i, ty, pos, aft, g⟩ : Oper), K)} : iopS P n ⟨dst, .indexAddr t x i, ty, pos, aft, g⟩ e H K tk =
    gotS (e.eval x) (fun u => gotS (e.eval i) (fun v => gotS (iindexAddr P t u v) (fun v => iputS n dst v e (fun e' => K e' H) ⟨⟩) ⟨⟩) ⟨⟩) ⟨⟩ := by
  show iop P n ⟨dst, .indexAddr t x i, ty, pos, aft, g⟩ e H K = got (e.eval x) fun u => got (e.eval i) fun v => got (iindexAddr P t u v) fun v => iput n dst v e fun e' => K e' H
  simp only [iop, ival_indexAddr, got_bind]
theorem ival_index (t : TypeId) (x i : Operand) : ival P (.index t x i) e H = (e.eval x).bind fun u => (e.eval i).bind fun v => iindex P t u v := nr rfl
theorem iop_index (t : TypeId) (x i : Operand) {tk : Tok ((⟨dst, .index t x i, ty, pos, aft, g⟩ : Oper), K)} : iopS P n ⟨dst, .index t x i, ty, pos, aft, g⟩ e H K tk =
    gotS (e.eval x) (fun u => gotS (e.eval i) (fun v => gotS (iindex P t u v) (fun v => iputS n dst v e (fun e' => K e' H) ⟨⟩) ⟨⟩) ⟨⟩) ⟨⟩ := by
  show iop P n ⟨dst, .index t x i, ty, pos, aft, g⟩ e H K = got (e.eval x) fun u => got (e.eval i) fun v => got (iindex P t u v) fun v => iput n dst v e fun e' => K e' H
  simp only [iop, ival_index, got_bind]
theorem ival_makeInterface (t : TypeId) (x : Operand) : ival P (.makeInterface t x) e H = if concK (tKind P t) = true then (e.eval x).bind fun u => some (.iface t u) else none := nr rfl
theorem iop_makeInterface (t : TypeId) (x : Operand) {tk : Tok ((⟨dst, .makeInterface t x, ty, pos, aft, g⟩ : Oper), K)} : iopS P n ⟨dst, .makeInterface t x, ty, pos, aft, g⟩ e H K tk =
    (concK (tKind P t) = true ∧ gotS (e.eval x) (fun u => iputS n dst (.iface t u) e (fun e' => K e' H) ⟨⟩) ⟨⟩) := by
  show iop P n ⟨dst, .makeInterface t x, ty, pos, aft, g⟩ e H K = (concK (tKind P t) = true ∧ got (e.eval x) fun u => iput n dst (.iface t u) e fun e' => K e' H)
  simp only [iop, ival_makeInterface]
  by_cases h : concK (tKind P t) = true
  · simp only [h, if_true, got_bind, true_and, got_some]
  · simp [h, got_none]
theorem concK_int (k : IntKind) : concK (some (.int k)) = true := nr rfl
theorem concK_ptr : concK (some .pointer) = true := nr rfl
theorem concK_str : concK (some .string) = true := nr rfl
theorem concK_other : concK (some .other) = true := nr rfl
def iextract (i : Nat) (v : Value) : Option Value :=
  match v with
  | .tuple l => l.toList[i]?
  | _ => none
theorem iextract_tuple (i : Nat) (l : Array Value) : iextract i (.tuple l) = l.toList[i]? := nr rfl
theorem ival_extract (x : Operand) (i : Nat) : ival P (.extract x i) e H = (e.eval x).bind (iextract i) := by
  simp only [ival]
  cases e.eval x with
  | none => rfl
  | some v => cases v <;> rfl
theorem iop_extract (x : Operand) (i : Nat) {tk : Tok ((⟨dst, .extract x i, ty, pos, aft, g⟩ : Oper), K)} : iopS P n ⟨dst, .extract x i, ty, pos, aft, g⟩ e H K tk =
    gotS (e.eval x) (fun u => gotS (iextract i u) (fun v => iputS n dst v e (fun e' => K e' H) ⟨⟩) ⟨⟩) ⟨⟩ := by
  show iop P n ⟨dst, .extract x i, ty, pos, aft, g⟩ e H K = got (e.eval x) fun u => got (iextract i u) fun v => iput n dst v e fun e' => K e' H
  simp only [iop, ival_extract, got_bind]
theorem iop_makeFunc (fn : FuncId) (a b : Array Operand) {tk : Tok ((⟨dst, .makeFunc (.func fn) a b, ty, pos, aft, g⟩ : Oper), K)} : iopS P n ⟨dst, .makeFunc (.func fn) a b, ty, pos, aft, g⟩ e H K tk =
    gotS (evals e a.toList) (fun u => gotS (evals e b.toList) (fun v => iputS n dst (.func (.func fn) u.toArray v.toArray) e (fun e' => K e' H) ⟨⟩) ⟨⟩) ⟨⟩ := by
  show iop P n ⟨dst, .makeFunc (.func fn) a b, ty, pos, aft, g⟩ e H K = got (evals e a.toList) fun u => got (evals e b.toList) fun v => iput n dst (.func (.func fn) u.toArray v.toArray) e fun e' => K e' H
  simp only [iop, ival, got_bind, got_some]
theorem iop_build (t : TypeId) (ps : Array (Nat × Operand)) {tk : Tok ((⟨dst, .build t ps, ty, pos, aft, g⟩ : Oper), K)} : iopS P n ⟨dst, .build t ps, ty, pos, aft, g⟩ e H K tk =
    gotS (evals e (ps.toList.map (·.2))) (fun l => gotS (ibuild P t ((ps.toList.map (·.1)).zip l)) (fun v => iputS n dst v e (fun e' => K e' H) ⟨⟩) ⟨⟩) ⟨⟩ := by
  show iop P n ⟨dst, .build t ps, ty, pos, aft, g⟩ e H K = got (evals e (ps.toList.map (·.2))) fun l => got (ibuild P t ((ps.toList.map (·.1)).zip l)) fun v => iput n dst v e fun e' => K e' H
  simp only [iop, ival, got_bind]
theorem ival_build (t : TypeId) (ps : Array (Nat × Operand)) : ival P (.build t ps) e H = (evals e (ps.toList.map (·.2))).bind fun l => ibuild P t ((ps.toList.map (·.1)).zip l) := nr rfl
def evalO (e : Env) : Option Operand → Option (Option Value)
  | none => some none
  | some x => (e.eval x).map some
theorem evalO_none : evalO e none = some none := nr rfl
theorem evalO_some (x : Operand) : evalO e (some x) = (e.eval x).map some := nr rfl
theorem ival_slice (t : TypeId) (x : Operand) (lo hi mx : Option Operand) (hm : mx = none ∨ hi ≠ none) : ival P (.slice t x lo hi mx) e H = (e.eval x).bind fun u => (evalO e lo).bind fun l => (evalO e hi).bind fun h => (evalO e mx).bind fun m => islice P t u l h m := by
  cases lo <;> cases hi <;> cases mx <;> simp at hm <;> simp only [ival, evalO, Option.bind_some, Option.bind_map, Function.comp_def]
theorem iop_slice (t : TypeId) (x : Operand) (lo hi mx : Option Operand) (hm : mx = none ∨ hi ≠ none) {tk : Tok ((⟨dst, .slice t x lo hi mx, ty, pos, aft, g⟩ : Oper), K)} : iopS P n ⟨dst, .slice t x lo hi mx, ty, pos, aft, g⟩ e H K tk =
    gotS (e.eval x) (fun u => gotS (evalO e lo) (fun l => gotS (evalO e hi) (fun h => gotS (evalO e mx) (fun m => gotS (islice P t u l h m) (fun v => iputS n dst v e (fun e' => K e' H) ⟨⟩) ⟨⟩) ⟨⟩) ⟨⟩) ⟨⟩) ⟨⟩ := by
  show iop P n ⟨dst, .slice t x lo hi mx, ty, pos, aft, g⟩ e H K = got (e.eval x) fun u => got (evalO e lo) fun l => got (evalO e hi) fun h => got (evalO e mx) fun m => got (islice P t u l h m) fun v => iput n dst v e fun e' => K e' H
  simp only [iop, ival_slice t x lo hi mx hm, got_bind]
theorem iop_len (x : Operand) (t : TypeId) {tk : Tok ((⟨dst, .call ⟨.builtin .len, #[x], #[t]⟩, ty, pos, aft, g⟩ : Oper), K)} : iopS P n ⟨dst, .call ⟨.builtin .len, #[x], #[t]⟩, ty, pos, aft, g⟩ e H K tk =
    gotS (e.eval x) (fun u => gotS (ilen P t u) (fun v => iputS n dst v e (fun e' => K e' H) ⟨⟩) ⟨⟩) ⟨⟩ := by
  show iop P n ⟨dst, .call ⟨.builtin .len, #[x], #[t]⟩, ty, pos, aft, g⟩ e H K = got (e.eval x) fun u => got (ilen P t u) fun v => iput n dst v e fun e' => K e' H
  simp only [iop, ival, got_bind]
theorem ival_len (x : Operand) (t : TypeId) : ival P (.call ⟨.builtin .len, #[x], #[t]⟩) e H = (e.eval x).bind fun u => ilen P t u := nr rfl
theorem iop_min (x y : Operand) (ts : Array TypeId) {tk : Tok ((⟨dst, .call ⟨.builtin .min, #[x, y], ts⟩, ty, pos, aft, g⟩ : Oper), K)} : iopS P n ⟨dst, .call ⟨.builtin .min, #[x, y], ts⟩, ty, pos, aft, g⟩ e H K tk =
    gotS (e.eval x) (fun u => gotS (e.eval y) (fun v => gotS (imm .min u v) (fun v => iputS n dst v e (fun e' => K e' H) ⟨⟩) ⟨⟩) ⟨⟩) ⟨⟩ := by
  show iop P n ⟨dst, .call ⟨.builtin .min, #[x, y], ts⟩, ty, pos, aft, g⟩ e H K = got (e.eval x) fun u => got (e.eval y) fun v => got (imm .min u v) fun v => iput n dst v e fun e' => K e' H
  simp only [iop, ival, got_bind]
theorem iop_max (x y : Operand) (ts : Array TypeId) {tk : Tok ((⟨dst, .call ⟨.builtin .max, #[x, y], ts⟩, ty, pos, aft, g⟩ : Oper), K)} : iopS P n ⟨dst, .call ⟨.builtin .max, #[x, y], ts⟩, ty, pos, aft, g⟩ e H K tk =
    gotS (e.eval x) (fun u => gotS (e.eval y) (fun v => gotS (imm .max u v) (fun v => iputS n dst v e (fun e' => K e' H) ⟨⟩) ⟨⟩) ⟨⟩) ⟨⟩ := by
  show iop P n ⟨dst, .call ⟨.builtin .max, #[x, y], ts⟩, ty, pos, aft, g⟩ e H K = got (e.eval x) fun u => got (e.eval y) fun v => got (imm .max u v) fun v => iput n dst v e fun e' => K e' H
  simp only [iop, ival, got_bind]
theorem ival_min (x y : Operand) (ts : Array TypeId) : ival P (.call ⟨.builtin .min, #[x, y], ts⟩) e H = (e.eval x).bind fun u => (e.eval y).bind fun v => imm .min u v := nr rfl
theorem ival_max (x y : Operand) (ts : Array TypeId) : ival P (.call ⟨.builtin .max, #[x, y], ts⟩) e H = (e.eval x).bind fun u => (e.eval y).bind fun v => imm .max u v := nr rfl
theorem iop_append (s x : Operand) (t t2 : TypeId) {tk : Tok ((⟨dst, .call ⟨.builtin .append, #[s, x], #[t, t2]⟩, ty, pos, aft, g⟩ : Oper), K)} : iopS P n ⟨dst, .call ⟨.builtin .append, #[s, x], #[t, t2]⟩, ty, pos, aft, g⟩ e H K tk =
    ((tKind P t2 = some .slice ∨ tKind P t2 = some .string) ∧ gotS (e.eval s) (fun s => gotS (e.eval x) (fun x => gotS (iapp P t s x H) (fun r => iputS n dst r.1 e (fun e' => K e' r.2) ⟨⟩) ⟨⟩) ⟨⟩) ⟨⟩) := by
  show iop P n ⟨dst, .call ⟨.builtin .append, #[s, x], #[t, t2]⟩, ty, pos, aft, g⟩ e H K = ((tKind P t2 = some .slice ∨ tKind P t2 = some .string) ∧ got (e.eval s) fun s => got (e.eval x) fun x => got (iapp P t s x H) fun r => iput n dst r.1 e fun e' => K e' r.2)
  exact nr rfl
def cat3 (a : Array Value) (l : List Value) (b : Array Value) : List Value := a.toList ++ l ++ b.toList
theorem cat3_eq {a b : Array Value} {l : List Value} : cat3 a l b = a.toList ++ l ++ b.toList := nr rfl
def icall (P : Program) (gv : Value) (vs : List Value) (H : Heap) (K : Value → Heap → Prop) (_ : Tok K) : Prop :=
  match gv with
  | .func (.func f) first cap => ICallsS P f (cat3 first vs cap) H K ⟨⟩
  | _ => False
theorem icall_func {f : FuncId} {a b : Array Value} {vs : List Value} {H : Heap} {K : Value → Heap → Prop} {tk : Tok K} : icall P (.func (.func f) a b) vs H K tk = ICallsS P f (cat3 a vs b) H K ⟨⟩ := nr rfl
theorem iop_call (f : Operand) (as : Array Operand) (ts : Array TypeId) {tk : Tok ((⟨dst, .call ⟨.value f, as, ts⟩, ty, pos, aft, g⟩ : Oper), K)} : iopS P n ⟨dst, .call ⟨.value f, as, ts⟩, ty, pos, aft, g⟩ e H K tk =
    gotS (e.eval f) (fun gv => gotS (evals e as.toList) (fun vs => icall P gv vs H (fun v H' => iputS n dst v e (fun e' => K e' H') ⟨⟩) ⟨⟩) ⟨⟩) ⟨⟩ := by
  show iop P n ⟨dst, .call ⟨.value f, as, ts⟩, ty, pos, aft, g⟩ e H K = got (e.eval f) fun gv => got (evals e as.toList) fun vs => icall P gv vs H (fun v H' => iput n dst v e fun e' => K e' H') ⟨⟩
  exact nr rfl
theorem iop_box (t : TypeId) (x : Operand) {tk : Tok ((⟨dst, .box t x, ty, pos, aft, g⟩ : Oper), K)} : iopS P n ⟨dst, .box t x, ty, pos, aft, g⟩ e H K tk =
    gotS (e.eval x) (fun v => iputS n dst (ptrTo H.next 0) e (fun e' => K e' (H.alloc v.cells.toList)) ⟨⟩) ⟨⟩ := by
  show iop P n ⟨dst, .box t x, ty, pos, aft, g⟩ e H K = got (e.eval x) fun v => iput n dst (ptrTo H.next 0) e fun e' => K e' (H.alloc v.cells.toList)
  simp only [iop, imem, got_bind, got_some]
theorem iop_alloc (t : TypeId) {tk : Tok ((⟨dst, .alloc t, ty, pos, aft, g⟩ : Oper), K)} : iopS P n ⟨dst, .alloc t, ty, pos, aft, g⟩ e H K tk =
    gotS (tZero P t) (fun z => (plain1 z = true ∧ iputS n dst (ptrTo H.next 0) e (fun e' => K e' (H.alloc z.cells.toList)) ⟨⟩)) ⟨⟩ := by
  show iop P n ⟨dst, .alloc t, ty, pos, aft, g⟩ e H K = got (tZero P t) fun z => (plain1 z = true ∧ iput n dst (ptrTo H.next 0) e fun e' => K e' (H.alloc z.cells.toList))
  simp only [iop, imem, got_bind, got_guard, got_some]
def istore (P : Program) (t : TypeId) (H : Heap) (p v : Value) : Option Heap :=
  match p with
  | .pointer (some ⟨b, o, none⟩) => if tSize P t = some v.cells.toList.length ∧ v.cells.toList.all one0 = true then H.put b o v.cells.toList else none
  | _ => none
theorem istore_ptr (t : TypeId) (b o : Nat) (v : Value) : istore P t H (.pointer (some ⟨b, o, none⟩)) v = if tSize P t = some v.cells.toList.length ∧ v.cells.toList.all one0 = true then H.put b o v.cells.toList else none := nr rfl
theorem iop_store (t : TypeId) (x y : Operand) {tk : Tok ((⟨dst, .store t x y, ty, pos, aft, g⟩ : Oper), K)} : iopS P n ⟨dst, .store t x y, ty, pos, aft, g⟩ e H K tk =
    gotS (e.eval x) (fun p => gotS (e.eval y) (fun v => gotS (istore P t H p v) (fun H' => iputS n dst undef e (fun e' => K e' H') ⟨⟩) ⟨⟩) ⟨⟩) ⟨⟩ := by
  show iop P n ⟨dst, .store t x y, ty, pos, aft, g⟩ e H K = got (e.eval x) fun p => got (e.eval y) fun v => got (istore P t H p v) fun H' => iput n dst undef e fun e' => K e' H'
  simp only [iop, imem, got_bind]
  congr 1; funext p; congr 1; funext v
  unfold istore
  split
  · simp only [got_guard, got_map]
  · simp only [got_none]
def imake (P : Program) (t : TypeId) (H : Heap) (l c : Value) : Option (Value × Heap) :=
  match l, c with
  | .int _ i, .int _ j =>
    (tElem P t).bind fun el => (tSize P el).bind fun sz => (tBytes P el).bind fun by_ => (tZero P el).bind fun z =>
      if 0 ≤ i ∧ i ≤ j ∧ j ≤ 1099511627776 ∧ by_ * j ≤ 281474976710656 ∧ z.cells.toList.all plain0 = true ∧ z.cells.toList.length = sz then
        some (.slice (some ⟨H.next, 0, some sz⟩) i.toNat 1, H.alloc (List.replicate j.toNat z.cells.toList).flatten)
      else none
  | _, _ => none
theorem imake_int (t : TypeId) (k k' : IntKind) (i j : Int) : imake P t H (.int k i) (.int k' j) = (tElem P t).bind fun el => (tSize P el).bind fun sz => (tBytes P el).bind fun by_ => (tZero P el).bind fun z =>
      if 0 ≤ i ∧ i ≤ j ∧ j ≤ 1099511627776 ∧ by_ * j ≤ 281474976710656 ∧ z.cells.toList.all plain0 = true ∧ z.cells.toList.length = sz then
        some (.slice (some ⟨H.next, 0, some sz⟩) i.toNat 1, H.alloc (List.replicate j.toNat z.cells.toList).flatten)
      else none := nr rfl
theorem iop_makeSlice (t : TypeId) (x y : Operand) {tk : Tok ((⟨dst, .makeSlice t x y, ty, pos, aft, g⟩ : Oper), K)} : iopS P n ⟨dst, .makeSlice t x y, ty, pos, aft, g⟩ e H K tk =
    gotS (e.eval x) (fun l => gotS (e.eval y) (fun c => gotS (imake P t H l c) (fun r => iputS n dst r.1 e (fun e' => K e' r.2) ⟨⟩) ⟨⟩) ⟨⟩) ⟨⟩ := by
  show iop P n ⟨dst, .makeSlice t x y, ty, pos, aft, g⟩ e H K = got (e.eval x) fun l => got (e.eval y) fun c => got (imake P t H l c) fun r => iput n dst r.1 e fun e' => K e' r.2
  simp only [iop, imem, got_bind]
  rfl
theorem iop_buildSlice (t : TypeId) (m : Nat) (ps : Array (Nat × Operand)) {tk : Tok ((⟨dst, .buildSlice t m ps, ty, pos, aft, g⟩ : Oper), K)} : iopS P n ⟨dst, .buildSlice t m ps, ty, pos, aft, g⟩ e H K tk =
    gotS (tElem P t) (fun el => gotS (tSize P el) (fun sz => gotS (tZero P el) (fun _ => gotS (evals e (ps.toList.map (·.2))) (fun vs => ((ps.toList.map (·.1) = List.range m ∧ m * sz ≤ 16777216 ∧ iall sz vs = true) ∧ iputS n dst (.slice (some ⟨H.next, 0, some sz⟩) m 1) e (fun e' => K e' (H.alloc (icells vs))) ⟨⟩)) ⟨⟩) ⟨⟩) ⟨⟩) ⟨⟩ := by
  show iop P n ⟨dst, .buildSlice t m ps, ty, pos, aft, g⟩ e H K = got (tElem P t) fun el => got (tSize P el) fun sz => got (tZero P el) fun _ => got (evals e (ps.toList.map (·.2))) fun vs => ((ps.toList.map (·.1) = List.range m ∧ m * sz ≤ 16777216 ∧ (vs.all fun v => v.cells.toList.length == sz) = true) ∧ iput n dst (.slice (some ⟨H.next, 0, some sz⟩) m 1) e fun e' => K e' (H.alloc (vs.flatMap fun v => v.cells.toList)))
  simp only [iop, imem, got_bind, got_guard, got_some]
end ops
def dstAt : List Oper → Nat → Option Tmp
  | [], _ => none
  | o :: _, 0 => o.dst
  | _ :: r, j + 1 => dstAt r j
theorem dstAt_zero {dst : Option Tmp} {op : Op} {ty : TypeId} {pos : String} {aft : Array Edge} {g : Option (Nat × Bool)} {r : List Oper} : dstAt (⟨dst, op, ty, pos, aft, g⟩ :: r) 0 = dst := nr rfl
theorem dstAt_succ {o : Oper} {r : List Oper} {j : Nat} : dstAt (o :: r) (j + 1) = dstAt r j := nr rfl
def iyv (v : Option Value) : Option (Option Bool) :=
  match v with
  | some (.bool b) => some (some b)
  | some (.tuple _) => some none
  | _ => none
theorem iyv_bool (b : Bool) : iyv (some (.bool b)) = some (some b) := nr rfl
theorem iyv_undef (l : Array Value) : iyv (some (.tuple l)) = some none := nr rfl
theorem iyv_undef' : iyv (some undef) = some none := nr rfl
def iyb (d : Option Tmp) (e : Env) : Option (Option Bool) :=
  match d with
  | some d => iyv (e.get d)
  | none => none
theorem iyb_some (d : Tmp) (e : Env) : iyb (some d) e = iyv (e.get d) := nr rfl
theorem iyield_lit {l : List Oper} {e : Env} {j : Nat} : iyield l.toArray e j = iyb (dstAt l j) e := by
  have h : ∀ (l : List Oper) (j : Nat), (l[j]?).bind (·.dst) = dstAt l j := by
    intro l
    induction l with
    | nil => intro j; rfl
    | cons o r ih =>
      intro j
      cases j with
      | zero => rfl
      | succ j => rw [List.getElem?_cons_succ]; exact ih j
  unfold iyield
  rw [List.getElem?_toArray, h]
  cases dstAt l j with
  | none => rfl
  | some d =>
    simp only [iyb]
    cases e.get d with
    | none => rfl
    | some v => cases v <;> rfl
section bins
variable {P : Program} {t : TypeId} {k : IntKind} {a b : Int}
theorem ibin_add : ibin P .add t (.int k a) (.int k b) = some (.int k (k.wrap (a + b))) := by simp [ibin, isShift, iint]
theorem ibin_sub : ibin P .sub t (.int k a) (.int k b) = some (.int k (k.wrap (a - b))) := by simp [ibin, isShift, iint]
theorem ibin_mul : ibin P .mul t (.int k a) (.int k b) = some (.int k (k.wrap (a * b))) := by simp [ibin, isShift, iint]
theorem ibin_quo : ibin P .quo t (.int k a) (.int k b) = if b = 0 then none else some (.int k (k.wrap (a.tdiv b))) := by simp [ibin, isShift, iint]
theorem ibin_rem : ibin P .rem t (.int k a) (.int k b) = if b = 0 then none else some (.int k (a.tmod b)) := by simp [ibin, isShift, iint]
theorem ibin_and : ibin P .and t (.int k a) (.int k b) = some (.int k (k.wrap (BitVec.ofInt k.bits a &&& BitVec.ofInt k.bits b).toNat)) := by simp [ibin, isShift, iint]
theorem ibin_or : ibin P .or t (.int k a) (.int k b) = some (.int k (k.wrap (BitVec.ofInt k.bits a ||| BitVec.ofInt k.bits b).toNat)) := by simp [ibin, isShift, iint]
theorem ibin_xor : ibin P .xor t (.int k a) (.int k b) = some (.int k (k.wrap (BitVec.ofInt k.bits a ^^^ BitVec.ofInt k.bits b).toNat)) := by simp [ibin, isShift, iint]
theorem ibin_and_u8 {a b : Int} : ibin P .and t (.int .u8 a) (.int .u8 b) = some (.int .u8 (IntKind.wrap .u8 ((BitVec.ofInt 8 a &&& BitVec.ofInt 8 b : BitVec 8).toNat : Int))) := ibin_and
theorem ibin_and_u16 {a b : Int} : ibin P .and t (.int .u16 a) (.int .u16 b) = some (.int .u16 (IntKind.wrap .u16 ((BitVec.ofInt 16 a &&& BitVec.ofInt 16 b : BitVec 16).toNat : Int))) := ibin_and
theorem ibin_and_u32 {a b : Int} : ibin P .and t (.int .u32 a) (.int .u32 b) = some (.int .u32 (IntKind.wrap .u32 ((BitVec.ofInt 32 a &&& BitVec.ofInt 32 b : BitVec 32).toNat : Int))) := ibin_and
theorem ibin_and_u64 {a b : Int} : ibin P .and t (.int .u64 a) (.int .u64 b) = some (.int .u64 (IntKind.wrap .u64 ((BitVec.ofInt 64 a &&& BitVec.ofInt 64 b : BitVec 64).toNat : Int))) := ibin_and
theorem ibin_and_i64 {a b : Int} : ibin P .and t (.int .i64 a) (.int .i64 b) = some (.int .i64 (IntKind.wrap .i64 ((BitVec.ofInt 64 a &&& BitVec.ofInt 64 b : BitVec 64).toNat : Int))) := ibin_and
theorem ibin_and_i32 {a b : Int} : ibin P .and t (.int .i32 a) (.int .i32 b) = some (.int .i32 (IntKind.wrap .i32 ((BitVec.ofInt 32 a &&& BitVec.ofInt 32 b : BitVec 32).toNat : Int))) := ibin_and
theorem ibin_or_u8 {a b : Int} : ibin P .or t (.int .u8 a) (.int .u8 b) = some (.int .u8 (IntKind.wrap .u8 ((BitVec.ofInt 8 a ||| BitVec.ofInt 8 b : BitVec 8).toNat : Int))) := ibin_or
theorem ibin_or_u16 {a b : Int} : ibin P .or t (.int .u16 a) (.int .u16 b) = some (.int .u16 (IntKind.wrap .u16 ((BitVec.ofInt 16 a ||| BitVec.ofInt 16 b : BitVec 16).toNat : Int))) := ibin_or
theorem ibin_or_u32 {a b : Int} : ibin P .or t (.int .u32 a) (.int .u32 b) = some (.int .u32 (IntKind.wrap .u32 ((BitVec.ofInt 32 a ||| BitVec.ofInt 32 b : BitVec 32).toNat : Int))) := ibin_or
theorem ibin_or_u64 {a b : Int} : ibin P .or t (.int .u64 a) (.int .u64 b) = some (.int .u64 (IntKind.wrap .u64 ((BitVec.ofInt 64 a ||| BitVec.ofInt 64 b : BitVec 64).toNat : Int))) := ibin_or
theorem ibin_or_i64 {a b : Int} : ibin P .or t (.int .i64 a) (.int .i64 b) = some (.int .i64 (IntKind.wrap .i64 ((BitVec.ofInt 64 a ||| BitVec.ofInt 64 b : BitVec 64).toNat : Int))) := ibin_or
theorem ibin_or_i32 {a b : Int} : ibin P .or t (.int .i32 a) (.int .i32 b) = some (.int .i32 (IntKind.wrap .i32 ((BitVec.ofInt 32 a ||| BitVec.ofInt 32 b : BitVec 32).toNat : Int))) := ibin_or
theorem ibin_xor_u8 {a b : Int} : ibin P .xor t (.int .u8 a) (.int .u8 b) = some (.int .u8 (IntKind.wrap .u8 ((BitVec.ofInt 8 a ^^^ BitVec.ofInt 8 b : BitVec 8).toNat : Int))) := ibin_xor
theorem ibin_xor_u16 {a b : Int} : ibin P .xor t (.int .u16 a) (.int .u16 b) = some (.int .u16 (IntKind.wrap .u16 ((BitVec.ofInt 16 a ^^^ BitVec.ofInt 16 b : BitVec 16).toNat : Int))) := ibin_xor
theorem ibin_xor_u32 {a b : Int} : ibin P .xor t (.int .u32 a) (.int .u32 b) = some (.int .u32 (IntKind.wrap .u32 ((BitVec.ofInt 32 a ^^^ BitVec.ofInt 32 b : BitVec 32).toNat : Int))) := ibin_xor
theorem ibin_xor_u64 {a b : Int} : ibin P .xor t (.int .u64 a) (.int .u64 b) = some (.int .u64 (IntKind.wrap .u64 ((BitVec.ofInt 64 a ^^^ BitVec.ofInt 64 b : BitVec 64).toNat : Int))) := ibin_xor
theorem ibin_xor_i64 {a b : Int} : ibin P .xor t (.int .i64 a) (.int .i64 b) = some (.int .i64 (IntKind.wrap .i64 ((BitVec.ofInt 64 a ^^^ BitVec.ofInt 64 b : BitVec 64).toNat : Int))) := ibin_xor
theorem ibin_xor_i32 {a b : Int} : ibin P .xor t (.int .i32 a) (.int .i32 b) = some (.int .i32 (IntKind.wrap .i32 ((BitVec.ofInt 32 a ^^^ BitVec.ofInt 32 b : BitVec 32).toNat : Int))) := ibin_xor
theorem ibin_eql : ibin P .eql t (.int k a) (.int k b) = some (.bool (a == b)) := by simp [ibin, isShift, iint]
theorem ibin_neq : ibin P .neq t (.int k a) (.int k b) = some (.bool (a != b)) := by simp [ibin, isShift, iint]
theorem ibin_lss : ibin P .lss t (.int k a) (.int k b) = some (.bool (decide (a < b))) := by simp [ibin, isShift, iint]
theorem ibin_leq : ibin P .leq t (.int k a) (.int k b) = some (.bool (decide (a ≤ b))) := by simp [ibin, isShift, iint]
theorem ibin_gtr : ibin P .gtr t (.int k a) (.int k b) = some (.bool (decide (b < a))) := by simp [ibin, isShift, iint]
theorem ibin_geq : ibin P .geq t (.int k a) (.int k b) = some (.bool (decide (b ≤ a))) := by simp [ibin, isShift, iint]
theorem ibin_shl {k' : IntKind} : ibin P .shl t (.int k a) (.int k' b) = if b < 0 then none else some (.int k (k.wrap (a * 2 ^ (min b.toNat k.bits)))) := by simp [ibin, isShift, ishift]
theorem ibin_shr {k' : IntKind} : ibin P .shr t (.int k a) (.int k' b) = if b < 0 then none else some (.int k (a.fdiv (2 ^ (min b.toNat k.bits)))) := by simp [ibin, isShift, ishift]
theorem ibin_bool {op : BinOp} {x y : Bool} : ibin P op t (.bool x) (.bool y) = if tKind P t = some .bool then eqOp op (x == y) else none := nr rfl
theorem ibin_ptrNil {op : BinOp} {p : Option Addr} : ibin P op t (.pointer p) (.pointer none) = if tKind P t = some .pointer then eqOp op p.isNone else none := by cases p <;> rfl
theorem ibin_nilPtr {op : BinOp} {p : Option Addr} : ibin P op t (.pointer none) (.pointer p) = if tKind P t = some .pointer then eqOp op p.isNone else none := nr rfl
theorem ibin_rowNil {op : BinOp} {p : Option Addr} {l c l' c' : Nat} : ibin P op t (.slice p l c) (.slice none l' c') = if tKind P t = some .slice then eqOp op p.isNone else none := by cases p <;> rfl
theorem ibin_funcNil {op : BinOp} {f : FuncId} {x y : Array Value} : ibin P op t (.func (.func f) x y) .nilFunc = if tKind P t = some .func then eqOp op false else none := nr rfl
theorem ibin_nilFuncs {op : BinOp} : ibin P op t .nilFunc .nilFunc = if tKind P t = some .func then eqOp op true else none := nr rfl
theorem ibin_strEq {x y : ByteArray} : ibin P .eql t (.string x) (.string y) = some (.bool (x.toList == y.toList)) := nr rfl
theorem ibin_strNe {x y : ByteArray} : ibin P .neq t (.string x) (.string y) = some (.bool (!(x.toList == y.toList))) := nr rfl
theorem eqOp_eql (b : Bool) : eqOp .eql b = some (.bool b) := nr rfl
theorem eqOp_neq (b : Bool) : eqOp .neq b = some (.bool (!b)) := nr rfl
theorem ibin_frowNil {op : BinOp} {sz l c : Nat} {m : Int} {x : Value} {xs : List Value} : ibin P op t (frow sz m (x :: xs)) (.slice none l c) = if tKind P t = some .slice then eqOp op false else none := nr rfl
theorem ibin_frowNil1 {op : BinOp} {sz l c : Nat} : ibin P op t (frow sz 1 []) (.slice none l c) = if tKind P t = some .slice then eqOp op false else none := nr rfl
theorem ibin_frowNe {op : BinOp} {sz l c : Nat} {m : Int} {xs : List Value} (h : xs ≠ []) : ibin P op t (frow sz m xs) (.slice none l c) = if tKind P t = some .slice then eqOp op false else none := by
  cases xs with
  | nil => exact absurd rfl h
  | cons x xs => exact ibin_frowNil
theorem ibin_agg {op : BinOp} {xs ys : Array Value} : ibin P op t (.agg xs) (.agg ys) = (tEq P t).bind fun fs => (ieqL P xs.toList ys.toList fs).bind fun b => eqOp op b := nr rfl
theorem ieqL_nil {xs ys : List Value} : ieqL P xs ys [] = some true := nr rfl
theorem ieqL_cons {xs ys : List Value} {f : Nat × TypeId} {fs : List (Nat × TypeId)} : ieqL P xs ys (f :: fs) = (xs[f.1]?).bind fun a => (ys[f.1]?).bind fun b => (ieq1 P f.2 a b).bind fun r => (ieqL P xs ys fs).map fun s => r && s := nr rfl
theorem ieq1_int {k' : IntKind} : ieq1 P t (.int k a) (.int k' b) = match tKind P t with | some (.int _) => if k = k' then some (a == b) else none | _ => none := nr rfl
theorem ieq1_bool {x y : Bool} : ieq1 P t (.bool x) (.bool y) = if tKind P t = some .bool then some (x == y) else none := nr rfl
theorem ieq1_str {x y : ByteArray} : ieq1 P t (.string x) (.string y) = if tKind P t = some .string then some (x.toList == y.toList) else none := nr rfl
theorem ibin_fptrNil {op : BinOp} {off : Nat} {x : Value} : ibin P op t (fptr off x) (.pointer none) = if tKind P t = some .pointer then eqOp op false else none := nr rfl
end bins
section mem
variable {P : Program} {t : TypeId} {H : Heap} {b o n sz : Nat}
theorem iload_ptr : iload P t H (.pointer (some ⟨b, o, none⟩)) = match tAgg P t with
    | some true => (tSize P t).bind fun n => (H.row b o n).map fun l => .agg l.toArray
    | some false => H.cell b o
    | none => none := nr rfl
theorem ifieldAddr_ptr {s f : Nat} : ifieldAddr P s f (.pointer (some ⟨b, o, none⟩)) = (tField P s f).bind fun x => if x.2.2 = 0 then none else some (ptrTo b (o + x.1)) := nr rfl
theorem ifield_agg {s f : Nat} {cs : Array Value} : ifield P s f (.agg cs) = (tField P s f).bind fun x => ipart P x.2.1 cs.toList x.1 := nr rfl
theorem iindexAddr_row {len c : Nat} {k : IntKind} {i : Int} : iindexAddr P t (.slice (some ⟨b, o, some sz⟩) len c) (.int k i) = (tElem P t).bind fun e => if tSize P e = some sz ∧ 0 ≤ i ∧ i < len then some (ptrTo b (o + i.toNat * sz)) else none := nr rfl
theorem iindexAddr_arr {k : IntKind} {i : Int} : iindexAddr P t (.pointer (some ⟨b, o, none⟩)) (.int k i) = (tArr P t).bind fun x => (tSize P x.2).bind fun sz => if 0 ≤ i ∧ i < x.1 then some (ptrTo b (o + i.toNat * sz)) else none := nr rfl
theorem iindex_agg {cs : Array Value} {k : IntKind} {i : Int} : iindex P t (.agg cs) (.int k i) = (tArr P t).bind fun x => (tSize P x.2).bind fun sz => if 0 ≤ i ∧ i < x.1 then ipart P x.2 cs.toList (i.toNat * sz) else none := nr rfl
theorem iindex_str {s : ByteArray} {k : IntKind} {i : Int} : iindex P t (.string s) (.int k i) = if tKind P t = some .string ∧ 0 ≤ i then (s.data.toList[i.toNat]?).map fun b => .int .u8 b.toNat else none := nr rfl
theorem iconv_int {s : TypeId} {k : IntKind} {i : Int} : iconv P s t H (.int k i) = match tKind P t with | some (.int k) => if (tKind P s).isSome = true then some (.int k (k.wrap i)) else none | _ => none := nr rfl
theorem iun_neg {k : IntKind} {i : Int} : iun .neg (.int k i) = some (.int k (k.wrap (0 - i))) := nr rfl
theorem iun_not {x : Bool} : iun .not (.bool x) = some (.bool (!x)) := nr rfl
theorem ilen_row {p : Option Addr} {l c : Nat} : ilen P t (.slice p l c) = if tKind P t = some .slice then some (.int .i64 l) else none := nr rfl
theorem ilen_str {s : ByteArray} : ilen P t (.string s) = if tKind P t = some .string then some (.int .i64 s.size) else none := nr rfl
theorem imm_min {k k' : IntKind} {i j : Int} : imm .min (.int k i) (.int k' j) = some (.int k (if j < i then j else i)) := nr rfl
theorem imm_max {k k' : IntKind} {i j : Int} : imm .max (.int k i) (.int k' j) = some (.int k (if i < j then j else i)) := nr rfl
theorem ifill_nil {pl : List (Nat × Nat)} {cs : List Value} : ifill pl cs [] = some cs := nr rfl
theorem ifill_cons {pl : List (Nat × Nat)} {cs : List Value} {i : Nat} {v : Value} {r : List (Nat × Value)} : ifill pl cs ((i, v) :: r) = (pl[i]?).bind fun p => if v.cells.toList.length = p.2 ∧ p.1 + v.cells.toList.length ≤ cs.length then ifill pl (splice cs p.1 v.cells.toList) r else none := nr rfl
theorem irow_nil : irow sz (.slice none 0 0) H = some (0, []) := nr rfl
theorem irow_row {sz' c : Nat} : irow sz (.slice (some ⟨b, o, some sz'⟩) n c) H = if n = 0 then some (0, []) else if sz' = sz then (H.row b o (n * sz)).map fun l => (n, l) else none := nr rfl
theorem irow_str {s : ByteArray} : irow sz (.string s) H = if sz = 1 then some (s.size, bytesOf s) else none := nr rfl
theorem iapp_nil {x : Value} : iapp P t (.slice none 0 0) x H = (tElem P t).bind fun el => (tSize P el).bind fun sz => (tBytes P el).bind fun by_ => ((tZero P el).bind fun z => if z.cells.toList.length = sz then some z else none).bind fun _ => (irow sz x H).bind fun r =>
      if r.1 = 0 then some (.slice none 0 0, H)
      else if r.1 ≤ 1099511627776 ∧ (r.1 + 768) * by_ ≤ 70368744177664 then some (.slice (some ⟨H.next, 0, some sz⟩) r.1 1, H.alloc r.2) else none := nr rfl
theorem iapp_row {sz' len c : Nat} {x : Value} : iapp P t (.slice (some ⟨b, o, some sz'⟩) len c) x H = (tElem P t).bind fun el => (tSize P el).bind fun sz => (tBytes P el).bind fun by_ => ((tZero P el).bind fun z => if z.cells.toList.length = sz then some z else none).bind fun _ => (irow sz x H).bind fun r =>
      if r.1 = 0 then some (.slice (some ⟨b, o, some sz'⟩) len c, H)
      else if sz' = sz ∧ len + r.1 ≤ 1099511627776 ∧ (len + r.1 + 768) * by_ ≤ 70368744177664 then
        if c = 0 then some (.slice (some ⟨H.next, 0, some sz⟩) r.1 1, H.alloc r.2)
        else (if len = 0 then some [] else H.row b o (len * sz)).bind fun old =>
          match H.get b with
          | some ⟨_, true⟩ => if r.2.all one0 = true then some (.slice (some ⟨H.next, 0, some sz⟩) (len + r.1) 1, (H.kill b).alloc (old ++ r.2)) else none
          | _ => none
      else none := nr rfl
theorem iload_fptr {off : Nat} {x : Value} : iload P t H (fptr off x) = ipart P t x.cells.toList off := nr rfl
theorem ifieldAddr_fptr {s f off : Nat} {x : Value} : ifieldAddr P s f (fptr off x) = (tField P s f).bind fun y => if y.2.2 = 0 then none else some (fptr (off + y.1) x) := nr rfl
theorem iindexAddr_frow {m : Int} {xs : List Value} {k : IntKind} {i : Int} : iindexAddr P t (frow sz m xs) (.int k i) = (tElem P t).bind fun e => if tSize P e = some sz ∧ 0 ≤ i then (xs[i.toNat]?).map fun x => fptr 0 x else none := nr rfl
theorem iindexAddr_fptr {off : Nat} {x : Value} {k : IntKind} {i : Int} : iindexAddr P t (fptr off x) (.int k i) = (tArr P t).bind fun y => (tSize P y.2).bind fun sz => if 0 ≤ i ∧ i < y.1 then some (fptr (off + i.toNat * sz) x) else none := nr rfl
theorem ilen_frow {m : Int} {xs : List Value} : ilen P t (frow sz m xs) = if tKind P t = some .slice then some (.int .i64 xs.length) else none := nr rfl
theorem irow_frow {sz' : Nat} {m : Int} {xs : List Value} : irow sz (frow sz' m xs) H = if sz' = sz then some (xs.length, xs.flatMap fun x => x.cells.toList) else none := nr rfl
theorem iapp_frow {sz' : Nat} {m : Int} {ys : List Value} {x : Value} : iapp P t (frow sz' m ys) x H = (tElem P t).bind fun el => (tSize P el).bind fun sz => (tBytes P el).bind fun by_ => ((tZero P el).bind fun z => if z.cells.toList.length = sz then some z else none).bind fun _ => (irow sz x H).bind fun r =>
      if r.1 = 0 then some (frow sz' m ys, H)
      else if m = 2 ∧ ys = [] ∧ r.1 ≤ 1099511627776 ∧ (r.1 + 768) * by_ ≤ 70368744177664 then some (.slice (some ⟨H.next, 0, some sz⟩) r.1 1, H.alloc r.2) else none := nr rfl
theorem cells_frow {m : Int} {xs : List Value} : (frow sz m xs).cells = #[frow sz m xs] := nr rfl
theorem one0_frow {m : Int} {xs : List Value} : one0 (frow sz m xs) = true := nr rfl
theorem plain0_frow {m : Int} {xs : List Value} : plain0 (frow sz m xs) = false := nr rfl
theorem cells_fptr {off : Nat} {x : Value} : (fptr off x).cells = #[fptr off x] := nr rfl
theorem one0_fptr {off : Nat} {x : Value} : one0 (fptr off x) = true := nr rfl
theorem plain0_fptr {off : Nat} {x : Value} : plain0 (fptr off x) = false := nr rfl
theorem iconvm_frow {s : TypeId} {m : Int} {xs : List Value} : iconvm P s t (frow 1 m xs) H = if isU8 P s = true then (if tKind P t = some .string then (u8s xs).map fun ns => (.string (strOf ns), H) else none) else none := nr rfl
theorem islice_frow2 {m : Int} {xs : List Value} {lo hi : Option Value} : islice P t (frow sz m xs) lo hi none = (tElem P t).bind fun e => (ibound xs.length hi).bind fun h => (ibound 0 lo).bind fun l =>
      if tSize P e = some sz ∧ l ≤ h ∧ h ≤ xs.length then some (frow sz (if m = 2 then 2 else 0) ((xs.drop l).take (h - l))) else none := by
  unfold frow; simp [islice, ibound, frow]
theorem islice_frow3 {m : Int} {xs : List Value} {lo : Option Value} {hi mx : Value} : islice P t (frow sz m xs) lo (some hi) (some mx) = (tElem P t).bind fun e => (ibound xs.length (some mx)).bind fun k => (ibound xs.length (some hi)).bind fun h => (ibound 0 lo).bind fun l =>
      if tSize P e = some sz ∧ l ≤ h ∧ h ≤ xs.length ∧ h ≤ k ∧ k ≤ xs.length then some (frow sz (if k = l then 2 else if m = 2 then 2 else 0) ((xs.drop l).take (h - l))) else none := by
  unfold frow; simp [islice, frow]
end mem
section more
variable {P : Program} {t : TypeId} {H : Heap} {b o n sz : Nat} {e : Env}
theorem ipart_eq {cs : List Value} {off : Nat} : ipart P t cs off = match tAgg P t with
    | some true => (tSize P t).bind fun n => if off + n ≤ cs.length then some (.agg ((cs.drop off).take n).toArray) else none
    | some false => cs[off]?
    | none => none := nr rfl
theorem ibound_none {d : Nat} : ibound d none = some d := nr rfl
theorem ibound_int {d : Nat} {k : IntKind} {i : Int} : ibound d (some (.int k i)) = if 0 ≤ i then some i.toNat else none := nr rfl
theorem islice_str {s : ByteArray} {lo hi : Option Value} : islice P t (.string s) lo hi none = if tKind P t = some .string then
      (ibound s.size hi).bind fun h => (ibound 0 lo).bind fun l => if l ≤ h ∧ h ≤ s.size then some (.string (s.extract l h)) else none
    else none := by simp [islice]
theorem islice_nil {lo hi mx : Option Value} : islice P t (.slice none 0 0) lo hi mx = (tElem P t).bind fun e => (tSize P e).bind fun _ => (ibound 0 mx).bind fun m => (ibound 0 hi).bind fun h => (ibound 0 lo).bind fun l =>
      if l = 0 ∧ h = 0 ∧ m = 0 ∧ (hi.isSome = true ∨ mx.isNone = true) then some (.slice none 0 0) else none := nr rfl
theorem islice_row2 {len c : Nat} {lo hi : Option Value} : islice P t (.slice (some ⟨b, o, some sz⟩) len c) lo hi none = (tElem P t).bind fun e => (ibound len hi).bind fun h => (ibound 0 lo).bind fun l =>
      if tSize P e = some sz ∧ l ≤ h ∧ h ≤ len then some (.slice (some ⟨b, o + l * sz, some sz⟩) (h - l) c) else none := by simp [islice, ibound]
theorem islice_row3 {len c : Nat} {lo : Option Value} {hi mx : Value} : islice P t (.slice (some ⟨b, o, some sz⟩) len c) lo (some hi) (some mx) = (tElem P t).bind fun e => (ibound len (some mx)).bind fun m => (ibound len (some hi)).bind fun h => (ibound 0 lo).bind fun l =>
      if tSize P e = some sz ∧ l ≤ h ∧ h ≤ len ∧ h ≤ m ∧ m ≤ len then some (.slice (some ⟨b, o + l * sz, some sz⟩) (h - l) (if m = l then 0 else 1)) else none := by simp [islice]
theorem ibuild_eq {ps : List (Nat × Value)} : ibuild P t ps = (tZero P t).bind fun z => (tPlaces P t).bind fun pl => if plain1 z = true then (ifill pl z.cells.toList ps).map fun l => .agg l.toArray else none := nr rfl
theorem evals_nil : evals e [] = some [] := nr rfl
theorem evals_cons {x : Operand} {r : List Operand} : evals e (x :: r) = (e.eval x).bind fun v => (evals e r).bind fun l => some (v :: l) := nr rfl
theorem cell_eq : H.cell b o = (H.get b).bind fun k => k.cells[o]? := nr rfl
theorem row_eq : H.row b o n = (H.get b).bind fun k => if o + n ≤ k.cells.length then some ((k.cells.drop o).take n) else none := nr rfl
def Heap.lay (H : Heap) (b o : Nat) (vs : List Value) (k : Blk) : Option Heap := if k.own = true then (if o + vs.length ≤ k.cells.length then some (H.set b (splice k.cells o vs)) else none) else none
theorem put_eq {vs : List Value} : H.put b o vs = (H.get b).bind fun k => H.lay b o vs k := by
  unfold Heap.put Heap.lay
  cases H.get b with
  | none => rfl
  | some k => obtain ⟨cs, own⟩ := k; cases own <;> rfl
theorem lay_own {vs cs : List Value} : H.lay b o vs ⟨cs, true⟩ = if o + vs.length ≤ cs.length then some (H.set b (splice cs o vs)) else none := nr rfl
theorem splice_zero {c : Value} {cs vs : List Value} : splice (c :: cs) 0 vs = vs ++ (c :: cs).drop vs.length := by simp [splice]
theorem splice_succ {c : Value} {cs vs : List Value} : splice (c :: cs) (o + 1) vs = c :: splice cs o vs := by
  simp only [splice, List.take_succ_cons, List.cons_append]
  rw [show o + 1 + vs.length = (o + vs.length) + 1 by omega, List.drop_succ_cons]
theorem splice_void {vs : List Value} : splice [] 0 vs = vs := by simp [splice]
theorem iresults_nil : iresults P H e [] = some [] := nr rfl
theorem iresults_cons {r : ResultVar} {l : List ResultVar} : iresults P H e (r :: l) = (iresult P H e r).bind fun v => (iresults P H e l).bind fun vs => some (v :: vs) := nr rfl
theorem iresult_tmp {i : Tmp} : iresult P H e (.tmp i) = e.get i := nr rfl
theorem iresult_cell {i : Tmp} {ty : TypeId} : iresult P H e (.cell i ty) = (e.get i).bind fun v => iload P ty H v := nr rfl
end more
section shapes
theorem cells_agg (x : Array Value) : (Value.agg x).cells = x := nr rfl
theorem cells_bool (b : Bool) : (Value.bool b).cells = #[.bool b] := nr rfl
theorem cells_int (k : IntKind) (n : Int) : (Value.int k n).cells = #[.int k n] := nr rfl
theorem cells_string (s : ByteArray) : (Value.string s).cells = #[.string s] := nr rfl
theorem cells_pointer (a : Option Addr) : (Value.pointer a).cells = #[.pointer a] := nr rfl
theorem cells_slice (a : Option Addr) (l c : Nat) : (Value.slice a l c).cells = #[.slice a l c] := nr rfl
theorem cells_map (a : Option Nat) : (Value.map a).cells = #[.map a] := nr rfl
theorem cells_func (f : Fn) (x y : Array Value) : (Value.func f x y).cells = #[.func f x y] := nr rfl
theorem cells_nilFunc : Value.nilFunc.cells = #[.nilFunc] := nr rfl
theorem cells_iface (t : TypeId) (v : Value) : (Value.iface t v).cells = #[.iface t v] := nr rfl
theorem cells_nilIface : Value.nilIface.cells = #[.nilIface] := nr rfl
theorem one0_bool (b : Bool) : one0 (.bool b) = true := nr rfl
theorem one0_int (k : IntKind) (n : Int) : one0 (.int k n) = true := nr rfl
theorem one0_string (s : ByteArray) : one0 (.string s) = true := nr rfl
theorem one0_pointer (a : Option Addr) : one0 (.pointer a) = true := nr rfl
theorem one0_slice (a : Option Addr) (l c : Nat) : one0 (.slice a l c) = true := nr rfl
theorem one0_map (a : Option Nat) : one0 (.map a) = true := nr rfl
theorem one0_func (f : Fn) (x y : Array Value) : one0 (.func f x y) = true := nr rfl
theorem one0_nilFunc : one0 .nilFunc = true := nr rfl
theorem one0_iface (t : TypeId) (v : Value) : one0 (.iface t v) = true := nr rfl
theorem one0_nilIface : one0 .nilIface = true := nr rfl
theorem plain0_bool (b : Bool) : plain0 (.bool b) = true := nr rfl
theorem plain0_int (k : IntKind) (n : Int) : plain0 (.int k n) = true := nr rfl
theorem plain0_float (k : FloatKind) (n : Nat) : plain0 (.float k n) = true := nr rfl
theorem plain0_string (s : ByteArray) : plain0 (.string s) = true := nr rfl
theorem plain0_nilPtr : plain0 (.pointer none) = true := nr rfl
theorem plain0_nilSlice : plain0 (.slice none 0 0) = true := nr rfl
theorem plain0_nilFunc : plain0 .nilFunc = true := nr rfl
theorem plain0_nilIface : plain0 .nilIface = true := nr rfl
theorem plain1_agg (x : Array Value) : plain1 (.agg x) = x.toList.all plain0 := nr rfl
theorem plain1_tuple (x : Array Value) : plain1 (.tuple x) = x.toList.all plain0 := nr rfl
theorem plain1_bool (b : Bool) : plain1 (.bool b) = true := nr rfl
theorem plain1_int (k : IntKind) (n : Int) : plain1 (.int k n) = true := nr rfl
theorem plain1_string (s : ByteArray) : plain1 (.string s) = true := nr rfl
theorem plain1_nilPtr : plain1 (.pointer none) = true := nr rfl
theorem plain1_nilSlice : plain1 (.slice none 0 0) = true := nr rfl
theorem plain1_nilFunc : plain1 .nilFunc = true := nr rfl
theorem plain1_nilIface : plain1 .nilIface = true := nr rfl
end shapes
attribute [go_sem ↓] cells_frow one0_frow plain0_frow cells_fptr one0_fptr plain0_fptr cells_agg cells_bool cells_int cells_string cells_pointer cells_slice cells_map cells_func cells_nilFunc cells_iface cells_nilIface one0_bool one0_int one0_string one0_pointer one0_slice one0_map one0_func one0_nilFunc one0_iface one0_nilIface
  plain0_bool plain0_int plain0_float plain0_string plain0_nilPtr plain0_nilSlice plain0_nilFunc plain0_nilIface plain1_agg plain1_tuple plain1_bool plain1_int plain1_string plain1_nilPtr plain1_nilSlice plain1_nilFunc plain1_nilIface
attribute [congr] bind_congr'
attribute [go_sem ↓] dstAt_zero dstAt_succ iyield_lit got_S gotS_some gotS_bind gotS_map gotS_ite gotS_none iopsL_S ivals_S iopsS_nil iopsS_free iopsS_guard ivalsS_nil ivalsS_free ivalsS_guard iputS_some iputS_none
  iop_move iop_assign ival_move ival_assign ival_pick iop_pick ival_load iop_load ival_nilCheck iop_nilCheck ival_binOp iop_binOp ival_unOp iop_unOp ival_convert iop_convert
  ival_fieldAddr iop_fieldAddr ival_field iop_field ival_indexAddr iop_indexAddr ival_index iop_index ival_extract iop_extract ival_makeInterface iop_makeInterface iop_makeFunc iop_build ival_build ival_slice iop_slice
  iop_len ival_len iop_min iop_max ival_min ival_max iop_append iop_call iop_box iop_alloc iop_store iop_makeSlice iop_buildSlice icall_func
attribute [go_sem] ibin_agg ieqL_nil ieqL_cons ieq1_int ieq1_bool ieq1_str ibin_frowNil ibin_frowNil1 ibin_fptrNil inil_fptr iload_fptr ifieldAddr_fptr iindexAddr_frow iindexAddr_fptr ilen_frow irow_frow iapp_frow cells_frow one0_frow plain0_frow cells_fptr one0_fptr plain0_fptr iconvm_frow islice_frow2 islice_frow3 iconvm_nil iconvm_row u8s_map int_beq cat3_eq iyv_bool iyv_undef iyv_undef' iyb_some withinS_eq gotS_some gotS_bind gotS_map gotS_ite gotS_none icond_bool
  Env.get_nil Env.get_cons Env.put_nil Env.put_cons Env.keep_nil Env.keep_cons eval_tmp eval_func eval_int eval_bool eval_string eval_nilPtr eval_nilSlice eval_nilFunc eval_nilIface eval_agg
  pick_bool pick_true pick_false get_alloc get_set get_kill next_alloc next_set next_kill
  concK_int concK_ptr concK_str concK_other ipick_bool inil_ptr inil_func iextract_tuple evalO_none evalO_some istore_ptr imake_int
  ibin_add ibin_sub ibin_mul ibin_quo ibin_rem ibin_and_u8 ibin_and_u16 ibin_and_u32 ibin_and_u64 ibin_and_i64 ibin_and_i32 ibin_or_u8 ibin_or_u16 ibin_or_u32 ibin_or_u64 ibin_or_i64 ibin_or_i32 ibin_xor_u8 ibin_xor_u16 ibin_xor_u32 ibin_xor_u64 ibin_xor_i64 ibin_xor_i32 ibin_eql ibin_neq ibin_lss ibin_leq ibin_gtr ibin_geq ibin_shl ibin_shr ibin_bool ibin_ptrNil ibin_nilPtr ibin_rowNil ibin_funcNil ibin_nilFuncs ibin_strEq ibin_strNe eqOp_eql eqOp_neq
  iload_ptr ifieldAddr_ptr ifield_agg iindexAddr_row iindexAddr_arr iindex_agg iindex_str iconv_int iun_neg iun_not ilen_row ilen_str imm_min imm_max ifill_nil ifill_cons irow_nil irow_row irow_str iapp_nil iapp_row
  ipart_eq ibound_none ibound_int islice_str islice_nil islice_row2 islice_row3 ibuild_eq evals_nil evals_cons cell_eq row_eq put_eq lay_own splice_zero splice_succ splice_void iresults_nil iresults_cons iresult_tmp iresult_cell ptrTo ithen iblock ipack IEnd ienv
end Go.Proofs.YtoecebibhcadoaaDoor.I
