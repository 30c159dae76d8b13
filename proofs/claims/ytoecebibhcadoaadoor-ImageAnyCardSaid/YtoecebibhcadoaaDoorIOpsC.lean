/- Struct literals, conversions, lengths, the least and the greatest; all operations that turn nothing, under one name. No condition. -/
import Derived.Test.YtoecebibhcadoaaDoorIOpsB
import Derived.Laws.IdiomCopy
namespace Go.Proofs.YtoecebibhcadoaaDoor.I
open Go Go.RowKit
set_option linter.unusedVariables false
set_option linter.unusedSimpArgs false
def splice (cs : List Value) (o : Nat) (vs : List Value) : List Value := cs.take o ++ vs ++ cs.drop (o + vs.length)
theorem splice_get {cs vs : List Value} {o : Nat} (h : o + vs.length ≤ cs.length) (i : Nat) :
    (splice cs o vs)[i]? = if i < o then cs[i]? else if i < o + vs.length then vs[i - o]? else cs[i]? := by
  unfold splice
  rw [List.append_assoc, List.getElem?_append]
  simp only [List.length_take, show min o cs.length = o by omega]
  by_cases h1 : i < o
  · rw [if_pos h1, if_pos h1, List.getElem?_take_of_lt h1]
  · rw [if_neg h1, if_neg h1, List.getElem?_append]
    by_cases h2 : i < o + vs.length
    · rw [if_pos (by omega), if_pos h2]
    · rw [if_neg (by omega), if_neg h2, List.getElem?_drop]
      congr 1; omega
theorem splice_length {cs vs : List Value} {o : Nat} (h : o + vs.length ≤ cs.length) : (splice cs o vs).length = cs.length := by
  simp [splice]; omega
theorem foldl_splice : ∀ (vs : List Value) (k off : Nat) (arr : Array Value), off + k + vs.length ≤ arr.size →
    ((vs.zipIdx k).foldl (fun (cs : Array Value) (x : Value × Nat) => cs.setIfInBounds (off + x.2) x.1) arr).toList = splice arr.toList (off + k) vs
  | [], k, off, arr, h => by simp [splice]
  | v :: r, k, off, arr, h => by
    simp only [List.length_cons] at h
    rw [List.zipIdx_cons, List.foldl_cons, foldl_splice r (k + 1) off _ (by simp; omega)]
    apply List.ext_getElem?
    intro i
    rw [splice_get (by simp; omega), splice_get (by simp; omega)]
    simp only [Array.toList_setIfInBounds, List.getElem?_set, Array.length_toList, List.length_cons]
    by_cases h1 : i < off + k
    · rw [if_pos (by omega), if_pos h1, if_neg (by omega)]
    · rw [if_neg h1]
      by_cases h2 : i = off + k
      · subst h2
        rw [if_pos (by omega), if_pos (by omega), if_pos (by omega)]; simp
      · rw [if_neg (by omega)]
        by_cases h3 : i < off + k + (r.length + 1)
        · rw [if_pos (by omega), if_pos h3]
          rw [show i - (off + k) = (i - (off + (k + 1))) + 1 by omega, List.getElem?_cons_succ]
        · rw [if_neg (by omega), if_neg h3, if_neg (by omega)]
theorem VRL.splice {ρ : Ren} {cs cs' vs vs' : List Value} {o : Nat} (h : VRL ρ cs cs') (hv : VRL ρ vs vs') : VRL ρ (splice cs o vs) (I.splice cs' o vs') := by
  unfold I.splice
  rw [hv.length]
  exact VRL.append (VRL.append (h.take o) hv) (h.drop _)
def PR (ρ : Ren) : List (Nat × Value) → List (Nat × Value) → Prop
  | [], [] => True
  | x :: r, y :: r' => (y.1 = x.1 ∧ VR ρ x.2 y.2) ∧ PR ρ r r'
  | _, _ => False
def ifill (pl : List (Nat × Nat)) (cs : List Value) : List (Nat × Value) → Option (List Value)
  | [] => some cs
  | (i, v) :: r => (pl[i]?).bind fun p => if v.cells.toList.length = p.2 ∧ p.1 + v.cells.toList.length ≤ cs.length then ifill pl (splice cs p.1 v.cells.toList) r else none
theorem fill_sound {ρ : Ren} {pl : List (Nat × Nat)} {place : Nat → Option (Nat × Nat)} (hp : ∀ i p, pl[i]? = some p → place i = some p) :
    ∀ (parts : List (Nat × Value)) (parts' : List (Nat × Value)) (cs : List Value) (arr : Array Value) (out : List Value), PR ρ parts parts' →
      VRL ρ cs arr.toList → ifill pl cs parts = some out → ∃ arr', Instr.fill place arr parts' = some arr' ∧ VRL ρ out arr'.toList
  | [], [], cs, arr, out, _, hc, h => by cases h; exact ⟨arr, rfl, hc⟩
  | [], _ :: _, cs, arr, out, hps, hc, h => hps.elim
  | _ :: _, [], cs, arr, out, hps, hc, h => hps.elim
  | (i, v) :: r, (j, v') :: r', cs, arr, out, hps, hc, h => by
    obtain ⟨⟨hij, hv⟩, ht⟩ := hps
    have hij : j = i := hij
    subst hij
    simp only [ifill] at h
    obtain ⟨p, h1, h2⟩ := Option.bind_eq_some_iff.mp h
    split at h2
    · rename_i hc2
      have hcells := hv.cells
      have hlen := hcells.length
      have hsz : arr.size = cs.length := by rw [← Array.length_toList, hc.length]
      have hvs : v'.cells.size = v.cells.toList.length := by rw [← Array.length_toList, hlen]
      have e : (v'.cells.zipIdx.foldl (fun (cs : Array Value) (x : Value × Nat) => cs.setIfInBounds (p.1 + x.2) x.1) arr).toList = splice arr.toList p.1 v'.cells.toList := by
        rw [← Array.foldl_toList, Array.toList_zipIdx]
        have := foldl_splice v'.cells.toList 0 p.1 arr (by rw [Array.length_toList, hvs, hsz]; omega)
        simpa using this
      have hn := VRL.splice (o := p.1) hc hcells
      rw [← e] at hn
      obtain ⟨arr', h3, h4⟩ := fill_sound hp r r' _ _ out ht hn h2
      refine ⟨arr', ?_, h4⟩
      simp only [Instr.fill, hp _ _ h1]
      rw [if_neg (by rw [hvs, hsz]; simp; omega)]
      exact h3
    · cases h2
def tPlaces (P : Program) (t : TypeId) : Option (List (Nat × Nat)) :=
  match P.underlying t with
  | some (.struct fs) => fs.toList.mapM (fun f => (P.info? f.type).map fun i => (f.offset, i.size))
  | some (.array n e) => (tSize P e).map fun sz => (List.range n).map fun i => (i * sz, sz)
  | _ => none
def ibuild (P : Program) (t : TypeId) (parts : List (Nat × Value)) : Option Value :=
  (tZero P t).bind fun z => (tPlaces P t).bind fun pl => if plain1 z = true then (ifill pl z.cells.toList parts).map fun l => .agg l.toArray else none
theorem ibuild_sound {P : Program} {w : World} {ρ : Ren} {t : TypeId} {parts parts' : List (Nat × Value)} {v : Value} (hp : PR ρ parts parts')
    (hv : ibuild P t parts = some v) : ∃ v', (Instr.build t parts'.toArray).run P w = .ok v' w ∧ VR ρ v v' := by
  unfold ibuild at hv
  obtain ⟨z, hz, hv⟩ := Option.bind_eq_some_iff.mp hv
  obtain ⟨pl, hpl, hv⟩ := Option.bind_eq_some_iff.mp hv
  split at hv
  · rename_i hzp
    obtain ⟨l, hl, rfl⟩ := Option.map_eq_some_iff.mp hv
    unfold tZero at hz
    obtain ⟨it, hit, hz⟩ := Option.bind_eq_some_iff.mp hz
    have hcz : VRL ρ z.cells.toList z.cells.toList := (VR.of_plain1 hzp).cells
    unfold tPlaces at hpl
    split at hpl
    · rename_i fs hu
      obtain ⟨arr', h1, h2⟩ := fill_sound (place := (pl.toArray[·]?)) (fun i p h => by simpa using h) parts parts' _ _ l hp hcz hl
      exact ⟨.agg arr', run_build w t parts'.toArray arr' (by simp only [Program.built, hit, hu, hz, hpl]; exact h1), .agg (by simpa using h2)⟩
    · rename_i n e hu
      obtain ⟨sz, hsz, rfl⟩ := Option.map_eq_some_iff.mp hpl
      unfold tSize at hsz
      obtain ⟨ie, hie, rfl⟩ := Option.map_eq_some_iff.mp hsz
      obtain ⟨arr', h1, h2⟩ := fill_sound (place := fun i => some (i * ie.size, ie.size)) (fun i p h => by
        rw [List.getElem?_map] at h
        obtain ⟨j, hj, rfl⟩ := Option.map_eq_some_iff.mp h
        obtain ⟨_, rfl⟩ := List.getElem?_eq_some_iff.mp hj
        simp) parts parts' _ _ l hp hcz hl
      exact ⟨.agg arr', run_build w t parts'.toArray arr' (by simp only [Program.built, hit, hu, hz, hie]; exact h1), .agg (by simpa using h2)⟩
    · cases hpl
  · cases hv
def iconv (P : Program) (src dst : TypeId) (H : Heap) (x : Value) : Option Value :=
  match x with
  | .int _ n => match tKind P dst with | some (.int k) => if (tKind P src).isSome = true then some (.int k (k.wrap n)) else none | _ => none
  | .string s => if tKind P dst = some .string ∧ (tKind P src).isSome = true then some (.string s) else none
  | _ => none
theorem tKind_some {P : Program} {t : TypeId} (h : (tKind P t).isSome = true) : ∃ d, P.underlying t = some d := by
  unfold tKind at h
  cases hu : P.underlying t with
  | none => rw [hu] at h; cases h
  | some d => exact ⟨d, rfl⟩
theorem iconv_sound {P : Program} {w : World} {ρ : Ren} {H : Heap} {src dst : TypeId} {x x' v : Value} (hx : VR ρ x x') (hv : iconv P src dst H x = some v) :
    (convert src dst x').run P w = .ok v w ∧ VR ρ v v := by
  unfold iconv at hv
  split at hv
  · obtain rfl := hx.eq_of_plain0 rfl
    split at hv
    · rename_i k hk
      split at hv
      · rename_i hs
        cases hv
        obtain ⟨d, hd⟩ := tKind_some hs
        have hu : P.underlying dst = some (.int k) := by
          unfold tKind at hk; split at hk <;> try (cases hk)
          assumption
        refine ⟨?_, .plain rfl⟩
        simp only [convert, Sem.run_bind, run_under_of hd, run_under_of hu, Result.andThen_ok]
        cases d <;> rfl
      · cases hv
    · cases hv
  · obtain rfl := hx.eq_of_plain0 rfl
    split at hv
    · rename_i hc
      obtain ⟨hk, hs⟩ := hc
      cases hv
      obtain ⟨d, hd⟩ := tKind_some hs
      have hu : P.underlying dst = some .string := by
        unfold tKind at hk; split at hk <;> try (cases hk)
        assumption
      refine ⟨?_, .plain rfl⟩
      simp only [convert, Sem.run_bind, run_under_of hd, run_under_of hu, Result.andThen_ok]
      cases d <;> rfl
    · cases hv
  · cases hv
def iun (op : UnOp) (x : Value) : Option Value :=
  match op, x with
  | .neg, .int k n => some (.int k (k.wrap (0 - n)))
  | .not, .bool b => some (.bool (!b))
  | _, _ => none
theorem iun_sound {P : Program} {w : World} {ρ : Ren} {op : UnOp} {x x' v : Value} (hx : VR ρ x x') (hv : iun op x = some v) : (Op.unary op x').run P w = .ok v w ∧ VR ρ v v := by
  unfold iun at hv
  split at hv
  · obtain rfl := hx.eq_of_plain0 rfl
    cases hv; exact ⟨by simp [Op.unary, Op.intArith], .plain rfl⟩
  · obtain rfl := hx.eq_of_plain0 rfl
    cases hv; exact ⟨by simp [Op.unary], .plain rfl⟩
  · cases hv
def ilen (P : Program) (t : TypeId) (x : Value) : Option Value :=
  match x with
  | .slice _ n _ => if tKind P t = some .slice then some (.int .i64 n) else none
  | .string s => if tKind P t = some .string then some (.int .i64 s.size) else none
  | .func (.yield _) ⟨xs⟩ ⟨[.int _ _]⟩ => if tKind P t = some .slice then some (.int .i64 xs.length) else none
  | _ => none
theorem ilen_sound {P : Program} {w : World} {ρ : Ren} {t ty : TypeId} {x x' v : Value} (hx : VR ρ x x') (hv : ilen P t x = some v) : (Builtin.len_ #[t] ty #[x']).run P w = .ok v w ∧ VR ρ v v := by
  unfold ilen at hv
  split at hv
  · split at hv
    · rename_i hk
      cases hv
      unfold tKind at hk
      split at hk <;> try (cases hk)
      rename_i hu
      refine ⟨?_, .plain rfl⟩
      cases hx <;> simp [Builtin.len_, run_under_of hu, goInt]
    · cases hv
  · obtain rfl := hx.eq_of_plain0 rfl
    split at hv
    · rename_i hk
      cases hv
      unfold tKind at hk
      split at hk <;> try (cases hk)
      rename_i hu
      exact ⟨by simp [Builtin.len_, run_under_of hu, goInt], .plain rfl⟩
    · cases hv
  · split at hv
    · rename_i hk
      cases hv
      unfold tKind at hk
      split at hk <;> try (cases hk)
      rename_i hu
      refine ⟨?_, .plain rfl⟩
      cases hx with
      | plain hp => simp [plain0] at hp
      | frow h1 h2 h3 => simp [Builtin.len_, run_under_of hu, goInt]
      | frow0 h3 => simp [Builtin.len_, run_under_of hu, goInt]
      | fnil h3 => simp [Builtin.len_, run_under_of hu, goInt]
    · cases hv
  · cases hv
def imm (b : Builtin) (x y : Value) : Option Value :=
  match b, x, y with
  | .min, .int k a, .int _ c => some (.int k (if c < a then c else a))
  | .max, .int k a, .int _ c => some (.int k (if a < c then c else a))
  | _, _, _ => none
def concK (k : Option Kind) : Bool :=
  match k with
  | some .iface => false
  | some _ => true
  | none => false
theorem run_makeInterface {P : Program} {t : TypeId} {v : Value} {w : World} (h : concK (tKind P t) = true) : (Instr.makeInterface t v).run P w = .ok (.iface t v) w := by
  unfold tKind at h
  unfold Instr.makeInterface
  cases hu : P.underlying t with
  | none => rw [hu] at h; simp [concK] at h
  | some u =>
    rw [hu] at h
    cases u <;> first | (simp [concK] at h; done) | (simp [run_underlying hu]; done)
def ival (P : Program) (op : Op) (e : Env) (H : Heap) : Option Value :=
  match op with
  | .move x => e.eval x
  | .assign x => e.eval x
  | .pick c a b =>
    match e.eval c with
    | some (.bool t) => bif t then e.eval a else e.eval b
    | _ => none
  | .load t x => (e.eval x).bind fun v => iload P t H v
  | .nilCheck x =>
    match e.eval x with
    | some (.pointer (some a)) => some (.pointer (some a))
    | some (.func (.func f) p q) => some (.func (.func f) p q)
    | some (.func (.yield off) ⟨[x]⟩ ⟨[]⟩) => some (.func (.yield off) ⟨[x]⟩ ⟨[]⟩)
    | _ => none
  | .binOp op t x y _ => (e.eval x).bind fun u => (e.eval y).bind fun v => ibin P op t u v
  | .unOp op _ x => (e.eval x).bind fun u => iun op u
  | .convert src dst x => (e.eval x).bind fun u => iconv P src dst H u
  | .fieldAddr s x f => (e.eval x).bind fun u => ifieldAddr P s f u
  | .field s x f => (e.eval x).bind fun u => ifield P s f u
  | .indexAddr t x i => (e.eval x).bind fun u => (e.eval i).bind fun v => iindexAddr P t u v
  | .index t x i => (e.eval x).bind fun u => (e.eval i).bind fun v => iindex P t u v
  | .extract x i => match e.eval x with | some (.tuple l) => l.toList[i]? | _ => none
  | .makeFunc (.func f) first captured => (evals e first.toList).bind fun a => (evals e captured.toList).bind fun b => some (.func (.func f) a.toArray b.toArray)
  | .build t parts => (evals e (parts.toList.map (·.2))).bind fun l => ibuild P t ((parts.toList.map (·.1)).zip l)
  | .slice t x none none none => (e.eval x).bind fun u => islice P t u none none none
  | .slice t x (some lo) none none => (e.eval x).bind fun u => (e.eval lo).bind fun l => islice P t u (some l) none none
  | .slice t x none (some hi) none => (e.eval x).bind fun u => (e.eval hi).bind fun h => islice P t u none (some h) none
  | .slice t x (some lo) (some hi) none => (e.eval x).bind fun u => (e.eval lo).bind fun l => (e.eval hi).bind fun h => islice P t u (some l) (some h) none
  | .slice t x (some lo) (some hi) (some mx) => (e.eval x).bind fun u => (e.eval lo).bind fun l => (e.eval hi).bind fun h => (e.eval mx).bind fun m => islice P t u (some l) (some h) (some m)
  | .slice t x none (some hi) (some mx) => (e.eval x).bind fun u => (e.eval hi).bind fun h => (e.eval mx).bind fun m => islice P t u none (some h) (some m)
  | .call ⟨.builtin .len, ⟨[x]⟩, ⟨[t]⟩⟩ => (e.eval x).bind fun u => ilen P t u
  | .call ⟨.builtin .min, ⟨[x, y]⟩, _⟩ => (e.eval x).bind fun u => (e.eval y).bind fun v => imm .min u v
  | .call ⟨.builtin .max, ⟨[x, y]⟩, _⟩ => (e.eval x).bind fun u => (e.eval y).bind fun v => imm .max u v
  | .makeInterface t x => if concK (tKind P t) = true then (e.eval x).bind fun u => some (.iface t u) else none
  | _ => none
theorem ival_sound {P : Program} {n : Nat} {B : Nat} {w0 w : World} {ρ : Ren} {H : Heap} {e : Env} {a : Act} (ha : AR n ρ e a) (hh : HR B w0 ρ H w) {o : Oper} {v : Value}
    (hv : ival P o.op e H = some v) : ∃ v', (execOp a.eval o).run P w = .ok (.value v') w ∧ VR ρ v v' := by
  obtain ⟨dst, op, type, pos, after, guard⟩ := o
  simp only at hv
  have ev {x : Operand} {u : Value} (h : e.eval x = some u) : VR ρ u (a.eval x) := Env.eval_sound ha h
  unfold ival at hv
  split at hv
  case h_1 => exact ⟨_, rfl, ev hv⟩
  case h_2 => exact ⟨_, rfl, ev hv⟩
  case h_3 x y z =>
    split at hv
    · rename_i t ht
      have h1 := (ev ht).eq_of_plain0 rfl
      cases t with
      | true => exact ⟨a.eval y, by simp [execOp, h1, asBool], ev hv⟩
      | false => exact ⟨a.eval z, by simp [execOp, h1, asBool], ev hv⟩
    · cases hv
  case h_4 t x =>
    obtain ⟨u, h1, h2⟩ := Option.bind_eq_some_iff.mp hv
    obtain ⟨v', h3, h4⟩ := iload_sound hh (ev h1) h2
    exact ⟨v', by simp [execOp, h3], h4⟩
  case h_5 x =>
    split at hv
    · rename_i p hp
      cases hv
      have h1 := ev hp
      generalize ha' : a.eval x = y at h1
      cases h1 with
      | plain hq => simp [plain0] at hq
      | ptr hb => exact ⟨_, by simp only [execOp, ha']; rfl, .ptr hb⟩
    · rename_i f p q hp
      cases hv
      have h1 := ev hp
      generalize ha' : a.eval x = y at h1
      cases h1 with
      | plain hq => simp [plain0] at hq
      | func hx hy => exact ⟨_, by simp only [execOp, ha']; rfl, .func hx hy⟩
    · rename_i off u hp
      cases hv
      have h1 := ev hp
      generalize ha' : a.eval x = y at h1
      cases h1 with
      | plain hq => simp [plain0] at hq
      | fptr hl hf => exact ⟨_, by simp only [execOp, ha']; rfl, .fptr hl hf⟩
    · cases hv
  case h_6 op t x y yt =>
    obtain ⟨u, h1, hv⟩ := Option.bind_eq_some_iff.mp hv
    obtain ⟨u', h2, hv⟩ := Option.bind_eq_some_iff.mp hv
    obtain ⟨h3, h4⟩ := ibin_sound (P := P) (w := w) (xo := x) (yo := y) (ev h1) (ev h2) hv
    refine ⟨v, ?_, .plain h4⟩
    simp only [execOp, Sem.run_bind] at h3 ⊢
    rw [h3]; rfl
  case h_7 op t x =>
    obtain ⟨u, h1, hv⟩ := Option.bind_eq_some_iff.mp hv
    obtain ⟨h3, h4⟩ := iun_sound (P := P) (w := w) (ev h1) hv
    exact ⟨v, by simp [execOp, h3], h4⟩
  case h_8 src dt x =>
    obtain ⟨u, h1, hv⟩ := Option.bind_eq_some_iff.mp hv
    obtain ⟨h3, h4⟩ := iconv_sound (P := P) (w := w) (ev h1) hv
    exact ⟨v, by simp [execOp, h3], h4⟩
  case h_9 s x f =>
    obtain ⟨u, h1, hv⟩ := Option.bind_eq_some_iff.mp hv
    obtain ⟨v', h3, h4⟩ := ifieldAddr_sound (P := P) (w := w) (ev h1) hv
    exact ⟨v', by simp [execOp, h3], h4⟩
  case h_10 s x f =>
    obtain ⟨u, h1, hv⟩ := Option.bind_eq_some_iff.mp hv
    obtain ⟨v', h3, h4⟩ := ifield_sound (P := P) (w := w) (ev h1) hv
    exact ⟨v', by simp [execOp, h3], h4⟩
  case h_11 t x i =>
    obtain ⟨u, h1, hv⟩ := Option.bind_eq_some_iff.mp hv
    obtain ⟨u', h2, hv⟩ := Option.bind_eq_some_iff.mp hv
    obtain ⟨v', h3, h4⟩ := iindexAddr_sound (P := P) (w := w) (ev h1) (ev h2) hv
    exact ⟨v', by simp [execOp, h3], h4⟩
  case h_12 t x i =>
    obtain ⟨u, h1, hv⟩ := Option.bind_eq_some_iff.mp hv
    obtain ⟨u', h2, hv⟩ := Option.bind_eq_some_iff.mp hv
    obtain ⟨v', h3, h4⟩ := iindex_sound (P := P) (w := w) (ev h1) (ev h2) hv
    exact ⟨v', by simp [execOp, h3], h4⟩
  case h_13 x i =>
    split at hv
    · rename_i l hl
      have h1 := ev hl
      generalize ha' : a.eval x = y at h1
      cases h1 with
      | plain hq => simp [plain0] at hq
      | tuple hx =>
        obtain ⟨v', h2, h3⟩ := hx.get i v hv
        rw [Array.getElem?_toList] at h2
        exact ⟨v', by simp [execOp, ha', Instr.extract, h2], h3⟩
    · cases hv
  case h_14 fn first captured =>
    obtain ⟨l, h1, hv⟩ := Option.bind_eq_some_iff.mp hv
    obtain ⟨m, h2, hv⟩ := Option.bind_eq_some_iff.mp hv
    cases hv
    exact ⟨.func (.func fn) (first.map a.eval) (captured.map a.eval), by simp [execOp, Instr.makeFunc], .func (by simpa using evals_sound ha h1) (by simpa using evals_sound ha h2)⟩
  case h_15 t parts =>
    obtain ⟨l, h1, hv⟩ := Option.bind_eq_some_iff.mp hv
    have h2 := evals_sound ha h1
    have h3 : ∀ (ps : List (Nat × Operand)) (l : List Value), VRL ρ l ((ps.map (·.2)).map a.eval) →
        PR ρ ((ps.map (·.1)).zip l) (ps.map fun (x : Nat × Operand) => (x.1, a.eval x.2)) := by
      intro ps
      induction ps with
      | nil => intro l h; cases h; trivial
      | cons p ps ih =>
        intro l h
        cases h with
        | cons hv hl => exact ⟨⟨rfl, hv⟩, ih _ hl⟩
    obtain ⟨v', h4, h5⟩ := ibuild_sound (P := P) (w := w) (h3 _ _ h2) hv
    refine ⟨v', ?_, h5⟩
    have e1 : (parts.map fun (x : Nat × Operand) => (x.1, a.eval x.2)) = (parts.toList.map fun (x : Nat × Operand) => (x.1, a.eval x.2)).toArray := by rw [← Array.toList_map, Array.toArray_toList]
    simp only [execOp, Sem.run_bind]
    show ((Instr.build t (parts.map fun (x : Nat × Operand) => (x.1, a.eval x.2))).run P w).andThen _ = _
    rw [e1, h4]
    rfl
  case h_16 t x =>
    obtain ⟨u, h1, hv⟩ := Option.bind_eq_some_iff.mp hv
    obtain ⟨v', h3, h4⟩ := islice_sound (P := P) (w := w) (lo := none) (hi := none) (mx := none) (lo' := none) (hi' := none) (mx' := none) (ev h1) trivial trivial trivial hv
    exact ⟨v', by simp [execOp, h3], h4⟩
  case h_17 t x lo =>
    obtain ⟨u, h1, hv⟩ := Option.bind_eq_some_iff.mp hv
    obtain ⟨u2, h2, hv⟩ := Option.bind_eq_some_iff.mp hv
    obtain ⟨v', h3, h4⟩ := islice_sound (P := P) (w := w) (lo := some u2) (hi := none) (mx := none) (lo' := some (a.eval lo)) (hi' := none) (mx' := none) (ev h1) (ev h2) trivial trivial hv
    exact ⟨v', by simp [execOp, h3], h4⟩
  case h_18 t x hi =>
    obtain ⟨u, h1, hv⟩ := Option.bind_eq_some_iff.mp hv
    obtain ⟨u2, h2, hv⟩ := Option.bind_eq_some_iff.mp hv
    obtain ⟨v', h3, h4⟩ := islice_sound (P := P) (w := w) (lo := none) (hi := some u2) (mx := none) (lo' := none) (hi' := some (a.eval hi)) (mx' := none) (ev h1) trivial (ev h2) trivial hv
    exact ⟨v', by simp [execOp, h3], h4⟩
  case h_19 t x lo hi =>
    obtain ⟨u, h1, hv⟩ := Option.bind_eq_some_iff.mp hv
    obtain ⟨u2, h2, hv⟩ := Option.bind_eq_some_iff.mp hv
    obtain ⟨u3, h2', hv⟩ := Option.bind_eq_some_iff.mp hv
    obtain ⟨v', h3, h4⟩ := islice_sound (P := P) (w := w) (lo := some u2) (hi := some u3) (mx := none) (lo' := some (a.eval lo)) (hi' := some (a.eval hi)) (mx' := none) (ev h1) (ev h2) (ev h2') trivial hv
    exact ⟨v', by simp [execOp, h3], h4⟩
  case h_20 t x lo hi mx =>
    obtain ⟨u, h1, hv⟩ := Option.bind_eq_some_iff.mp hv
    obtain ⟨u2, h2, hv⟩ := Option.bind_eq_some_iff.mp hv
    obtain ⟨u3, h2', hv⟩ := Option.bind_eq_some_iff.mp hv
    obtain ⟨u4, h2'', hv⟩ := Option.bind_eq_some_iff.mp hv
    obtain ⟨v', h3, h4⟩ := islice_sound (P := P) (w := w) (lo := some u2) (hi := some u3) (mx := some u4) (lo' := some (a.eval lo)) (hi' := some (a.eval hi)) (mx' := some (a.eval mx)) (ev h1) (ev h2) (ev h2') (ev h2'') hv
    exact ⟨v', by simp [execOp, h3], h4⟩
  case h_21 t x hi mx =>
    obtain ⟨u, h1, hv⟩ := Option.bind_eq_some_iff.mp hv
    obtain ⟨u3, h2', hv⟩ := Option.bind_eq_some_iff.mp hv
    obtain ⟨u4, h2'', hv⟩ := Option.bind_eq_some_iff.mp hv
    obtain ⟨v', h3, h4⟩ := islice_sound (P := P) (w := w) (lo := none) (hi := some u3) (mx := some u4) (lo' := none) (hi' := some (a.eval hi)) (mx' := some (a.eval mx)) (ev h1) trivial (ev h2') (ev h2'') hv
    exact ⟨v', by simp [execOp, h3], h4⟩
  case h_22 x t =>
    obtain ⟨u, h1, hv⟩ := Option.bind_eq_some_iff.mp hv
    obtain ⟨h3, h4⟩ := ilen_sound (P := P) (w := w) (ty := type) (ev h1) hv
    exact ⟨v, by simp [execOp, resolve, invoke, builtin, h3], h4⟩
  case h_23 x y tys =>
    replace hv := Option.bind_eq_some_iff.mp hv
    obtain ⟨u, h1, hv⟩ := hv
    replace hv := Option.bind_eq_some_iff.mp hv
    obtain ⟨u', h2, hv⟩ := hv
    unfold imm at hv
    split at hv
    · have e1 := (ev h1).eq_of_plain0 rfl
      have e2 := (ev h2).eq_of_plain0 rfl
      cases hv
      exact ⟨_, by simp [execOp, resolve, invoke, builtin, Builtin.min_, Builtin.min2, e1, e2], .plain rfl⟩
    · rename_i hb; cases hb
    · cases hv
  case h_24 x y tys =>
    replace hv := Option.bind_eq_some_iff.mp hv
    obtain ⟨u, h1, hv⟩ := hv
    replace hv := Option.bind_eq_some_iff.mp hv
    obtain ⟨u', h2, hv⟩ := hv
    unfold imm at hv
    split at hv
    · rename_i hb; cases hb
    · have e1 := (ev h1).eq_of_plain0 rfl
      have e2 := (ev h2).eq_of_plain0 rfl
      cases hv
      exact ⟨_, by simp [execOp, resolve, invoke, builtin, Builtin.max_, Builtin.max2, e1, e2], .plain rfl⟩
    · cases hv
  case h_25 t x =>
    split at hv
    · rename_i hc
      obtain ⟨u, h1, hv⟩ := Option.bind_eq_some_iff.mp hv
      cases hv
      exact ⟨_, by simp [execOp, run_makeInterface hc], .iface (ev h1)⟩
    · cases hv
  case h_26 => cases hv
end Go.Proofs.YtoecebibhcadoaaDoor.I
