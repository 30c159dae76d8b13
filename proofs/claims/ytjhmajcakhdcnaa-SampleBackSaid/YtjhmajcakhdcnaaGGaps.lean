/- The document's example of samples. No condition. -/
import Derived.Test.YtjhmajcakhdcnaaCTrack
import Derived.Test.YtjhmajcakhdcnaaIFrz
namespace Go.Proofs.Ytjhmajcakhdcnaa.I
open Go Go.RowKit
set_option linter.unusedVariables false
set_option linter.unusedSimpArgs false

theorem gaps (H : Heap) : ICalls Try.prog 16 [] H fun v H' => v = .bool true ∧ Eqv H' H := by
  refine IBody.calls (by kernel_rfl) (IBody.left ?_)
  refine IBody.of Try.func16 rfl (by rw [Try.ntmps16]; simp) ?_
  rw [Try.ntmps16]
  refine IWp.seq ?_
  refine IWp.run [] ?_
  simp [go_sem, -getElem?_pos, List.getElem?_cons_zero, List.getElem?_cons_succ, Go.IntWalk.iteOmega, Go.IntWalk.toNatUp]
  refine IWp.seq ?_
  refine IWp.run [1] ?_
  simp [go_sem, -getElem?_pos, List.getElem?_cons_zero, List.getElem?_cons_succ, Go.IntWalk.iteOmega, Go.IntWalk.toNatUp]
  refine ICalls.mono (new_tracker H 1) ?_
  rintro v H1 ⟨rfl, hT, hs, hn⟩
  try simp [go_sem, -getElem?_pos, List.getElem?_cons_zero, List.getElem?_cons_succ, Go.IntWalk.iteOmega, Go.IntWalk.toNatUp]
  refine IWp.seq ?_
  refine IWp.run [1, 2, 3] ?_
  simp [go_sem, -getElem?_pos, List.getElem?_cons_zero, List.getElem?_cons_succ, Go.IntWalk.iteOmega, Go.IntWalk.toNatUp]
  refine ICalls.mono (next_new H1 _ _ [⟨0, false, 0, 0⟩] 0 250 0 false hT (by simp) (by simp) (by simp) (by simp)) ?_
  rintro v H2 ⟨rfl, e2⟩
  try simp [go_sem, -getElem?_pos, List.getElem?_cons_zero, List.getElem?_cons_succ, Go.IntWalk.iteOmega, Go.IntWalk.toNatUp]
  refine IWp.seq ?_
  refine IWp.run [2, 3, 4, 5] ?_
  simp [go_sem, -getElem?_pos, List.getElem?_cons_zero, List.getElem?_cons_succ, Go.IntWalk.iteOmega, Go.IntWalk.toNatUp]
  refine ICalls.mono (next_new H2 _ _ [⟨250, true, 1, 0⟩] 0 2 0 false ((hT.set [⟨250, true, 1, 0⟩] rfl).eqv e2) (by simp) (by simp) (by simp) (by simp)) ?_
  rintro v H3 ⟨rfl, e3⟩
  try simp [go_sem, -getElem?_pos, List.getElem?_cons_zero, List.getElem?_cons_succ, Go.IntWalk.iteOmega, Go.IntWalk.toNatUp]
  refine IWp.seq ?_
  refine IWp.run [0] ?_
  simp [go_sem, -getElem?_pos, List.getElem?_cons_zero, List.getElem?_cons_succ, Go.IntWalk.iteOmega, Go.IntWalk.toNatUp]
  refine IWp.ret ?_
  simp [go_sem, -getElem?_pos, List.getElem?_cons_zero, List.getElem?_cons_succ, Go.IntWalk.iteOmega, Go.IntWalk.toNatUp, Try.results16]
  intro H4 hg hn4
  have h1 := e3.next
  have h2 := e2.next
  simp only [next_set] at h1 h2
  refine ⟨⟨by decide, by decide⟩, left_get hg (fun b hb => ?_) (Nat.le_refl _) (by omega)⟩
  rw [e3.get, get_set, if_neg (by omega), e2.get, get_set, if_neg (by omega), hs b hb]

/-- What the tracker knows of the third signal behind i rounds: `o` is left out where it is neither the first nor the last of k. -/
def runAt (first : Int) (k o i : Nat) : Last :=
  if i = 0 then ⟨0, false, 0, 0⟩
  else if 0 < o ∧ o + 1 < k ∧ o < i then
    (if i = o + 1 then ⟨(first + (o : Int) - 1) % 256, true, (o : Int), 0⟩ else ⟨(first + (i : Int) - 1) % 256, true, (i : Int) - 1, 1⟩)
  else ⟨(first + (i : Int) - 1) % 256, true, (i : Int), 0⟩

def lostAt (k o i : Nat) : Int := if 0 < o ∧ o + 1 < k ∧ o < i then 1 else 0

theorem gapsP (H : Heap) : ICalls Try.prog 16 [] H fun v H' => v = .bool true ∧ H' = H :=
  ICalls.pure ((gaps H.ro).mono fun v H' h => ⟨v, .same v, by rw [h.1]; exact .plain rfl, h.1⟩)

end Go.Proofs.Ytjhmajcakhdcnaa.I
