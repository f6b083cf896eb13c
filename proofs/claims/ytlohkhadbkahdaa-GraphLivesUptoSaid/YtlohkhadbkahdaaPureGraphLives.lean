/- Which objects are left, and whether there is a ring, of any dependencies of a bulk of at most 1048576: as the document says. -/
import Derived.Test.YtlohkhadbkahdaaSaidGraphLives
import Derived.Test.YtlohkhadbkahdaaGraphRunE
namespace Go.Proofs.Ytlohkhadbkahdaa.Pure
open Go.RowKit Go.Proofs.Ytlohkhadbkahdaa.QGraph Go.Proofs.YtlohkhadbkahdaaW.PrintWords Go.Proofs.YtlohkhadbkahdaaW.PrintLast Go.Proofs.Ytlohkhadbkahdaa.GraphS Go.Proofs.Ytlohkhadbkahdaa
set_option linter.unusedVariables false
namespace Gr
theorem lives_l (deps : List (List Int)) (hn : deps.length ≤ 1048576) (hr : ∀ z ∈ deps, z.length ≤ 1048576) (A : List Bool) (hA : A.length ≤ 1048576) : ∀ (d : Nat) (i : Int), 0 ≤ i → i + d = A.length → Ev (fun k => shacklelaw16_GraphLives.l0 k deps true A A i) true := by
  intro d
  induction d with
  | zero =>
    intro i h0 h1
    obtain ⟨b, hb⟩ : ∃ b : Bool, b = true ↔ Ring deps := by
      by_cases h : Ring deps
      · exact ⟨true, by simp [h]⟩
      · exact ⟨false, by simp [h]⟩
    have := Ev.bind (gloop deps hn hr b hb) (f := fun k t298 => (shackleref16_Loop.f k deps).bind fun t299 => some (t298 == t299)) (r := true) (Ev.bind (rloop deps hn hr b hb) (by
      refine Ev.congr (fun k => ?_) (Ev.now true)
      simp))
    refine Ev.step (fun k => ?_) this
    rw [shacklelaw16_GraphLives.l0, if_neg (by omega), if_pos rfl]
  | succ d ih =>
    intro i h0 h1
    refine Ev.step (fun k => ?_) (ih (i + 1) (by omega) (by omega))
    rw [shacklelaw16_GraphLives.l0, if_pos (by omega), if_pos h0, if_pos (by omega), if_neg (by simp), wrap_in i h0 (by omega)]
end Gr
theorem GraphLives : shacklelaw16_GraphLives.PureU := by
  intro l0 l1 _ _ hb
  obtain ⟨hn, hr, hl⟩ := Gr.bounds hb
  obtain ⟨b, hs⟩ := Gr.small l0 hn
  unfold shacklelaw16_GraphLives.f
  refine Ev.rounds (Ev.bind Gr.up (Ev.bind hs ?_))
  cases b with
  | false => exact Ev.now _
  | true =>
    have hA := (Gr.liveF_spec l0 l1).1
    refine Ev.congr (fun k => if_pos rfl) ?_
    refine Ev.bind (Gr.live l0 l1 hn hl) (Ev.bind (Gr.rlive l0 l1 hn hr hl) ?_)
    refine Ev.congr (fun k => ?_) (Gr.lives_l l0 hn hr (Gr.liveF l0 l1) (by omega) (Gr.liveF l0 l1).length 0 (by omega) (by omega))
    rw [if_pos rfl]
end Go.Proofs.Ytlohkhadbkahdaa.Pure
