/- The document's examples of graph, evaluated; what a bulk bounds. -/
import Derived.Test.YtlohkhadbkahdaaGraphRunB
import Derived.Test.YtlohkhadbkahdaaOpens
namespace Go.Proofs.Ytlohkhadbkahdaa.Pure
open Go.RowKit Go.Proofs.Ytlohkhadbkahdaa.QGraph Go.Proofs.YtlohkhadbkahdaaW.PrintWords Go.Proofs.YtlohkhadbkahdaaW.PrintLast Go.Proofs.Ytlohkhadbkahdaa.GraphS Go.Proofs.Ytlohkhadbkahdaa
namespace Gr
theorem up : Ev (fun k => shacklelaw16_up.f k) true := Ev.of (k := 40) (fun k => shacklelaw16_up.mono k) (by decide +kernel)
theorem wts_one (l : List Int) : Opn.wts (fun _ : Int => 1) l = l.length := by
  induction l with
  | nil => rfl
  | cons x l ih => simp only [Opn.wts, List.length_cons, ih]; omega
theorem wts_rows (l : List (List Int)) : l.length ≤ Opn.wts (fun z : List Int => (Opn.wts (fun _ : Int => 1) z + 1)) l ∧ ∀ z ∈ l, z.length ≤ Opn.wts (fun z : List Int => (Opn.wts (fun _ : Int => 1) z + 1)) l := by
  induction l with
  | nil => exact ⟨Nat.le_refl _, by simp⟩
  | cons x l ih =>
    have hx := wts_one x
    refine ⟨by simp only [Opn.wts, List.length_cons]; omega, ?_⟩
    intro z hz
    simp only [Opn.wts]
    rcases List.mem_cons.1 hz with rfl | hz
    · omega
    · have := ih.2 z hz; omega
theorem bounds {l0 : List (List Int)} {l1 : List Int} (h : (Opn.wts (fun z : List Int => (Opn.wts (fun _ : Int => 1) z + 1)) l0 + 1) + (Opn.wts (fun _ : Int => 1) l1 + 1) ≤ 1048576) : l0.length ≤ 1048576 ∧ (∀ z ∈ l0, z.length ≤ 1048576) ∧ l1.length ≤ 1048576 := by
  have h1 := wts_rows l0
  have h2 := wts_one l1
  exact ⟨by omega, fun z hz => by have := h1.2 z hz; omega, by omega⟩
theorem scopeO_some (deps : List (List Int)) (roots : List Int) (hn : deps.length ≤ 1048576) : graph_Scope.f deps roots = some (scopeF deps roots) := by
  unfold graph_Scope.f scopeO
  rw [if_pos (by omega)]
end Gr
end Go.Proofs.Ytlohkhadbkahdaa.Pure
