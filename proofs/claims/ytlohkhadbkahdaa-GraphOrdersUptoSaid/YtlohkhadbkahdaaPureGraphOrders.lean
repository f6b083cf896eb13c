/- Which objects are reached, by breadth, and in which order they are begun, of any dependencies of a bulk of at most 1048576: as the document says. -/
import Derived.Test.YtlohkhadbkahdaaSaidGraphOrders
import Derived.Test.YtlohkhadbkahdaaGraphBase
namespace Go.Proofs.Ytlohkhadbkahdaa.Pure
open Go.RowKit Go.Proofs.Ytlohkhadbkahdaa.QGraph Go.Proofs.YtlohkhadbkahdaaW.PrintWords Go.Proofs.YtlohkhadbkahdaaW.PrintLast Go.Proofs.Ytlohkhadbkahdaa.GraphS Go.Proofs.Ytlohkhadbkahdaa
theorem GraphOrders : shacklelaw16_GraphOrders.PureU := by
  intro l0 l1 _ _ hb
  obtain ⟨hn, hr, hl⟩ := Gr.bounds hb
  obtain ⟨b, hs⟩ := Gr.small l0 hn
  obtain ⟨r, hbeg, hnd, hmem, _⟩ := beginO_spec l0 l1 (by omega)
  have hsc := scopeF_spec l0 l1
  have hrl : r.length ≤ 1048576 := by
    have : r.length ≤ (scopeF l0 l1).length := hnd.length_le_of_subset (fun y hy => (hsc.2.1 y).2 ((hmem y).1 hy))
    omega
  have e : ∀ k, shacklelaw16_GraphOrders.f k l0 l1 = (shacklelaw16_up.f k).bind fun t256 => ((shacklelaw16_small.f k l0).bind fun t257 => (if t257 = true then ((shackleref16_Scope.f k l0 l1).bind fun t261 => ((shackleref16_Same.f k (scopeF l0 l1) t261).bind fun t264 => ((graph_Begin.f k l0 l1).bind fun t265 => ((shackleref16_Same.f k t265 r).bind fun t271 => (if t256 = true then (if t264 = true then (some t271) else (some false)) else (some false)))))) else (some t256))) := by
    intro k
    unfold shacklelaw16_GraphOrders.f
    have e2 : shackleref16_Begin.f l0 l1 = some r := hbeg
    simp only [Gr.scopeO_some l0 l1 hn, e2, Option.bind_some]
  refine Ev.rounds (Ev.congr e (Ev.bind Gr.up (Ev.bind hs ?_)))
  cases b with
  | false => exact Ev.now _
  | true => exact Ev.bind (Gr.rscope l0 l1 hn hr hl) (Ev.bind (Gr.same _ (by omega)) (Ev.bind (Gr.gbegin l0 l1 hn hr hl r hbeg) (Ev.bind (Gr.same r hrl) (Ev.now _))))
end Go.Proofs.Ytlohkhadbkahdaa.Pure
