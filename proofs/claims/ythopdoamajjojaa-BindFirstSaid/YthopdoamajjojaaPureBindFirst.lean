import Derived.Test.YthopdoamajjojaaSaidBindFirst
import Derived.Test.YthopdoamajjojaaQBindFx11
namespace Go.Proofs.Ythopdoamajjojaa.Pure
open Go Go.RowKit Go.Proofs.Ythopdoamajjojaa Go.Proofs.Ythopdoamajjojaa.QBindF Go.Proofs.YthopdoamajjojaaW.PrintWords
theorem BindFirst : shacklelaw17_BindFirst.PureU := by
  intro l0 l1 a2_0 a2_1 a2_2 ⟨_, h0⟩ _ h2 _ _
  refine ⟨0, if_pos ?_⟩
  simp only [Bool.and_eq_true, List.all_eq_true, decide_eq_true_eq]
  exact ⟨fun z hz => BindF.goodB_of z (h0 z hz), h2⟩
end Go.Proofs.Ythopdoamajjojaa.Pure
