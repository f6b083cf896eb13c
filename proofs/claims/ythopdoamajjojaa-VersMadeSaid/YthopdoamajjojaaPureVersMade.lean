import Derived.Test.YthopdoamajjojaaSaidVersMade
import Derived.Test.YthopdoamajjojaaQVersMx2
namespace Go.Proofs.Ythopdoamajjojaa.Pure
open Go Go.RowKit Go.Proofs.Ythopdoamajjojaa Go.Proofs.Ythopdoamajjojaa.QVersM Go.Proofs.YthopdoamajjojaaW.PrintWords
theorem VersMade : shacklelaw08_VersMade.PureU := by
  intro l0 a1 l2 l3 ⟨_, h0⟩ h1 ⟨_, h2⟩ ⟨_, h3⟩
  refine ⟨0, if_pos ?_⟩
  unfold goodM VersMk.allA
  simp only [Bool.and_eq_true, List.all_eq_true, decide_eq_true_eq]
  refine ⟨fun s hs => ?_, fun x hx => by simpa [Lit.wf, IntKind.min, IntKind.max, IntKind.signed, IntKind.bits] using h3 x hx⟩
  rcases List.mem_append.1 hs with hs | hs
  · rcases List.mem_append.1 hs with hs | hs
    · rw [List.mem_singleton.1 hs]; exact h1
    · exact h0 s hs
  · exact h2 s hs
end Go.Proofs.Ythopdoamajjojaa.Pure
