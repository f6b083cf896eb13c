/- A string of any table, at any place: the program's Text and the reference's answer alike, errors too. No condition. -/
import Derived.Test.YtlohkhadbkahdaaQSymsx3
import Derived.Test.YtlohkhadbkahdaaSymsText
namespace Go.Proofs.Ytlohkhadbkahdaa.Pure
open Go.RowKit Go.Proofs.Ytlohkhadbkahdaa.QSyms Go.Proofs.YtlohkhadbkahdaaW.PrintWords Go.Proofs.YtlohkhadbkahdaaW.PrintLast

theorem SymsTexts : shacklelaw06_SymsTexts.Pure := by
  intro l a _ hn hl ha
  have h0 := SymsText.wf64 ha
  refine ⟨l.length + 3, ?_⟩
  unfold shacklelaw06_SymsTexts.f shacklelaw06_up.f
  simp only [Option.bind_some]
  rw [SymsText.text_f l a (SymsText.wf8 hl) (by omega) h0.1, SymsText.ref_f l a (by omega) h0.1 _ (by omega)]
  simp only [Option.bind_some, if_true]
  rw [SymsText.code_errOf _ (by rcases SymsText.text_code l a with e | e | e <;> rw [e] <;> decide) (by rcases SymsText.text_code l a with e | e | e <;> rw [e] <;> decide)]
  simp

end Go.Proofs.Ytlohkhadbkahdaa.Pure
