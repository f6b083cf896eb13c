import Derived.Test.YthopdoamajjojaaSaidVersReads
import Derived.Test.YthopdoamajjojaaQVersVx1
namespace Go.Proofs.Ythopdoamajjojaa.Pure
open Go Go.RowKit Go.Proofs.Ythopdoamajjojaa Go.Proofs.Ythopdoamajjojaa.QVersV Go.Proofs.YthopdoamajjojaaW.PrintWords
open Go.Proofs.Ythopdoamajjojaa.VersS (goodIn)
namespace Reads
theorem wf8 {l : List Int} (h : ∀ x ∈ l, (Lit.int .u8 x).wf = true) : ∀ x ∈ l, 0 ≤ x ∧ x ≤ 255 := fun x hx => by
  simpa [Lit.wf, IntKind.min, IntKind.max, IntKind.signed, IntKind.bits] using h x hx
theorem wf64 {a : Int} (h : (Lit.int .u64 a).wf = true) : 0 ≤ a ∧ a ≤ 18446744073709551615 := by
  simpa [Lit.wf, IntKind.min, IntKind.max, IntKind.signed, IntKind.bits] using h
theorem wfi {a : Int} (h : (Lit.int .i64 a).wf = true) : -9223372036854775808 ≤ a ∧ a ≤ 9223372036854775807 := by
  simpa [Lit.wf, IntKind.min, IntKind.max, IntKind.signed, IntKind.bits] using h
theorem okP_of {ps : List S29} (h : ∀ z ∈ ps, good29 z) : ∀ p ∈ ps.map cv29, VersSpec.okP p := fun p hp => by
  obtain ⟨q, hq, rfl⟩ := List.mem_map.1 hp
  have := h q hq
  exact ⟨wf64 this.2.2.1, wf64 this.2.2.2.1, wf64 this.2.2.2.2.1⟩
theorem good_of {b : List Int} {ps : List QVers.S29} {sz versym verdef defnum verneed neednum tab n : Int} (h1 : ∀ x ∈ b, 0 ≤ x ∧ x ≤ 255) (h2 : ∀ p ∈ ps, VersSpec.okP p) (h3 : ∀ x ∈ [tab, sz, versym, verdef, defnum, verneed, neednum], 0 ≤ x ∧ x ≤ 18446744073709551615) (h4 : -9223372036854775808 ≤ n ∧ n ≤ 9223372036854775807) :
    goodIn b ps sz versym verdef defnum verneed neednum tab n = true := by
  unfold goodIn
  simp only [Bool.and_eq_true, List.all_eq_true, decide_eq_true_eq]
  exact ⟨⟨⟨⟨h1, fun p hp => by have := h2 p hp; unfold VersSpec.okP at this; omega⟩, h3⟩, h4.1⟩, h4.2⟩
end Reads
open Reads
theorem VersReads : shacklelaw08_VersReads.PureU := by
  intro l0 a1_0 a1_1 l1_2 l2_0 a2_1 a2_2 a2_3 a2_4 a2_5 a2_6 a2_7 a2_8 a2_9 a2_10 a2_11 a2_12 a2_13 a2_14 a2_15 a2_16 a2_17 a2_18 a2_19 a2_20 a2_21 a2_22 a2_23 a2_24 a2_25 a2_26 a2_27 a2_28 a2_29 a2_30 a2_31 a2_32 a2_33 a2_34 a2_35 a2_36 a3 ⟨hb, hbw⟩ hx hy ⟨hps, hpg⟩ hl2 ha2_1 ha2_2 ha2_3 ha2_4 ha2_5 ha2_6 ha2_7 ha2_8 ha2_9 ha2_10 ha2_11 ha2_12 ha2_13 ha2_17 ha2_18 ha2_19 ha2_20 ha2_21 ha2_22 ha2_23 ha2_24 ha2_25 ha2_26 ha2_27 ha2_28 ha2_29 ha2_30 ha2_31 hn
  have hbb := wf8 hbw
  have hp := okP_of hpg
  have hg := good_of (b := l0) (ps := l1_2.map cv29) (sz := a2_8) (versym := a2_26) (verdef := a2_28) (defnum := a2_29) (verneed := a2_30) (neednum := a2_31) (tab := a2_4) (n := a3) hbb hp (by
    intro x hx
    simp only [List.mem_cons, List.not_mem_nil, or_false] at hx
    rcases hx with rfl | rfl | rfl | rfl | rfl | rfl | rfl <;> exact wf64 (by assumption)) (wfi hn)
  exact ⟨0, if_pos hg⟩
end Go.Proofs.Ythopdoamajjojaa.Pure
