import Derived.Test.YthopdoamajjojaaBindIn3
import Derived.Test.YthopdoamajjojaaBindFirstW
import Derived.Test.YthopdoamajjojaaBindUp
import Derived.Test.YthopdoamajjojaaQBindFx2
namespace Go.Proofs.Ythopdoamajjojaa.QBindF
open Go Go.RowKit Go.Proofs.YthopdoamajjojaaW.PrintWords Go.Proofs.YthopdoamajjojaaW.PrintLast Go.Proofs.YthopdoamajjojaaW.PrintMore
set_option linter.unusedVariables false
def shacklelaw17_BindFirst.f (k : Nat) (l0 : List (S127)) (l1 : List Int) (a2_0 : ByteArray) (a2_1 : ByteArray) (a2_2 : ByteArray) : Option (Bool) := if l0.all BindF.goodB && decide (a2_0.size ≤ 9223372036854775807) then some true else none
theorem shacklelaw17_BindFirst.calls (k : Nat) (A0 : Option Addr) (c0 : Nat) (l0 : List (S127)) (A1 : Option Addr) (c1 : Nat) (l1 : List Int) (a2_0 : ByteArray) (a2_1 : ByteArray) (a2_2 : ByteArray) (r : Bool) (w : World) (hr0 : Kd.C k127 w A0 l0.length l0) (hc0 : l0.length ≤ c0) (hr1 : Kd.C (Kd.int .i64) w A1 l1.length l1) (hc1 : l1.length ≤ c1) (h : shacklelaw17_BindFirst.f k l0 l1 a2_0 a2_1 a2_2 = some r) :
  Calls Try.prog 8 #[.slice A0 l0.length c0, .slice A1 l1.length c1, .agg #[.string a2_0, .string a2_1, .string a2_2]] w fun e w' => e = .returned (.bool r) ∧ Below w.heap.size w w' := by
  unfold shacklelaw17_BindFirst.f at h
  split at h
  case isFalse => cases h
  case isTrue hg =>
    obtain rfl := Option.some.inj h
    simp only [Bool.and_eq_true, List.all_eq_true, decide_eq_true_eq] at hg
    obtain ⟨R, hR⟩ := BindF.fRow_of hg.1 a2_0 a2_1 a2_2 hg.2
    refine BindF.first_calls w A0 l0.length c0 A1 c1 l1 a2_0 a2_1 a2_2 R (fun e => (shacklelaw00_Code.f e).getD 0) hr0.2.1 hc1 (hR w A0 hr0) hr1 (fun W => BindS.up_calls W) (fun e W => ?_)
    obtain ⟨r, hr⟩ := BindF.code_some e
    rw [BindF.eW_err]
    simp only [hr, Option.getD_some]
    exact (shacklelaw00_Code.calls e r W hr).mono fun e' w' h => ⟨h.1, h.2.below⟩
end Go.Proofs.Ythopdoamajjojaa.QBindF
