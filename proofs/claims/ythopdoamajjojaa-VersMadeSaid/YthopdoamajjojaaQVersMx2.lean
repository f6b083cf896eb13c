import Derived.Test.YthopdoamajjojaaQVersMx0
import Derived.Test.YthopdoamajjojaaVersMade
namespace Go.Proofs.Ythopdoamajjojaa.QVersM
open Go Go.RowKit Go.Proofs.YthopdoamajjojaaW.PrintWords Go.Proofs.YthopdoamajjojaaW.PrintLast Go.Proofs.YthopdoamajjojaaW.PrintMore
set_option linter.unusedVariables false
def goodM (l0 : List ByteArray) (a1 : ByteArray) (l2 : List ByteArray) (l3 : List Int) : Bool := (VersMk.allA a1 l0 l2).all (fun s => decide (s.size ≤ 9223372036854775807)) && l3.all (fun x => decide (-9223372036854775808 ≤ x) && decide (x ≤ 9223372036854775807))
def shacklelaw08_VersMade.f (k : Nat) (l0 : List ByteArray) (a1 : ByteArray) (l2 : List ByteArray) (l3 : List Int) : Option (Bool) := if goodM l0 a1 l2 l3 then some true else none
theorem shacklelaw08_VersMade.calls (k : Nat) (A0 : Option Addr) (c0 : Nat) (l0 : List ByteArray) (a1 : ByteArray) (A2 : Option Addr) (c2 : Nat) (l2 : List ByteArray) (A3 : Option Addr) (c3 : Nat) (l3 : List Int) (r : Bool) (w : World) (hr0 : Kd.C Kd.string w A0 l0.length l0) (hc0 : l0.length ≤ c0) (hr2 : Kd.C Kd.string w A2 l2.length l2) (hc2 : l2.length ≤ c2) (hr3 : Kd.C (Kd.int .i64) w A3 l3.length l3) (hc3 : l3.length ≤ c3) (h : shacklelaw08_VersMade.f k l0 a1 l2 l3 = some r) :
  Calls Try.prog 7 #[.slice A0 l0.length c0, .string a1, .slice A2 l2.length c2, .slice A3 l3.length c3] w fun e w' => e = .returned (.bool r) ∧ Below w.heap.size w w' := by
  unfold shacklelaw08_VersMade.f at h
  split at h
  case isFalse => cases h
  case isTrue hg =>
    obtain rfl := Option.some.inj h
    unfold goodM at hg
    simp only [Bool.and_eq_true, List.all_eq_true, decide_eq_true_eq] at hg
    exact VersMk.made_calls w A0 c0 l0 a1 A2 c2 l2 A3 c3 l3 hr0 hr2 hr3 hg.1 hg.2
end Go.Proofs.Ythopdoamajjojaa.QVersM
