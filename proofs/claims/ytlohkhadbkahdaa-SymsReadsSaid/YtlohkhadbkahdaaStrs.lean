/- A string made of a row of bytes that is told as read only. -/
import Derived.Test.YtlohkhadbkahdaaWMore
namespace Go.Proofs.YtlohkhadbkahdaaW.PrintWords
open Go.RowKit
theorem Kd.V_string {P : Program} {w W : World} {base : Nat} {e' src dst e : TypeId} {ok : Nat → Prop} {v : Value} {xs : List Int} (hs : P.underlying src = some (.slice e)) (he : P.underlying e = some (.int .u8)) (hd : P.underlying dst = some .string)
    (hW : W = w) (h : Kd.V (Kd.int .u8) e' W base ok v xs) : (convert src dst v).run P w = .ok (.string (strOfNums xs)) w := by
  subst hW
  obtain ⟨A, c, rfl⟩ := Kd.V_slice h
  exact Kd.C_string hs he hd (Kd.V_reads' h).2.2
end Go.Proofs.YtlohkhadbkahdaaW.PrintWords
