import Derived.Test.YthopdoamajjojaaQBindFx0
import Derived.Test.YthopdoamajjojaaOpens
namespace Go.Proofs.Ythopdoamajjojaa.QBindF
open Go.RowKit Go.Proofs.YthopdoamajjojaaW.PrintWords Go.Proofs.Ythopdoamajjojaa
set_option linter.unusedVariables false
def good29 (x : S29) : Prop := (Lit.int .u32 x.f0).wf = true ∧ ((Lit.int .u32 x.f1).wf = true ∧ ((Lit.int .u64 x.f2).wf = true ∧ ((Lit.int .u64 x.f3).wf = true ∧ ((Lit.int .u64 x.f4).wf = true ∧ ((Lit.int .u64 x.f5).wf = true ∧ ((Lit.int .u64 x.f6).wf = true))))))
def wt29 (x : S29) : Nat := 1 + (1 + (1 + (1 + (1 + (1 + (1))))))
def good32 (x : S32) : Prop := (Lit.int .i64 x.f0).wf = true ∧ ((Lit.int .u64 x.f1).wf = true ∧ ((x.f2.length ≤ maxLen ∧ ∀ z ∈ x.f2, good29 z)))
def wt32 (x : S32) : Nat := 1 + (1 + ((Opn.wts (fun z : S29 => wt29 z) x.f2 + 1)))
def good35 (x : S35) : Prop := (x.f0.length ≤ maxLen ∧ ∀ z ∈ x.f0, (Lit.int .u64 z).wf = true) ∧ ((Lit.int .u64 x.f1).wf = true ∧ ((Lit.int .u64 x.f2).wf = true ∧ ((Lit.int .u64 x.f3).wf = true ∧ ((Lit.int .u64 x.f4).wf = true ∧ ((Lit.int .u64 x.f5).wf = true ∧ ((Lit.int .u64 x.f6).wf = true ∧ ((Lit.int .u64 x.f7).wf = true ∧ ((Lit.int .u64 x.f8).wf = true ∧ ((Lit.int .u64 x.f9).wf = true ∧ ((Lit.int .u64 x.f10).wf = true ∧ ((Lit.int .u64 x.f11).wf = true ∧ ((Lit.int .u64 x.f12).wf = true ∧ ((Lit.int .u64 x.f13).wf = true ∧ (True ∧ (True ∧ (True ∧ ((Lit.int .u64 x.f17).wf = true ∧ ((Lit.int .u64 x.f18).wf = true ∧ ((Lit.int .u64 x.f19).wf = true ∧ ((Lit.int .u64 x.f20).wf = true ∧ ((Lit.int .u64 x.f21).wf = true ∧ ((Lit.int .u64 x.f22).wf = true ∧ ((Lit.int .u64 x.f23).wf = true ∧ ((Lit.int .u64 x.f24).wf = true ∧ ((Lit.int .u64 x.f25).wf = true ∧ ((Lit.int .u64 x.f26).wf = true ∧ ((Lit.int .u64 x.f27).wf = true ∧ ((Lit.int .u64 x.f28).wf = true ∧ ((Lit.int .u64 x.f29).wf = true ∧ ((Lit.int .u64 x.f30).wf = true ∧ ((Lit.int .u64 x.f31).wf = true ∧ (True ∧ (True ∧ (True ∧ (True ∧ (True))))))))))))))))))))))))))))))))))))
def wt35 (x : S35) : Nat := (Opn.wts (fun _ : Int => 1) x.f0 + 1) + (1 + (1 + (1 + (1 + (1 + (1 + (1 + (1 + (1 + (1 + (1 + (1 + (1 + (1 + (1 + (1 + (1 + (1 + (1 + (1 + (1 + (1 + (1 + (1 + (1 + (1 + (1 + (1 + (1 + (1 + (1 + (1 + (1 + (1 + (1 + (1))))))))))))))))))))))))))))))))))))
def good39 (x : S39) : Prop := x.f0.size ≤ maxLen ∧ ((Lit.int .i64 x.f1).wf = true ∧ ((Lit.int .i64 x.f2).wf = true ∧ ((Lit.int .i64 x.f3).wf = true ∧ ((Lit.int .i64 x.f4).wf = true ∧ ((Lit.int .u64 x.f5).wf = true ∧ ((Lit.int .u64 x.f6).wf = true))))))
def wt39 (x : S39) : Nat := (x.f0.size + 1) + (1 + (1 + (1 + (1 + (1 + (1))))))
def good63 (x : S63) : Prop := (Lit.int .i64 x.f0).wf = true ∧ (True ∧ (x.f2.size ≤ maxLen ∧ ((x.f3.length ≤ maxLen ∧ ∀ z ∈ x.f3, z.size ≤ maxLen))))
def wt63 (x : S63) : Nat := 1 + (1 + ((x.f2.size + 1) + ((Opn.wts (fun z : ByteArray => (z.size + 1)) x.f3 + 1))))
def good68 (x : S68) : Prop := (Lit.int .i64 x.f0).wf = true ∧ (True ∧ (x.f2.size ≤ maxLen))
def wt68 (x : S68) : Nat := 1 + (1 + ((x.f2.size + 1)))
def good66 (x : S66) : Prop := x.f0.size ≤ maxLen ∧ ((x.f1.length ≤ maxLen ∧ ∀ z ∈ x.f1, good68 z))
def wt66 (x : S66) : Nat := (x.f0.size + 1) + ((Opn.wts (fun z : S68 => wt68 z) x.f1 + 1))
def good54 (x : S54) : Prop := True ∧ ((x.f1.length ≤ maxLen ∧ ∀ z ∈ x.f1, (Lit.int .i64 z).wf = true) ∧ ((x.f2.length ≤ maxLen ∧ ∀ z ∈ x.f2, good63 z) ∧ ((x.f3.length ≤ maxLen ∧ ∀ z ∈ x.f3, good66 z))))
def wt54 (x : S54) : Nat := 1 + ((Opn.wts (fun _ : Int => 1) x.f1 + 1) + ((Opn.wts (fun z : S63 => wt63 z) x.f2 + 1) + ((Opn.wts (fun z : S66 => wt66 z) x.f3 + 1))))
def good186 (x : S186) : Prop := (Lit.int .u64 x.f0).wf = true ∧ ((Lit.int .i64 x.f1).wf = true ∧ ((Lit.int .i64 x.f2).wf = true ∧ ((Lit.int .i64 x.f3).wf = true)))
def wt186 (x : S186) : Nat := 1 + (1 + (1 + (1)))
def good127 (x : S127) : Prop := good32 x.f0 ∧ (True ∧ (good35 x.f2 ∧ (x.f3.size ≤ maxLen ∧ (x.f4.size ≤ maxLen ∧ (x.f5.size ≤ maxLen ∧ ((x.f6.length ≤ maxLen ∧ ∀ z ∈ x.f6, z.size ≤ maxLen) ∧ ((x.f7.length ≤ maxLen ∧ ∀ z ∈ x.f7, good39 z) ∧ (good54 x.f8 ∧ ((x.f9.length ≤ maxLen ∧ ∀ z ∈ x.f9, good186 z) ∧ ((x.f10.length ≤ maxLen ∧ ∀ z ∈ x.f10, good186 z) ∧ ((x.f11.length ≤ maxLen ∧ ∀ z ∈ x.f11, (Lit.int .u64 z).wf = true) ∧ ((x.f12.length ≤ maxLen ∧ ∀ z ∈ x.f12, (Lit.int .u8 z).wf = true)))))))))))))
def wt127 (x : S127) : Nat := wt32 x.f0 + (1 + (wt35 x.f2 + ((x.f3.size + 1) + ((x.f4.size + 1) + ((x.f5.size + 1) + ((Opn.wts (fun z : ByteArray => (z.size + 1)) x.f6 + 1) + ((Opn.wts (fun z : S39 => wt39 z) x.f7 + 1) + (wt54 x.f8 + ((Opn.wts (fun z : S186 => wt186 z) x.f9 + 1) + ((Opn.wts (fun z : S186 => wt186 z) x.f10 + 1) + ((Opn.wts (fun _ : Int => 1) x.f11 + 1) + ((Opn.wts (fun _ : Int => 1) x.f12 + 1)))))))))))))
end Go.Proofs.Ythopdoamajjojaa.QBindF
