import Derived.Test.YthopdoamajjojaaProg
import Derived.Below
import Derived.Deep.Draws
import Derived.Deep.AppendLies
import Derived.Maps.AppendAt
import Derived.OwnWalk
import Derived.Laws.BytesArg
import Derived.Laws.MakeOwn
import Derived.Laws.OwnMore
import Derived.Deep.OwnRows
import Derived.Tactics
import Derived.Lib.ConvBytes
import Derived.Laws.Slices
import Derived.WalkKit
import Derived.KernelRfl
import Derived.RowKit3
import Derived.Deep.LoopGhost
import Derived.Deep.QuietTactic
import Derived.BigQuiet
import Derived.WideLaws
import Derived.Deep.DeepCutAuto
import Derived.Deep.CutBlock
import Derived.Deep.RegionHeld3
import Derived.Laws.Rows
import Derived.Lib.AppendStr
import Derived.ArgAppend
import Derived.Laws.IdiomCopy
import Derived.OrdersHeld
import Derived.Laws.BitsLemmas
import Derived.RowKit
import Derived.Shelf.Bytes.SlIndexAt
import Derived.Lib.Hide
import Derived.LaidEql
import Derived.Lib.SlBytesConst
import Derived.Test.YthopdoamajjojaaKinds
import Derived.Test.YthopdoamajjojaaBoxes
import Derived.Test.YthopdoamajjojaaWWords
import Derived.Test.YthopdoamajjojaaWLast
import Derived.Test.YthopdoamajjojaaWTab
import Derived.Test.YthopdoamajjojaaWFootNe
import Derived.Test.YthopdoamajjojaaWQPut
import Derived.Test.YthopdoamajjojaaWApart
import Derived.Test.YthopdoamajjojaaWArr
import Derived.Test.YthopdoamajjojaaWZeros
import Derived.Test.YthopdoamajjojaaWFoot
import Derived.Test.YthopdoamajjojaaWKept
import Derived.Test.YthopdoamajjojaaWShare
import Derived.Test.YthopdoamajjojaaWN
import Derived.Test.YthopdoamajjojaaWAt
import Derived.Test.YthopdoamajjojaaWEqStruct
import Derived.Test.YthopdoamajjojaaWRepsOne
import Derived.Test.YthopdoamajjojaaWInv
import Derived.Test.YthopdoamajjojaaWInvWords
import Derived.Test.YthopdoamajjojaaWGuard
import Derived.Test.YthopdoamajjojaaWNEv
import Derived.Test.YthopdoamajjojaaWMore
namespace Go.Proofs.Ythopdoamajjojaa.QBindF
open Go.RowKit Go.Proofs.YthopdoamajjojaaW.PrintWords Go.Proofs.YthopdoamajjojaaW.PrintLast Go.Proofs.YthopdoamajjojaaW.PrintMore
attribute [local go_sem] max2_int min2_int max_two min_two max_three min_three max_four min_four
set_option linter.unusedVariables false
set_option linter.unusedSimpArgs false
def errW : Option Int → Value
 | none => .nilIface
 | some c => .iface 97 (.int .i64 c)
theorem errW_none : errW none = .nilIface := rfl
theorem errW_some (c : Int) : errW (some c) = .iface 97 (.int .i64 c) := rfl
theorem info3 : (Try.prog.info? 3).map (fun i => (i.zero, i.size, i.bytes)) = some (some (.int .i64 0), 1, 8) := by kernel_rfl
theorem info5 : (Try.prog.info? 5).map (fun i => (i.zero, i.size, i.bytes)) = some (some (.int .u8 0), 1, 1) := by kernel_rfl
theorem info26 : (Try.prog.info? 26).map (fun i => (i.zero, i.size, i.bytes)) = some (some (.int .u32 0), 1, 4) := by kernel_rfl
structure S29 where
 f0 : Int
 f1 : Int
 f2 : Int
 f3 : Int
 f4 : Int
 f5 : Int
 f6 : Int
def z29 : S29 := ⟨(0 : Int), (0 : Int), (0 : Int), (0 : Int), (0 : Int), (0 : Int), (0 : Int)⟩
def k29 : Kd S29 := Kd.iso (Kd.pair (Kd.int .u32) (Kd.pair (Kd.int .u32) (Kd.pair (Kd.int .u64) (Kd.pair (Kd.int .u64) (Kd.pair (Kd.int .u64) (Kd.pair (Kd.int .u64) (Kd.int .u64))))))) (fun x : S29 => (x.f0, x.f1, x.f2, x.f3, x.f4, x.f5, x.f6))
theorem k29_open {w : World} {x : S29} {cs : List Value} (h : k29.K w x cs) : cs = [.int .u32 x.f0, .int .u32 x.f1, .int .u64 x.f2, .int .u64 x.f3, .int .u64 x.f4, .int .u64 x.f5, .int .u64 x.f6] := by
 obtain ⟨_, _, rfl, rfl, ⟨_, _, rfl, rfl, ⟨_, _, rfl, rfl, ⟨_, _, rfl, rfl, ⟨_, _, rfl, rfl, ⟨_, _, rfl, rfl, rfl⟩⟩⟩⟩⟩⟩ := h
 exact rfl
theorem k29_mk (w : World) (x : S29)  : k29.K w x [.int .u32 x.f0, .int .u32 x.f1, .int .u64 x.f2, .int .u64 x.f3, .int .u64 x.f4, .int .u64 x.f5, .int .u64 x.f6] := ⟨[.int .u32 x.f0], [.int .u32 x.f1, .int .u64 x.f2, .int .u64 x.f3, .int .u64 x.f4, .int .u64 x.f5, .int .u64 x.f6], rfl, rfl, ⟨[.int .u32 x.f1], [.int .u64 x.f2, .int .u64 x.f3, .int .u64 x.f4, .int .u64 x.f5, .int .u64 x.f6], rfl, rfl, ⟨[.int .u64 x.f2], [.int .u64 x.f3, .int .u64 x.f4, .int .u64 x.f5, .int .u64 x.f6], rfl, rfl, ⟨[.int .u64 x.f3], [.int .u64 x.f4, .int .u64 x.f5, .int .u64 x.f6], rfl, rfl, ⟨[.int .u64 x.f4], [.int .u64 x.f5, .int .u64 x.f6], rfl, rfl, ⟨[.int .u64 x.f5], [.int .u64 x.f6], rfl, rfl, rfl⟩⟩⟩⟩⟩⟩
def rd_T29 (xs : List S29) (i : Int) : S29 := xs.getD i.toNat z29
theorem at_T29 {w : World} {A : Option Addr} {n : Nat} {xs : List S29} (h : Kd.C k29 w A n xs) (i : Int) (h0 : 0 ≤ i) (h1 : i < n) : ∃ ad , A = some ad ∧ w.cell? (ad.add (i.toNat * 7)) = some (.int .u32 (rd_T29 xs i).f0) ∧ w.cell? ⟨(ad.add (i.toNat * 7)).block, (ad.add (i.toNat * 7)).off + 1, none⟩ = some (.int .u32 (rd_T29 xs i).f1) ∧ w.cell? ⟨(ad.add (i.toNat * 7)).block, (ad.add (i.toNat * 7)).off + 2, none⟩ = some (.int .u64 (rd_T29 xs i).f2) ∧ w.cell? ⟨(ad.add (i.toNat * 7)).block, (ad.add (i.toNat * 7)).off + 3, none⟩ = some (.int .u64 (rd_T29 xs i).f3) ∧ w.cell? ⟨(ad.add (i.toNat * 7)).block, (ad.add (i.toNat * 7)).off + 4, none⟩ = some (.int .u64 (rd_T29 xs i).f4) ∧ w.cell? ⟨(ad.add (i.toNat * 7)).block, (ad.add (i.toNat * 7)).off + 5, none⟩ = some (.int .u64 (rd_T29 xs i).f5) ∧ w.cell? ⟨(ad.add (i.toNat * 7)).block, (ad.add (i.toNat * 7)).off + 6, none⟩ = some (.int .u64 (rd_T29 xs i).f6) := by
 obtain ⟨ad, c, e, _, hK, hc0⟩ := Kd.C_get h z29 i h0 h1
 have hc : ∀ j u, c[j]? = some u → w.cell? (ad.add (i.toNat * 7 + j)) = some u := hc0
 obtain rfl := k29_open hK
 exact ⟨ad, e, hc 0 _ rfl, by rw [← add_field _ _ 1 (by omega)]; exact hc 1 _ rfl, by rw [← add_field _ _ 2 (by omega)]; exact hc 2 _ rfl, by rw [← add_field _ _ 3 (by omega)]; exact hc 3 _ rfl, by rw [← add_field _ _ 4 (by omega)]; exact hc 4 _ rfl, by rw [← add_field _ _ 5 (by omega)]; exact hc 5 _ rfl, by rw [← add_field _ _ 6 (by omega)]; exact hc 6 _ rfl⟩
structure S39 where
 f0 : ByteArray
 f1 : Int
 f2 : Int
 f3 : Int
 f4 : Int
 f5 : Int
 f6 : Int
def z39 : S39 := ⟨(⟨#[]⟩ : ByteArray), (0 : Int), (0 : Int), (0 : Int), (0 : Int), (0 : Int), (0 : Int)⟩
def k39 : Kd S39 := Kd.iso (Kd.pair Kd.string (Kd.pair (Kd.int .i64) (Kd.pair (Kd.int .i64) (Kd.pair (Kd.int .i64) (Kd.pair (Kd.int .i64) (Kd.pair (Kd.int .u64) (Kd.int .u64))))))) (fun x : S39 => (x.f0, x.f1, x.f2, x.f3, x.f4, x.f5, x.f6))
theorem k39_open {w : World} {x : S39} {cs : List Value} (h : k39.K w x cs) : cs = [.string x.f0, .int .i64 x.f1, .int .i64 x.f2, .int .i64 x.f3, .int .i64 x.f4, .int .u64 x.f5, .int .u64 x.f6] := by
 obtain ⟨_, _, rfl, rfl, ⟨_, _, rfl, rfl, ⟨_, _, rfl, rfl, ⟨_, _, rfl, rfl, ⟨_, _, rfl, rfl, ⟨_, _, rfl, rfl, rfl⟩⟩⟩⟩⟩⟩ := h
 exact rfl
theorem k39_mk (w : World) (x : S39)  : k39.K w x [.string x.f0, .int .i64 x.f1, .int .i64 x.f2, .int .i64 x.f3, .int .i64 x.f4, .int .u64 x.f5, .int .u64 x.f6] := ⟨[.string x.f0], [.int .i64 x.f1, .int .i64 x.f2, .int .i64 x.f3, .int .i64 x.f4, .int .u64 x.f5, .int .u64 x.f6], rfl, rfl, ⟨[.int .i64 x.f1], [.int .i64 x.f2, .int .i64 x.f3, .int .i64 x.f4, .int .u64 x.f5, .int .u64 x.f6], rfl, rfl, ⟨[.int .i64 x.f2], [.int .i64 x.f3, .int .i64 x.f4, .int .u64 x.f5, .int .u64 x.f6], rfl, rfl, ⟨[.int .i64 x.f3], [.int .i64 x.f4, .int .u64 x.f5, .int .u64 x.f6], rfl, rfl, ⟨[.int .i64 x.f4], [.int .u64 x.f5, .int .u64 x.f6], rfl, rfl, ⟨[.int .u64 x.f5], [.int .u64 x.f6], rfl, rfl, rfl⟩⟩⟩⟩⟩⟩
def rd_T39 (xs : List S39) (i : Int) : S39 := xs.getD i.toNat z39
theorem at_T39 {w : World} {A : Option Addr} {n : Nat} {xs : List S39} (h : Kd.C k39 w A n xs) (i : Int) (h0 : 0 ≤ i) (h1 : i < n) : ∃ ad , A = some ad ∧ w.cell? (ad.add (i.toNat * 7)) = some (.string (rd_T39 xs i).f0) ∧ w.cell? ⟨(ad.add (i.toNat * 7)).block, (ad.add (i.toNat * 7)).off + 1, none⟩ = some (.int .i64 (rd_T39 xs i).f1) ∧ w.cell? ⟨(ad.add (i.toNat * 7)).block, (ad.add (i.toNat * 7)).off + 2, none⟩ = some (.int .i64 (rd_T39 xs i).f2) ∧ w.cell? ⟨(ad.add (i.toNat * 7)).block, (ad.add (i.toNat * 7)).off + 3, none⟩ = some (.int .i64 (rd_T39 xs i).f3) ∧ w.cell? ⟨(ad.add (i.toNat * 7)).block, (ad.add (i.toNat * 7)).off + 4, none⟩ = some (.int .i64 (rd_T39 xs i).f4) ∧ w.cell? ⟨(ad.add (i.toNat * 7)).block, (ad.add (i.toNat * 7)).off + 5, none⟩ = some (.int .u64 (rd_T39 xs i).f5) ∧ w.cell? ⟨(ad.add (i.toNat * 7)).block, (ad.add (i.toNat * 7)).off + 6, none⟩ = some (.int .u64 (rd_T39 xs i).f6) := by
 obtain ⟨ad, c, e, _, hK, hc0⟩ := Kd.C_get h z39 i h0 h1
 have hc : ∀ j u, c[j]? = some u → w.cell? (ad.add (i.toNat * 7 + j)) = some u := hc0
 obtain rfl := k39_open hK
 exact ⟨ad, e, hc 0 _ rfl, by rw [← add_field _ _ 1 (by omega)]; exact hc 1 _ rfl, by rw [← add_field _ _ 2 (by omega)]; exact hc 2 _ rfl, by rw [← add_field _ _ 3 (by omega)]; exact hc 3 _ rfl, by rw [← add_field _ _ 4 (by omega)]; exact hc 4 _ rfl, by rw [← add_field _ _ 5 (by omega)]; exact hc 5 _ rfl, by rw [← add_field _ _ 6 (by omega)]; exact hc 6 _ rfl⟩
structure S32 where
 f0 : Int
 f1 : Int
 f2 : (List S29)
def z32 : S32 := ⟨(0 : Int), (0 : Int), ([] : List S29)⟩
def k32 : Kd S32 := Kd.iso (Kd.pair (Kd.int .i64) (Kd.pair (Kd.int .u64) (Kd.slice 29 k29))) (fun x : S32 => (x.f0, x.f1, x.f2))
theorem k32_open {w : World} {x : S32} {cs : List Value} (h : k32.K w x cs) : ∃ A2 c2, cs = [.int .i64 x.f0, .int .u64 x.f1, .slice A2 x.f2.length c2] ∧ x.f2.length ≤ c2 ∧ k29.C w A2 x.f2.length x.f2 := by
 obtain ⟨_, _, rfl, rfl, ⟨_, _, rfl, rfl, ⟨A2, c2, rfl, l2, g2⟩⟩⟩ := h
 exact ⟨A2, c2, rfl, l2, g2⟩
structure S35 where
 f0 : (List Int)
 f1 : Int
 f2 : Int
 f3 : Int
 f4 : Int
 f5 : Int
 f6 : Int
 f7 : Int
 f8 : Int
 f9 : Int
 f10 : Int
 f11 : Int
 f12 : Int
 f13 : Int
 f14 : Bool
 f15 : Bool
 f16 : Bool
 f17 : Int
 f18 : Int
 f19 : Int
 f20 : Int
 f21 : Int
 f22 : Int
 f23 : Int
 f24 : Int
 f25 : Int
 f26 : Int
 f27 : Int
 f28 : Int
 f29 : Int
 f30 : Int
 f31 : Int
 f32 : Bool
 f33 : Bool
 f34 : Bool
 f35 : Bool
 f36 : Bool
def z35 : S35 := ⟨([] : List Int), (0 : Int), (0 : Int), (0 : Int), (0 : Int), (0 : Int), (0 : Int), (0 : Int), (0 : Int), (0 : Int), (0 : Int), (0 : Int), (0 : Int), (0 : Int), false, false, false, (0 : Int), (0 : Int), (0 : Int), (0 : Int), (0 : Int), (0 : Int), (0 : Int), (0 : Int), (0 : Int), (0 : Int), (0 : Int), (0 : Int), (0 : Int), (0 : Int), (0 : Int), false, false, false, false, false⟩
def k35 : Kd S35 := Kd.iso (Kd.pair (Kd.slice 27 (Kd.int .u64)) (Kd.pair (Kd.int .u64) (Kd.pair (Kd.int .u64) (Kd.pair (Kd.int .u64) (Kd.pair (Kd.int .u64) (Kd.pair (Kd.int .u64) (Kd.pair (Kd.int .u64) (Kd.pair (Kd.int .u64) (Kd.pair (Kd.int .u64) (Kd.pair (Kd.int .u64) (Kd.pair (Kd.int .u64) (Kd.pair (Kd.int .u64) (Kd.pair (Kd.int .u64) (Kd.pair (Kd.int .u64) (Kd.pair Kd.bool (Kd.pair Kd.bool (Kd.pair Kd.bool (Kd.pair (Kd.int .u64) (Kd.pair (Kd.int .u64) (Kd.pair (Kd.int .u64) (Kd.pair (Kd.int .u64) (Kd.pair (Kd.int .u64) (Kd.pair (Kd.int .u64) (Kd.pair (Kd.int .u64) (Kd.pair (Kd.int .u64) (Kd.pair (Kd.int .u64) (Kd.pair (Kd.int .u64) (Kd.pair (Kd.int .u64) (Kd.pair (Kd.int .u64) (Kd.pair (Kd.int .u64) (Kd.pair (Kd.int .u64) (Kd.pair (Kd.int .u64) (Kd.pair Kd.bool (Kd.pair Kd.bool (Kd.pair Kd.bool (Kd.pair Kd.bool Kd.bool)))))))))))))))))))))))))))))))))))) (fun x : S35 => (x.f0, x.f1, x.f2, x.f3, x.f4, x.f5, x.f6, x.f7, x.f8, x.f9, x.f10, x.f11, x.f12, x.f13, x.f14, x.f15, x.f16, x.f17, x.f18, x.f19, x.f20, x.f21, x.f22, x.f23, x.f24, x.f25, x.f26, x.f27, x.f28, x.f29, x.f30, x.f31, x.f32, x.f33, x.f34, x.f35, x.f36))
theorem k35_open {w : World} {x : S35} {cs : List Value} (h : k35.K w x cs) : ∃ A0 c0, cs = [.slice A0 x.f0.length c0, .int .u64 x.f1, .int .u64 x.f2, .int .u64 x.f3, .int .u64 x.f4, .int .u64 x.f5, .int .u64 x.f6, .int .u64 x.f7, .int .u64 x.f8, .int .u64 x.f9, .int .u64 x.f10, .int .u64 x.f11, .int .u64 x.f12, .int .u64 x.f13, .bool x.f14, .bool x.f15, .bool x.f16, .int .u64 x.f17, .int .u64 x.f18, .int .u64 x.f19, .int .u64 x.f20, .int .u64 x.f21, .int .u64 x.f22, .int .u64 x.f23, .int .u64 x.f24, .int .u64 x.f25, .int .u64 x.f26, .int .u64 x.f27, .int .u64 x.f28, .int .u64 x.f29, .int .u64 x.f30, .int .u64 x.f31, .bool x.f32, .bool x.f33, .bool x.f34, .bool x.f35, .bool x.f36] ∧ x.f0.length ≤ c0 ∧ (Kd.int .u64).C w A0 x.f0.length x.f0 := by
 obtain ⟨_, _, rfl, ⟨A0, c0, rfl, l0, g0⟩, ⟨_, _, rfl, rfl, ⟨_, _, rfl, rfl, ⟨_, _, rfl, rfl, ⟨_, _, rfl, rfl, ⟨_, _, rfl, rfl, ⟨_, _, rfl, rfl, ⟨_, _, rfl, rfl, ⟨_, _, rfl, rfl, ⟨_, _, rfl, rfl, ⟨_, _, rfl, rfl, ⟨_, _, rfl, rfl, ⟨_, _, rfl, rfl, ⟨_, _, rfl, rfl, ⟨_, _, rfl, rfl, ⟨_, _, rfl, rfl, ⟨_, _, rfl, rfl, ⟨_, _, rfl, rfl, ⟨_, _, rfl, rfl, ⟨_, _, rfl, rfl, ⟨_, _, rfl, rfl, ⟨_, _, rfl, rfl, ⟨_, _, rfl, rfl, ⟨_, _, rfl, rfl, ⟨_, _, rfl, rfl, ⟨_, _, rfl, rfl, ⟨_, _, rfl, rfl, ⟨_, _, rfl, rfl, ⟨_, _, rfl, rfl, ⟨_, _, rfl, rfl, ⟨_, _, rfl, rfl, ⟨_, _, rfl, rfl, ⟨_, _, rfl, rfl, ⟨_, _, rfl, rfl, ⟨_, _, rfl, rfl, ⟨_, _, rfl, rfl, rfl⟩⟩⟩⟩⟩⟩⟩⟩⟩⟩⟩⟩⟩⟩⟩⟩⟩⟩⟩⟩⟩⟩⟩⟩⟩⟩⟩⟩⟩⟩⟩⟩⟩⟩⟩⟩ := h
 exact ⟨A0, c0, rfl, l0, g0⟩
structure S63 where
 f0 : Int
 f1 : Bool
 f2 : ByteArray
 f3 : (List ByteArray)
def z63 : S63 := ⟨(0 : Int), false, (⟨#[]⟩ : ByteArray), ([] : List ByteArray)⟩
def k63 : Kd S63 := Kd.iso (Kd.pair (Kd.int .i64) (Kd.pair Kd.bool (Kd.pair Kd.string (Kd.slice 9 Kd.string)))) (fun x : S63 => (x.f0, x.f1, x.f2, x.f3))
theorem k63_open {w : World} {x : S63} {cs : List Value} (h : k63.K w x cs) : ∃ A3 c3, cs = [.int .i64 x.f0, .bool x.f1, .string x.f2, .slice A3 x.f3.length c3] ∧ x.f3.length ≤ c3 ∧ Kd.string.C w A3 x.f3.length x.f3 := by
 obtain ⟨_, _, rfl, rfl, ⟨_, _, rfl, rfl, ⟨_, _, rfl, rfl, ⟨A3, c3, rfl, l3, g3⟩⟩⟩⟩ := h
 exact ⟨A3, c3, rfl, l3, g3⟩
def rd_T63 (xs : List S63) (i : Int) : S63 := xs.getD i.toNat z63
theorem at_T63 {w : World} {A : Option Addr} {n : Nat} {xs : List S63} (h : Kd.C k63 w A n xs) (i : Int) (h0 : 0 ≤ i) (h1 : i < n) : ∃ ad A3 c3, A = some ad ∧ w.cell? (ad.add (i.toNat * 4)) = some (.int .i64 (rd_T63 xs i).f0) ∧ w.cell? ⟨(ad.add (i.toNat * 4)).block, (ad.add (i.toNat * 4)).off + 1, none⟩ = some (.bool (rd_T63 xs i).f1) ∧ w.cell? ⟨(ad.add (i.toNat * 4)).block, (ad.add (i.toNat * 4)).off + 2, none⟩ = some (.string (rd_T63 xs i).f2) ∧ w.cell? ⟨(ad.add (i.toNat * 4)).block, (ad.add (i.toNat * 4)).off + 3, none⟩ = some (.slice A3 (rd_T63 xs i).f3.length c3) ∧ (rd_T63 xs i).f3.length ≤ c3 ∧ Kd.string.C w A3 (rd_T63 xs i).f3.length (rd_T63 xs i).f3 := by
 obtain ⟨ad, c, e, _, hK, hc0⟩ := Kd.C_get h z63 i h0 h1
 have hc : ∀ j u, c[j]? = some u → w.cell? (ad.add (i.toNat * 4 + j)) = some u := hc0
 obtain ⟨A3, c3, rfl, l3, g3⟩ := k63_open hK
 exact ⟨ad, A3, c3, e, hc 0 _ rfl, by rw [← add_field _ _ 1 (by omega)]; exact hc 1 _ rfl, by rw [← add_field _ _ 2 (by omega)]; exact hc 2 _ rfl, by rw [← add_field _ _ 3 (by omega)]; exact hc 3 _ rfl, l3, g3⟩
structure S68 where
 f0 : Int
 f1 : Bool
 f2 : ByteArray
def z68 : S68 := ⟨(0 : Int), false, (⟨#[]⟩ : ByteArray)⟩
def k68 : Kd S68 := Kd.iso (Kd.pair (Kd.int .i64) (Kd.pair Kd.bool Kd.string)) (fun x : S68 => (x.f0, x.f1, x.f2))
theorem k68_open {w : World} {x : S68} {cs : List Value} (h : k68.K w x cs) : cs = [.int .i64 x.f0, .bool x.f1, .string x.f2] := by
 obtain ⟨_, _, rfl, rfl, ⟨_, _, rfl, rfl, rfl⟩⟩ := h
 exact rfl
def rd_T68 (xs : List S68) (i : Int) : S68 := xs.getD i.toNat z68
theorem at_T68 {w : World} {A : Option Addr} {n : Nat} {xs : List S68} (h : Kd.C k68 w A n xs) (i : Int) (h0 : 0 ≤ i) (h1 : i < n) : ∃ ad , A = some ad ∧ w.cell? (ad.add (i.toNat * 3)) = some (.int .i64 (rd_T68 xs i).f0) ∧ w.cell? ⟨(ad.add (i.toNat * 3)).block, (ad.add (i.toNat * 3)).off + 1, none⟩ = some (.bool (rd_T68 xs i).f1) ∧ w.cell? ⟨(ad.add (i.toNat * 3)).block, (ad.add (i.toNat * 3)).off + 2, none⟩ = some (.string (rd_T68 xs i).f2) := by
 obtain ⟨ad, c, e, _, hK, hc0⟩ := Kd.C_get h z68 i h0 h1
 have hc : ∀ j u, c[j]? = some u → w.cell? (ad.add (i.toNat * 3 + j)) = some u := hc0
 obtain rfl := k68_open hK
 exact ⟨ad, e, hc 0 _ rfl, by rw [← add_field _ _ 1 (by omega)]; exact hc 1 _ rfl, by rw [← add_field _ _ 2 (by omega)]; exact hc 2 _ rfl⟩
structure S66 where
 f0 : ByteArray
 f1 : (List S68)
def z66 : S66 := ⟨(⟨#[]⟩ : ByteArray), ([] : List S68)⟩
def k66 : Kd S66 := Kd.iso (Kd.pair Kd.string (Kd.slice 68 k68)) (fun x : S66 => (x.f0, x.f1))
theorem k66_open {w : World} {x : S66} {cs : List Value} (h : k66.K w x cs) : ∃ A1 c1, cs = [.string x.f0, .slice A1 x.f1.length c1] ∧ x.f1.length ≤ c1 ∧ k68.C w A1 x.f1.length x.f1 := by
 obtain ⟨_, _, rfl, rfl, ⟨A1, c1, rfl, l1, g1⟩⟩ := h
 exact ⟨A1, c1, rfl, l1, g1⟩
def rd_T66 (xs : List S66) (i : Int) : S66 := xs.getD i.toNat z66
theorem at_T66 {w : World} {A : Option Addr} {n : Nat} {xs : List S66} (h : Kd.C k66 w A n xs) (i : Int) (h0 : 0 ≤ i) (h1 : i < n) : ∃ ad A1 c1, A = some ad ∧ w.cell? (ad.add (i.toNat * 2)) = some (.string (rd_T66 xs i).f0) ∧ w.cell? ⟨(ad.add (i.toNat * 2)).block, (ad.add (i.toNat * 2)).off + 1, none⟩ = some (.slice A1 (rd_T66 xs i).f1.length c1) ∧ (rd_T66 xs i).f1.length ≤ c1 ∧ k68.C w A1 (rd_T66 xs i).f1.length (rd_T66 xs i).f1 := by
 obtain ⟨ad, c, e, _, hK, hc0⟩ := Kd.C_get h z66 i h0 h1
 have hc : ∀ j u, c[j]? = some u → w.cell? (ad.add (i.toNat * 2 + j)) = some u := hc0
 obtain ⟨A1, c1, rfl, l1, g1⟩ := k66_open hK
 exact ⟨ad, A1, c1, e, hc 0 _ rfl, by rw [← add_field _ _ 1 (by omega)]; exact hc 1 _ rfl, l1, g1⟩
structure S54 where
 f0 : Bool
 f1 : (List Int)
 f2 : (List S63)
 f3 : (List S66)
def z54 : S54 := ⟨false, ([] : List Int), ([] : List S63), ([] : List S66)⟩
def k54 : Kd S54 := Kd.iso (Kd.pair Kd.bool (Kd.pair (Kd.slice 3 (Kd.int .i64)) (Kd.pair (Kd.slice 63 k63) (Kd.slice 66 k66)))) (fun x : S54 => (x.f0, x.f1, x.f2, x.f3))
theorem k54_open {w : World} {x : S54} {cs : List Value} (h : k54.K w x cs) : ∃ A1 c1 A2 c2 A3 c3, cs = [.bool x.f0, .slice A1 x.f1.length c1, .slice A2 x.f2.length c2, .slice A3 x.f3.length c3] ∧ x.f1.length ≤ c1 ∧ (Kd.int .i64).C w A1 x.f1.length x.f1 ∧ x.f2.length ≤ c2 ∧ k63.C w A2 x.f2.length x.f2 ∧ x.f3.length ≤ c3 ∧ k66.C w A3 x.f3.length x.f3 := by
 obtain ⟨_, _, rfl, rfl, ⟨_, _, rfl, ⟨A1, c1, rfl, l1, g1⟩, ⟨_, _, rfl, ⟨A2, c2, rfl, l2, g2⟩, ⟨A3, c3, rfl, l3, g3⟩⟩⟩⟩ := h
 exact ⟨A1, c1, A2, c2, A3, c3, rfl, l1, g1, l2, g2, l3, g3⟩
structure S186 where
 f0 : Int
 f1 : Int
 f2 : Int
 f3 : Int
def k186 : Kd S186 := Kd.iso (Kd.pair (Kd.int .u64) (Kd.pair (Kd.int .i64) (Kd.pair (Kd.int .i64) (Kd.int .i64)))) (fun x : S186 => (x.f0, x.f1, x.f2, x.f3))
structure S127 where
 f0 : S32
 f1 : Bool
 f2 : S35
 f3 : ByteArray
 f4 : ByteArray
 f5 : ByteArray
 f6 : (List ByteArray)
 f7 : (List S39)
 f8 : S54
 f9 : (List S186)
 f10 : (List S186)
 f11 : (List Int)
 f12 : (List Int)
def z127 : S127 := ⟨z32, false, z35, (⟨#[]⟩ : ByteArray), (⟨#[]⟩ : ByteArray), (⟨#[]⟩ : ByteArray), ([] : List ByteArray), ([] : List S39), z54, ([] : List S186), ([] : List S186), ([] : List Int), ([] : List Int)⟩
def k127 : Kd S127 := Kd.iso (Kd.pair k32 (Kd.pair Kd.bool (Kd.pair k35 (Kd.pair Kd.string (Kd.pair Kd.string (Kd.pair Kd.string (Kd.pair (Kd.slice 9 Kd.string) (Kd.pair (Kd.slice 39 k39) (Kd.pair k54 (Kd.pair (Kd.slice 186 k186) (Kd.pair (Kd.slice 186 k186) (Kd.pair (Kd.slice 27 (Kd.int .u64)) (Kd.slice 5 (Kd.int .u8)))))))))))))) (fun x : S127 => (x.f0, x.f1, x.f2, x.f3, x.f4, x.f5, x.f6, x.f7, x.f8, x.f9, x.f10, x.f11, x.f12))
theorem k127_open {w : World} {x : S127} {cs : List Value} (h : k127.K w x cs) : ∃ A2 c2 A4 c4 A44 c44 A45 c45 A47 c47 A48 c48 A49 c49 A50 c50 A51 c51 A52 c52 A53 c53, cs = [.int .i64 x.f0.f0, .int .u64 x.f0.f1, .slice A2 x.f0.f2.length c2, .bool x.f1, .slice A4 x.f2.f0.length c4, .int .u64 x.f2.f1, .int .u64 x.f2.f2, .int .u64 x.f2.f3, .int .u64 x.f2.f4, .int .u64 x.f2.f5, .int .u64 x.f2.f6, .int .u64 x.f2.f7, .int .u64 x.f2.f8, .int .u64 x.f2.f9, .int .u64 x.f2.f10, .int .u64 x.f2.f11, .int .u64 x.f2.f12, .int .u64 x.f2.f13, .bool x.f2.f14, .bool x.f2.f15, .bool x.f2.f16, .int .u64 x.f2.f17, .int .u64 x.f2.f18, .int .u64 x.f2.f19, .int .u64 x.f2.f20, .int .u64 x.f2.f21, .int .u64 x.f2.f22, .int .u64 x.f2.f23, .int .u64 x.f2.f24, .int .u64 x.f2.f25, .int .u64 x.f2.f26, .int .u64 x.f2.f27, .int .u64 x.f2.f28, .int .u64 x.f2.f29, .int .u64 x.f2.f30, .int .u64 x.f2.f31, .bool x.f2.f32, .bool x.f2.f33, .bool x.f2.f34, .bool x.f2.f35, .bool x.f2.f36, .string x.f3, .string x.f4, .string x.f5, .slice A44 x.f6.length c44, .slice A45 x.f7.length c45, .bool x.f8.f0, .slice A47 x.f8.f1.length c47, .slice A48 x.f8.f2.length c48, .slice A49 x.f8.f3.length c49, .slice A50 x.f9.length c50, .slice A51 x.f10.length c51, .slice A52 x.f11.length c52, .slice A53 x.f12.length c53] ∧ x.f0.f2.length ≤ c2 ∧ k29.C w A2 x.f0.f2.length x.f0.f2 ∧ x.f2.f0.length ≤ c4 ∧ (Kd.int .u64).C w A4 x.f2.f0.length x.f2.f0 ∧ x.f6.length ≤ c44 ∧ Kd.string.C w A44 x.f6.length x.f6 ∧ x.f7.length ≤ c45 ∧ k39.C w A45 x.f7.length x.f7 ∧ x.f8.f1.length ≤ c47 ∧ (Kd.int .i64).C w A47 x.f8.f1.length x.f8.f1 ∧ x.f8.f2.length ≤ c48 ∧ k63.C w A48 x.f8.f2.length x.f8.f2 ∧ x.f8.f3.length ≤ c49 ∧ k66.C w A49 x.f8.f3.length x.f8.f3 ∧ x.f9.length ≤ c50 ∧ k186.C w A50 x.f9.length x.f9 ∧ x.f10.length ≤ c51 ∧ k186.C w A51 x.f10.length x.f10 ∧ x.f11.length ≤ c52 ∧ (Kd.int .u64).C w A52 x.f11.length x.f11 ∧ x.f12.length ≤ c53 ∧ (Kd.int .u8).C w A53 x.f12.length x.f12 := by
 obtain ⟨_, _, rfl, s0, ⟨_, _, rfl, rfl, ⟨_, _, rfl, s4, ⟨_, _, rfl, rfl, ⟨_, _, rfl, rfl, ⟨_, _, rfl, rfl, ⟨_, _, rfl, ⟨A44, c44, rfl, l44, g44⟩, ⟨_, _, rfl, ⟨A45, c45, rfl, l45, g45⟩, ⟨_, _, rfl, s46, ⟨_, _, rfl, ⟨A50, c50, rfl, l50, g50⟩, ⟨_, _, rfl, ⟨A51, c51, rfl, l51, g51⟩, ⟨_, _, rfl, ⟨A52, c52, rfl, l52, g52⟩, ⟨A53, c53, rfl, l53, g53⟩⟩⟩⟩⟩⟩⟩⟩⟩⟩⟩⟩⟩ := h
 obtain ⟨A2, c2, rfl, l2, g2⟩ := k32_open s0
 obtain ⟨A4, c4, rfl, l4, g4⟩ := k35_open s4
 obtain ⟨A47, c47, A48, c48, A49, c49, rfl, l47, g47, l48, g48, l49, g49⟩ := k54_open s46
 exact ⟨A2, c2, A4, c4, A44, c44, A45, c45, A47, c47, A48, c48, A49, c49, A50, c50, A51, c51, A52, c52, A53, c53, rfl, l2, g2, l4, g4, l44, g44, l45, g45, l47, g47, l48, g48, l49, g49, l50, g50, l51, g51, l52, g52, l53, g53⟩
structure S74 where
 f0 : ByteArray
 f1 : ByteArray
 f2 : ByteArray
structure S76 where
 f0 : Int
 f1 : Int
theorem errComp : (Try.prog.info? 97).map (fun i => i.comparable) = some true := by kernel_rfl
theorem eqIn_ii (W : World) (d : Nat) (a b : Int) : (Op.equalIn (d + 2) 41 (.iface 97 (.int .i64 a)) (.iface 97 (.int .i64 b))).run Try.prog W = .ok (a == b) W := by
 have hi := Try.underlying41
 have hn := Try.underlying97
 obtain ⟨i, hinfo, hcomp⟩ := Option.map_eq_some_iff.1 errComp
 simp [Op.equalIn, run_underlying hi, run_underlying hn, typeInfo, hinfo, hcomp]
theorem eqErr_ii (W : World) (a b : Int) : (binOp .eql 41 (.iface 97 (.int .i64 a)) (.iface 97 (.int .i64 b))).run Try.prog W = .ok (.bool (a == b)) W := by
 simp only [binOp]
 simp [Op.equal, Op.maxDepth, eqIn_ii W 9998 a b]
theorem neErr_ii (W : World) (a b : Int) : (binOp .neq 41 (.iface 97 (.int .i64 a)) (.iface 97 (.int .i64 b))).run Try.prog W = .ok (.bool (a != b)) W := by
 simp only [binOp]
 simp [Op.equal, Op.maxDepth, eqIn_ii W 9998 a b, bne]
theorem eqIn_ni (W : World) (d : Nat) (v : Value) : (Op.equalIn (d + 1) 41 .nilIface (.iface 97 v)).run Try.prog W = .ok false W := by
 have hi := Try.underlying41
 simp [Op.equalIn, run_underlying hi]
theorem eqErr_ni (W : World) (v : Value) : (binOp .eql 41 .nilIface (.iface 97 v)).run Try.prog W = .ok (.bool false) W := by
 simp only [binOp]
 simp [Op.equal, Op.maxDepth, eqIn_ni W 9999]
theorem neErr_ni (W : World) (v : Value) : (binOp .neq 41 .nilIface (.iface 97 v)).run Try.prog W = .ok (.bool true) W := by
 simp only [binOp]
 simp [Op.equal, Op.maxDepth, eqIn_ni W 9999]
end Go.Proofs.Ythopdoamajjojaa.QBindF
