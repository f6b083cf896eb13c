-- Laid by wip/hook.py (this session's own program) out of the translation; with contracts that were written by hand.
import Derived.Test.YtlohkhadbkahdaaProg
import Derived.Below
import Derived.Deep.Draws
import Derived.Deep.AppendLies
import Derived.Maps.AppendAt
import Derived.OwnWalk
import Derived.Laws.BytesArg
import Derived.Laws.MakeOwn
import Derived.Laws.OwnMore
import Derived.Deep.OwnRows
import Derived.Tactics
import Derived.Lib.ConvBytes
import Derived.Laws.Slices
import Derived.WalkKit
import Derived.KernelRfl
import Derived.RowKit3
import Derived.Deep.LoopGhost
import Derived.Deep.QuietTactic
import Derived.BigQuiet
import Derived.WideLaws
import Derived.Deep.DeepCutAuto
import Derived.Deep.CutBlock
import Derived.Deep.RegionHeld3
import Derived.Laws.Rows
import Derived.Lib.AppendStr
import Derived.ArgAppend
import Derived.Laws.IdiomCopy
import Derived.OrdersHeld
import Derived.Laws.BitsLemmas
import Derived.RowKit
import Derived.Shelf.Bytes.SlIndexAt
import Derived.Lib.Hide
import Derived.LaidEql
import Derived.Lib.SlBytesConst
import Derived.Test.YtlohkhadbkahdaaKinds
import Derived.Test.YtlohkhadbkahdaaBoxes
import Derived.Test.YtlohkhadbkahdaaWWords
import Derived.Test.YtlohkhadbkahdaaWLast
import Derived.Test.YtlohkhadbkahdaaWTab
import Derived.Test.YtlohkhadbkahdaaWFour
import Derived.Test.YtlohkhadbkahdaaWQPut
import Derived.Test.YtlohkhadbkahdaaWApart
import Derived.Test.YtlohkhadbkahdaaWArr
import Derived.Test.YtlohkhadbkahdaaWZeros
import Derived.Test.YtlohkhadbkahdaaWFoot
import Derived.Test.YtlohkhadbkahdaaWKept
import Derived.Test.YtlohkhadbkahdaaWShare
import Derived.Test.YtlohkhadbkahdaaWN
import Derived.Test.YtlohkhadbkahdaaWFootNe
import Derived.Test.YtlohkhadbkahdaaWAt
import Derived.Test.YtlohkhadbkahdaaWEqStruct
import Derived.Test.YtlohkhadbkahdaaWRepsOne
import Derived.Test.YtlohkhadbkahdaaWInv
import Derived.Test.YtlohkhadbkahdaaWInvWords
import Derived.Test.YtlohkhadbkahdaaWGuard
import Derived.Test.YtlohkhadbkahdaaWNEv
import Derived.Test.YtlohkhadbkahdaaWMore
namespace Go.Proofs.Ytlohkhadbkahdaa.QSyms
open Go.RowKit Go.Proofs.YtlohkhadbkahdaaW.PrintWords Go.Proofs.YtlohkhadbkahdaaW.PrintLast Go.Proofs.YtlohkhadbkahdaaW.PrintMore
attribute [local go_sem] max2_int min2_int max_two min_two max_three min_three max_four min_four   -- for this text's walks alone
set_option linter.unusedVariables false
set_option linter.unusedSimpArgs false



def errW : Option Int → Value
 | none => .nilIface
 | some c => .iface 35 (.int .i64 c)
theorem errW_none : errW none = .nilIface := rfl
theorem errW_some (c : Int) : errW (some c) = .iface 35 (.int .i64 c) := rfl

theorem info5 : (Try.prog.info? 5).map (fun i => (i.zero, i.size, i.bytes)) = some (some (.int .u8 0), 1, 1) := by kernel_rfl
theorem info68 : (Try.prog.info? 68).map (fun i => (i.zero, i.size, i.bytes)) = some (some (.agg #[(.string ⟨#[]⟩), (.int .i64 0), (.int .i64 0), (.int .i64 0), (.int .i64 0), (.int .u64 0), (.int .u64 0)]), 7, 64) := by kernel_rfl
-- the values' own types
def rd_L1 (xs : List (List Int)) (i : Int) : (List Int) := xs.getD i.toNat ([] : List Int)
theorem at_L1 {w : World} {A : Option Addr} {n : Nat} {xs : List (List Int)} (h : Kd.C (Kd.slice 5 (Kd.int .u8)) w A n xs) (i : Int) (h0 : 0 ≤ i) (h1 : i < n) : ∃ ad A0 c0, A = some ad ∧ w.cell? (ad.add i.toNat) = some (.slice A0 (rd_L1 xs i).length c0) ∧ (rd_L1 xs i).length ≤ c0 ∧ (Kd.int .u8).C w A0 (rd_L1 xs i).length (rd_L1 xs i) := by
 obtain ⟨ad, c, e, _, hK, hc0⟩ := Kd.C_get h ([] : List Int) i h0 h1
 have hc : ∀ j u, c[j]? = some u → w.cell? (ad.add (i.toNat * 1 + j)) = some u := hc0
 obtain ⟨A0, c0, rfl, l0, g0⟩ := hK
 exact ⟨ad, A0, c0, e, by have hq := hc 0 _ rfl; rwa [Nat.mul_one, Nat.add_zero] at hq, l0, g0⟩

/-! #### struct type 95 -/
structure S95 where
 f0 : Int
 f1 : Int
 f2 : Int
 f3 : Int
 f4 : Int
 f5 : Int
 f6 : Int
def z95 : S95 := ⟨(0 : Int), (0 : Int), (0 : Int), (0 : Int), (0 : Int), (0 : Int), (0 : Int)⟩
def k95 : Kd S95 := Kd.iso (Kd.pair (Kd.int .u32) (Kd.pair (Kd.int .u32) (Kd.pair (Kd.int .u64) (Kd.pair (Kd.int .u64) (Kd.pair (Kd.int .u64) (Kd.pair (Kd.int .u64) (Kd.int .u64))))))) (fun x : S95 => (x.f0, x.f1, x.f2, x.f3, x.f4, x.f5, x.f6))
theorem k95_heap : Kd.Heap k95 := Kd.heap_iso _ (Kd.heap_pair (Kd.heap_int .u32) (Kd.heap_pair (Kd.heap_int .u32) (Kd.heap_pair (Kd.heap_int .u64) (Kd.heap_pair (Kd.heap_int .u64) (Kd.heap_pair (Kd.heap_int .u64) (Kd.heap_pair (Kd.heap_int .u64) (Kd.heap_int .u64)))))))
theorem k95_open {w : World} {x : S95} {cs : List Value} (h : k95.K w x cs) : cs = [.int .u32 x.f0, .int .u32 x.f1, .int .u64 x.f2, .int .u64 x.f3, .int .u64 x.f4, .int .u64 x.f5, .int .u64 x.f6] := by
 obtain ⟨_, _, rfl, rfl, ⟨_, _, rfl, rfl, ⟨_, _, rfl, rfl, ⟨_, _, rfl, rfl, ⟨_, _, rfl, rfl, ⟨_, _, rfl, rfl, rfl⟩⟩⟩⟩⟩⟩ := h
 exact rfl
theorem k95_openM {w : World} {base : Nat} {ok : Nat → Prop} {x : S95} {cs : List Value} (h : k95.M w base ok x cs) : cs = [.int .u32 x.f0, .int .u32 x.f1, .int .u64 x.f2, .int .u64 x.f3, .int .u64 x.f4, .int .u64 x.f5, .int .u64 x.f6] := by
 obtain ⟨_, _, rfl, rfl, ⟨_, _, rfl, rfl, ⟨_, _, rfl, rfl, ⟨_, _, rfl, rfl, ⟨_, _, rfl, rfl, ⟨_, _, rfl, rfl, rfl⟩⟩⟩⟩⟩⟩ := h
 exact rfl
theorem k95_mk (w : World) (x : S95)  : k95.K w x [.int .u32 x.f0, .int .u32 x.f1, .int .u64 x.f2, .int .u64 x.f3, .int .u64 x.f4, .int .u64 x.f5, .int .u64 x.f6] := ⟨[.int .u32 x.f0], [.int .u32 x.f1, .int .u64 x.f2, .int .u64 x.f3, .int .u64 x.f4, .int .u64 x.f5, .int .u64 x.f6], rfl, rfl, ⟨[.int .u32 x.f1], [.int .u64 x.f2, .int .u64 x.f3, .int .u64 x.f4, .int .u64 x.f5, .int .u64 x.f6], rfl, rfl, ⟨[.int .u64 x.f2], [.int .u64 x.f3, .int .u64 x.f4, .int .u64 x.f5, .int .u64 x.f6], rfl, rfl, ⟨[.int .u64 x.f3], [.int .u64 x.f4, .int .u64 x.f5, .int .u64 x.f6], rfl, rfl, ⟨[.int .u64 x.f4], [.int .u64 x.f5, .int .u64 x.f6], rfl, rfl, ⟨[.int .u64 x.f5], [.int .u64 x.f6], rfl, rfl, rfl⟩⟩⟩⟩⟩⟩
theorem k95_mkM (w : World) (base : Nat) (ok : Nat → Prop) (x : S95)  : k95.M w base ok x [.int .u32 x.f0, .int .u32 x.f1, .int .u64 x.f2, .int .u64 x.f3, .int .u64 x.f4, .int .u64 x.f5, .int .u64 x.f6] := ⟨[.int .u32 x.f0], [.int .u32 x.f1, .int .u64 x.f2, .int .u64 x.f3, .int .u64 x.f4, .int .u64 x.f5, .int .u64 x.f6], rfl, rfl, ⟨[.int .u32 x.f1], [.int .u64 x.f2, .int .u64 x.f3, .int .u64 x.f4, .int .u64 x.f5, .int .u64 x.f6], rfl, rfl, ⟨[.int .u64 x.f2], [.int .u64 x.f3, .int .u64 x.f4, .int .u64 x.f5, .int .u64 x.f6], rfl, rfl, ⟨[.int .u64 x.f3], [.int .u64 x.f4, .int .u64 x.f5, .int .u64 x.f6], rfl, rfl, ⟨[.int .u64 x.f4], [.int .u64 x.f5, .int .u64 x.f6], rfl, rfl, ⟨[.int .u64 x.f5], [.int .u64 x.f6], rfl, rfl, rfl⟩⟩⟩⟩⟩⟩
theorem k95_mkF (W : World) (ok : Nat → Prop) (x : S95) : Kd.FK k95 W ok x [.int .u32 x.f0, .int .u32 x.f1, .int .u64 x.f2, .int .u64 x.f3, .int .u64 x.f4, .int .u64 x.f5, .int .u64 x.f6] := fun W2 _ => k95_mk W2 x
def rd_T95 (xs : List S95) (i : Int) : S95 := xs.getD i.toNat z95
theorem at_T95 {w : World} {A : Option Addr} {n : Nat} {xs : List S95} (h : Kd.C k95 w A n xs) (i : Int) (h0 : 0 ≤ i) (h1 : i < n) : ∃ ad , A = some ad ∧ w.cell? (ad.add (i.toNat * 7)) = some (.int .u32 (rd_T95 xs i).f0) ∧ w.cell? ⟨(ad.add (i.toNat * 7)).block, (ad.add (i.toNat * 7)).off + 1, none⟩ = some (.int .u32 (rd_T95 xs i).f1) ∧ w.cell? ⟨(ad.add (i.toNat * 7)).block, (ad.add (i.toNat * 7)).off + 2, none⟩ = some (.int .u64 (rd_T95 xs i).f2) ∧ w.cell? ⟨(ad.add (i.toNat * 7)).block, (ad.add (i.toNat * 7)).off + 3, none⟩ = some (.int .u64 (rd_T95 xs i).f3) ∧ w.cell? ⟨(ad.add (i.toNat * 7)).block, (ad.add (i.toNat * 7)).off + 4, none⟩ = some (.int .u64 (rd_T95 xs i).f4) ∧ w.cell? ⟨(ad.add (i.toNat * 7)).block, (ad.add (i.toNat * 7)).off + 5, none⟩ = some (.int .u64 (rd_T95 xs i).f5) ∧ w.cell? ⟨(ad.add (i.toNat * 7)).block, (ad.add (i.toNat * 7)).off + 6, none⟩ = some (.int .u64 (rd_T95 xs i).f6) := by
 obtain ⟨ad, c, e, _, hK, hc0⟩ := Kd.C_get h z95 i h0 h1
 have hc : ∀ j u, c[j]? = some u → w.cell? (ad.add (i.toNat * 7 + j)) = some u := hc0
 obtain rfl := k95_open hK
 exact ⟨ad, e, hc 0 _ rfl, by rw [← add_field _ _ 1 (by omega)]; exact hc 1 _ rfl, by rw [← add_field _ _ 2 (by omega)]; exact hc 2 _ rfl, by rw [← add_field _ _ 3 (by omega)]; exact hc 3 _ rfl, by rw [← add_field _ _ 4 (by omega)]; exact hc 4 _ rfl, by rw [← add_field _ _ 5 (by omega)]; exact hc 5 _ rfl, by rw [← add_field _ _ 6 (by omega)]; exact hc 6 _ rfl⟩

/-! #### struct type 68 -/
structure S68 where
 f0 : ByteArray
 f1 : Int
 f2 : Int
 f3 : Int
 f4 : Int
 f5 : Int
 f6 : Int
def z68 : S68 := ⟨(⟨#[]⟩ : ByteArray), (0 : Int), (0 : Int), (0 : Int), (0 : Int), (0 : Int), (0 : Int)⟩
def k68 : Kd S68 := Kd.iso (Kd.pair Kd.string (Kd.pair (Kd.int .i64) (Kd.pair (Kd.int .i64) (Kd.pair (Kd.int .i64) (Kd.pair (Kd.int .i64) (Kd.pair (Kd.int .u64) (Kd.int .u64))))))) (fun x : S68 => (x.f0, x.f1, x.f2, x.f3, x.f4, x.f5, x.f6))
theorem k68_heap : Kd.Heap k68 := Kd.heap_iso _ (Kd.heap_pair Kd.heap_string (Kd.heap_pair (Kd.heap_int .i64) (Kd.heap_pair (Kd.heap_int .i64) (Kd.heap_pair (Kd.heap_int .i64) (Kd.heap_pair (Kd.heap_int .i64) (Kd.heap_pair (Kd.heap_int .u64) (Kd.heap_int .u64)))))))
theorem k68_open {w : World} {x : S68} {cs : List Value} (h : k68.K w x cs) : cs = [.string x.f0, .int .i64 x.f1, .int .i64 x.f2, .int .i64 x.f3, .int .i64 x.f4, .int .u64 x.f5, .int .u64 x.f6] := by
 obtain ⟨_, _, rfl, rfl, ⟨_, _, rfl, rfl, ⟨_, _, rfl, rfl, ⟨_, _, rfl, rfl, ⟨_, _, rfl, rfl, ⟨_, _, rfl, rfl, rfl⟩⟩⟩⟩⟩⟩ := h
 exact rfl
theorem k68_openM {w : World} {base : Nat} {ok : Nat → Prop} {x : S68} {cs : List Value} (h : k68.M w base ok x cs) : cs = [.string x.f0, .int .i64 x.f1, .int .i64 x.f2, .int .i64 x.f3, .int .i64 x.f4, .int .u64 x.f5, .int .u64 x.f6] := by
 obtain ⟨_, _, rfl, rfl, ⟨_, _, rfl, rfl, ⟨_, _, rfl, rfl, ⟨_, _, rfl, rfl, ⟨_, _, rfl, rfl, ⟨_, _, rfl, rfl, rfl⟩⟩⟩⟩⟩⟩ := h
 exact rfl
theorem k68_mk (w : World) (x : S68)  : k68.K w x [.string x.f0, .int .i64 x.f1, .int .i64 x.f2, .int .i64 x.f3, .int .i64 x.f4, .int .u64 x.f5, .int .u64 x.f6] := ⟨[.string x.f0], [.int .i64 x.f1, .int .i64 x.f2, .int .i64 x.f3, .int .i64 x.f4, .int .u64 x.f5, .int .u64 x.f6], rfl, rfl, ⟨[.int .i64 x.f1], [.int .i64 x.f2, .int .i64 x.f3, .int .i64 x.f4, .int .u64 x.f5, .int .u64 x.f6], rfl, rfl, ⟨[.int .i64 x.f2], [.int .i64 x.f3, .int .i64 x.f4, .int .u64 x.f5, .int .u64 x.f6], rfl, rfl, ⟨[.int .i64 x.f3], [.int .i64 x.f4, .int .u64 x.f5, .int .u64 x.f6], rfl, rfl, ⟨[.int .i64 x.f4], [.int .u64 x.f5, .int .u64 x.f6], rfl, rfl, ⟨[.int .u64 x.f5], [.int .u64 x.f6], rfl, rfl, rfl⟩⟩⟩⟩⟩⟩
theorem k68_mkM (w : World) (base : Nat) (ok : Nat → Prop) (x : S68)  : k68.M w base ok x [.string x.f0, .int .i64 x.f1, .int .i64 x.f2, .int .i64 x.f3, .int .i64 x.f4, .int .u64 x.f5, .int .u64 x.f6] := ⟨[.string x.f0], [.int .i64 x.f1, .int .i64 x.f2, .int .i64 x.f3, .int .i64 x.f4, .int .u64 x.f5, .int .u64 x.f6], rfl, rfl, ⟨[.int .i64 x.f1], [.int .i64 x.f2, .int .i64 x.f3, .int .i64 x.f4, .int .u64 x.f5, .int .u64 x.f6], rfl, rfl, ⟨[.int .i64 x.f2], [.int .i64 x.f3, .int .i64 x.f4, .int .u64 x.f5, .int .u64 x.f6], rfl, rfl, ⟨[.int .i64 x.f3], [.int .i64 x.f4, .int .u64 x.f5, .int .u64 x.f6], rfl, rfl, ⟨[.int .i64 x.f4], [.int .u64 x.f5, .int .u64 x.f6], rfl, rfl, ⟨[.int .u64 x.f5], [.int .u64 x.f6], rfl, rfl, rfl⟩⟩⟩⟩⟩⟩
theorem k68_mkF (W : World) (ok : Nat → Prop) (x : S68) : Kd.FK k68 W ok x [.string x.f0, .int .i64 x.f1, .int .i64 x.f2, .int .i64 x.f3, .int .i64 x.f4, .int .u64 x.f5, .int .u64 x.f6] := fun W2 _ => k68_mk W2 x
def rd_T68 (xs : List S68) (i : Int) : S68 := xs.getD i.toNat z68
theorem at_T68 {w : World} {A : Option Addr} {n : Nat} {xs : List S68} (h : Kd.C k68 w A n xs) (i : Int) (h0 : 0 ≤ i) (h1 : i < n) : ∃ ad , A = some ad ∧ w.cell? (ad.add (i.toNat * 7)) = some (.string (rd_T68 xs i).f0) ∧ w.cell? ⟨(ad.add (i.toNat * 7)).block, (ad.add (i.toNat * 7)).off + 1, none⟩ = some (.int .i64 (rd_T68 xs i).f1) ∧ w.cell? ⟨(ad.add (i.toNat * 7)).block, (ad.add (i.toNat * 7)).off + 2, none⟩ = some (.int .i64 (rd_T68 xs i).f2) ∧ w.cell? ⟨(ad.add (i.toNat * 7)).block, (ad.add (i.toNat * 7)).off + 3, none⟩ = some (.int .i64 (rd_T68 xs i).f3) ∧ w.cell? ⟨(ad.add (i.toNat * 7)).block, (ad.add (i.toNat * 7)).off + 4, none⟩ = some (.int .i64 (rd_T68 xs i).f4) ∧ w.cell? ⟨(ad.add (i.toNat * 7)).block, (ad.add (i.toNat * 7)).off + 5, none⟩ = some (.int .u64 (rd_T68 xs i).f5) ∧ w.cell? ⟨(ad.add (i.toNat * 7)).block, (ad.add (i.toNat * 7)).off + 6, none⟩ = some (.int .u64 (rd_T68 xs i).f6) := by
 obtain ⟨ad, c, e, _, hK, hc0⟩ := Kd.C_get h z68 i h0 h1
 have hc : ∀ j u, c[j]? = some u → w.cell? (ad.add (i.toNat * 7 + j)) = some u := hc0
 obtain rfl := k68_open hK
 exact ⟨ad, e, hc 0 _ rfl, by rw [← add_field _ _ 1 (by omega)]; exact hc 1 _ rfl, by rw [← add_field _ _ 2 (by omega)]; exact hc 2 _ rfl, by rw [← add_field _ _ 3 (by omega)]; exact hc 3 _ rfl, by rw [← add_field _ _ 4 (by omega)]; exact hc 4 _ rfl, by rw [← add_field _ _ 5 (by omega)]; exact hc 5 _ rfl, by rw [← add_field _ _ 6 (by omega)]; exact hc 6 _ rfl⟩

theorem errComp : (Try.prog.info? 35).map (fun i => i.comparable) = some true := by kernel_rfl
theorem eqIn_ii (W : World) (d : Nat) (a b : Int) : (Op.equalIn (d + 2) 26 (.iface 35 (.int .i64 a)) (.iface 35 (.int .i64 b))).run Try.prog W = .ok (a == b) W := by
 have hi := Try.underlying26
 have hn := Try.underlying35
 obtain ⟨i, hinfo, hcomp⟩ := Option.map_eq_some_iff.1 errComp
 simp [Op.equalIn, run_underlying hi, run_underlying hn, typeInfo, hinfo, hcomp]
theorem eqErr_ii (W : World) (a b : Int) : (binOp .eql 26 (.iface 35 (.int .i64 a)) (.iface 35 (.int .i64 b))).run Try.prog W = .ok (.bool (a == b)) W := by
 simp only [binOp]
 simp [Op.equal, Op.maxDepth, eqIn_ii W 9998 a b]
theorem neErr_ii (W : World) (a b : Int) : (binOp .neq 26 (.iface 35 (.int .i64 a)) (.iface 35 (.int .i64 b))).run Try.prog W = .ok (.bool (a != b)) W := by
 simp only [binOp]
 simp [Op.equal, Op.maxDepth, eqIn_ii W 9998 a b, bne]
theorem eqIn_ni (W : World) (d : Nat) (v : Value) : (Op.equalIn (d + 1) 26 .nilIface (.iface 35 v)).run Try.prog W = .ok false W := by
 have hi := Try.underlying26
 simp [Op.equalIn, run_underlying hi]
theorem eqErr_ni (W : World) (v : Value) : (binOp .eql 26 .nilIface (.iface 35 v)).run Try.prog W = .ok (.bool false) W := by
 simp only [binOp]
 simp [Op.equal, Op.maxDepth, eqIn_ni W 9999]
theorem neErr_ni (W : World) (v : Value) : (binOp .neq 26 .nilIface (.iface 35 v)).run Try.prog W = .ok (.bool true) W := by
 simp only [binOp]
 simp [Op.equal, Op.maxDepth, eqIn_ni W 9999]
end Go.Proofs.Ytlohkhadbkahdaa.QSyms
