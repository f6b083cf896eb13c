-- Laid by wip/hook.py (this session's own program) out of the translation; with contracts that were written by hand.
import Derived.Test.YtlohkhadbkahdaaStrs
import Derived.Test.YtlohkhadbkahdaaQSymsx0
import Derived.Test.YtlohkhadbkahdaaQSymsx2
import Derived.Test.YtlohkhadbkahdaaQSymsx4
import Derived.Test.YtlohkhadbkahdaaQSymsx6
namespace Go.Proofs.Ytlohkhadbkahdaa.QSyms
open Go.RowKit Go.Proofs.YtlohkhadbkahdaaW.PrintWords Go.Proofs.YtlohkhadbkahdaaW.PrintLast Go.Proofs.YtlohkhadbkahdaaW.PrintMore
attribute [local go_sem] max2_int min2_int max_two min_two max_three min_three max_four min_four   -- for this text's walks alone
set_option linter.unusedVariables false
set_option linter.unusedSimpArgs false

attribute [local go_sem] eqErr_ii neErr_ii eqErr_ni neErr_ni
/-! ### shacklelaw06_SymsStand: function 12 -/
mutual
def shacklelaw06_SymsStand.j0 : Nat → Bool → List (S68) → List Int → Bool → Option (Bool)
 | 0, _, _, _, _ => none
 | k + 1, x9, x10, x12, x54 => if x54 = true then (some false) else (shacklelaw06_SymsStand.l0 k x9 x10 x12 0)
def shacklelaw06_SymsStand.l0 : Nat → Bool → List (S68) → List Int → Int → Option (Bool)
 | 0, _, _, _, _ => none
 | k + 1, x9, x10, x12, x14 => if x14 < (x10.length : Int) then (shacklelaw06_SymsStand.j2 k x9 x10 x12 x14 (decide (x14 < 50))) else (shacklelaw06_SymsStand.j2 k x9 x10 x12 x14 false)
def shacklelaw06_SymsStand.j2 : Nat → Bool → List (S68) → List Int → Int → Bool → Option (Bool)
 | 0, _, _, _, _, _ => none
 | k + 1, x9, x10, x12, x14, x62 => if x62 = true then (if 0 ≤ x14 then (if x14 < (x10.length : Int) then (shacklelaw06_SymsStand.l1 k x9 x10 x12 x14 false ((rd_T68 x10 x14).f0) 0) else (none)) else (none)) else (some x9)
def shacklelaw06_SymsStand.l1 : Nat → Bool → List (S68) → List Int → Int → Bool → ByteArray → Int → Option (Bool)
 | 0, _, _, _, _, _, _, _ => none
 | k + 1, x9, x10, x12, x14, x15, x16, x17 => if (wrap64 (x17 + (x16.size : Int))) < (x12.length : Int) then (if x15 = true then (if (x16.size : Int) > 255 then (some false) else (shacklelaw06_SymsStand.l0 k x9 x10 x12 (wrap64 (x14 + 1)))) else (if 0 ≤ (wrap64 (x17 + (x16.size : Int))) then (if (rd x12 (wrap64 (x17 + (x16.size : Int)))) = 0 then (if 0 ≤ x17 then (if x17 ≤ (wrap64 (x17 + (x16.size : Int))) then (if (wrap64 (x17 + (x16.size : Int))) ≤ (x12.length : Int) then (shacklelaw06_SymsStand.l1 k x9 x10 x12 x14 ((strOfNums ((x12.take ((wrap64 (x17 + (x16.size : Int))) : Int).toNat).drop (x17 : Int).toNat)).toList == x16.toList) x16 (wrap64 (x17 + 1))) else (none)) else (none)) else (none)) else (shacklelaw06_SymsStand.l1 k x9 x10 x12 x14 false x16 (wrap64 (x17 + 1)))) else (none))) else (if x15 = true then (if (x16.size : Int) > 255 then (some false) else (shacklelaw06_SymsStand.l0 k x9 x10 x12 (wrap64 (x14 + 1)))) else (some false))
end
def shacklelaw06_SymsStand.f (k : Nat) (l0 : List Int) (a1_0 : Int) (a1_1 : Int) (l1_2 : List (S95)) (l2_0 : List Int) (a2_1 : Int) (a2_2 : Int) (a2_3 : Int) (a2_4 : Int) (a2_5 : Int) (a2_6 : Int) (a2_7 : Int) (a2_8 : Int) (a2_9 : Int) (a2_10 : Int) (a2_11 : Int) (a2_12 : Int) (a2_13 : Int) (a2_14 : Bool) (a2_15 : Bool) (a2_16 : Bool) (a2_17 : Int) (a2_18 : Int) (a2_19 : Int) (a2_20 : Int) (a2_21 : Int) (a2_22 : Int) (a2_23 : Int) (a2_24 : Int) (a2_25 : Int) (a2_26 : Int) (a2_27 : Int) (a2_28 : Int) (a2_29 : Int) (a2_30 : Int) (a2_31 : Int) (a2_32 : Bool) (a2_33 : Bool) (a2_34 : Bool) (a2_35 : Bool) (a2_36 : Bool) (a3 : Int) : Option (Bool) := (shacklelaw06_up.f).bind fun t289 => ((syms_Read.f k l0 a1_0 a1_1 l1_2 l2_0 a2_1 a2_2 a2_3 a2_4 a2_5 a2_6 a2_7 a2_8 a2_9 a2_10 a2_11 a2_12 a2_13 a2_14 a2_15 a2_16 a2_17 a2_18 a2_19 a2_20 a2_21 a2_22 a2_23 a2_24 a2_25 a2_26 a2_27 a2_28 a2_29 a2_30 a2_31 a2_32 a2_33 a2_34 a2_35 a2_36 a3).bind fun bt290 => (if bt290.2.isNone = true then ((syms_Strings.f k l0 a1_0 a1_1 l1_2 l2_0 a2_1 a2_2 a2_3 a2_4 a2_5 a2_6 a2_7 a2_8 a2_9 a2_10 a2_11 a2_12 a2_13 a2_14 a2_15 a2_16 a2_17 a2_18 a2_19 a2_20 a2_21 a2_22 a2_23 a2_24 a2_25 a2_26 a2_27 a2_28 a2_29 a2_30 a2_31 a2_32 a2_33 a2_34 a2_35 a2_36).bind fun bt295 => (if bt295.2.isNone = true then (if (bt290.1.length : Int) = a3 then (shacklelaw06_SymsStand.j0 k t289 bt290.1 bt295.1 ((bt295.1.length : Int) == 0)) else (shacklelaw06_SymsStand.j0 k t289 bt290.1 bt295.1 true)) else (shacklelaw06_SymsStand.j0 k t289 bt290.1 bt295.1 true))) else (if t289 = true then (some ((bt290.1.length : Int) == 0)) else (some false))))
theorem shacklelaw06_SymsStand.mono_l : ∀ k, (∀ y0 y1 y2 y3, LeO (shacklelaw06_SymsStand.j0 k y0 y1 y2 y3) (shacklelaw06_SymsStand.j0 (k + 1) y0 y1 y2 y3)) ∧ (∀ y0 y1 y2 y3, LeO (shacklelaw06_SymsStand.l0 k y0 y1 y2 y3) (shacklelaw06_SymsStand.l0 (k + 1) y0 y1 y2 y3)) ∧ (∀ y0 y1 y2 y3 y4, LeO (shacklelaw06_SymsStand.j2 k y0 y1 y2 y3 y4) (shacklelaw06_SymsStand.j2 (k + 1) y0 y1 y2 y3 y4)) ∧ (∀ y0 y1 y2 y3 y4 y5 y6, LeO (shacklelaw06_SymsStand.l1 k y0 y1 y2 y3 y4 y5 y6) (shacklelaw06_SymsStand.l1 (k + 1) y0 y1 y2 y3 y4 y5 y6))
 | 0 => ⟨fun _ _ _ _ r h => by simp [shacklelaw06_SymsStand.j0] at h, fun _ _ _ _ r h => by simp [shacklelaw06_SymsStand.l0] at h, fun _ _ _ _ _ r h => by simp [shacklelaw06_SymsStand.j2] at h, fun _ _ _ _ _ _ _ r h => by simp [shacklelaw06_SymsStand.l1] at h⟩
 | k + 1 => by
  obtain ⟨ih0, ih1, ih2, ih3⟩ := shacklelaw06_SymsStand.mono_l k
  refine ⟨?_, ?_, ?_, ?_⟩
  ·intro y0 y1 y2 y3
   unfold shacklelaw06_SymsStand.j0
   repeat' first
   | (with_reducible exact ih0 _ _ _ _)
   | (with_reducible exact ih1 _ _ _ _)
   | (with_reducible exact ih2 _ _ _ _ _)
   | (with_reducible exact ih3 _ _ _ _ _ _ _)
   | (with_reducible exact syms_Read.mono _ _ _ _ _ _ _ _ _ _ _ _ _ _ _ _ _ _ _ _ _ _ _ _ _ _ _ _ _ _ _ _ _ _ _ _ _ _ _ _ _ _ _)
   | (with_reducible exact syms_Strings.mono _ _ _ _ _ _ _ _ _ _ _ _ _ _ _ _ _ _ _ _ _ _ _ _ _ _ _ _ _ _ _ _ _ _ _ _ _ _ _ _ _ _)
   | (with_reducible exact LeO.refl _)
   | (with_reducible exact LeO.none _)
   | (with_reducible refine LeO.ite ?_ ?_)
   | (with_reducible refine LeO.bind ?_ (fun _ => ?_))
   | exact ih0 _ _ _ _
   | exact ih1 _ _ _ _
   | exact ih2 _ _ _ _ _
   | exact ih3 _ _ _ _ _ _ _
   | exact syms_Read.mono _ _ _ _ _ _ _ _ _ _ _ _ _ _ _ _ _ _ _ _ _ _ _ _ _ _ _ _ _ _ _ _ _ _ _ _ _ _ _ _ _ _ _
   | exact syms_Strings.mono _ _ _ _ _ _ _ _ _ _ _ _ _ _ _ _ _ _ _ _ _ _ _ _ _ _ _ _ _ _ _ _ _ _ _ _ _ _ _ _ _ _
   | exact LeO.none _
   | refine LeO.ite ?_ ?_
   | refine LeO.bind ?_ (fun _ => ?_)
  ·intro y0 y1 y2 y3
   unfold shacklelaw06_SymsStand.l0
   repeat' first
   | (with_reducible exact ih0 _ _ _ _)
   | (with_reducible exact ih1 _ _ _ _)
   | (with_reducible exact ih2 _ _ _ _ _)
   | (with_reducible exact ih3 _ _ _ _ _ _ _)
   | (with_reducible exact syms_Read.mono _ _ _ _ _ _ _ _ _ _ _ _ _ _ _ _ _ _ _ _ _ _ _ _ _ _ _ _ _ _ _ _ _ _ _ _ _ _ _ _ _ _ _)
   | (with_reducible exact syms_Strings.mono _ _ _ _ _ _ _ _ _ _ _ _ _ _ _ _ _ _ _ _ _ _ _ _ _ _ _ _ _ _ _ _ _ _ _ _ _ _ _ _ _ _)
   | (with_reducible exact LeO.refl _)
   | (with_reducible exact LeO.none _)
   | (with_reducible refine LeO.ite ?_ ?_)
   | (with_reducible refine LeO.bind ?_ (fun _ => ?_))
   | exact ih0 _ _ _ _
   | exact ih1 _ _ _ _
   | exact ih2 _ _ _ _ _
   | exact ih3 _ _ _ _ _ _ _
   | exact syms_Read.mono _ _ _ _ _ _ _ _ _ _ _ _ _ _ _ _ _ _ _ _ _ _ _ _ _ _ _ _ _ _ _ _ _ _ _ _ _ _ _ _ _ _ _
   | exact syms_Strings.mono _ _ _ _ _ _ _ _ _ _ _ _ _ _ _ _ _ _ _ _ _ _ _ _ _ _ _ _ _ _ _ _ _ _ _ _ _ _ _ _ _ _
   | exact LeO.none _
   | refine LeO.ite ?_ ?_
   | refine LeO.bind ?_ (fun _ => ?_)
  ·intro y0 y1 y2 y3 y4
   unfold shacklelaw06_SymsStand.j2
   repeat' first
   | (with_reducible exact ih0 _ _ _ _)
   | (with_reducible exact ih1 _ _ _ _)
   | (with_reducible exact ih2 _ _ _ _ _)
   | (with_reducible exact ih3 _ _ _ _ _ _ _)
   | (with_reducible exact syms_Read.mono _ _ _ _ _ _ _ _ _ _ _ _ _ _ _ _ _ _ _ _ _ _ _ _ _ _ _ _ _ _ _ _ _ _ _ _ _ _ _ _ _ _ _)
   | (with_reducible exact syms_Strings.mono _ _ _ _ _ _ _ _ _ _ _ _ _ _ _ _ _ _ _ _ _ _ _ _ _ _ _ _ _ _ _ _ _ _ _ _ _ _ _ _ _ _)
   | (with_reducible exact LeO.refl _)
   | (with_reducible exact LeO.none _)
   | (with_reducible refine LeO.ite ?_ ?_)
   | (with_reducible refine LeO.bind ?_ (fun _ => ?_))
   | exact ih0 _ _ _ _
   | exact ih1 _ _ _ _
   | exact ih2 _ _ _ _ _
   | exact ih3 _ _ _ _ _ _ _
   | exact syms_Read.mono _ _ _ _ _ _ _ _ _ _ _ _ _ _ _ _ _ _ _ _ _ _ _ _ _ _ _ _ _ _ _ _ _ _ _ _ _ _ _ _ _ _ _
   | exact syms_Strings.mono _ _ _ _ _ _ _ _ _ _ _ _ _ _ _ _ _ _ _ _ _ _ _ _ _ _ _ _ _ _ _ _ _ _ _ _ _ _ _ _ _ _
   | exact LeO.none _
   | refine LeO.ite ?_ ?_
   | refine LeO.bind ?_ (fun _ => ?_)
  ·intro y0 y1 y2 y3 y4 y5 y6
   unfold shacklelaw06_SymsStand.l1
   repeat' first
   | (with_reducible exact ih0 _ _ _ _)
   | (with_reducible exact ih1 _ _ _ _)
   | (with_reducible exact ih2 _ _ _ _ _)
   | (with_reducible exact ih3 _ _ _ _ _ _ _)
   | (with_reducible exact syms_Read.mono _ _ _ _ _ _ _ _ _ _ _ _ _ _ _ _ _ _ _ _ _ _ _ _ _ _ _ _ _ _ _ _ _ _ _ _ _ _ _ _ _ _ _)
   | (with_reducible exact syms_Strings.mono _ _ _ _ _ _ _ _ _ _ _ _ _ _ _ _ _ _ _ _ _ _ _ _ _ _ _ _ _ _ _ _ _ _ _ _ _ _ _ _ _ _)
   | (with_reducible exact LeO.refl _)
   | (with_reducible exact LeO.none _)
   | (with_reducible refine LeO.ite ?_ ?_)
   | (with_reducible refine LeO.bind ?_ (fun _ => ?_))
   | exact ih0 _ _ _ _
   | exact ih1 _ _ _ _
   | exact ih2 _ _ _ _ _
   | exact ih3 _ _ _ _ _ _ _
   | exact syms_Read.mono _ _ _ _ _ _ _ _ _ _ _ _ _ _ _ _ _ _ _ _ _ _ _ _ _ _ _ _ _ _ _ _ _ _ _ _ _ _ _ _ _ _ _
   | exact syms_Strings.mono _ _ _ _ _ _ _ _ _ _ _ _ _ _ _ _ _ _ _ _ _ _ _ _ _ _ _ _ _ _ _ _ _ _ _ _ _ _ _ _ _ _
   | exact LeO.none _
   | refine LeO.ite ?_ ?_
   | refine LeO.bind ?_ (fun _ => ?_)
theorem shacklelaw06_SymsStand.mono : ∀ a0 a1 a2 a3 a4 a5 a6 a7 a8 a9 a10 a11 a12 a13 a14 a15 a16 a17 a18 a19 a20 a21 a22 a23 a24 a25 a26 a27 a28 a29 a30 a31 a32 a33 a34 a35 a36 a37 a38 a39 a40 a41 k, LeO (shacklelaw06_SymsStand.f k a0 a1 a2 a3 a4 a5 a6 a7 a8 a9 a10 a11 a12 a13 a14 a15 a16 a17 a18 a19 a20 a21 a22 a23 a24 a25 a26 a27 a28 a29 a30 a31 a32 a33 a34 a35 a36 a37 a38 a39 a40 a41) (shacklelaw06_SymsStand.f (k + 1) a0 a1 a2 a3 a4 a5 a6 a7 a8 a9 a10 a11 a12 a13 a14 a15 a16 a17 a18 a19 a20 a21 a22 a23 a24 a25 a26 a27 a28 a29 a30 a31 a32 a33 a34 a35 a36 a37 a38 a39 a40 a41) := by
 intro a0 a1 a2 a3 a4 a5 a6 a7 a8 a9 a10 a11 a12 a13 a14 a15 a16 a17 a18 a19 a20 a21 a22 a23 a24 a25 a26 a27 a28 a29 a30 a31 a32 a33 a34 a35 a36 a37 a38 a39 a40 a41 k
 obtain ⟨ih0, ih1, ih2, ih3⟩ := shacklelaw06_SymsStand.mono_l k
 unfold shacklelaw06_SymsStand.f
 repeat' first
   | (with_reducible exact ih0 _ _ _ _)
   | (with_reducible exact ih1 _ _ _ _)
   | (with_reducible exact ih2 _ _ _ _ _)
   | (with_reducible exact ih3 _ _ _ _ _ _ _)
   | (with_reducible exact syms_Read.mono _ _ _ _ _ _ _ _ _ _ _ _ _ _ _ _ _ _ _ _ _ _ _ _ _ _ _ _ _ _ _ _ _ _ _ _ _ _ _ _ _ _ _)
   | (with_reducible exact syms_Strings.mono _ _ _ _ _ _ _ _ _ _ _ _ _ _ _ _ _ _ _ _ _ _ _ _ _ _ _ _ _ _ _ _ _ _ _ _ _ _ _ _ _ _)
   | (with_reducible exact LeO.refl _)
   | (with_reducible exact LeO.none _)
   | (with_reducible refine LeO.ite ?_ ?_)
   | (with_reducible refine LeO.bind ?_ (fun _ => ?_))
   | exact ih0 _ _ _ _
   | exact ih1 _ _ _ _
   | exact ih2 _ _ _ _ _
   | exact ih3 _ _ _ _ _ _ _
   | exact syms_Read.mono _ _ _ _ _ _ _ _ _ _ _ _ _ _ _ _ _ _ _ _ _ _ _ _ _ _ _ _ _ _ _ _ _ _ _ _ _ _ _ _ _ _ _
   | exact syms_Strings.mono _ _ _ _ _ _ _ _ _ _ _ _ _ _ _ _ _ _ _ _ _ _ _ _ _ _ _ _ _ _ _ _ _ _ _ _ _ _ _ _ _ _
   | exact LeO.none _
   | refine LeO.ite ?_ ?_
   | refine LeO.bind ?_ (fun _ => ?_)
set_option maxHeartbeats 8000000 in
set_option maxRecDepth 100000 in
theorem shacklelaw06_SymsStand.calls (k : Nat) (A0 : Option Addr) (c0 : Nat) (l0 : List Int) (a1_0 : Int) (a1_1 : Int) (A1_2 : Option Addr) (c1_2 : Nat) (l1_2 : List (S95)) (A2_0 : Option Addr) (c2_0 : Nat) (l2_0 : List Int) (a2_1 : Int) (a2_2 : Int) (a2_3 : Int) (a2_4 : Int) (a2_5 : Int) (a2_6 : Int) (a2_7 : Int) (a2_8 : Int) (a2_9 : Int) (a2_10 : Int) (a2_11 : Int) (a2_12 : Int) (a2_13 : Int) (a2_14 : Bool) (a2_15 : Bool) (a2_16 : Bool) (a2_17 : Int) (a2_18 : Int) (a2_19 : Int) (a2_20 : Int) (a2_21 : Int) (a2_22 : Int) (a2_23 : Int) (a2_24 : Int) (a2_25 : Int) (a2_26 : Int) (a2_27 : Int) (a2_28 : Int) (a2_29 : Int) (a2_30 : Int) (a2_31 : Int) (a2_32 : Bool) (a2_33 : Bool) (a2_34 : Bool) (a2_35 : Bool) (a2_36 : Bool) (a3 : Int) (r : Bool) (w : World) (hr0 : Kd.C (Kd.int .u8) w A0 l0.length l0) (hc0 : l0.length ≤ c0) (hr1_2 : Kd.C k95 w A1_2 l1_2.length l1_2) (hc1_2 : l1_2.length ≤ c1_2) (hr2_0 : Kd.C (Kd.int .u64) w A2_0 l2_0.length l2_0) (hc2_0 : l2_0.length ≤ c2_0) (h : shacklelaw06_SymsStand.f k l0 a1_0 a1_1 l1_2 l2_0 a2_1 a2_2 a2_3 a2_4 a2_5 a2_6 a2_7 a2_8 a2_9 a2_10 a2_11 a2_12 a2_13 a2_14 a2_15 a2_16 a2_17 a2_18 a2_19 a2_20 a2_21 a2_22 a2_23 a2_24 a2_25 a2_26 a2_27 a2_28 a2_29 a2_30 a2_31 a2_32 a2_33 a2_34 a2_35 a2_36 a3 = some r) :
  Calls Try.prog 12 #[.slice A0 l0.length c0, .agg #[.int .i64 a1_0, .int .u64 a1_1, .slice A1_2 l1_2.length c1_2], .agg #[.slice A2_0 l2_0.length c2_0, .int .u64 a2_1, .int .u64 a2_2, .int .u64 a2_3, .int .u64 a2_4, .int .u64 a2_5, .int .u64 a2_6, .int .u64 a2_7, .int .u64 a2_8, .int .u64 a2_9, .int .u64 a2_10, .int .u64 a2_11, .int .u64 a2_12, .int .u64 a2_13, .bool a2_14, .bool a2_15, .bool a2_16, .int .u64 a2_17, .int .u64 a2_18, .int .u64 a2_19, .int .u64 a2_20, .int .u64 a2_21, .int .u64 a2_22, .int .u64 a2_23, .int .u64 a2_24, .int .u64 a2_25, .int .u64 a2_26, .int .u64 a2_27, .int .u64 a2_28, .int .u64 a2_29, .int .u64 a2_30, .int .u64 a2_31, .bool a2_32, .bool a2_33, .bool a2_34, .bool a2_35, .bool a2_36], .int .i64 a3] w fun e w' => e = .returned (.bool r) ∧ Below w.heap.size w w' := by
 have hu53 := Try.underlying53
 have hu55 := Try.underlying55
 have hu26 := Try.underlying26
 have hu35 := Try.underlying35
 have HR0 := Aside0.mk hr0
 have HC0 := Aside0.mk hc0
 clear hr0 hc0
 have HR1_2 := Aside0.mk hr1_2
 have HC1_2 := Aside0.mk hc1_2
 clear hr1_2 hc1_2
 have HR2_0 := Aside0.mk hr2_0
 have HC2_0 := Aside0.mk hc2_0
 clear hr2_0 hc2_0
 have HB := Aside0.mk (Below.refl w.heap.size w)
 have H : ((shacklelaw06_up.f).bind fun t289 => ((syms_Read.f k l0 a1_0 a1_1 l1_2 l2_0 a2_1 a2_2 a2_3 a2_4 a2_5 a2_6 a2_7 a2_8 a2_9 a2_10 a2_11 a2_12 a2_13 a2_14 a2_15 a2_16 a2_17 a2_18 a2_19 a2_20 a2_21 a2_22 a2_23 a2_24 a2_25 a2_26 a2_27 a2_28 a2_29 a2_30 a2_31 a2_32 a2_33 a2_34 a2_35 a2_36 a3).bind fun bt290 => (if bt290.2.isNone = true then ((syms_Strings.f k l0 a1_0 a1_1 l1_2 l2_0 a2_1 a2_2 a2_3 a2_4 a2_5 a2_6 a2_7 a2_8 a2_9 a2_10 a2_11 a2_12 a2_13 a2_14 a2_15 a2_16 a2_17 a2_18 a2_19 a2_20 a2_21 a2_22 a2_23 a2_24 a2_25 a2_26 a2_27 a2_28 a2_29 a2_30 a2_31 a2_32 a2_33 a2_34 a2_35 a2_36).bind fun bt295 => (if bt295.2.isNone = true then (if (bt290.1.length : Int) = a3 then (shacklelaw06_SymsStand.j0 k t289 bt290.1 bt295.1 ((bt295.1.length : Int) == 0)) else (shacklelaw06_SymsStand.j0 k t289 bt290.1 bt295.1 true)) else (shacklelaw06_SymsStand.j0 k t289 bt290.1 bt295.1 true))) else (if t289 = true then (some ((bt290.1.length : Int) == 0)) else (some false))))) = some r := h
 clear h
 replace H := Option.bind_eq_some_iff.mp H
 obtain ⟨t289, A50, H⟩ := H
 replace H : ((syms_Read.f k l0 a1_0 a1_1 l1_2 l2_0 a2_1 a2_2 a2_3 a2_4 a2_5 a2_6 a2_7 a2_8 a2_9 a2_10 a2_11 a2_12 a2_13 a2_14 a2_15 a2_16 a2_17 a2_18 a2_19 a2_20 a2_21 a2_22 a2_23 a2_24 a2_25 a2_26 a2_27 a2_28 a2_29 a2_30 a2_31 a2_32 a2_33 a2_34 a2_35 a2_36 a3).bind fun bt290 => (if bt290.2.isNone = true then ((syms_Strings.f k l0 a1_0 a1_1 l1_2 l2_0 a2_1 a2_2 a2_3 a2_4 a2_5 a2_6 a2_7 a2_8 a2_9 a2_10 a2_11 a2_12 a2_13 a2_14 a2_15 a2_16 a2_17 a2_18 a2_19 a2_20 a2_21 a2_22 a2_23 a2_24 a2_25 a2_26 a2_27 a2_28 a2_29 a2_30 a2_31 a2_32 a2_33 a2_34 a2_35 a2_36).bind fun bt295 => (if bt295.2.isNone = true then (if (bt290.1.length : Int) = a3 then (shacklelaw06_SymsStand.j0 k t289 bt290.1 bt295.1 ((bt295.1.length : Int) == 0)) else (shacklelaw06_SymsStand.j0 k t289 bt290.1 bt295.1 true)) else (shacklelaw06_SymsStand.j0 k t289 bt290.1 bt295.1 true))) else (if t289 = true then (some ((bt290.1.length : Int) == 0)) else (some false)))) = some r := H
 have A5 := Aside0.mk A50
 clear A50
 have HC6 := Aside0.mk H
 clear H
 go_enter Try.func12, Try.ntmps12
 go_upto_region 2 with (first | ((with_reducible refine gate_ (.load 55 (.tmp 6)) rfl ?_); refine wpList_load_row rfl 55 (.tmp 6) rfl gb288 rfl 55 _ (0, 0) _ (by (with_reducible repeat (first | refine blk_drewN ?_ _ | refine blk_drew ?_ | refine blk_alloc ?_ _)); exact BK288.out) Try.underlying55 rfl (by kernel_rfl) ?_) | ((with_reducible refine gate_dst (N := 5) rfl ?_); (try (refine gate_guard (by rfl) ?_; dsimp only)); refine box_event ?hg (N := 5) ?hd (cs := #[.int .i64 a1_0, .int .u64 a1_1, .slice A1_2 l1_2.length c1_2]) (t := 53) ?hr ?_; (case hd => rfl); (case hg => rfl); (case hr => first | (go_simp; done) | (go_simp; rfl)); intro gb287 hg w7 hbox hb; have n0_ := Aside0.mk (below_step (by repeat (first | (with_reducible first | exact HB.out | apply below_alloc | apply pw_below_drewN | apply below_drew1) | exact HB.out)) hb); have n1_ := Aside0.mk (hbox); have n2_ := Aside0.mk ((by rw [hg]; exact (below_size (by repeat (first | (with_reducible first | exact HB.out | apply below_alloc | apply pw_below_drewN | apply below_drew1) | exact HB.out))) : w.heap.size ≤ gb287)); have n3_ := Aside0.mk ((by rw [hg]; exact (below_size (by repeat (first | (with_reducible first | exact HB.out | apply below_alloc | apply pw_below_drewN | apply below_drew1) | exact HB.out))) : w.heap.size ≤ gb287)); clear HB; have HB := n0_; have BK287 := n1_; have GW287 := n2_; have GE287 := n3_; clear n0_ n1_ n2_ n3_; clear hb hbox hg) | ((with_reducible refine gate_dst (N := 6) rfl ?_); (try (refine gate_guard (by rfl) ?_; dsimp only)); refine box_event ?hg (N := 6) ?hd (cs := #[.slice A2_0 l2_0.length c2_0, .int .u64 a2_1, .int .u64 a2_2, .int .u64 a2_3, .int .u64 a2_4, .int .u64 a2_5, .int .u64 a2_6, .int .u64 a2_7, .int .u64 a2_8, .int .u64 a2_9, .int .u64 a2_10, .int .u64 a2_11, .int .u64 a2_12, .int .u64 a2_13, .bool a2_14, .bool a2_15, .bool a2_16, .int .u64 a2_17, .int .u64 a2_18, .int .u64 a2_19, .int .u64 a2_20, .int .u64 a2_21, .int .u64 a2_22, .int .u64 a2_23, .int .u64 a2_24, .int .u64 a2_25, .int .u64 a2_26, .int .u64 a2_27, .int .u64 a2_28, .int .u64 a2_29, .int .u64 a2_30, .int .u64 a2_31, .bool a2_32, .bool a2_33, .bool a2_34, .bool a2_35, .bool a2_36]) (t := 55) ?hr ?_; (case hd => rfl); (case hg => rfl); (case hr => first | (go_simp; done) | (go_simp; rfl)); intro gb288 hg w8 hbox hb; have n0_ := Aside0.mk (blk_below (g := gb287) (o := .cells #[.int .i64 a1_0, .int .u64 a1_1, .slice A1_2 l1_2.length c1_2] 53 (0, 0)) (by (with_reducible repeat (first | refine blk_drewN ?_ _ | refine blk_drew ?_ | refine blk_alloc ?_ _)); exact BK287.out) hb); have n1_ := Aside0.mk (below_step (by repeat (first | (with_reducible first | exact HB.out | apply below_alloc | apply pw_below_drewN | apply below_drew1 | refine below_set ?_ GE287.out) | exact HB.out)) hb); have n2_ := Aside0.mk (hbox); have n3_ := Aside0.mk ((by rw [hg]; exact (below_size (by repeat (first | (with_reducible first | exact HB.out | apply below_alloc | apply pw_below_drewN | apply below_drew1 | refine below_set ?_ GE287.out) | exact HB.out))) : w.heap.size ≤ gb288)); have n4_ := Aside0.mk ((by rw [hg]; exact (below_size (by repeat (first | (with_reducible first | exact HB.out | apply below_alloc | apply pw_below_drewN | apply below_drew1 | refine below_set ?_ GE287.out) | exact HB.out))) : w.heap.size ≤ gb288)); have n5_ := Aside0.mk ((by rw [hg]; exact Nat.ne_of_lt (blk_lt (g := gb287) (o := .cells #[.int .i64 a1_0, .int .u64 a1_1, .slice A1_2 l1_2.length c1_2] 53 (0, 0)) (by (with_reducible repeat (first | refine blk_drewN ?_ _ | refine blk_drew ?_ | refine blk_alloc ?_ _)); exact BK287.out)) : gb287 ≠ gb288)); have n6_ := Aside0.mk ((by rw [hg]; exact Nat.ne_of_gt (blk_lt (g := gb287) (o := .cells #[.int .i64 a1_0, .int .u64 a1_1, .slice A1_2 l1_2.length c1_2] 53 (0, 0)) (by (with_reducible repeat (first | refine blk_drewN ?_ _ | refine blk_drew ?_ | refine blk_alloc ?_ _)); exact BK287.out)) : gb288 ≠ gb287)); clear BK287; clear HB; have BK287 := n0_; have HB := n1_; have BK288 := n2_; have GW288 := n3_; have GE288 := n4_; have NB287_288 := n5_; have NB288_287 := n6_; clear n0_ n1_ n2_ n3_ n4_ n5_ n6_; clear hb hbox hg) | ((with_reducible refine gate_callee (f := 13) rfl ?_); refine goesL_ (some 18) rfl rfl Try.func13 (by kernel_rfl) rfl #[] rfl (by (try simp only [List.map_toArray, List.map_cons, List.map_nil]); first | done | rfl | (simp only [List.length_drop, List.length_take]; rfl)) ?_; (with_reducible refine (shacklelaw06_up.calls  t289 _ A5.out).mono ?_); rintro e w9 ⟨rfl, hb⟩; refine ⟨_, rfl, ?_⟩; have n0_ := Aside0.mk (blk_below (g := gb287) (o := .cells #[.int .i64 a1_0, .int .u64 a1_1, .slice A1_2 l1_2.length c1_2] 53 (0, 0)) (by (with_reducible repeat (first | refine blk_drewN ?_ _ | refine blk_drew ?_ | refine blk_alloc ?_ _)); exact BK287.out) hb); have n1_ := Aside0.mk (blk_below (g := gb288) (o := .cells #[.slice A2_0 l2_0.length c2_0, .int .u64 a2_1, .int .u64 a2_2, .int .u64 a2_3, .int .u64 a2_4, .int .u64 a2_5, .int .u64 a2_6, .int .u64 a2_7, .int .u64 a2_8, .int .u64 a2_9, .int .u64 a2_10, .int .u64 a2_11, .int .u64 a2_12, .int .u64 a2_13, .bool a2_14, .bool a2_15, .bool a2_16, .int .u64 a2_17, .int .u64 a2_18, .int .u64 a2_19, .int .u64 a2_20, .int .u64 a2_21, .int .u64 a2_22, .int .u64 a2_23, .int .u64 a2_24, .int .u64 a2_25, .int .u64 a2_26, .int .u64 a2_27, .int .u64 a2_28, .int .u64 a2_29, .int .u64 a2_30, .int .u64 a2_31, .bool a2_32, .bool a2_33, .bool a2_34, .bool a2_35, .bool a2_36] 55 (0, 0)) (by (with_reducible repeat (first | refine blk_drewN ?_ _ | refine blk_drew ?_ | refine blk_alloc ?_ _)); exact BK288.out) hb); have n2_ := Aside0.mk (below_step (by repeat (first | (with_reducible first | exact HB.out | apply below_alloc | apply pw_below_drewN | apply below_drew1 | refine below_set ?_ GE287.out | refine below_set ?_ GE288.out) | exact HB.out)) hb); clear BK287; clear BK288; clear HB; have BK287 := n0_; have BK288 := n1_; have HB := n2_; clear n0_ n1_ n2_; (try clear hb); (try clear hb2); (try clear hk); (try clear hi)))
 (try simp only [Act.put, List.setIfInBounds_toArray, List.set_cons_zero, List.set_cons_succ])
 have H := HC6.out
 clear HC6
 replace H := Option.bind_eq_some_iff.mp H
 obtain ⟨⟨t290, t293⟩, A100, H⟩ := H
 replace H : (if t293.isNone = true then ((syms_Strings.f k l0 a1_0 a1_1 l1_2 l2_0 a2_1 a2_2 a2_3 a2_4 a2_5 a2_6 a2_7 a2_8 a2_9 a2_10 a2_11 a2_12 a2_13 a2_14 a2_15 a2_16 a2_17 a2_18 a2_19 a2_20 a2_21 a2_22 a2_23 a2_24 a2_25 a2_26 a2_27 a2_28 a2_29 a2_30 a2_31 a2_32 a2_33 a2_34 a2_35 a2_36).bind fun bt295 => (if bt295.2.isNone = true then (if (t290.length : Int) = a3 then (shacklelaw06_SymsStand.j0 k t289 t290 bt295.1 ((bt295.1.length : Int) == 0)) else (shacklelaw06_SymsStand.j0 k t289 t290 bt295.1 true)) else (shacklelaw06_SymsStand.j0 k t289 t290 bt295.1 true))) else (if t289 = true then (some ((t290.length : Int) == 0)) else (some false))) = some r := H
 have A10 := Aside0.mk A100
 clear A100
 have HC11 := Aside0.mk H
 clear H
 have hnb12 := NB287_288.out
 have hnc12 := NB288_287.out
 have hcz13_0 : w9.cell? ⟨gb287, 0, none⟩ = some (.int .i64 a1_0) := (blk_cell BK287.out 0).trans rfl
 have hcz13_1 : w9.cell? ⟨gb287, 1, none⟩ = some (.int .u64 a1_1) := (blk_cell BK287.out 1).trans rfl
 have hcz13_2 : w9.cell? ⟨gb287, 2, none⟩ = some (.slice A1_2 l1_2.length c1_2) := (blk_cell BK287.out 2).trans rfl
 have hfz13_0 := blk_frozen BK287.out 0
 have hfz13_1 := blk_frozen BK287.out 1
 have hfz13_2 := blk_frozen BK287.out 2
 have hcz14_0 : w9.cell? ⟨gb288, 0, none⟩ = some (.slice A2_0 l2_0.length c2_0) := (blk_cell BK288.out 0).trans rfl
 have hcz14_1 : w9.cell? ⟨gb288, 1, none⟩ = some (.int .u64 a2_1) := (blk_cell BK288.out 1).trans rfl
 have hcz14_2 : w9.cell? ⟨gb288, 2, none⟩ = some (.int .u64 a2_2) := (blk_cell BK288.out 2).trans rfl
 have hcz14_3 : w9.cell? ⟨gb288, 3, none⟩ = some (.int .u64 a2_3) := (blk_cell BK288.out 3).trans rfl
 have hcz14_4 : w9.cell? ⟨gb288, 4, none⟩ = some (.int .u64 a2_4) := (blk_cell BK288.out 4).trans rfl
 have hcz14_5 : w9.cell? ⟨gb288, 5, none⟩ = some (.int .u64 a2_5) := (blk_cell BK288.out 5).trans rfl
 have hcz14_6 : w9.cell? ⟨gb288, 6, none⟩ = some (.int .u64 a2_6) := (blk_cell BK288.out 6).trans rfl
 have hcz14_7 : w9.cell? ⟨gb288, 7, none⟩ = some (.int .u64 a2_7) := (blk_cell BK288.out 7).trans rfl
 have hcz14_8 : w9.cell? ⟨gb288, 8, none⟩ = some (.int .u64 a2_8) := (blk_cell BK288.out 8).trans rfl
 have hcz14_9 : w9.cell? ⟨gb288, 9, none⟩ = some (.int .u64 a2_9) := (blk_cell BK288.out 9).trans rfl
 have hcz14_10 : w9.cell? ⟨gb288, 10, none⟩ = some (.int .u64 a2_10) := (blk_cell BK288.out 10).trans rfl
 have hcz14_11 : w9.cell? ⟨gb288, 11, none⟩ = some (.int .u64 a2_11) := (blk_cell BK288.out 11).trans rfl
 have hcz14_12 : w9.cell? ⟨gb288, 12, none⟩ = some (.int .u64 a2_12) := (blk_cell BK288.out 12).trans rfl
 have hcz14_13 : w9.cell? ⟨gb288, 13, none⟩ = some (.int .u64 a2_13) := (blk_cell BK288.out 13).trans rfl
 have hcz14_14 : w9.cell? ⟨gb288, 14, none⟩ = some (.bool a2_14) := (blk_cell BK288.out 14).trans rfl
 have hcz14_15 : w9.cell? ⟨gb288, 15, none⟩ = some (.bool a2_15) := (blk_cell BK288.out 15).trans rfl
 have hcz14_16 : w9.cell? ⟨gb288, 16, none⟩ = some (.bool a2_16) := (blk_cell BK288.out 16).trans rfl
 have hcz14_17 : w9.cell? ⟨gb288, 17, none⟩ = some (.int .u64 a2_17) := (blk_cell BK288.out 17).trans rfl
 have hcz14_18 : w9.cell? ⟨gb288, 18, none⟩ = some (.int .u64 a2_18) := (blk_cell BK288.out 18).trans rfl
 have hcz14_19 : w9.cell? ⟨gb288, 19, none⟩ = some (.int .u64 a2_19) := (blk_cell BK288.out 19).trans rfl
 have hcz14_20 : w9.cell? ⟨gb288, 20, none⟩ = some (.int .u64 a2_20) := (blk_cell BK288.out 20).trans rfl
 have hcz14_21 : w9.cell? ⟨gb288, 21, none⟩ = some (.int .u64 a2_21) := (blk_cell BK288.out 21).trans rfl
 have hcz14_22 : w9.cell? ⟨gb288, 22, none⟩ = some (.int .u64 a2_22) := (blk_cell BK288.out 22).trans rfl
 have hcz14_23 : w9.cell? ⟨gb288, 23, none⟩ = some (.int .u64 a2_23) := (blk_cell BK288.out 23).trans rfl
 have hcz14_24 : w9.cell? ⟨gb288, 24, none⟩ = some (.int .u64 a2_24) := (blk_cell BK288.out 24).trans rfl
 have hcz14_25 : w9.cell? ⟨gb288, 25, none⟩ = some (.int .u64 a2_25) := (blk_cell BK288.out 25).trans rfl
 have hcz14_26 : w9.cell? ⟨gb288, 26, none⟩ = some (.int .u64 a2_26) := (blk_cell BK288.out 26).trans rfl
 have hcz14_27 : w9.cell? ⟨gb288, 27, none⟩ = some (.int .u64 a2_27) := (blk_cell BK288.out 27).trans rfl
 have hcz14_28 : w9.cell? ⟨gb288, 28, none⟩ = some (.int .u64 a2_28) := (blk_cell BK288.out 28).trans rfl
 have hcz14_29 : w9.cell? ⟨gb288, 29, none⟩ = some (.int .u64 a2_29) := (blk_cell BK288.out 29).trans rfl
 have hcz14_30 : w9.cell? ⟨gb288, 30, none⟩ = some (.int .u64 a2_30) := (blk_cell BK288.out 30).trans rfl
 have hcz14_31 : w9.cell? ⟨gb288, 31, none⟩ = some (.int .u64 a2_31) := (blk_cell BK288.out 31).trans rfl
 have hcz14_32 : w9.cell? ⟨gb288, 32, none⟩ = some (.bool a2_32) := (blk_cell BK288.out 32).trans rfl
 have hcz14_33 : w9.cell? ⟨gb288, 33, none⟩ = some (.bool a2_33) := (blk_cell BK288.out 33).trans rfl
 have hcz14_34 : w9.cell? ⟨gb288, 34, none⟩ = some (.bool a2_34) := (blk_cell BK288.out 34).trans rfl
 have hcz14_35 : w9.cell? ⟨gb288, 35, none⟩ = some (.bool a2_35) := (blk_cell BK288.out 35).trans rfl
 have hcz14_36 : w9.cell? ⟨gb288, 36, none⟩ = some (.bool a2_36) := (blk_cell BK288.out 36).trans rfl
 have hfz14_0 := blk_frozen BK288.out 0
 have hfz14_1 := blk_frozen BK288.out 1
 have hfz14_2 := blk_frozen BK288.out 2
 have hfz14_3 := blk_frozen BK288.out 3
 have hfz14_4 := blk_frozen BK288.out 4
 have hfz14_5 := blk_frozen BK288.out 5
 have hfz14_6 := blk_frozen BK288.out 6
 have hfz14_7 := blk_frozen BK288.out 7
 have hfz14_8 := blk_frozen BK288.out 8
 have hfz14_9 := blk_frozen BK288.out 9
 have hfz14_10 := blk_frozen BK288.out 10
 have hfz14_11 := blk_frozen BK288.out 11
 have hfz14_12 := blk_frozen BK288.out 12
 have hfz14_13 := blk_frozen BK288.out 13
 have hfz14_14 := blk_frozen BK288.out 14
 have hfz14_15 := blk_frozen BK288.out 15
 have hfz14_16 := blk_frozen BK288.out 16
 have hfz14_17 := blk_frozen BK288.out 17
 have hfz14_18 := blk_frozen BK288.out 18
 have hfz14_19 := blk_frozen BK288.out 19
 have hfz14_20 := blk_frozen BK288.out 20
 have hfz14_21 := blk_frozen BK288.out 21
 have hfz14_22 := blk_frozen BK288.out 22
 have hfz14_23 := blk_frozen BK288.out 23
 have hfz14_24 := blk_frozen BK288.out 24
 have hfz14_25 := blk_frozen BK288.out 25
 have hfz14_26 := blk_frozen BK288.out 26
 have hfz14_27 := blk_frozen BK288.out 27
 have hfz14_28 := blk_frozen BK288.out 28
 have hfz14_29 := blk_frozen BK288.out 29
 have hfz14_30 := blk_frozen BK288.out 30
 have hfz14_31 := blk_frozen BK288.out 31
 have hfz14_32 := blk_frozen BK288.out 32
 have hfz14_33 := blk_frozen BK288.out 33
 have hfz14_34 := blk_frozen BK288.out 34
 have hfz14_35 := blk_frozen BK288.out 35
 have hfz14_36 := blk_frozen BK288.out 36
 go_upto_region 3 with (first | ((with_reducible refine gate_ (.load 55 (.tmp 6)) rfl ?_); refine wpList_load_row rfl 55 (.tmp 6) rfl gb288 rfl 55 _ (0, 0) _ (by (with_reducible repeat (first | refine blk_drewN ?_ _ | refine blk_drew ?_ | refine blk_alloc ?_ _)); exact BK288.out) Try.underlying55 rfl (by kernel_rfl) ?_) | ((with_reducible refine gate_callee (f := 36) rfl ?_); refine goesL_ (some 24) rfl rfl Try.func36 (by kernel_rfl) rfl #[.slice A0 l0.length c0, .agg #[.int .i64 a1_0, .int .u64 a1_1, .slice A1_2 l1_2.length c1_2], .agg #[.slice A2_0 l2_0.length c2_0, .int .u64 a2_1, .int .u64 a2_2, .int .u64 a2_3, .int .u64 a2_4, .int .u64 a2_5, .int .u64 a2_6, .int .u64 a2_7, .int .u64 a2_8, .int .u64 a2_9, .int .u64 a2_10, .int .u64 a2_11, .int .u64 a2_12, .int .u64 a2_13, .bool a2_14, .bool a2_15, .bool a2_16, .int .u64 a2_17, .int .u64 a2_18, .int .u64 a2_19, .int .u64 a2_20, .int .u64 a2_21, .int .u64 a2_22, .int .u64 a2_23, .int .u64 a2_24, .int .u64 a2_25, .int .u64 a2_26, .int .u64 a2_27, .int .u64 a2_28, .int .u64 a2_29, .int .u64 a2_30, .int .u64 a2_31, .bool a2_32, .bool a2_33, .bool a2_34, .bool a2_35, .bool a2_36], .int .i64 a3] rfl (by (try simp only [List.map_toArray, List.map_cons, List.map_nil]); first | done | rfl | (simp only [List.length_drop, List.length_take]; rfl)) ?_; (with_reducible refine (syms_Read.calls k _ _ l0 a1_0 a1_1 _ _ l1_2 _ _ l2_0 a2_1 a2_2 a2_3 a2_4 a2_5 a2_6 a2_7 a2_8 a2_9 a2_10 a2_11 a2_12 a2_13 a2_14 a2_15 a2_16 a2_17 a2_18 a2_19 a2_20 a2_21 a2_22 a2_23 a2_24 a2_25 a2_26 a2_27 a2_28 a2_29 a2_30 a2_31 a2_32 a2_33 a2_34 a2_35 a2_36 a3 t290 t293 _ ?side1 ?side2 ?side3 ?side4 ?side5 ?side6 A10.out).mono ?_); (case side1 => repeat (first | exact (Kd.C_below HR0.out HB.out) | (with_reducible refine Kd.C_alloc ?_ _) | (with_reducible refine Kd.C_drewN ?_ _) | (with_reducible refine Kd.C_drew ?_))); (case side2 => exact HC0.out); (case side3 => repeat (first | exact (Kd.C_below HR1_2.out HB.out) | (with_reducible refine Kd.C_alloc ?_ _) | (with_reducible refine Kd.C_drewN ?_ _) | (with_reducible refine Kd.C_drew ?_))); (case side4 => exact HC1_2.out); (case side5 => repeat (first | exact (Kd.C_below HR2_0.out HB.out) | (with_reducible refine Kd.C_alloc ?_ _) | (with_reducible refine Kd.C_drewN ?_ _) | (with_reducible refine Kd.C_drew ?_))); (case side6 => exact HC2_0.out); rintro e w15 ⟨v291, rfl, ho0, hb⟩; refine ⟨_, rfl, ?_⟩; have n0_ := Aside0.mk (Kd.R_lower ho0 (below_size (by repeat (first | (with_reducible first | exact HB.out | apply below_alloc | apply pw_below_drewN | apply below_drew1 | refine below_set ?_ GE287.out | refine below_set ?_ GE288.out) | exact HB.out)))); have n1_ := Aside0.mk (blk_below (g := gb287) (o := .cells #[.int .i64 a1_0, .int .u64 a1_1, .slice A1_2 l1_2.length c1_2] 53 (0, 0)) (by (with_reducible repeat (first | refine blk_drewN ?_ _ | refine blk_drew ?_ | refine blk_alloc ?_ _)); exact BK287.out) hb); have n2_ := Aside0.mk (blk_below (g := gb288) (o := .cells #[.slice A2_0 l2_0.length c2_0, .int .u64 a2_1, .int .u64 a2_2, .int .u64 a2_3, .int .u64 a2_4, .int .u64 a2_5, .int .u64 a2_6, .int .u64 a2_7, .int .u64 a2_8, .int .u64 a2_9, .int .u64 a2_10, .int .u64 a2_11, .int .u64 a2_12, .int .u64 a2_13, .bool a2_14, .bool a2_15, .bool a2_16, .int .u64 a2_17, .int .u64 a2_18, .int .u64 a2_19, .int .u64 a2_20, .int .u64 a2_21, .int .u64 a2_22, .int .u64 a2_23, .int .u64 a2_24, .int .u64 a2_25, .int .u64 a2_26, .int .u64 a2_27, .int .u64 a2_28, .int .u64 a2_29, .int .u64 a2_30, .int .u64 a2_31, .bool a2_32, .bool a2_33, .bool a2_34, .bool a2_35, .bool a2_36] 55 (0, 0)) (by (with_reducible repeat (first | refine blk_drewN ?_ _ | refine blk_drew ?_ | refine blk_alloc ?_ _)); exact BK288.out) hb); have n3_ := Aside0.mk (below_step (by repeat (first | (with_reducible first | exact HB.out | apply below_alloc | apply pw_below_drewN | apply below_drew1 | refine below_set ?_ GE287.out | refine below_set ?_ GE288.out) | exact HB.out)) hb); clear BK287; clear BK288; clear HB; have HO292 := n0_; have BK287 := n1_; have BK288 := n2_; have HB := n3_; clear n0_ n1_ n2_ n3_; (try clear hb); (try clear hb2); (try clear hk); (try clear hi); (try clear ho0); (try simp only [errW_none, errW_some])))
 (try simp only [Act.put, List.setIfInBounds_toArray, List.set_cons_zero, List.set_cons_succ])
 have H := HC11.out
 clear HC11
 rcases t293 with _ | q294
 ·have H1 : ((syms_Strings.f k l0 a1_0 a1_1 l1_2 l2_0 a2_1 a2_2 a2_3 a2_4 a2_5 a2_6 a2_7 a2_8 a2_9 a2_10 a2_11 a2_12 a2_13 a2_14 a2_15 a2_16 a2_17 a2_18 a2_19 a2_20 a2_21 a2_22 a2_23 a2_24 a2_25 a2_26 a2_27 a2_28 a2_29 a2_30 a2_31 a2_32 a2_33 a2_34 a2_35 a2_36).bind fun bt295 => (if bt295.2.isNone = true then (if (t290.length : Int) = a3 then (shacklelaw06_SymsStand.j0 k t289 t290 bt295.1 ((bt295.1.length : Int) == 0)) else (shacklelaw06_SymsStand.j0 k t289 t290 bt295.1 true)) else (shacklelaw06_SymsStand.j0 k t289 t290 bt295.1 true))) = some r := by rw [if_pos (show (none : Option Int).isNone = true by rfl)] at H; exact H
  clear H
  have H := H1
  clear H1
  try simp only [errW_none, errW_some]
  replace H := Option.bind_eq_some_iff.mp H
  obtain ⟨⟨t295, t298⟩, A160, H⟩ := H
  replace H : (if t298.isNone = true then (if (t290.length : Int) = a3 then (shacklelaw06_SymsStand.j0 k t289 t290 t295 ((t295.length : Int) == 0)) else (shacklelaw06_SymsStand.j0 k t289 t290 t295 true)) else (shacklelaw06_SymsStand.j0 k t289 t290 t295 true)) = some r := H
  have A16 := Aside0.mk A160
  clear A160
  have HC17 := Aside0.mk H
  clear H
  have hnb18 := NB287_288.out
  have hnc18 := NB288_287.out
  have hcz19_0 : w15.cell? ⟨gb287, 0, none⟩ = some (.int .i64 a1_0) := (blk_cell BK287.out 0).trans rfl
  have hcz19_1 : w15.cell? ⟨gb287, 1, none⟩ = some (.int .u64 a1_1) := (blk_cell BK287.out 1).trans rfl
  have hcz19_2 : w15.cell? ⟨gb287, 2, none⟩ = some (.slice A1_2 l1_2.length c1_2) := (blk_cell BK287.out 2).trans rfl
  have hfz19_0 := blk_frozen BK287.out 0
  have hfz19_1 := blk_frozen BK287.out 1
  have hfz19_2 := blk_frozen BK287.out 2
  have hcz20_0 : w15.cell? ⟨gb288, 0, none⟩ = some (.slice A2_0 l2_0.length c2_0) := (blk_cell BK288.out 0).trans rfl
  have hcz20_1 : w15.cell? ⟨gb288, 1, none⟩ = some (.int .u64 a2_1) := (blk_cell BK288.out 1).trans rfl
  have hcz20_2 : w15.cell? ⟨gb288, 2, none⟩ = some (.int .u64 a2_2) := (blk_cell BK288.out 2).trans rfl
  have hcz20_3 : w15.cell? ⟨gb288, 3, none⟩ = some (.int .u64 a2_3) := (blk_cell BK288.out 3).trans rfl
  have hcz20_4 : w15.cell? ⟨gb288, 4, none⟩ = some (.int .u64 a2_4) := (blk_cell BK288.out 4).trans rfl
  have hcz20_5 : w15.cell? ⟨gb288, 5, none⟩ = some (.int .u64 a2_5) := (blk_cell BK288.out 5).trans rfl
  have hcz20_6 : w15.cell? ⟨gb288, 6, none⟩ = some (.int .u64 a2_6) := (blk_cell BK288.out 6).trans rfl
  have hcz20_7 : w15.cell? ⟨gb288, 7, none⟩ = some (.int .u64 a2_7) := (blk_cell BK288.out 7).trans rfl
  have hcz20_8 : w15.cell? ⟨gb288, 8, none⟩ = some (.int .u64 a2_8) := (blk_cell BK288.out 8).trans rfl
  have hcz20_9 : w15.cell? ⟨gb288, 9, none⟩ = some (.int .u64 a2_9) := (blk_cell BK288.out 9).trans rfl
  have hcz20_10 : w15.cell? ⟨gb288, 10, none⟩ = some (.int .u64 a2_10) := (blk_cell BK288.out 10).trans rfl
  have hcz20_11 : w15.cell? ⟨gb288, 11, none⟩ = some (.int .u64 a2_11) := (blk_cell BK288.out 11).trans rfl
  have hcz20_12 : w15.cell? ⟨gb288, 12, none⟩ = some (.int .u64 a2_12) := (blk_cell BK288.out 12).trans rfl
  have hcz20_13 : w15.cell? ⟨gb288, 13, none⟩ = some (.int .u64 a2_13) := (blk_cell BK288.out 13).trans rfl
  have hcz20_14 : w15.cell? ⟨gb288, 14, none⟩ = some (.bool a2_14) := (blk_cell BK288.out 14).trans rfl
  have hcz20_15 : w15.cell? ⟨gb288, 15, none⟩ = some (.bool a2_15) := (blk_cell BK288.out 15).trans rfl
  have hcz20_16 : w15.cell? ⟨gb288, 16, none⟩ = some (.bool a2_16) := (blk_cell BK288.out 16).trans rfl
  have hcz20_17 : w15.cell? ⟨gb288, 17, none⟩ = some (.int .u64 a2_17) := (blk_cell BK288.out 17).trans rfl
  have hcz20_18 : w15.cell? ⟨gb288, 18, none⟩ = some (.int .u64 a2_18) := (blk_cell BK288.out 18).trans rfl
  have hcz20_19 : w15.cell? ⟨gb288, 19, none⟩ = some (.int .u64 a2_19) := (blk_cell BK288.out 19).trans rfl
  have hcz20_20 : w15.cell? ⟨gb288, 20, none⟩ = some (.int .u64 a2_20) := (blk_cell BK288.out 20).trans rfl
  have hcz20_21 : w15.cell? ⟨gb288, 21, none⟩ = some (.int .u64 a2_21) := (blk_cell BK288.out 21).trans rfl
  have hcz20_22 : w15.cell? ⟨gb288, 22, none⟩ = some (.int .u64 a2_22) := (blk_cell BK288.out 22).trans rfl
  have hcz20_23 : w15.cell? ⟨gb288, 23, none⟩ = some (.int .u64 a2_23) := (blk_cell BK288.out 23).trans rfl
  have hcz20_24 : w15.cell? ⟨gb288, 24, none⟩ = some (.int .u64 a2_24) := (blk_cell BK288.out 24).trans rfl
  have hcz20_25 : w15.cell? ⟨gb288, 25, none⟩ = some (.int .u64 a2_25) := (blk_cell BK288.out 25).trans rfl
  have hcz20_26 : w15.cell? ⟨gb288, 26, none⟩ = some (.int .u64 a2_26) := (blk_cell BK288.out 26).trans rfl
  have hcz20_27 : w15.cell? ⟨gb288, 27, none⟩ = some (.int .u64 a2_27) := (blk_cell BK288.out 27).trans rfl
  have hcz20_28 : w15.cell? ⟨gb288, 28, none⟩ = some (.int .u64 a2_28) := (blk_cell BK288.out 28).trans rfl
  have hcz20_29 : w15.cell? ⟨gb288, 29, none⟩ = some (.int .u64 a2_29) := (blk_cell BK288.out 29).trans rfl
  have hcz20_30 : w15.cell? ⟨gb288, 30, none⟩ = some (.int .u64 a2_30) := (blk_cell BK288.out 30).trans rfl
  have hcz20_31 : w15.cell? ⟨gb288, 31, none⟩ = some (.int .u64 a2_31) := (blk_cell BK288.out 31).trans rfl
  have hcz20_32 : w15.cell? ⟨gb288, 32, none⟩ = some (.bool a2_32) := (blk_cell BK288.out 32).trans rfl
  have hcz20_33 : w15.cell? ⟨gb288, 33, none⟩ = some (.bool a2_33) := (blk_cell BK288.out 33).trans rfl
  have hcz20_34 : w15.cell? ⟨gb288, 34, none⟩ = some (.bool a2_34) := (blk_cell BK288.out 34).trans rfl
  have hcz20_35 : w15.cell? ⟨gb288, 35, none⟩ = some (.bool a2_35) := (blk_cell BK288.out 35).trans rfl
  have hcz20_36 : w15.cell? ⟨gb288, 36, none⟩ = some (.bool a2_36) := (blk_cell BK288.out 36).trans rfl
  have hfz20_0 := blk_frozen BK288.out 0
  have hfz20_1 := blk_frozen BK288.out 1
  have hfz20_2 := blk_frozen BK288.out 2
  have hfz20_3 := blk_frozen BK288.out 3
  have hfz20_4 := blk_frozen BK288.out 4
  have hfz20_5 := blk_frozen BK288.out 5
  have hfz20_6 := blk_frozen BK288.out 6
  have hfz20_7 := blk_frozen BK288.out 7
  have hfz20_8 := blk_frozen BK288.out 8
  have hfz20_9 := blk_frozen BK288.out 9
  have hfz20_10 := blk_frozen BK288.out 10
  have hfz20_11 := blk_frozen BK288.out 11
  have hfz20_12 := blk_frozen BK288.out 12
  have hfz20_13 := blk_frozen BK288.out 13
  have hfz20_14 := blk_frozen BK288.out 14
  have hfz20_15 := blk_frozen BK288.out 15
  have hfz20_16 := blk_frozen BK288.out 16
  have hfz20_17 := blk_frozen BK288.out 17
  have hfz20_18 := blk_frozen BK288.out 18
  have hfz20_19 := blk_frozen BK288.out 19
  have hfz20_20 := blk_frozen BK288.out 20
  have hfz20_21 := blk_frozen BK288.out 21
  have hfz20_22 := blk_frozen BK288.out 22
  have hfz20_23 := blk_frozen BK288.out 23
  have hfz20_24 := blk_frozen BK288.out 24
  have hfz20_25 := blk_frozen BK288.out 25
  have hfz20_26 := blk_frozen BK288.out 26
  have hfz20_27 := blk_frozen BK288.out 27
  have hfz20_28 := blk_frozen BK288.out 28
  have hfz20_29 := blk_frozen BK288.out 29
  have hfz20_30 := blk_frozen BK288.out 30
  have hfz20_31 := blk_frozen BK288.out 31
  have hfz20_32 := blk_frozen BK288.out 32
  have hfz20_33 := blk_frozen BK288.out 33
  have hfz20_34 := blk_frozen BK288.out 34
  have hfz20_35 := blk_frozen BK288.out 35
  have hfz20_36 := blk_frozen BK288.out 36
  go_upto_region 6 with (first | ((with_reducible refine gate_ (.load 55 (.tmp 6)) rfl ?_); refine wpList_load_row rfl 55 (.tmp 6) rfl gb288 rfl 55 _ (0, 0) _ (by (with_reducible repeat (first | refine blk_drewN ?_ _ | refine blk_drew ?_ | refine blk_alloc ?_ _)); exact BK288.out) Try.underlying55 rfl (by kernel_rfl) ?_) | ((with_reducible refine gate_callee (f := 34) rfl ?_); refine goesL_ (some 39) rfl rfl Try.func34 (by kernel_rfl) rfl #[.slice A0 l0.length c0, .agg #[.int .i64 a1_0, .int .u64 a1_1, .slice A1_2 l1_2.length c1_2], .agg #[.slice A2_0 l2_0.length c2_0, .int .u64 a2_1, .int .u64 a2_2, .int .u64 a2_3, .int .u64 a2_4, .int .u64 a2_5, .int .u64 a2_6, .int .u64 a2_7, .int .u64 a2_8, .int .u64 a2_9, .int .u64 a2_10, .int .u64 a2_11, .int .u64 a2_12, .int .u64 a2_13, .bool a2_14, .bool a2_15, .bool a2_16, .int .u64 a2_17, .int .u64 a2_18, .int .u64 a2_19, .int .u64 a2_20, .int .u64 a2_21, .int .u64 a2_22, .int .u64 a2_23, .int .u64 a2_24, .int .u64 a2_25, .int .u64 a2_26, .int .u64 a2_27, .int .u64 a2_28, .int .u64 a2_29, .int .u64 a2_30, .int .u64 a2_31, .bool a2_32, .bool a2_33, .bool a2_34, .bool a2_35, .bool a2_36]] rfl (by (try simp only [List.map_toArray, List.map_cons, List.map_nil]); first | done | rfl | (simp only [List.length_drop, List.length_take]; rfl)) ?_; (with_reducible refine (syms_Strings.calls k _ _ l0 a1_0 a1_1 _ _ l1_2 _ _ l2_0 a2_1 a2_2 a2_3 a2_4 a2_5 a2_6 a2_7 a2_8 a2_9 a2_10 a2_11 a2_12 a2_13 a2_14 a2_15 a2_16 a2_17 a2_18 a2_19 a2_20 a2_21 a2_22 a2_23 a2_24 a2_25 a2_26 a2_27 a2_28 a2_29 a2_30 a2_31 a2_32 a2_33 a2_34 a2_35 a2_36 t295 t298 _ ?side1 ?side2 ?side3 ?side4 ?side5 ?side6 A16.out).mono ?_); (case side1 => repeat (first | exact (Kd.C_below HR0.out HB.out) | (with_reducible refine Kd.C_alloc ?_ _) | (with_reducible refine Kd.C_drewN ?_ _) | (with_reducible refine Kd.C_drew ?_))); (case side2 => exact HC0.out); (case side3 => repeat (first | exact (Kd.C_below HR1_2.out HB.out) | (with_reducible refine Kd.C_alloc ?_ _) | (with_reducible refine Kd.C_drewN ?_ _) | (with_reducible refine Kd.C_drew ?_))); (case side4 => exact HC1_2.out); (case side5 => repeat (first | exact (Kd.C_below HR2_0.out HB.out) | (with_reducible refine Kd.C_alloc ?_ _) | (with_reducible refine Kd.C_drewN ?_ _) | (with_reducible refine Kd.C_drew ?_))); (case side6 => exact HC2_0.out); rintro e w21 ⟨v296, rfl, ho0, hb⟩; refine ⟨_, rfl, ?_⟩; have n0_ := Aside0.mk (Kd.R_below (by (with_reducible repeat (first | apply Kd.R_alloc | apply Kd.R_drewN | apply Kd.R_drew)); exact HO292.out) hb); have n1_ := Aside0.mk (Kd.V_lower (Kd.V_mono (ok' := fun k_ => some k_ ≠ (v291 : Value).ownBlock ∧ k_ ≠ gb287 ∧ k_ ≠ gb288) ho0 (fun k_ hk_ => ⟨(Kd.fresh' (Kd.R_lt (by (with_reducible repeat (first | apply Kd.R_alloc | apply Kd.R_drewN | apply Kd.R_drew)); exact HO292.out)) k_ hk_), (Kd.freshB (g := gb287) (o := .cells #[.int .i64 a1_0, .int .u64 a1_1, .slice A1_2 l1_2.length c1_2] 53 (0, 0)) (by (with_reducible repeat (first | refine blk_drewN ?_ _ | refine blk_drew ?_ | refine blk_alloc ?_ _)); exact BK287.out) k_ hk_), (Kd.freshB (g := gb288) (o := .cells #[.slice A2_0 l2_0.length c2_0, .int .u64 a2_1, .int .u64 a2_2, .int .u64 a2_3, .int .u64 a2_4, .int .u64 a2_5, .int .u64 a2_6, .int .u64 a2_7, .int .u64 a2_8, .int .u64 a2_9, .int .u64 a2_10, .int .u64 a2_11, .int .u64 a2_12, .int .u64 a2_13, .bool a2_14, .bool a2_15, .bool a2_16, .int .u64 a2_17, .int .u64 a2_18, .int .u64 a2_19, .int .u64 a2_20, .int .u64 a2_21, .int .u64 a2_22, .int .u64 a2_23, .int .u64 a2_24, .int .u64 a2_25, .int .u64 a2_26, .int .u64 a2_27, .int .u64 a2_28, .int .u64 a2_29, .int .u64 a2_30, .int .u64 a2_31, .bool a2_32, .bool a2_33, .bool a2_34, .bool a2_35, .bool a2_36] 55 (0, 0)) (by (with_reducible repeat (first | refine blk_drewN ?_ _ | refine blk_drew ?_ | refine blk_alloc ?_ _)); exact BK288.out) k_ hk_)⟩)) (below_size (by repeat (first | (with_reducible first | exact HB.out | apply below_alloc | apply pw_below_drewN | apply below_drew1 | refine below_set ?_ GE287.out | refine below_set ?_ GE288.out) | exact HB.out)))); have n2_ := Aside0.mk (blk_below (g := gb287) (o := .cells #[.int .i64 a1_0, .int .u64 a1_1, .slice A1_2 l1_2.length c1_2] 53 (0, 0)) (by (with_reducible repeat (first | refine blk_drewN ?_ _ | refine blk_drew ?_ | refine blk_alloc ?_ _)); exact BK287.out) hb); have n3_ := Aside0.mk (blk_below (g := gb288) (o := .cells #[.slice A2_0 l2_0.length c2_0, .int .u64 a2_1, .int .u64 a2_2, .int .u64 a2_3, .int .u64 a2_4, .int .u64 a2_5, .int .u64 a2_6, .int .u64 a2_7, .int .u64 a2_8, .int .u64 a2_9, .int .u64 a2_10, .int .u64 a2_11, .int .u64 a2_12, .int .u64 a2_13, .bool a2_14, .bool a2_15, .bool a2_16, .int .u64 a2_17, .int .u64 a2_18, .int .u64 a2_19, .int .u64 a2_20, .int .u64 a2_21, .int .u64 a2_22, .int .u64 a2_23, .int .u64 a2_24, .int .u64 a2_25, .int .u64 a2_26, .int .u64 a2_27, .int .u64 a2_28, .int .u64 a2_29, .int .u64 a2_30, .int .u64 a2_31, .bool a2_32, .bool a2_33, .bool a2_34, .bool a2_35, .bool a2_36] 55 (0, 0)) (by (with_reducible repeat (first | refine blk_drewN ?_ _ | refine blk_drew ?_ | refine blk_alloc ?_ _)); exact BK288.out) hb); have n4_ := Aside0.mk (below_step (by repeat (first | (with_reducible first | exact HB.out | apply below_alloc | apply pw_below_drewN | apply below_drew1 | refine below_set ?_ GE287.out | refine below_set ?_ GE288.out) | exact HB.out)) hb); clear HO292; clear BK287; clear BK288; clear HB; have HO292 := n0_; have HO297 := n1_; have BK287 := n2_; have BK288 := n3_; have HB := n4_; clear n0_ n1_ n2_ n3_ n4_; (try clear hb); (try clear hb2); (try clear hk); (try clear hi); (try clear ho0); (try simp only [errW_none, errW_some])))
  (try simp only [Act.put, List.setIfInBounds_toArray, List.set_cons_zero, List.set_cons_succ])
  have H := HC17.out
  clear HC17
  have HC22 := Aside0.mk H
  clear H
  go_upto_region 6 with (fail)
  go_cut [54] (fun v54 wc => ∃ (kq : Nat) (x54_21 : Bool), v54 = .bool x54_21 ∧ Aside0 (shacklelaw06_SymsStand.j0 kq t289 t290 t295 x54_21 = some r) ∧ Aside0 (kq ≤ k) ∧ Aside0 (Kd.R k68 68 wc w.heap.size (fun _ => True) v291 t290) ∧ Aside0 (Kd.V (Kd.int .u8) 5 wc w.heap.size (fun k_ => some k_ ≠ (v291 : Value).ownBlock ∧ k_ ≠ gb287 ∧ k_ ≠ gb288) v296 t295) ∧ Aside0 (wc.heap[gb287]? = some (.cells #[.int .i64 a1_0, .int .u64 a1_1, (.slice A1_2 l1_2.length c1_2)] 53 (0, 0))) ∧ Aside0 (wc.heap[gb288]? = some (.cells #[(.slice A2_0 l2_0.length c2_0), .int .u64 a2_1, .int .u64 a2_2, .int .u64 a2_3, .int .u64 a2_4, .int .u64 a2_5, .int .u64 a2_6, .int .u64 a2_7, .int .u64 a2_8, .int .u64 a2_9, .int .u64 a2_10, .int .u64 a2_11, .int .u64 a2_12, .int .u64 a2_13, .bool a2_14, .bool a2_15, .bool a2_16, .int .u64 a2_17, .int .u64 a2_18, .int .u64 a2_19, .int .u64 a2_20, .int .u64 a2_21, .int .u64 a2_22, .int .u64 a2_23, .int .u64 a2_24, .int .u64 a2_25, .int .u64 a2_26, .int .u64 a2_27, .int .u64 a2_28, .int .u64 a2_29, .int .u64 a2_30, .int .u64 a2_31, .bool a2_32, .bool a2_33, .bool a2_34, .bool a2_35, .bool a2_36] 55 (0, 0))) ∧ Aside0 (Below w.heap.size w wc))
  case first =>
   have H := HC22.out
   clear HC22
   rcases t298 with _ | q299
   ·have H1 : (if (t290.length : Int) = a3 then (shacklelaw06_SymsStand.j0 k t289 t290 t295 ((t295.length : Int) == 0)) else (shacklelaw06_SymsStand.j0 k t289 t290 t295 true)) = some r := by rw [if_pos (show (none : Option Int).isNone = true by rfl)] at H; exact H
    clear H
    have H := H1
    clear H1
    try simp only [errW_none, errW_some]
    by_cases c23 : (t290.length : Int) = a3
    ·rw [if_pos c23] at H
     have c23b0 : ((t290.length : Int) == a3) = true := beq_iff_eq.mpr c23
     have c23b1 : ((t290.length : Int) != a3) = false := bne_eq_false_iff_eq.mpr c23
     clear c23
     (first | rw [c23b0] | (simp only [i64_w, i32_w]; rw [c23b0]) | skip)
     have H' := Aside0.mk H
     clear H
     obtain ⟨Ao24, co24, eo24⟩ := Kd.R_slice HO292.out
     subst eo24
     obtain ⟨Ao25, co25, eo25⟩ := Kd.V_slice HO297.out
     subst eo25
     go_wp2
     go_meet
     case rel => exact ⟨_, (((t295.length : Int) == 0)), (by first | rfl | (simp; done) | (simp [*]; done)), H', ⟨by first | omega | exact Nat.le_refl _⟩, ⟨by (with_reducible repeat (first | apply Kd.R_alloc | apply Kd.R_drewN | apply Kd.R_drew)); exact HO292.out⟩, ⟨by (with_reducible repeat (first | apply Kd.V_alloc | apply Kd.V_drewN | apply Kd.V_drew)); exact HO297.out⟩, ⟨by (with_reducible repeat (first | refine blk_drewN ?_ _ | refine blk_drew ?_ | refine blk_alloc ?_ _)); exact BK287.out⟩, ⟨by (with_reducible repeat (first | refine blk_drewN ?_ _ | refine blk_drew ?_ | refine blk_alloc ?_ _)); exact BK288.out⟩, ⟨by repeat (first | (with_reducible first | exact HB.out | apply below_alloc | apply pw_below_drewN | apply below_drew1 | refine below_set ?_ GE287.out | refine below_set ?_ GE288.out) | exact HB.out)⟩⟩
    ·rw [if_neg c23] at H
     have c23b0 : ((t290.length : Int) == a3) = false := beq_eq_false_iff_ne.mpr c23
     have c23b1 : ((t290.length : Int) != a3) = true := bne_iff_ne.mpr c23
     (first | rw [c23b0] | (simp only [i64_w, i32_w]; rw [c23b0]) | skip)
     have H' := Aside0.mk H
     clear H
     obtain ⟨Ao26, co26, eo26⟩ := Kd.R_slice HO292.out
     subst eo26
     go_wp2
     go_meet
     case rel => exact ⟨_, (true), (by first | rfl | (simp; done) | (simp [*]; done)), H', ⟨by first | omega | exact Nat.le_refl _⟩, ⟨by (with_reducible repeat (first | apply Kd.R_alloc | apply Kd.R_drewN | apply Kd.R_drew)); exact HO292.out⟩, ⟨by (with_reducible repeat (first | apply Kd.V_alloc | apply Kd.V_drewN | apply Kd.V_drew)); exact HO297.out⟩, ⟨by (with_reducible repeat (first | refine blk_drewN ?_ _ | refine blk_drew ?_ | refine blk_alloc ?_ _)); exact BK287.out⟩, ⟨by (with_reducible repeat (first | refine blk_drewN ?_ _ | refine blk_drew ?_ | refine blk_alloc ?_ _)); exact BK288.out⟩, ⟨by repeat (first | (with_reducible first | exact HB.out | apply below_alloc | apply pw_below_drewN | apply below_drew1 | refine below_set ?_ GE287.out | refine below_set ?_ GE288.out) | exact HB.out)⟩⟩
   ·have H1 : (shacklelaw06_SymsStand.j0 k t289 t290 t295 true) = some r := by rw [if_neg (show ¬ (some q299).isNone = true by simp)] at H; exact H
    clear H
    have H := H1
    clear H1
    try simp only [errW_none, errW_some]
    have H' := Aside0.mk H
    clear H
    go_wp2
    go_meet
    case rel => exact ⟨_, (true), (by first | rfl | (simp; done) | (simp [*]; done)), H', ⟨by first | omega | exact Nat.le_refl _⟩, ⟨by (with_reducible repeat (first | apply Kd.R_alloc | apply Kd.R_drewN | apply Kd.R_drew)); exact HO292.out⟩, ⟨by (with_reducible repeat (first | apply Kd.V_alloc | apply Kd.V_drewN | apply Kd.V_drew)); exact HO297.out⟩, ⟨by (with_reducible repeat (first | refine blk_drewN ?_ _ | refine blk_drew ?_ | refine blk_alloc ?_ _)); exact BK287.out⟩, ⟨by (with_reducible repeat (first | refine blk_drewN ?_ _ | refine blk_drew ?_ | refine blk_alloc ?_ _)); exact BK288.out⟩, ⟨by repeat (first | (with_reducible first | exact HB.out | apply below_alloc | apply pw_below_drewN | apply below_drew1 | refine below_set ?_ GE287.out | refine below_set ?_ GE288.out) | exact HB.out)⟩⟩
  case rest =>
   clear HC22
   try clear c1
   try clear c2
   try clear p2
   try clear q2
   try clear c3
   try clear c12
   try clear c13
   try clear c18
   try clear c23
   try clear c23b0
   try clear c23b1
   try clear hcz13_0
   try clear hcz13_1
   try clear hcz13_2
   try clear hcz14_0
   try clear hcz14_1
   try clear hcz14_10
   try clear hcz14_11
   try clear hcz14_12
   try clear hcz14_13
   try clear hcz14_14
   try clear hcz14_15
   try clear hcz14_16
   try clear hcz14_17
   try clear hcz14_18
   try clear hcz14_19
   try clear hcz14_2
   try clear hcz14_20
   try clear hcz14_21
   try clear hcz14_22
   try clear hcz14_23
   try clear hcz14_24
   try clear hcz14_25
   try clear hcz14_26
   try clear hcz14_27
   try clear hcz14_28
   try clear hcz14_29
   try clear hcz14_3
   try clear hcz14_30
   try clear hcz14_31
   try clear hcz14_32
   try clear hcz14_33
   try clear hcz14_34
   try clear hcz14_35
   try clear hcz14_36
   try clear hcz14_4
   try clear hcz14_5
   try clear hcz14_6
   try clear hcz14_7
   try clear hcz14_8
   try clear hcz14_9
   try clear hcz19_0
   try clear hcz19_1
   try clear hcz19_2
   try clear hcz20_0
   try clear hcz20_1
   try clear hcz20_10
   try clear hcz20_11
   try clear hcz20_12
   try clear hcz20_13
   try clear hcz20_14
   try clear hcz20_15
   try clear hcz20_16
   try clear hcz20_17
   try clear hcz20_18
   try clear hcz20_19
   try clear hcz20_2
   try clear hcz20_20
   try clear hcz20_21
   try clear hcz20_22
   try clear hcz20_23
   try clear hcz20_24
   try clear hcz20_25
   try clear hcz20_26
   try clear hcz20_27
   try clear hcz20_28
   try clear hcz20_29
   try clear hcz20_3
   try clear hcz20_30
   try clear hcz20_31
   try clear hcz20_32
   try clear hcz20_33
   try clear hcz20_34
   try clear hcz20_35
   try clear hcz20_36
   try clear hcz20_4
   try clear hcz20_5
   try clear hcz20_6
   try clear hcz20_7
   try clear hcz20_8
   try clear hcz20_9
   try clear hfz13_0
   try clear hfz13_1
   try clear hfz13_2
   try clear hfz14_0
   try clear hfz14_1
   try clear hfz14_10
   try clear hfz14_11
   try clear hfz14_12
   try clear hfz14_13
   try clear hfz14_14
   try clear hfz14_15
   try clear hfz14_16
   try clear hfz14_17
   try clear hfz14_18
   try clear hfz14_19
   try clear hfz14_2
   try clear hfz14_20
   try clear hfz14_21
   try clear hfz14_22
   try clear hfz14_23
   try clear hfz14_24
   try clear hfz14_25
   try clear hfz14_26
   try clear hfz14_27
   try clear hfz14_28
   try clear hfz14_29
   try clear hfz14_3
   try clear hfz14_30
   try clear hfz14_31
   try clear hfz14_32
   try clear hfz14_33
   try clear hfz14_34
   try clear hfz14_35
   try clear hfz14_36
   try clear hfz14_4
   try clear hfz14_5
   try clear hfz14_6
   try clear hfz14_7
   try clear hfz14_8
   try clear hfz14_9
   try clear hfz19_0
   try clear hfz19_1
   try clear hfz19_2
   try clear hfz20_0
   try clear hfz20_1
   try clear hfz20_10
   try clear hfz20_11
   try clear hfz20_12
   try clear hfz20_13
   try clear hfz20_14
   try clear hfz20_15
   try clear hfz20_16
   try clear hfz20_17
   try clear hfz20_18
   try clear hfz20_19
   try clear hfz20_2
   try clear hfz20_20
   try clear hfz20_21
   try clear hfz20_22
   try clear hfz20_23
   try clear hfz20_24
   try clear hfz20_25
   try clear hfz20_26
   try clear hfz20_27
   try clear hfz20_28
   try clear hfz20_29
   try clear hfz20_3
   try clear hfz20_30
   try clear hfz20_31
   try clear hfz20_32
   try clear hfz20_33
   try clear hfz20_34
   try clear hfz20_35
   try clear hfz20_36
   try clear hfz20_4
   try clear hfz20_5
   try clear hfz20_6
   try clear hfz20_7
   try clear hfz20_8
   try clear hfz20_9
   try clear q294
   try clear q299
   obtain ⟨kq, x54_21, rfl, HA, HJ21, HO_10, HO_12, BK287, BK288, HB⟩ := hcut
   cases kq with
   | zero => exact absurd HA.out (by simp [shacklelaw06_SymsStand.j0])
   | succ kj21 =>
    have H := HA.out
    clear HA
    simp only [shacklelaw06_SymsStand.j0] at H
    by_cases c27 : x54_21 = true
    ·subst c27
     have H1 : (some false) = some r := by rw [if_pos rfl] at H; exact H
     clear H
     have H := H1
     clear H1
     obtain rfl := Option.some.inj H
     go_wp2
     go_ret
     exact ⟨by first | rfl | (simp [errW_none, errW_some] <;> rfl) | (simp [*, errW_none, errW_some] <;> rfl), by repeat (first | (with_reducible first | exact HB.out | apply below_alloc | apply pw_below_drewN | apply below_drew1 | refine below_set ?_ GE287.out | refine below_set ?_ GE288.out) | exact HB.out)⟩
    ·replace c27 := Bool.eq_false_iff.mpr c27
     subst c27
     have H1 : (shacklelaw06_SymsStand.l0 kj21 t289 t290 t295 0) = some r := by rw [if_neg (show ¬ (false = true) by decide)] at H; exact H
     clear H
     have H := H1
     clear H1
     have H' := Aside0.mk H
     clear H
     go_wp2
     go_loopg [14] kj21 (fun kq v14 w' => ∃ (x14_2 : Int), v14 = .int .i64 x14_2 ∧ Aside0 (shacklelaw06_SymsStand.l0 kq t289 t290 t295 x14_2 = some r) ∧ Aside0 (kq ≤ kj21) ∧ Aside0 (Kd.R k68 68 w' w.heap.size (fun _ => True) v291 t290) ∧ Aside0 (Kd.V (Kd.int .u8) 5 w' w.heap.size (fun k_ => some k_ ≠ (v291 : Value).ownBlock ∧ k_ ≠ gb287 ∧ k_ ≠ gb288) v296 t295) ∧ Aside0 (w'.heap[gb287]? = some (.cells #[.int .i64 a1_0, .int .u64 a1_1, (.slice A1_2 l1_2.length c1_2)] 53 (0, 0))) ∧ Aside0 (w'.heap[gb288]? = some (.cells #[(.slice A2_0 l2_0.length c2_0), .int .u64 a2_1, .int .u64 a2_2, .int .u64 a2_3, .int .u64 a2_4, .int .u64 a2_5, .int .u64 a2_6, .int .u64 a2_7, .int .u64 a2_8, .int .u64 a2_9, .int .u64 a2_10, .int .u64 a2_11, .int .u64 a2_12, .int .u64 a2_13, .bool a2_14, .bool a2_15, .bool a2_16, .int .u64 a2_17, .int .u64 a2_18, .int .u64 a2_19, .int .u64 a2_20, .int .u64 a2_21, .int .u64 a2_22, .int .u64 a2_23, .int .u64 a2_24, .int .u64 a2_25, .int .u64 a2_26, .int .u64 a2_27, .int .u64 a2_28, .int .u64 a2_29, .int .u64 a2_30, .int .u64 a2_31, .bool a2_32, .bool a2_33, .bool a2_34, .bool a2_35, .bool a2_36] 55 (0, 0))) ∧ Aside0 (Below w.heap.size w w'))
     case atStart => exact ⟨(0), (by first | rfl | (simp; done) | (simp [*]; done)), H', ⟨Nat.le_refl _⟩, ⟨by (with_reducible repeat (first | apply Kd.R_alloc | apply Kd.R_drewN | apply Kd.R_drew)); exact HO_10.out⟩, ⟨by (with_reducible repeat (first | apply Kd.V_alloc | apply Kd.V_drewN | apply Kd.V_drew)); exact HO_12.out⟩, ⟨by (with_reducible repeat (first | refine blk_drewN ?_ _ | refine blk_drew ?_ | refine blk_alloc ?_ _)); exact BK287.out⟩, ⟨by (with_reducible repeat (first | refine blk_drewN ?_ _ | refine blk_drew ?_ | refine blk_alloc ?_ _)); exact BK288.out⟩, ⟨by repeat (first | (with_reducible first | exact HB.out | apply below_alloc | apply pw_below_drewN | apply below_drew1 | refine below_set ?_ GE287.out | refine below_set ?_ GE288.out) | exact HB.out)⟩⟩
     case round =>
      clear H'
      try clear c1
      try clear c2
      try clear p2
      try clear q2
      try clear c3
      try clear c12
      try clear c13
      try clear c18
      try clear c23
      try clear c23b0
      try clear c23b1
      try clear c27
      try clear hcz13_0
      try clear hcz13_1
      try clear hcz13_2
      try clear hcz14_0
      try clear hcz14_1
      try clear hcz14_10
      try clear hcz14_11
      try clear hcz14_12
      try clear hcz14_13
      try clear hcz14_14
      try clear hcz14_15
      try clear hcz14_16
      try clear hcz14_17
      try clear hcz14_18
      try clear hcz14_19
      try clear hcz14_2
      try clear hcz14_20
      try clear hcz14_21
      try clear hcz14_22
      try clear hcz14_23
      try clear hcz14_24
      try clear hcz14_25
      try clear hcz14_26
      try clear hcz14_27
      try clear hcz14_28
      try clear hcz14_29
      try clear hcz14_3
      try clear hcz14_30
      try clear hcz14_31
      try clear hcz14_32
      try clear hcz14_33
      try clear hcz14_34
      try clear hcz14_35
      try clear hcz14_36
      try clear hcz14_4
      try clear hcz14_5
      try clear hcz14_6
      try clear hcz14_7
      try clear hcz14_8
      try clear hcz14_9
      try clear hcz19_0
      try clear hcz19_1
      try clear hcz19_2
      try clear hcz20_0
      try clear hcz20_1
      try clear hcz20_10
      try clear hcz20_11
      try clear hcz20_12
      try clear hcz20_13
      try clear hcz20_14
      try clear hcz20_15
      try clear hcz20_16
      try clear hcz20_17
      try clear hcz20_18
      try clear hcz20_19
      try clear hcz20_2
      try clear hcz20_20
      try clear hcz20_21
      try clear hcz20_22
      try clear hcz20_23
      try clear hcz20_24
      try clear hcz20_25
      try clear hcz20_26
      try clear hcz20_27
      try clear hcz20_28
      try clear hcz20_29
      try clear hcz20_3
      try clear hcz20_30
      try clear hcz20_31
      try clear hcz20_32
      try clear hcz20_33
      try clear hcz20_34
      try clear hcz20_35
      try clear hcz20_36
      try clear hcz20_4
      try clear hcz20_5
      try clear hcz20_6
      try clear hcz20_7
      try clear hcz20_8
      try clear hcz20_9
      try clear hfz13_0
      try clear hfz13_1
      try clear hfz13_2
      try clear hfz14_0
      try clear hfz14_1
      try clear hfz14_10
      try clear hfz14_11
      try clear hfz14_12
      try clear hfz14_13
      try clear hfz14_14
      try clear hfz14_15
      try clear hfz14_16
      try clear hfz14_17
      try clear hfz14_18
      try clear hfz14_19
      try clear hfz14_2
      try clear hfz14_20
      try clear hfz14_21
      try clear hfz14_22
      try clear hfz14_23
      try clear hfz14_24
      try clear hfz14_25
      try clear hfz14_26
      try clear hfz14_27
      try clear hfz14_28
      try clear hfz14_29
      try clear hfz14_3
      try clear hfz14_30
      try clear hfz14_31
      try clear hfz14_32
      try clear hfz14_33
      try clear hfz14_34
      try clear hfz14_35
      try clear hfz14_36
      try clear hfz14_4
      try clear hfz14_5
      try clear hfz14_6
      try clear hfz14_7
      try clear hfz14_8
      try clear hfz14_9
      try clear hfz19_0
      try clear hfz19_1
      try clear hfz19_2
      try clear hfz20_0
      try clear hfz20_1
      try clear hfz20_10
      try clear hfz20_11
      try clear hfz20_12
      try clear hfz20_13
      try clear hfz20_14
      try clear hfz20_15
      try clear hfz20_16
      try clear hfz20_17
      try clear hfz20_18
      try clear hfz20_19
      try clear hfz20_2
      try clear hfz20_20
      try clear hfz20_21
      try clear hfz20_22
      try clear hfz20_23
      try clear hfz20_24
      try clear hfz20_25
      try clear hfz20_26
      try clear hfz20_27
      try clear hfz20_28
      try clear hfz20_29
      try clear hfz20_3
      try clear hfz20_30
      try clear hfz20_31
      try clear hfz20_32
      try clear hfz20_33
      try clear hfz20_34
      try clear hfz20_35
      try clear hfz20_36
      try clear hfz20_4
      try clear hfz20_5
      try clear hfz20_6
      try clear hfz20_7
      try clear hfz20_8
      try clear hfz20_9
      try clear p2
      try clear q2
      try clear q294
      try clear q299
      obtain ⟨x14_2, rfl, HA, HK2, HO_10, HO_12, BK287, BK288, HB⟩ := hrel
      cases gk with
      | zero => exact absurd HA.out (by simp [shacklelaw06_SymsStand.l0])
      | succ k2 =>
       have H := HA.out
       clear HA
       simp only [shacklelaw06_SymsStand.l0] at H
       have HC28 := Aside0.mk H
       clear H
       go_upto_region 9 with (fail)
       go_cut [62] (fun v62 wc => ∃ (kq : Nat) (x62_27 : Bool), v62 = .bool x62_27 ∧ Aside0 (shacklelaw06_SymsStand.j2 kq t289 t290 t295 x14_2 x62_27 = some r) ∧ Aside0 (kq ≤ k2) ∧ Aside0 (Kd.R k68 68 wc w.heap.size (fun _ => True) v291 t290) ∧ Aside0 (Kd.V (Kd.int .u8) 5 wc w.heap.size (fun k_ => some k_ ≠ (v291 : Value).ownBlock ∧ k_ ≠ gb287 ∧ k_ ≠ gb288) v296 t295) ∧ Aside0 (wc.heap[gb287]? = some (.cells #[.int .i64 a1_0, .int .u64 a1_1, (.slice A1_2 l1_2.length c1_2)] 53 (0, 0))) ∧ Aside0 (wc.heap[gb288]? = some (.cells #[(.slice A2_0 l2_0.length c2_0), .int .u64 a2_1, .int .u64 a2_2, .int .u64 a2_3, .int .u64 a2_4, .int .u64 a2_5, .int .u64 a2_6, .int .u64 a2_7, .int .u64 a2_8, .int .u64 a2_9, .int .u64 a2_10, .int .u64 a2_11, .int .u64 a2_12, .int .u64 a2_13, .bool a2_14, .bool a2_15, .bool a2_16, .int .u64 a2_17, .int .u64 a2_18, .int .u64 a2_19, .int .u64 a2_20, .int .u64 a2_21, .int .u64 a2_22, .int .u64 a2_23, .int .u64 a2_24, .int .u64 a2_25, .int .u64 a2_26, .int .u64 a2_27, .int .u64 a2_28, .int .u64 a2_29, .int .u64 a2_30, .int .u64 a2_31, .bool a2_32, .bool a2_33, .bool a2_34, .bool a2_35, .bool a2_36] 55 (0, 0))) ∧ Aside0 (Below w.heap.size w wc))
       case first =>
        have H := HC28.out
        clear HC28
        by_cases c29 : x14_2 < (t290.length : Int)
        ·rw [if_pos c29] at H
         have c29b0 : decide (x14_2 < (t290.length : Int)) = true := decide_eq_true c29
         clear c29
         (first | rw [c29b0] | (simp only [i64_w, i32_w]; rw [c29b0]) | skip)
         have H' := Aside0.mk H
         clear H
         obtain ⟨Ao30, co30, eo30⟩ := Kd.R_slice HO_10.out
         subst eo30
         go_wp2
         go_meet
         case rel => exact ⟨_, (decide (x14_2 < 50)), (by first | rfl | (simp; done) | (simp [*]; done)), H', ⟨by have := HJ21.out; have := HK2.out; first | omega | exact Nat.le_refl _⟩, ⟨by (with_reducible repeat (first | apply Kd.R_alloc | apply Kd.R_drewN | apply Kd.R_drew)); exact HO_10.out⟩, ⟨by (with_reducible repeat (first | apply Kd.V_alloc | apply Kd.V_drewN | apply Kd.V_drew)); exact HO_12.out⟩, ⟨by (with_reducible repeat (first | refine blk_drewN ?_ _ | refine blk_drew ?_ | refine blk_alloc ?_ _)); exact BK287.out⟩, ⟨by (with_reducible repeat (first | refine blk_drewN ?_ _ | refine blk_drew ?_ | refine blk_alloc ?_ _)); exact BK288.out⟩, ⟨by repeat (first | (with_reducible first | exact HB.out | apply below_alloc | apply pw_below_drewN | apply below_drew1 | refine below_set ?_ GE287.out | refine below_set ?_ GE288.out) | exact HB.out)⟩⟩
        ·rw [if_neg c29] at H
         have c29b0 : decide (x14_2 < (t290.length : Int)) = false := decide_eq_false c29
         clear c29
         (first | rw [c29b0] | (simp only [i64_w, i32_w]; rw [c29b0]) | skip)
         have H' := Aside0.mk H
         clear H
         obtain ⟨Ao31, co31, eo31⟩ := Kd.R_slice HO_10.out
         subst eo31
         go_wp2
         go_meet
         case rel => exact ⟨_, (false), (by first | rfl | (simp; done) | (simp [*]; done)), H', ⟨by have := HJ21.out; have := HK2.out; first | omega | exact Nat.le_refl _⟩, ⟨by (with_reducible repeat (first | apply Kd.R_alloc | apply Kd.R_drewN | apply Kd.R_drew)); exact HO_10.out⟩, ⟨by (with_reducible repeat (first | apply Kd.V_alloc | apply Kd.V_drewN | apply Kd.V_drew)); exact HO_12.out⟩, ⟨by (with_reducible repeat (first | refine blk_drewN ?_ _ | refine blk_drew ?_ | refine blk_alloc ?_ _)); exact BK287.out⟩, ⟨by (with_reducible repeat (first | refine blk_drewN ?_ _ | refine blk_drew ?_ | refine blk_alloc ?_ _)); exact BK288.out⟩, ⟨by repeat (first | (with_reducible first | exact HB.out | apply below_alloc | apply pw_below_drewN | apply below_drew1 | refine below_set ?_ GE287.out | refine below_set ?_ GE288.out) | exact HB.out)⟩⟩
       case rest =>
        clear HC28
        try clear c1
        try clear c2
        try clear p2
        try clear q2
        try clear c3
        try clear c12
        try clear c13
        try clear c18
        try clear c23
        try clear c23b0
        try clear c23b1
        try clear c27
        try clear c29
        try clear c29b0
        try clear q29
        try clear hcz13_0
        try clear hcz13_1
        try clear hcz13_2
        try clear hcz14_0
        try clear hcz14_1
        try clear hcz14_10
        try clear hcz14_11
        try clear hcz14_12
        try clear hcz14_13
        try clear hcz14_14
        try clear hcz14_15
        try clear hcz14_16
        try clear hcz14_17
        try clear hcz14_18
        try clear hcz14_19
        try clear hcz14_2
        try clear hcz14_20
        try clear hcz14_21
        try clear hcz14_22
        try clear hcz14_23
        try clear hcz14_24
        try clear hcz14_25
        try clear hcz14_26
        try clear hcz14_27
        try clear hcz14_28
        try clear hcz14_29
        try clear hcz14_3
        try clear hcz14_30
        try clear hcz14_31
        try clear hcz14_32
        try clear hcz14_33
        try clear hcz14_34
        try clear hcz14_35
        try clear hcz14_36
        try clear hcz14_4
        try clear hcz14_5
        try clear hcz14_6
        try clear hcz14_7
        try clear hcz14_8
        try clear hcz14_9
        try clear hcz19_0
        try clear hcz19_1
        try clear hcz19_2
        try clear hcz20_0
        try clear hcz20_1
        try clear hcz20_10
        try clear hcz20_11
        try clear hcz20_12
        try clear hcz20_13
        try clear hcz20_14
        try clear hcz20_15
        try clear hcz20_16
        try clear hcz20_17
        try clear hcz20_18
        try clear hcz20_19
        try clear hcz20_2
        try clear hcz20_20
        try clear hcz20_21
        try clear hcz20_22
        try clear hcz20_23
        try clear hcz20_24
        try clear hcz20_25
        try clear hcz20_26
        try clear hcz20_27
        try clear hcz20_28
        try clear hcz20_29
        try clear hcz20_3
        try clear hcz20_30
        try clear hcz20_31
        try clear hcz20_32
        try clear hcz20_33
        try clear hcz20_34
        try clear hcz20_35
        try clear hcz20_36
        try clear hcz20_4
        try clear hcz20_5
        try clear hcz20_6
        try clear hcz20_7
        try clear hcz20_8
        try clear hcz20_9
        try clear hfz13_0
        try clear hfz13_1
        try clear hfz13_2
        try clear hfz14_0
        try clear hfz14_1
        try clear hfz14_10
        try clear hfz14_11
        try clear hfz14_12
        try clear hfz14_13
        try clear hfz14_14
        try clear hfz14_15
        try clear hfz14_16
        try clear hfz14_17
        try clear hfz14_18
        try clear hfz14_19
        try clear hfz14_2
        try clear hfz14_20
        try clear hfz14_21
        try clear hfz14_22
        try clear hfz14_23
        try clear hfz14_24
        try clear hfz14_25
        try clear hfz14_26
        try clear hfz14_27
        try clear hfz14_28
        try clear hfz14_29
        try clear hfz14_3
        try clear hfz14_30
        try clear hfz14_31
        try clear hfz14_32
        try clear hfz14_33
        try clear hfz14_34
        try clear hfz14_35
        try clear hfz14_36
        try clear hfz14_4
        try clear hfz14_5
        try clear hfz14_6
        try clear hfz14_7
        try clear hfz14_8
        try clear hfz14_9
        try clear hfz19_0
        try clear hfz19_1
        try clear hfz19_2
        try clear hfz20_0
        try clear hfz20_1
        try clear hfz20_10
        try clear hfz20_11
        try clear hfz20_12
        try clear hfz20_13
        try clear hfz20_14
        try clear hfz20_15
        try clear hfz20_16
        try clear hfz20_17
        try clear hfz20_18
        try clear hfz20_19
        try clear hfz20_2
        try clear hfz20_20
        try clear hfz20_21
        try clear hfz20_22
        try clear hfz20_23
        try clear hfz20_24
        try clear hfz20_25
        try clear hfz20_26
        try clear hfz20_27
        try clear hfz20_28
        try clear hfz20_29
        try clear hfz20_3
        try clear hfz20_30
        try clear hfz20_31
        try clear hfz20_32
        try clear hfz20_33
        try clear hfz20_34
        try clear hfz20_35
        try clear hfz20_36
        try clear hfz20_4
        try clear hfz20_5
        try clear hfz20_6
        try clear hfz20_7
        try clear hfz20_8
        try clear hfz20_9
        try clear p2
        try clear q2
        try clear q294
        try clear q299
        obtain ⟨kq, x62_27, rfl, HA, HJ27, HO_10, HO_12, BK287, BK288, HB⟩ := hcut
        cases kq with
        | zero => exact absurd HA.out (by simp [shacklelaw06_SymsStand.j2])
        | succ kj27 =>
         have H := HA.out
         clear HA
         simp only [shacklelaw06_SymsStand.j2] at H
         by_cases c32 : x62_27 = true
         ·subst c32
          have H1 : (if 0 ≤ x14_2 then (if x14_2 < (t290.length : Int) then (shacklelaw06_SymsStand.l1 kj27 t289 t290 t295 x14_2 false ((rd_T68 t290 x14_2).f0) 0) else (none)) else (none)) = some r := by rw [if_pos rfl] at H; exact H
          clear H
          have H := H1
          clear H1
          by_cases c33 : 0 ≤ x14_2
          ·rw [if_pos c33] at H
           have c33b0 : decide (0 ≤ x14_2) = true := decide_eq_true c33
           clear c33
           by_cases c34 : x14_2 < (t290.length : Int)
           ·rw [if_pos c34] at H
            have c34b0 : decide (x14_2 < (t290.length : Int)) = true := decide_eq_true c34
            clear c34
            have H' := Aside0.mk H
            clear H
            obtain ⟨Ao35, co35, eo35⟩ := Kd.R_slice HO_10.out
            subst eo35
            have p300 : 0 ≤ (x14_2 : Int) := of_decide_eq_true (by assumption)
            have q300 : x14_2 < (t290.length : Int) := of_decide_eq_true (by assumption)
            obtain ⟨ad300, e300, hx300_0, hx300_1, hx300_2, hx300_3, hx300_4, hx300_5, hx300_6⟩ := at_T68 (Kd.R_reads' HO_10.out).2.2 x14_2 p300 q300
            cases e300
            replace p300 := eq_true p300
            replace q300 := eq_true q300
            go_wp2
            go_loopg [15, 17] kj27 (fun kq v15 v17 w' => ∃ (x15_4 : Bool) (x17_4 : Int), v15 = .bool x15_4 ∧ v17 = .int .i64 x17_4 ∧ Aside0 (shacklelaw06_SymsStand.l1 kq t289 t290 t295 x14_2 x15_4 ((rd_T68 t290 x14_2).f0) x17_4 = some r) ∧ Aside0 (kq ≤ kj27) ∧ Aside0 (Kd.R k68 68 w' w.heap.size (fun _ => True) (.slice (some ad300) t290.length co35) t290) ∧ Aside0 (Kd.V (Kd.int .u8) 5 w' w.heap.size (fun k_ => some k_ ≠ ((.slice (some ad300) t290.length co35) : Value).ownBlock ∧ k_ ≠ gb287 ∧ k_ ≠ gb288) v296 t295) ∧ Aside0 (w'.heap[gb287]? = some (.cells #[.int .i64 a1_0, .int .u64 a1_1, (.slice A1_2 l1_2.length c1_2)] 53 (0, 0))) ∧ Aside0 (w'.heap[gb288]? = some (.cells #[(.slice A2_0 l2_0.length c2_0), .int .u64 a2_1, .int .u64 a2_2, .int .u64 a2_3, .int .u64 a2_4, .int .u64 a2_5, .int .u64 a2_6, .int .u64 a2_7, .int .u64 a2_8, .int .u64 a2_9, .int .u64 a2_10, .int .u64 a2_11, .int .u64 a2_12, .int .u64 a2_13, .bool a2_14, .bool a2_15, .bool a2_16, .int .u64 a2_17, .int .u64 a2_18, .int .u64 a2_19, .int .u64 a2_20, .int .u64 a2_21, .int .u64 a2_22, .int .u64 a2_23, .int .u64 a2_24, .int .u64 a2_25, .int .u64 a2_26, .int .u64 a2_27, .int .u64 a2_28, .int .u64 a2_29, .int .u64 a2_30, .int .u64 a2_31, .bool a2_32, .bool a2_33, .bool a2_34, .bool a2_35, .bool a2_36] 55 (0, 0))) ∧ Aside0 (Below w.heap.size w w'))
            case atStart => exact ⟨(false), (0), (by first | rfl | (simp; done) | (simp [*]; done)), (by first | rfl | (simp; done) | (simp [*]; done)), H', ⟨Nat.le_refl _⟩, ⟨by (with_reducible repeat (first | apply Kd.R_alloc | apply Kd.R_drewN | apply Kd.R_drew)); exact HO_10.out⟩, ⟨by (with_reducible repeat (first | apply Kd.V_alloc | apply Kd.V_drewN | apply Kd.V_drew)); exact HO_12.out⟩, ⟨by (with_reducible repeat (first | refine blk_drewN ?_ _ | refine blk_drew ?_ | refine blk_alloc ?_ _)); exact BK287.out⟩, ⟨by (with_reducible repeat (first | refine blk_drewN ?_ _ | refine blk_drew ?_ | refine blk_alloc ?_ _)); exact BK288.out⟩, ⟨by repeat (first | (with_reducible first | exact HB.out | apply below_alloc | apply pw_below_drewN | apply below_drew1 | refine below_set ?_ GE287.out | refine below_set ?_ GE288.out) | exact HB.out)⟩⟩
            case round =>
             clear H'
             try clear c1
             try clear c2
             try clear p2
             try clear q2
             try clear c3
             try clear p3
             try clear q3
             try clear hx3
             try clear c12
             try clear c13
             try clear c18
             try clear c23
             try clear c23b0
             try clear c23b1
             try clear c27
             try clear c29
             try clear c29b0
             try clear q29
             try clear p30
             try clear q30
             try clear hx30
             try clear c32
             try clear c33
             try clear c33b0
             try clear c34
             try clear c34b0
             try clear hcz13_0
             try clear hcz13_1
             try clear hcz13_2
             try clear hcz14_0
             try clear hcz14_1
             try clear hcz14_10
             try clear hcz14_11
             try clear hcz14_12
             try clear hcz14_13
             try clear hcz14_14
             try clear hcz14_15
             try clear hcz14_16
             try clear hcz14_17
             try clear hcz14_18
             try clear hcz14_19
             try clear hcz14_2
             try clear hcz14_20
             try clear hcz14_21
             try clear hcz14_22
             try clear hcz14_23
             try clear hcz14_24
             try clear hcz14_25
             try clear hcz14_26
             try clear hcz14_27
             try clear hcz14_28
             try clear hcz14_29
             try clear hcz14_3
             try clear hcz14_30
             try clear hcz14_31
             try clear hcz14_32
             try clear hcz14_33
             try clear hcz14_34
             try clear hcz14_35
             try clear hcz14_36
             try clear hcz14_4
             try clear hcz14_5
             try clear hcz14_6
             try clear hcz14_7
             try clear hcz14_8
             try clear hcz14_9
             try clear hcz19_0
             try clear hcz19_1
             try clear hcz19_2
             try clear hcz20_0
             try clear hcz20_1
             try clear hcz20_10
             try clear hcz20_11
             try clear hcz20_12
             try clear hcz20_13
             try clear hcz20_14
             try clear hcz20_15
             try clear hcz20_16
             try clear hcz20_17
             try clear hcz20_18
             try clear hcz20_19
             try clear hcz20_2
             try clear hcz20_20
             try clear hcz20_21
             try clear hcz20_22
             try clear hcz20_23
             try clear hcz20_24
             try clear hcz20_25
             try clear hcz20_26
             try clear hcz20_27
             try clear hcz20_28
             try clear hcz20_29
             try clear hcz20_3
             try clear hcz20_30
             try clear hcz20_31
             try clear hcz20_32
             try clear hcz20_33
             try clear hcz20_34
             try clear hcz20_35
             try clear hcz20_36
             try clear hcz20_4
             try clear hcz20_5
             try clear hcz20_6
             try clear hcz20_7
             try clear hcz20_8
             try clear hcz20_9
             try clear hfz13_0
             try clear hfz13_1
             try clear hfz13_2
             try clear hfz14_0
             try clear hfz14_1
             try clear hfz14_10
             try clear hfz14_11
             try clear hfz14_12
             try clear hfz14_13
             try clear hfz14_14
             try clear hfz14_15
             try clear hfz14_16
             try clear hfz14_17
             try clear hfz14_18
             try clear hfz14_19
             try clear hfz14_2
             try clear hfz14_20
             try clear hfz14_21
             try clear hfz14_22
             try clear hfz14_23
             try clear hfz14_24
             try clear hfz14_25
             try clear hfz14_26
             try clear hfz14_27
             try clear hfz14_28
             try clear hfz14_29
             try clear hfz14_3
             try clear hfz14_30
             try clear hfz14_31
             try clear hfz14_32
             try clear hfz14_33
             try clear hfz14_34
             try clear hfz14_35
             try clear hfz14_36
             try clear hfz14_4
             try clear hfz14_5
             try clear hfz14_6
             try clear hfz14_7
             try clear hfz14_8
             try clear hfz14_9
             try clear hfz19_0
             try clear hfz19_1
             try clear hfz19_2
             try clear hfz20_0
             try clear hfz20_1
             try clear hfz20_10
             try clear hfz20_11
             try clear hfz20_12
             try clear hfz20_13
             try clear hfz20_14
             try clear hfz20_15
             try clear hfz20_16
             try clear hfz20_17
             try clear hfz20_18
             try clear hfz20_19
             try clear hfz20_2
             try clear hfz20_20
             try clear hfz20_21
             try clear hfz20_22
             try clear hfz20_23
             try clear hfz20_24
             try clear hfz20_25
             try clear hfz20_26
             try clear hfz20_27
             try clear hfz20_28
             try clear hfz20_29
             try clear hfz20_3
             try clear hfz20_30
             try clear hfz20_31
             try clear hfz20_32
             try clear hfz20_33
             try clear hfz20_34
             try clear hfz20_35
             try clear hfz20_36
             try clear hfz20_4
             try clear hfz20_5
             try clear hfz20_6
             try clear hfz20_7
             try clear hfz20_8
             try clear hfz20_9
             try clear hx300_0
             try clear hx300_1
             try clear hx300_2
             try clear hx300_3
             try clear hx300_4
             try clear hx300_5
             try clear hx300_6
             try clear p2
             try clear p300
             try clear q2
             try clear q29
             try clear q294
             try clear q299
             try clear q300
             obtain ⟨x15_4, x17_4, rfl, rfl, HA, HK4, HO_10, HO_12, BK287, BK288, HB⟩ := hrel
             cases gk with
             | zero => exact absurd HA.out (by simp [shacklelaw06_SymsStand.l1])
             | succ k4 =>
              have H := HA.out
              clear HA
              simp only [shacklelaw06_SymsStand.l1] at H
              have HC36 := Aside0.mk H
              clear H
              go_upto_region 14 with (fail)
              have H := HC36.out
              clear HC36
              by_cases c37 : (wrap64 (x17_4 + (((rd_T68 t290 x14_2).f0).size : Int))) < (t295.length : Int)
              ·rw [if_pos c37] at H
               have c37b0 : decide ((wrap64 (x17_4 + (((rd_T68 t290 x14_2).f0).size : Int))) < (t295.length : Int)) = true := decide_eq_true c37
               clear c37
               (first | rw [c37b0] | (simp only [i64_w, i32_w]; rw [c37b0]) | skip)
               by_cases c38 : x15_4 = true
               ·subst c38
                have H1 : (if (((rd_T68 t290 x14_2).f0).size : Int) > 255 then (some false) else (shacklelaw06_SymsStand.l0 k4 t289 t290 t295 (wrap64 (x14_2 + 1)))) = some r := by rw [if_pos rfl] at H; exact H
                clear H
                have H := H1
                clear H1
                by_cases c39 : (((rd_T68 t290 x14_2).f0).size : Int) > 255
                ·rw [if_pos c39] at H
                 have c39b0 : decide (255 < (((rd_T68 t290 x14_2).f0).size : Int)) = true := decide_eq_true c39
                 have c39b1 : decide (255 < ((rd_T68 t290 x14_2).f0).size) = true := decide_eq_true (by omega)
                 clear c39
                 obtain rfl := Option.some.inj H
                 obtain ⟨Ao40, co40, eo40⟩ := Kd.V_slice HO_12.out
                 subst eo40
                 go_wp2
                 go_ret
                 exact ⟨by first | rfl | (simp [errW_none, errW_some] <;> rfl) | (simp [*, errW_none, errW_some] <;> rfl), by repeat (first | (with_reducible first | exact HB.out | apply below_alloc | apply pw_below_drewN | apply below_drew1 | refine below_set ?_ GE287.out | refine below_set ?_ GE288.out) | exact HB.out)⟩
                ·rw [if_neg c39] at H
                 have c39b0 : decide (255 < (((rd_T68 t290 x14_2).f0).size : Int)) = false := decide_eq_false c39
                 have c39b1 : decide (255 < ((rd_T68 t290 x14_2).f0).size) = false := decide_eq_false (by omega)
                 clear c39
                 have H' := Aside0.mk H
                 clear H
                 obtain ⟨Ao41, co41, eo41⟩ := Kd.V_slice HO_12.out
                 subst eo41
                 go_wp2
                 go_roundg k4
                 case measure => have := HJ21.out; have := HK2.out; have := HJ27.out; have := HK4.out; omega
                 case rel => exact ⟨(wrap64 (x14_2 + 1)), (by first | rfl | (simp; done) | (simp [*]; done)), H', ⟨by have := HJ21.out; have := HK2.out; have := HJ27.out; have := HK4.out; omega⟩, ⟨by (with_reducible repeat (first | apply Kd.R_alloc | apply Kd.R_drewN | apply Kd.R_drew)); exact HO_10.out⟩, ⟨by (with_reducible repeat (first | apply Kd.V_alloc | apply Kd.V_drewN | apply Kd.V_drew)); exact HO_12.out⟩, ⟨by (with_reducible repeat (first | refine blk_drewN ?_ _ | refine blk_drew ?_ | refine blk_alloc ?_ _)); exact BK287.out⟩, ⟨by (with_reducible repeat (first | refine blk_drewN ?_ _ | refine blk_drew ?_ | refine blk_alloc ?_ _)); exact BK288.out⟩, ⟨by repeat (first | (with_reducible first | exact HB.out | apply below_alloc | apply pw_below_drewN | apply below_drew1 | refine below_set ?_ GE287.out | refine below_set ?_ GE288.out) | exact HB.out)⟩⟩
               ·replace c38 := Bool.eq_false_iff.mpr c38
                subst c38
                have H1 : (if 0 ≤ (wrap64 (x17_4 + (((rd_T68 t290 x14_2).f0).size : Int))) then (if (rd t295 (wrap64 (x17_4 + (((rd_T68 t290 x14_2).f0).size : Int)))) = 0 then (if 0 ≤ x17_4 then (if x17_4 ≤ (wrap64 (x17_4 + (((rd_T68 t290 x14_2).f0).size : Int))) then (if (wrap64 (x17_4 + (((rd_T68 t290 x14_2).f0).size : Int))) ≤ (t295.length : Int) then (shacklelaw06_SymsStand.l1 k4 t289 t290 t295 x14_2 ((strOfNums ((t295.take ((wrap64 (x17_4 + (((rd_T68 t290 x14_2).f0).size : Int))) : Int).toNat).drop (x17_4 : Int).toNat)).toList == ((rd_T68 t290 x14_2).f0).toList) ((rd_T68 t290 x14_2).f0) (wrap64 (x17_4 + 1))) else (none)) else (none)) else (none)) else (shacklelaw06_SymsStand.l1 k4 t289 t290 t295 x14_2 false ((rd_T68 t290 x14_2).f0) (wrap64 (x17_4 + 1)))) else (none)) = some r := by rw [if_neg (show ¬ (false = true) by decide)] at H; exact H
                clear H
                have H := H1
                clear H1
                obtain ⟨ji42, hji42⟩ : ∃ j_ : Int, (wrap64 (x17_4 + (((rd_T68 t290 x14_2).f0).size : Int))) = j_ := ⟨_, rfl⟩
                replace H : (if 0 ≤ (ji42) then (if (rd t295 (ji42)) = 0 then (if 0 ≤ x17_4 then (if x17_4 ≤ (ji42) then (if (ji42) ≤ (t295.length : Int) then (shacklelaw06_SymsStand.l1 k4 t289 t290 t295 x14_2 ((strOfNums ((t295.take ((ji42) : Int).toNat).drop (x17_4 : Int).toNat)).toList == ((rd_T68 t290 x14_2).f0).toList) ((rd_T68 t290 x14_2).f0) (wrap64 (x17_4 + 1))) else (none)) else (none)) else (none)) else (shacklelaw06_SymsStand.l1 k4 t289 t290 t295 x14_2 false ((rd_T68 t290 x14_2).f0) (wrap64 (x17_4 + 1)))) else (none)) = some r := by first | (rw [hji42] at H; exact H) | (simp only [hji42] at H ⊢; exact H)
                (try rw [hji42] at c37b0)
                have hji42w : (IntKind.i64.wrap (x17_4 + (((rd_T68 t290 x14_2).f0).size : Int))) = ji42 := (i64_w _).trans hji42
                by_cases c43 : 0 ≤ (ji42)
                ·rw [if_pos c43] at H
                 have c43b0 : decide (0 ≤ (ji42)) = true := decide_eq_true c43
                 clear c43
                 by_cases c44 : (rd t295 (ji42)) = 0
                 ·rw [if_pos c44] at H
                  have c44b0 : ((rd t295 (ji42)) == 0) = true := beq_iff_eq.mpr c44
                  have c44b1 : ((rd t295 (ji42)) != 0) = false := bne_eq_false_iff_eq.mpr c44
                  clear c44
                  by_cases c45 : 0 ≤ x17_4
                  ·rw [if_pos c45] at H
                   have c45b0 := eq_true c45
                   have c45b1 : decide (0 ≤ x17_4) = true := decide_eq_true c45
                   clear c45
                   by_cases c46 : x17_4 ≤ (ji42)
                   ·rw [if_pos c46] at H
                    have c46b0 := eq_true c46
                    have c46b1 : decide (x17_4 ≤ (ji42)) = true := decide_eq_true c46
                    clear c46
                    by_cases c47 : (ji42) ≤ (t295.length : Int)
                    ·rw [if_pos c47] at H
                     have c47b0 := eq_true c47
                     have c47b1 : decide ((ji42) ≤ (t295.length : Int)) = true := decide_eq_true c47
                     clear c47
                     obtain ⟨y302, hy302⟩ : ∃ y_ : List Int, y_ = ((t295.take ((ji42) : Int).toNat).drop (x17_4 : Int).toNat) := ⟨_, rfl⟩
                     replace H : (shacklelaw06_SymsStand.l1 k4 t289 t290 t295 x14_2 ((strOfNums y302).toList == ((rd_T68 t290 x14_2).f0).toList) ((rd_T68 t290 x14_2).f0) (wrap64 (x17_4 + 1))) = some r := by first | (rw [hy302]; with_reducible exact H) | (have H2_ := (Option.bind_some _ _).symm.trans H; rw [hy302]; with_reducible exact H2_) | (have H2_ := (Option.bind_some _ _).symm.trans H; with_reducible exact H2_) | with_reducible exact H | (rw [hy302]; exact H) | exact H
                     have Ny302 := Aside0.mk hy302
                     clear hy302
                     have H' := Aside0.mk H
                     clear H
                     obtain ⟨Ao48, co48, eo48⟩ := Kd.V_slice HO_12.out
                     subst eo48
                     have p301 : 0 ≤ ((ji42) : Int) := of_decide_eq_true (by assumption)
                     have q301 : (ji42) < (t295.length : Int) := of_decide_eq_true (by assumption)
                     obtain ⟨ad301, e301, hx301_0⟩ := Kd.at_int (Kd.V_reads' HO_12.out).2.2 (ji42) p301 q301
                     cases e301
                     replace p301 := eq_true p301
                     replace q301 := eq_true q301
                     have q49 : ((ji42) : Int) ≤ ((t295.length : Int) : Int) := of_decide_eq_true (by assumption)
                     obtain ⟨i049, hi049, _, hsz49, _⟩ := info_parts info5
                     have hroom49 : t295.length ≤ co48 := (Kd.V_reads' HO_12.out).2.1
                     have hC49 : Kd.F (Kd.int .u8) _ _ (some ad301) t295.length t295 := (Kd.V_at (base := w.heap.size) HO_12.out).2.2
                     have ql49 : (x17_4 : Int) ≤ ((ji42) : Int) := of_decide_eq_true (by assumption)
                     have q049 : (0 : Int) ≤ (x17_4 : Int) := of_decide_eq_true (by assumption)
                     have hcut49 := cut_mid (P := Try.prog) 22 5 .i64 .i64 Try.underlying22 hi049 1 hsz49 (some ad301) t295.length co48 x17_4 (ji42) q049 ql49 q49 hroom49
                     have hr49 := Kd.F_mid (lo := (x17_4 : Int).toNat) (hi := ((ji42) : Int).toNat) (c := co48) hC49 (by omega) (by omega) hroom49
                     obtain ⟨A49, hA49⟩ : ∃ A1, A1 = (if co48 = (x17_4 : Int).toNat then (some ad301) else ((some ad301) : Option Addr).map (·.add ((x17_4 : Int).toNat * 1))) := ⟨_, rfl⟩
                     obtain ⟨c49, hc49⟩ : ∃ c1, c1 = co48 - (x17_4 : Int).toNat := ⟨_, rfl⟩
                     have hy49 : y302.length = ((ji42) : Int).toNat - (x17_4 : Int).toNat := (by rw [Ny302.out, List.length_drop, List.length_take] <;> omega)
                     rw [show ((t295).take ((ji42) : Int).toNat).drop (x17_4 : Int).toNat = y302 from Ny302.out.symm] at hr49
                     replace hr49 : Kd.F (Kd.int .u8) _ _ A49 y302.length y302 := (by rw [hA49]; exact hr49)
                     rw [← hy49, ← hA49, ← hc49] at hcut49
                     have HO306 := Aside0.mk (show Kd.V (Kd.int .u8) 5 _ w.heap.size _ (.slice A49 y302.length c49) y302 from Kd.V_mk (by rw [hy49, hc49]; exact Nat.sub_le_sub_right (Nat.le_trans (by omega) hroom49) _) hr49)
                     have HC306 := Aside0.mk (show y302.length ≤ c49 from by rw [hy49, hc49]; exact Nat.sub_le_sub_right (Nat.le_trans (by omega) hroom49) _)
                     clear hr49 hC49 hroom49 hi049 hsz49 hc49
                     have KY49 := Aside0.mk hy49
                     have KA49 := Aside0.mk hA49
                     clear hy49 hA49
                     replace q49 := eq_true q49
                     have hcv50 := Kd.V_string (P := Try.prog) Try.underlying22 Try.underlying5 Try.underlying9 rfl HO306.out
                     have hcv50n := fun n_ : Nat => Kd.V_string (P := Try.prog) Try.underlying22 Try.underlying5 Try.underlying9 rfl (Kd.V_drewN HO306.out n_)
                     go_wp2
                     go_roundg k4
                     case measure => have := HJ21.out; have := HK2.out; have := HJ27.out; have := HK4.out; omega
                     case rel => exact ⟨(((strOfNums y302).toList == ((rd_T68 t290 x14_2).f0).toList)), (wrap64 (x17_4 + 1)), (by first | rfl | (simp; done) | (simp [*]; done)), (by first | rfl | (simp; done) | (simp [*]; done)), H', ⟨by have := HJ21.out; have := HK2.out; have := HJ27.out; have := HK4.out; omega⟩, ⟨by (with_reducible repeat (first | apply Kd.R_alloc | apply Kd.R_drewN | apply Kd.R_drew)); exact HO_10.out⟩, ⟨by (with_reducible repeat (first | apply Kd.V_alloc | apply Kd.V_drewN | apply Kd.V_drew)); exact HO_12.out⟩, ⟨by (with_reducible repeat (first | refine blk_drewN ?_ _ | refine blk_drew ?_ | refine blk_alloc ?_ _)); exact BK287.out⟩, ⟨by (with_reducible repeat (first | refine blk_drewN ?_ _ | refine blk_drew ?_ | refine blk_alloc ?_ _)); exact BK288.out⟩, ⟨by repeat (first | (with_reducible first | exact HB.out | apply below_alloc | apply pw_below_drewN | apply below_drew1 | refine below_set ?_ GE287.out | refine below_set ?_ GE288.out) | exact HB.out)⟩⟩
                    ·rw [if_neg c47] at H
                     exact absurd H (by simp)
                   ·rw [if_neg c46] at H
                    exact absurd H (by simp)
                  ·rw [if_neg c45] at H
                   exact absurd H (by simp)
                 ·rw [if_neg c44] at H
                  have c44b0 : ((rd t295 (ji42)) == 0) = false := beq_eq_false_iff_ne.mpr c44
                  have c44b1 : ((rd t295 (ji42)) != 0) = true := bne_iff_ne.mpr c44
                  have H' := Aside0.mk H
                  clear H
                  obtain ⟨Ao51, co51, eo51⟩ := Kd.V_slice HO_12.out
                  subst eo51
                  have p301 : 0 ≤ ((ji42) : Int) := of_decide_eq_true (by assumption)
                  have q301 : (ji42) < (t295.length : Int) := of_decide_eq_true (by assumption)
                  obtain ⟨ad301, e301, hx301_0⟩ := Kd.at_int (Kd.V_reads' HO_12.out).2.2 (ji42) p301 q301
                  cases e301
                  replace p301 := eq_true p301
                  replace q301 := eq_true q301
                  go_wp2
                  go_roundg k4
                  case measure => have := HJ21.out; have := HK2.out; have := HJ27.out; have := HK4.out; omega
                  case rel => exact ⟨(false), (wrap64 (x17_4 + 1)), (by first | rfl | (simp; done) | (simp [*]; done)), (by first | rfl | (simp; done) | (simp [*]; done)), H', ⟨by have := HJ21.out; have := HK2.out; have := HJ27.out; have := HK4.out; omega⟩, ⟨by (with_reducible repeat (first | apply Kd.R_alloc | apply Kd.R_drewN | apply Kd.R_drew)); exact HO_10.out⟩, ⟨by (with_reducible repeat (first | apply Kd.V_alloc | apply Kd.V_drewN | apply Kd.V_drew)); exact HO_12.out⟩, ⟨by (with_reducible repeat (first | refine blk_drewN ?_ _ | refine blk_drew ?_ | refine blk_alloc ?_ _)); exact BK287.out⟩, ⟨by (with_reducible repeat (first | refine blk_drewN ?_ _ | refine blk_drew ?_ | refine blk_alloc ?_ _)); exact BK288.out⟩, ⟨by repeat (first | (with_reducible first | exact HB.out | apply below_alloc | apply pw_below_drewN | apply below_drew1 | refine below_set ?_ GE287.out | refine below_set ?_ GE288.out) | exact HB.out)⟩⟩
                ·rw [if_neg c43] at H
                 exact absurd H (by simp)
              ·rw [if_neg c37] at H
               have c37b0 : decide ((wrap64 (x17_4 + (((rd_T68 t290 x14_2).f0).size : Int))) < (t295.length : Int)) = false := decide_eq_false c37
               clear c37
               (first | rw [c37b0] | (simp only [i64_w, i32_w]; rw [c37b0]) | skip)
               by_cases c52 : x15_4 = true
               ·subst c52
                have H1 : (if (((rd_T68 t290 x14_2).f0).size : Int) > 255 then (some false) else (shacklelaw06_SymsStand.l0 k4 t289 t290 t295 (wrap64 (x14_2 + 1)))) = some r := by rw [if_pos rfl] at H; exact H
                clear H
                have H := H1
                clear H1
                by_cases c53 : (((rd_T68 t290 x14_2).f0).size : Int) > 255
                ·rw [if_pos c53] at H
                 have c53b0 : decide (255 < (((rd_T68 t290 x14_2).f0).size : Int)) = true := decide_eq_true c53
                 have c53b1 : decide (255 < ((rd_T68 t290 x14_2).f0).size) = true := decide_eq_true (by omega)
                 clear c53
                 obtain rfl := Option.some.inj H
                 obtain ⟨Ao54, co54, eo54⟩ := Kd.V_slice HO_12.out
                 subst eo54
                 go_wp2
                 go_ret
                 exact ⟨by first | rfl | (simp [errW_none, errW_some] <;> rfl) | (simp [*, errW_none, errW_some] <;> rfl), by repeat (first | (with_reducible first | exact HB.out | apply below_alloc | apply pw_below_drewN | apply below_drew1 | refine below_set ?_ GE287.out | refine below_set ?_ GE288.out) | exact HB.out)⟩
                ·rw [if_neg c53] at H
                 have c53b0 : decide (255 < (((rd_T68 t290 x14_2).f0).size : Int)) = false := decide_eq_false c53
                 have c53b1 : decide (255 < ((rd_T68 t290 x14_2).f0).size) = false := decide_eq_false (by omega)
                 clear c53
                 have H' := Aside0.mk H
                 clear H
                 obtain ⟨Ao55, co55, eo55⟩ := Kd.V_slice HO_12.out
                 subst eo55
                 go_wp2
                 go_roundg k4
                 case measure => have := HJ21.out; have := HK2.out; have := HJ27.out; have := HK4.out; omega
                 case rel => exact ⟨(wrap64 (x14_2 + 1)), (by first | rfl | (simp; done) | (simp [*]; done)), H', ⟨by have := HJ21.out; have := HK2.out; have := HJ27.out; have := HK4.out; omega⟩, ⟨by (with_reducible repeat (first | apply Kd.R_alloc | apply Kd.R_drewN | apply Kd.R_drew)); exact HO_10.out⟩, ⟨by (with_reducible repeat (first | apply Kd.V_alloc | apply Kd.V_drewN | apply Kd.V_drew)); exact HO_12.out⟩, ⟨by (with_reducible repeat (first | refine blk_drewN ?_ _ | refine blk_drew ?_ | refine blk_alloc ?_ _)); exact BK287.out⟩, ⟨by (with_reducible repeat (first | refine blk_drewN ?_ _ | refine blk_drew ?_ | refine blk_alloc ?_ _)); exact BK288.out⟩, ⟨by repeat (first | (with_reducible first | exact HB.out | apply below_alloc | apply pw_below_drewN | apply below_drew1 | refine below_set ?_ GE287.out | refine below_set ?_ GE288.out) | exact HB.out)⟩⟩
               ·replace c52 := Bool.eq_false_iff.mpr c52
                subst c52
                have H1 : (some false) = some r := by rw [if_neg (show ¬ (false = true) by decide)] at H; exact H
                clear H
                have H := H1
                clear H1
                obtain rfl := Option.some.inj H
                obtain ⟨Ao56, co56, eo56⟩ := Kd.V_slice HO_12.out
                subst eo56
                go_wp2
                go_ret
                exact ⟨by first | rfl | (simp [errW_none, errW_some] <;> rfl) | (simp [*, errW_none, errW_some] <;> rfl), by repeat (first | (with_reducible first | exact HB.out | apply below_alloc | apply pw_below_drewN | apply below_drew1 | refine below_set ?_ GE287.out | refine below_set ?_ GE288.out) | exact HB.out)⟩
           ·rw [if_neg c34] at H
            exact absurd H (by simp)
          ·rw [if_neg c33] at H
           exact absurd H (by simp)
         ·replace c32 := Bool.eq_false_iff.mpr c32
          subst c32
          have H1 : (some t289) = some r := by rw [if_neg (show ¬ (false = true) by decide)] at H; exact H
          clear H
          have H := H1
          clear H1
          obtain rfl := Option.some.inj H
          go_wp2
          go_ret
          exact ⟨by first | rfl | (simp [errW_none, errW_some] <;> rfl) | (simp [*, errW_none, errW_some] <;> rfl), by repeat (first | (with_reducible first | exact HB.out | apply below_alloc | apply pw_below_drewN | apply below_drew1 | refine below_set ?_ GE287.out | refine below_set ?_ GE288.out) | exact HB.out)⟩
 ·have H1 : (if t289 = true then (some ((t290.length : Int) == 0)) else (some false)) = some r := by rw [if_neg (show ¬ (some q294).isNone = true by simp)] at H; exact H
  clear H
  have H := H1
  clear H1
  try simp only [errW_none, errW_some]
  by_cases c57 : t289 = true
  ·subst c57
   have H1 : (some ((t290.length : Int) == 0)) = some r := by rw [if_pos rfl] at H; exact H
   clear H
   have H := H1
   clear H1
   obtain rfl := Option.some.inj H
   obtain ⟨Ao58, co58, eo58⟩ := Kd.R_slice HO292.out
   subst eo58
   go_wp2
   go_ret
   exact ⟨by first | rfl | (simp [errW_none, errW_some] <;> rfl) | (simp [*, errW_none, errW_some] <;> rfl), by repeat (first | (with_reducible first | exact HB.out | apply below_alloc | apply pw_below_drewN | apply below_drew1 | refine below_set ?_ GE287.out | refine below_set ?_ GE288.out) | exact HB.out)⟩
  ·replace c57 := Bool.eq_false_iff.mpr c57
   subst c57
   have H1 : (some false) = some r := by rw [if_neg (show ¬ (false = true) by decide)] at H; exact H
   clear H
   have H := H1
   clear H1
   obtain rfl := Option.some.inj H
   go_wp2
   go_ret
   exact ⟨by first | rfl | (simp [errW_none, errW_some] <;> rfl) | (simp [*, errW_none, errW_some] <;> rfl), by repeat (first | (with_reducible first | exact HB.out | apply below_alloc | apply pw_below_drewN | apply below_drew1 | refine below_set ?_ GE287.out | refine below_set ?_ GE288.out) | exact HB.out)⟩

end Go.Proofs.Ytlohkhadbkahdaa.QSyms
