-- Laid by wip/hook.py (this session's own program) out of the translation; with contracts that were written by hand.
import Derived.Test.YtlohkhadbkahdaaQSymsx0
import Derived.Test.YtlohkhadbkahdaaQSymsx2
import Derived.Test.YtlohkhadbkahdaaQSymsx3
import Derived.Test.YtlohkhadbkahdaaQSymsx4
import Derived.Test.YtlohkhadbkahdaaQSymsx5
namespace Go.Proofs.Ytlohkhadbkahdaa.QSyms
open Go.RowKit Go.Proofs.YtlohkhadbkahdaaW.PrintWords Go.Proofs.YtlohkhadbkahdaaW.PrintLast Go.Proofs.YtlohkhadbkahdaaW.PrintMore
attribute [local go_sem] max2_int min2_int max_two min_two max_three min_three max_four min_four   -- for this text's walks alone
set_option linter.unusedVariables false
set_option linter.unusedSimpArgs false

attribute [local go_sem] eqErr_ii neErr_ii eqErr_ni neErr_ni
/-! ### syms_Read: function 36 -/
mutual
def syms_Read.l0 : Nat → List Int → List Int → List (S68) → Int → Int → Option ((List (S68)) × Option Int)
 | 0, _, _, _, _, _ => none
 | k + 1, x10, x12, x13, x51, x52 => if x52 < x51 then (if 0 ≤ (wrap64 (24 * x52)) then (if (wrap64 (24 * x52)) ≤ (wrap64 ((wrap64 (24 * x52)) + 24)) then (if (wrap64 ((wrap64 (24 * x52)) + 24)) ≤ (x12.length : Int) then ((some ((x12.take ((wrap64 ((wrap64 (24 * x52)) + 24)) : Int).toNat).drop ((wrap64 (24 * x52)) : Int).toNat : List Int)).bind fun y170 => (if x52 = 0 then (if 24 ≤ 281474976710656 then ((bytes_Equal.f y170 (List.replicate 24 0)).bind fun t178 => (syms_Read.j1 k x10 x12 x13 y170 x51 x52 (!t178))) else (none)) else (syms_Read.j1 k x10 x12 x13 y170 x51 x52 false))) else (none)) else (none)) else (none)) else (some (x13, none))
def syms_Read.j1 : Nat → List Int → List Int → List (S68) → List Int → Int → Int → Bool → Option ((List (S68)) × Option Int)
 | 0, _, _, _, _, _, _, _ => none
 | k + 1, x10, x12, x13, x15, x51, x52, x69 => if x69 = true then (some (([] : List (S68)), some 3)) else (if 4 ≤ (x15.length : Int) then ((syms_number.f k (x15.take 4)).bind fun t184 => ((syms_Text.f x10 t184).bind fun bt185 => (if bt185.2.isNone = true then (if 4 < (x15.length : Int) then (if 5 < (x15.length : Int) then (if 6 ≤ 8 then (if 8 ≤ (x15.length : Int) then ((syms_number.f k ((x15.take 8).drop 6)).bind fun t196 => (if 8 ≤ 16 then (if 16 ≤ (x15.length : Int) then ((syms_number.f k ((x15.take 16).drop 8)).bind fun t202 => ((syms_number.f k (x15.drop 16)).bind fun t208 => (if (wrap64 ((rd x15 4) / 16)) > 2 then (some (([] : List (S68)), some 3)) else (if (wrap64 (Go.bits .and .u8 (rd x15 4) 15)) > 6 then (if (wrap64 (Go.bits .and .u8 (rd x15 4) 15)) = 10 then (if (wrap64 (Go.bits .and .u8 (rd x15 4) 15)) = 5 then (some (([] : List (S68)), some 3)) else (if x13.length < 2199023255552 then (syms_Read.l0 k x10 x12 (x13 ++ [(⟨bt185.1, wrap64 ((rd x15 4) / 16), wrap64 (Go.bits .and .u8 (rd x15 4) 15), wrap64 (Go.bits .and .u8 (rd x15 5) 3), wrap64 (t196), t202, t208⟩ : S68)]) x51 (wrap64 (x52 + 1))) else (none))) else (some (([] : List (S68)), some 3))) else (if (wrap64 (Go.bits .and .u8 (rd x15 4) 15)) = 5 then (some (([] : List (S68)), some 3)) else (if x13.length < 2199023255552 then (syms_Read.l0 k x10 x12 (x13 ++ [(⟨bt185.1, wrap64 ((rd x15 4) / 16), wrap64 (Go.bits .and .u8 (rd x15 4) 15), wrap64 (Go.bits .and .u8 (rd x15 5) 3), wrap64 (t196), t202, t208⟩ : S68)]) x51 (wrap64 (x52 + 1))) else (none))))))) else (none)) else (none))) else (none)) else (none)) else (none)) else (none)) else (some (([] : List (S68)), some (bt185.2.getD 0)))))) else (none))
end
def syms_Read.f (k : Nat) (l0 : List Int) (a1_0 : Int) (a1_1 : Int) (l1_2 : List (S95)) (l2_0 : List Int) (a2_1 : Int) (a2_2 : Int) (a2_3 : Int) (a2_4 : Int) (a2_5 : Int) (a2_6 : Int) (a2_7 : Int) (a2_8 : Int) (a2_9 : Int) (a2_10 : Int) (a2_11 : Int) (a2_12 : Int) (a2_13 : Int) (a2_14 : Bool) (a2_15 : Bool) (a2_16 : Bool) (a2_17 : Int) (a2_18 : Int) (a2_19 : Int) (a2_20 : Int) (a2_21 : Int) (a2_22 : Int) (a2_23 : Int) (a2_24 : Int) (a2_25 : Int) (a2_26 : Int) (a2_27 : Int) (a2_28 : Int) (a2_29 : Int) (a2_30 : Int) (a2_31 : Int) (a2_32 : Bool) (a2_33 : Bool) (a2_34 : Bool) (a2_35 : Bool) (a2_36 : Bool) (a3 : Int) : Option ((List (S68)) × Option Int) := if a3 < 0 then (some (([] : List (S68)), some 1)) else (if a3 > 4096 then (some (([] : List (S68)), some 2)) else ((syms_Strings.f k l0 a1_0 a1_1 l1_2 l2_0 a2_1 a2_2 a2_3 a2_4 a2_5 a2_6 a2_7 a2_8 a2_9 a2_10 a2_11 a2_12 a2_13 a2_14 a2_15 a2_16 a2_17 a2_18 a2_19 a2_20 a2_21 a2_22 a2_23 a2_24 a2_25 a2_26 a2_27 a2_28 a2_29 a2_30 a2_31 a2_32 a2_33 a2_34 a2_35 a2_36).bind fun bt160 => (if bt160.2.isNone = true then ((dyn_Slice.f k l0 a1_0 a1_1 l1_2 a2_5 (IntKind.u64.wrap (24 * (IntKind.u64.wrap (a3))))).bind fun bt165 => (if bt165.2.isNone = true then (syms_Read.l0 k bt160.1 bt165.1 ([] : List (S68)) a3 0) else (some (([] : List (S68)), some (bt165.2.getD 0))))) else (some (([] : List (S68)), some (bt160.2.getD 0))))))
theorem syms_Read.mono_l : ∀ k, (∀ y0 y1 y2 y3 y4, LeO (syms_Read.l0 k y0 y1 y2 y3 y4) (syms_Read.l0 (k + 1) y0 y1 y2 y3 y4)) ∧ (∀ y0 y1 y2 y3 y4 y5 y6, LeO (syms_Read.j1 k y0 y1 y2 y3 y4 y5 y6) (syms_Read.j1 (k + 1) y0 y1 y2 y3 y4 y5 y6))
 | 0 => ⟨fun _ _ _ _ _ r h => by simp [syms_Read.l0] at h, fun _ _ _ _ _ _ _ r h => by simp [syms_Read.j1] at h⟩
 | k + 1 => by
  obtain ⟨ih0, ih1⟩ := syms_Read.mono_l k
  refine ⟨?_, ?_⟩
  ·intro y0 y1 y2 y3 y4
   unfold syms_Read.l0
   repeat' first
   | (with_reducible exact ih0 _ _ _ _ _)
   | (with_reducible exact ih1 _ _ _ _ _ _ _)
   | (with_reducible exact dyn_Slice.mono _ _ _ _ _ _ _)
   | (with_reducible exact syms_Strings.mono _ _ _ _ _ _ _ _ _ _ _ _ _ _ _ _ _ _ _ _ _ _ _ _ _ _ _ _ _ _ _ _ _ _ _ _ _ _ _ _ _ _)
   | (with_reducible exact syms_number.mono _ _)
   | (with_reducible exact LeO.refl _)
   | (with_reducible exact LeO.none _)
   | (with_reducible refine LeO.ite ?_ ?_)
   | (with_reducible refine LeO.bind ?_ (fun _ => ?_))
   | exact ih0 _ _ _ _ _
   | exact ih1 _ _ _ _ _ _ _
   | exact dyn_Slice.mono _ _ _ _ _ _ _
   | exact syms_Strings.mono _ _ _ _ _ _ _ _ _ _ _ _ _ _ _ _ _ _ _ _ _ _ _ _ _ _ _ _ _ _ _ _ _ _ _ _ _ _ _ _ _ _
   | exact syms_number.mono _ _
   | exact LeO.none _
   | refine LeO.ite ?_ ?_
   | refine LeO.bind ?_ (fun _ => ?_)
  ·intro y0 y1 y2 y3 y4 y5 y6
   unfold syms_Read.j1
   repeat' first
   | (with_reducible exact ih0 _ _ _ _ _)
   | (with_reducible exact ih1 _ _ _ _ _ _ _)
   | (with_reducible exact dyn_Slice.mono _ _ _ _ _ _ _)
   | (with_reducible exact syms_Strings.mono _ _ _ _ _ _ _ _ _ _ _ _ _ _ _ _ _ _ _ _ _ _ _ _ _ _ _ _ _ _ _ _ _ _ _ _ _ _ _ _ _ _)
   | (with_reducible exact syms_number.mono _ _)
   | (with_reducible exact LeO.refl _)
   | (with_reducible exact LeO.none _)
   | (with_reducible refine LeO.ite ?_ ?_)
   | (with_reducible refine LeO.bind ?_ (fun _ => ?_))
   | exact ih0 _ _ _ _ _
   | exact ih1 _ _ _ _ _ _ _
   | exact dyn_Slice.mono _ _ _ _ _ _ _
   | exact syms_Strings.mono _ _ _ _ _ _ _ _ _ _ _ _ _ _ _ _ _ _ _ _ _ _ _ _ _ _ _ _ _ _ _ _ _ _ _ _ _ _ _ _ _ _
   | exact syms_number.mono _ _
   | exact LeO.none _
   | refine LeO.ite ?_ ?_
   | refine LeO.bind ?_ (fun _ => ?_)
theorem syms_Read.mono : ∀ a0 a1 a2 a3 a4 a5 a6 a7 a8 a9 a10 a11 a12 a13 a14 a15 a16 a17 a18 a19 a20 a21 a22 a23 a24 a25 a26 a27 a28 a29 a30 a31 a32 a33 a34 a35 a36 a37 a38 a39 a40 a41 k, LeO (syms_Read.f k a0 a1 a2 a3 a4 a5 a6 a7 a8 a9 a10 a11 a12 a13 a14 a15 a16 a17 a18 a19 a20 a21 a22 a23 a24 a25 a26 a27 a28 a29 a30 a31 a32 a33 a34 a35 a36 a37 a38 a39 a40 a41) (syms_Read.f (k + 1) a0 a1 a2 a3 a4 a5 a6 a7 a8 a9 a10 a11 a12 a13 a14 a15 a16 a17 a18 a19 a20 a21 a22 a23 a24 a25 a26 a27 a28 a29 a30 a31 a32 a33 a34 a35 a36 a37 a38 a39 a40 a41) := by
 intro a0 a1 a2 a3 a4 a5 a6 a7 a8 a9 a10 a11 a12 a13 a14 a15 a16 a17 a18 a19 a20 a21 a22 a23 a24 a25 a26 a27 a28 a29 a30 a31 a32 a33 a34 a35 a36 a37 a38 a39 a40 a41 k
 obtain ⟨ih0, ih1⟩ := syms_Read.mono_l k
 unfold syms_Read.f
 repeat' first
   | (with_reducible exact ih0 _ _ _ _ _)
   | (with_reducible exact ih1 _ _ _ _ _ _ _)
   | (with_reducible exact dyn_Slice.mono _ _ _ _ _ _ _)
   | (with_reducible exact syms_Strings.mono _ _ _ _ _ _ _ _ _ _ _ _ _ _ _ _ _ _ _ _ _ _ _ _ _ _ _ _ _ _ _ _ _ _ _ _ _ _ _ _ _ _)
   | (with_reducible exact syms_number.mono _ _)
   | (with_reducible exact LeO.refl _)
   | (with_reducible exact LeO.none _)
   | (with_reducible refine LeO.ite ?_ ?_)
   | (with_reducible refine LeO.bind ?_ (fun _ => ?_))
   | exact ih0 _ _ _ _ _
   | exact ih1 _ _ _ _ _ _ _
   | exact dyn_Slice.mono _ _ _ _ _ _ _
   | exact syms_Strings.mono _ _ _ _ _ _ _ _ _ _ _ _ _ _ _ _ _ _ _ _ _ _ _ _ _ _ _ _ _ _ _ _ _ _ _ _ _ _ _ _ _ _
   | exact syms_number.mono _ _
   | exact LeO.none _
   | refine LeO.ite ?_ ?_
   | refine LeO.bind ?_ (fun _ => ?_)
def syms_Read.T21 : Bool × List (List Nat × List Nat) := (true, [([], []), ([], []), ([1], [1]), ([2], [2]), ([3], [3]), ([4], [4]), ([], []), ([6], [6]), ([7], [7]), ([8], [8]), ([9], [9]), ([], []), ([11], [11]), ([12], [12]), ([13], [13]), ([14], [14]), ([], []), ([16], [16]), ([17], [17]), ([18], [18]), ([], []), ([20], [20]), ([21, 18], [21]), ([], []), ([23], [23]), ([24, 22], [24]), ([0, 5, 10, 15, 19, 22, 25], [0, 5, 10, 15, 19, 22, 25]), ([], []), ([27, 26, 25, 0, 1, 2, 3, 4, 5, 6, 7, 8, 9, 10, 11, 12, 13, 14, 15, 16, 17, 18, 19, 20, 21, 22, 23, 24, 25, 26, 27], [26, 27])])
def syms_Read.B21 : List Nat := [0, 0, 2, 6, 14, 30, 0, 64, 192, 448, 960, 0, 2048, 6144, 14336, 30720, 0, 65536, 196608, 458752, 0, 1048576, 3604480, 0, 8388608, 32964608, 67108863, 0, 268435455]
theorem syms_Read.tab21 : rtab .any (opsOf Try.f36 21) = syms_Read.T21 := by kernel_rfl
theorem syms_Read.bits21 : waitsOk syms_Read.T21.2 syms_Read.B21 = true := by kernel_rfl
set_option maxHeartbeats 8000000 in
set_option maxRecDepth 100000 in
theorem syms_Read.calls (k : Nat) (A0 : Option Addr) (c0 : Nat) (l0 : List Int) (a1_0 : Int) (a1_1 : Int) (A1_2 : Option Addr) (c1_2 : Nat) (l1_2 : List (S95)) (A2_0 : Option Addr) (c2_0 : Nat) (l2_0 : List Int) (a2_1 : Int) (a2_2 : Int) (a2_3 : Int) (a2_4 : Int) (a2_5 : Int) (a2_6 : Int) (a2_7 : Int) (a2_8 : Int) (a2_9 : Int) (a2_10 : Int) (a2_11 : Int) (a2_12 : Int) (a2_13 : Int) (a2_14 : Bool) (a2_15 : Bool) (a2_16 : Bool) (a2_17 : Int) (a2_18 : Int) (a2_19 : Int) (a2_20 : Int) (a2_21 : Int) (a2_22 : Int) (a2_23 : Int) (a2_24 : Int) (a2_25 : Int) (a2_26 : Int) (a2_27 : Int) (a2_28 : Int) (a2_29 : Int) (a2_30 : Int) (a2_31 : Int) (a2_32 : Bool) (a2_33 : Bool) (a2_34 : Bool) (a2_35 : Bool) (a2_36 : Bool) (a3 : Int) (r1 : List (S68)) (r2 : Option Int) (w : World) (hr0 : Kd.C (Kd.int .u8) w A0 l0.length l0) (hc0 : l0.length ≤ c0) (hr1_2 : Kd.C k95 w A1_2 l1_2.length l1_2) (hc1_2 : l1_2.length ≤ c1_2) (hr2_0 : Kd.C (Kd.int .u64) w A2_0 l2_0.length l2_0) (hc2_0 : l2_0.length ≤ c2_0) (h : syms_Read.f k l0 a1_0 a1_1 l1_2 l2_0 a2_1 a2_2 a2_3 a2_4 a2_5 a2_6 a2_7 a2_8 a2_9 a2_10 a2_11 a2_12 a2_13 a2_14 a2_15 a2_16 a2_17 a2_18 a2_19 a2_20 a2_21 a2_22 a2_23 a2_24 a2_25 a2_26 a2_27 a2_28 a2_29 a2_30 a2_31 a2_32 a2_33 a2_34 a2_35 a2_36 a3 = some (r1, r2)) :
  Calls Try.prog 36 #[.slice A0 l0.length c0, .agg #[.int .i64 a1_0, .int .u64 a1_1, .slice A1_2 l1_2.length c1_2], .agg #[.slice A2_0 l2_0.length c2_0, .int .u64 a2_1, .int .u64 a2_2, .int .u64 a2_3, .int .u64 a2_4, .int .u64 a2_5, .int .u64 a2_6, .int .u64 a2_7, .int .u64 a2_8, .int .u64 a2_9, .int .u64 a2_10, .int .u64 a2_11, .int .u64 a2_12, .int .u64 a2_13, .bool a2_14, .bool a2_15, .bool a2_16, .int .u64 a2_17, .int .u64 a2_18, .int .u64 a2_19, .int .u64 a2_20, .int .u64 a2_21, .int .u64 a2_22, .int .u64 a2_23, .int .u64 a2_24, .int .u64 a2_25, .int .u64 a2_26, .int .u64 a2_27, .int .u64 a2_28, .int .u64 a2_29, .int .u64 a2_30, .int .u64 a2_31, .bool a2_32, .bool a2_33, .bool a2_34, .bool a2_35, .bool a2_36], .int .i64 a3] w fun e w' => ∃ v0_ : Value, e = .returned (.tuple #[v0_, errW r2]) ∧ Kd.R k68 68 w' w.heap.size (fun _ => True) v0_ r1 ∧ Below w.heap.size w w' := by
 have hu53 := Try.underlying53
 have hu55 := Try.underlying55
 have hu68 := Try.underlying68
 have hu26 := Try.underlying26
 have hu35 := Try.underlying35
 have HR0 := Aside0.mk hr0
 have HC0 := Aside0.mk hc0
 clear hr0 hc0
 have HR1_2 := Aside0.mk hr1_2
 have HC1_2 := Aside0.mk hc1_2
 clear hr1_2 hc1_2
 have HR2_0 := Aside0.mk hr2_0
 have HC2_0 := Aside0.mk hc2_0
 clear hr2_0 hc2_0
 have HB := Aside0.mk (Below.refl w.heap.size w)
 have H : (if a3 < 0 then (some (([] : List (S68)), some 1)) else (if a3 > 4096 then (some (([] : List (S68)), some 2)) else ((syms_Strings.f k l0 a1_0 a1_1 l1_2 l2_0 a2_1 a2_2 a2_3 a2_4 a2_5 a2_6 a2_7 a2_8 a2_9 a2_10 a2_11 a2_12 a2_13 a2_14 a2_15 a2_16 a2_17 a2_18 a2_19 a2_20 a2_21 a2_22 a2_23 a2_24 a2_25 a2_26 a2_27 a2_28 a2_29 a2_30 a2_31 a2_32 a2_33 a2_34 a2_35 a2_36).bind fun bt160 => (if bt160.2.isNone = true then ((dyn_Slice.f k l0 a1_0 a1_1 l1_2 a2_5 (IntKind.u64.wrap (24 * (IntKind.u64.wrap (a3))))).bind fun bt165 => (if bt165.2.isNone = true then (syms_Read.l0 k bt160.1 bt165.1 ([] : List (S68)) a3 0) else (some (([] : List (S68)), some (bt165.2.getD 0))))) else (some (([] : List (S68)), some (bt160.2.getD 0))))))) = some (r1, r2) := h
 clear h
 have HC5 := Aside0.mk H
 clear H
 go_enter Try.func36, Try.ntmps36
 go_upto_region 1 with (first | ((with_reducible refine gate_ (.load 55 (.tmp 6)) rfl ?_); refine wpList_load_row rfl 55 (.tmp 6) rfl gb159 rfl 55 _ (0, 0) _ (by (with_reducible repeat (first | refine blk_drewN ?_ _ | refine blk_drew ?_ | refine blk_alloc ?_ _)); exact BK159.out) Try.underlying55 rfl (by kernel_rfl) ?_) | ((with_reducible refine gate_dst (N := 5) rfl ?_); (try (refine gate_guard (by rfl) ?_; dsimp only)); refine box_event ?hg (N := 5) ?hd (cs := #[.int .i64 a1_0, .int .u64 a1_1, .slice A1_2 l1_2.length c1_2]) (t := 53) ?hr ?_; (case hd => rfl); (case hg => rfl); (case hr => first | (go_simp; done) | (go_simp; rfl)); intro gb158 hg w6 hbox hb; have n0_ := Aside0.mk (below_step (by repeat (first | (with_reducible first | exact HB.out | apply below_alloc | apply pw_below_drewN | apply below_drew1) | exact HB.out)) hb); have n1_ := Aside0.mk (hbox); have n2_ := Aside0.mk ((by rw [hg]; exact (below_size (by repeat (first | (with_reducible first | exact HB.out | apply below_alloc | apply pw_below_drewN | apply below_drew1) | exact HB.out))) : w.heap.size ≤ gb158)); have n3_ := Aside0.mk ((by rw [hg]; exact (below_size (by repeat (first | (with_reducible first | exact HB.out | apply below_alloc | apply pw_below_drewN | apply below_drew1) | exact HB.out))) : w.heap.size ≤ gb158)); clear HB; have HB := n0_; have BK158 := n1_; have GW158 := n2_; have GE158 := n3_; clear n0_ n1_ n2_ n3_; clear hb hbox hg) | ((with_reducible refine gate_dst (N := 6) rfl ?_); (try (refine gate_guard (by rfl) ?_; dsimp only)); refine box_event ?hg (N := 6) ?hd (cs := #[.slice A2_0 l2_0.length c2_0, .int .u64 a2_1, .int .u64 a2_2, .int .u64 a2_3, .int .u64 a2_4, .int .u64 a2_5, .int .u64 a2_6, .int .u64 a2_7, .int .u64 a2_8, .int .u64 a2_9, .int .u64 a2_10, .int .u64 a2_11, .int .u64 a2_12, .int .u64 a2_13, .bool a2_14, .bool a2_15, .bool a2_16, .int .u64 a2_17, .int .u64 a2_18, .int .u64 a2_19, .int .u64 a2_20, .int .u64 a2_21, .int .u64 a2_22, .int .u64 a2_23, .int .u64 a2_24, .int .u64 a2_25, .int .u64 a2_26, .int .u64 a2_27, .int .u64 a2_28, .int .u64 a2_29, .int .u64 a2_30, .int .u64 a2_31, .bool a2_32, .bool a2_33, .bool a2_34, .bool a2_35, .bool a2_36]) (t := 55) ?hr ?_; (case hd => rfl); (case hg => rfl); (case hr => first | (go_simp; done) | (go_simp; rfl)); intro gb159 hg w7 hbox hb; have n0_ := Aside0.mk (blk_below (g := gb158) (o := .cells #[.int .i64 a1_0, .int .u64 a1_1, .slice A1_2 l1_2.length c1_2] 53 (0, 0)) (by (with_reducible repeat (first | refine blk_drewN ?_ _ | refine blk_drew ?_ | refine blk_alloc ?_ _)); exact BK158.out) hb); have n1_ := Aside0.mk (below_step (by repeat (first | (with_reducible first | exact HB.out | apply below_alloc | apply pw_below_drewN | apply below_drew1 | refine below_set ?_ GE158.out) | exact HB.out)) hb); have n2_ := Aside0.mk (hbox); have n3_ := Aside0.mk ((by rw [hg]; exact (below_size (by repeat (first | (with_reducible first | exact HB.out | apply below_alloc | apply pw_below_drewN | apply below_drew1 | refine below_set ?_ GE158.out) | exact HB.out))) : w.heap.size ≤ gb159)); have n4_ := Aside0.mk ((by rw [hg]; exact (below_size (by repeat (first | (with_reducible first | exact HB.out | apply below_alloc | apply pw_below_drewN | apply below_drew1 | refine below_set ?_ GE158.out) | exact HB.out))) : w.heap.size ≤ gb159)); have n5_ := Aside0.mk ((by rw [hg]; exact Nat.ne_of_lt (blk_lt (g := gb158) (o := .cells #[.int .i64 a1_0, .int .u64 a1_1, .slice A1_2 l1_2.length c1_2] 53 (0, 0)) (by (with_reducible repeat (first | refine blk_drewN ?_ _ | refine blk_drew ?_ | refine blk_alloc ?_ _)); exact BK158.out)) : gb158 ≠ gb159)); have n6_ := Aside0.mk ((by rw [hg]; exact Nat.ne_of_gt (blk_lt (g := gb158) (o := .cells #[.int .i64 a1_0, .int .u64 a1_1, .slice A1_2 l1_2.length c1_2] 53 (0, 0)) (by (with_reducible repeat (first | refine blk_drewN ?_ _ | refine blk_drew ?_ | refine blk_alloc ?_ _)); exact BK158.out)) : gb159 ≠ gb158)); clear BK158; clear HB; have BK158 := n0_; have HB := n1_; have BK159 := n2_; have GW159 := n3_; have GE159 := n4_; have NB158_159 := n5_; have NB159_158 := n6_; clear n0_ n1_ n2_ n3_ n4_ n5_ n6_; clear hb hbox hg))
 (try simp only [Act.put, List.setIfInBounds_toArray, List.set_cons_zero, List.set_cons_succ])
 have H := HC5.out
 clear HC5
 by_cases c8 : a3 < 0
 ·rw [if_pos c8] at H
  have c8b0 : decide (a3 < 0) = true := decide_eq_true c8
  clear c8
  (first | rw [c8b0] | (simp only [i64_w, i32_w]; rw [c8b0]) | skip)
  simp only [Option.some.injEq, Prod.mk.injEq] at H
  obtain ⟨rfl, rfl⟩ := H
  go_wp2
  go_ret2
  exact ⟨_, by first | rfl | (simp [errW_none, errW_some] <;> rfl) | (simp [*, errW_none, errW_some] <;> rfl), by first | exact Kd.R_nil _ _ _ _ _ | exact Kd.N_nil _ _ _ _ _ | exact Kd.V_nil _ _ _ _ _ | exact Kd.Q_nil _ _ _ _ _ | exact Kd.S_nil _ _ _ _ _, by repeat (first | (with_reducible first | exact HB.out | apply below_alloc | apply pw_below_drewN | apply below_drew1 | refine below_set ?_ GE158.out | refine below_set ?_ GE159.out) | exact HB.out)⟩
 ·rw [if_neg c8] at H
  have c8b0 : decide (a3 < 0) = false := decide_eq_false c8
  clear c8
  (first | rw [c8b0] | (simp only [i64_w, i32_w]; rw [c8b0]) | skip)
  by_cases c9 : a3 > 4096
  ·rw [if_pos c9] at H
   have c9b0 : decide (4096 < a3) = true := decide_eq_true c9
   clear c9
   simp only [Option.some.injEq, Prod.mk.injEq] at H
   obtain ⟨rfl, rfl⟩ := H
   go_wp2
   go_ret2
   exact ⟨_, by first | rfl | (simp [errW_none, errW_some] <;> rfl) | (simp [*, errW_none, errW_some] <;> rfl), by first | exact Kd.R_nil _ _ _ _ _ | exact Kd.N_nil _ _ _ _ _ | exact Kd.V_nil _ _ _ _ _ | exact Kd.Q_nil _ _ _ _ _ | exact Kd.S_nil _ _ _ _ _, by repeat (first | (with_reducible first | exact HB.out | apply below_alloc | apply pw_below_drewN | apply below_drew1 | refine below_set ?_ GE158.out | refine below_set ?_ GE159.out) | exact HB.out)⟩
  ·rw [if_neg c9] at H
   have c9b0 : decide (4096 < a3) = false := decide_eq_false c9
   clear c9
   replace H := Option.bind_eq_some_iff.mp H
   obtain ⟨⟨t160, t163⟩, A100, H⟩ := H
   replace H : (if t163.isNone = true then ((dyn_Slice.f k l0 a1_0 a1_1 l1_2 a2_5 (IntKind.u64.wrap (24 * (IntKind.u64.wrap (a3))))).bind fun bt165 => (if bt165.2.isNone = true then (syms_Read.l0 k t160 bt165.1 ([] : List (S68)) a3 0) else (some (([] : List (S68)), some (bt165.2.getD 0))))) else (some (([] : List (S68)), some (t163.getD 0)))) = some (r1, r2) := H
   have A10 := Aside0.mk A100
   clear A100
   have HC11 := Aside0.mk H
   clear H
   have hnb12 := NB158_159.out
   have hnc12 := NB159_158.out
   have hcz13_0 : w7.cell? ⟨gb158, 0, none⟩ = some (.int .i64 a1_0) := (blk_cell BK158.out 0).trans rfl
   have hcz13_1 : w7.cell? ⟨gb158, 1, none⟩ = some (.int .u64 a1_1) := (blk_cell BK158.out 1).trans rfl
   have hcz13_2 : w7.cell? ⟨gb158, 2, none⟩ = some (.slice A1_2 l1_2.length c1_2) := (blk_cell BK158.out 2).trans rfl
   have hfz13_0 := blk_frozen BK158.out 0
   have hfz13_1 := blk_frozen BK158.out 1
   have hfz13_2 := blk_frozen BK158.out 2
   have hcz14_0 : w7.cell? ⟨gb159, 0, none⟩ = some (.slice A2_0 l2_0.length c2_0) := (blk_cell BK159.out 0).trans rfl
   have hcz14_1 : w7.cell? ⟨gb159, 1, none⟩ = some (.int .u64 a2_1) := (blk_cell BK159.out 1).trans rfl
   have hcz14_2 : w7.cell? ⟨gb159, 2, none⟩ = some (.int .u64 a2_2) := (blk_cell BK159.out 2).trans rfl
   have hcz14_3 : w7.cell? ⟨gb159, 3, none⟩ = some (.int .u64 a2_3) := (blk_cell BK159.out 3).trans rfl
   have hcz14_4 : w7.cell? ⟨gb159, 4, none⟩ = some (.int .u64 a2_4) := (blk_cell BK159.out 4).trans rfl
   have hcz14_5 : w7.cell? ⟨gb159, 5, none⟩ = some (.int .u64 a2_5) := (blk_cell BK159.out 5).trans rfl
   have hcz14_6 : w7.cell? ⟨gb159, 6, none⟩ = some (.int .u64 a2_6) := (blk_cell BK159.out 6).trans rfl
   have hcz14_7 : w7.cell? ⟨gb159, 7, none⟩ = some (.int .u64 a2_7) := (blk_cell BK159.out 7).trans rfl
   have hcz14_8 : w7.cell? ⟨gb159, 8, none⟩ = some (.int .u64 a2_8) := (blk_cell BK159.out 8).trans rfl
   have hcz14_9 : w7.cell? ⟨gb159, 9, none⟩ = some (.int .u64 a2_9) := (blk_cell BK159.out 9).trans rfl
   have hcz14_10 : w7.cell? ⟨gb159, 10, none⟩ = some (.int .u64 a2_10) := (blk_cell BK159.out 10).trans rfl
   have hcz14_11 : w7.cell? ⟨gb159, 11, none⟩ = some (.int .u64 a2_11) := (blk_cell BK159.out 11).trans rfl
   have hcz14_12 : w7.cell? ⟨gb159, 12, none⟩ = some (.int .u64 a2_12) := (blk_cell BK159.out 12).trans rfl
   have hcz14_13 : w7.cell? ⟨gb159, 13, none⟩ = some (.int .u64 a2_13) := (blk_cell BK159.out 13).trans rfl
   have hcz14_14 : w7.cell? ⟨gb159, 14, none⟩ = some (.bool a2_14) := (blk_cell BK159.out 14).trans rfl
   have hcz14_15 : w7.cell? ⟨gb159, 15, none⟩ = some (.bool a2_15) := (blk_cell BK159.out 15).trans rfl
   have hcz14_16 : w7.cell? ⟨gb159, 16, none⟩ = some (.bool a2_16) := (blk_cell BK159.out 16).trans rfl
   have hcz14_17 : w7.cell? ⟨gb159, 17, none⟩ = some (.int .u64 a2_17) := (blk_cell BK159.out 17).trans rfl
   have hcz14_18 : w7.cell? ⟨gb159, 18, none⟩ = some (.int .u64 a2_18) := (blk_cell BK159.out 18).trans rfl
   have hcz14_19 : w7.cell? ⟨gb159, 19, none⟩ = some (.int .u64 a2_19) := (blk_cell BK159.out 19).trans rfl
   have hcz14_20 : w7.cell? ⟨gb159, 20, none⟩ = some (.int .u64 a2_20) := (blk_cell BK159.out 20).trans rfl
   have hcz14_21 : w7.cell? ⟨gb159, 21, none⟩ = some (.int .u64 a2_21) := (blk_cell BK159.out 21).trans rfl
   have hcz14_22 : w7.cell? ⟨gb159, 22, none⟩ = some (.int .u64 a2_22) := (blk_cell BK159.out 22).trans rfl
   have hcz14_23 : w7.cell? ⟨gb159, 23, none⟩ = some (.int .u64 a2_23) := (blk_cell BK159.out 23).trans rfl
   have hcz14_24 : w7.cell? ⟨gb159, 24, none⟩ = some (.int .u64 a2_24) := (blk_cell BK159.out 24).trans rfl
   have hcz14_25 : w7.cell? ⟨gb159, 25, none⟩ = some (.int .u64 a2_25) := (blk_cell BK159.out 25).trans rfl
   have hcz14_26 : w7.cell? ⟨gb159, 26, none⟩ = some (.int .u64 a2_26) := (blk_cell BK159.out 26).trans rfl
   have hcz14_27 : w7.cell? ⟨gb159, 27, none⟩ = some (.int .u64 a2_27) := (blk_cell BK159.out 27).trans rfl
   have hcz14_28 : w7.cell? ⟨gb159, 28, none⟩ = some (.int .u64 a2_28) := (blk_cell BK159.out 28).trans rfl
   have hcz14_29 : w7.cell? ⟨gb159, 29, none⟩ = some (.int .u64 a2_29) := (blk_cell BK159.out 29).trans rfl
   have hcz14_30 : w7.cell? ⟨gb159, 30, none⟩ = some (.int .u64 a2_30) := (blk_cell BK159.out 30).trans rfl
   have hcz14_31 : w7.cell? ⟨gb159, 31, none⟩ = some (.int .u64 a2_31) := (blk_cell BK159.out 31).trans rfl
   have hcz14_32 : w7.cell? ⟨gb159, 32, none⟩ = some (.bool a2_32) := (blk_cell BK159.out 32).trans rfl
   have hcz14_33 : w7.cell? ⟨gb159, 33, none⟩ = some (.bool a2_33) := (blk_cell BK159.out 33).trans rfl
   have hcz14_34 : w7.cell? ⟨gb159, 34, none⟩ = some (.bool a2_34) := (blk_cell BK159.out 34).trans rfl
   have hcz14_35 : w7.cell? ⟨gb159, 35, none⟩ = some (.bool a2_35) := (blk_cell BK159.out 35).trans rfl
   have hcz14_36 : w7.cell? ⟨gb159, 36, none⟩ = some (.bool a2_36) := (blk_cell BK159.out 36).trans rfl
   have hfz14_0 := blk_frozen BK159.out 0
   have hfz14_1 := blk_frozen BK159.out 1
   have hfz14_2 := blk_frozen BK159.out 2
   have hfz14_3 := blk_frozen BK159.out 3
   have hfz14_4 := blk_frozen BK159.out 4
   have hfz14_5 := blk_frozen BK159.out 5
   have hfz14_6 := blk_frozen BK159.out 6
   have hfz14_7 := blk_frozen BK159.out 7
   have hfz14_8 := blk_frozen BK159.out 8
   have hfz14_9 := blk_frozen BK159.out 9
   have hfz14_10 := blk_frozen BK159.out 10
   have hfz14_11 := blk_frozen BK159.out 11
   have hfz14_12 := blk_frozen BK159.out 12
   have hfz14_13 := blk_frozen BK159.out 13
   have hfz14_14 := blk_frozen BK159.out 14
   have hfz14_15 := blk_frozen BK159.out 15
   have hfz14_16 := blk_frozen BK159.out 16
   have hfz14_17 := blk_frozen BK159.out 17
   have hfz14_18 := blk_frozen BK159.out 18
   have hfz14_19 := blk_frozen BK159.out 19
   have hfz14_20 := blk_frozen BK159.out 20
   have hfz14_21 := blk_frozen BK159.out 21
   have hfz14_22 := blk_frozen BK159.out 22
   have hfz14_23 := blk_frozen BK159.out 23
   have hfz14_24 := blk_frozen BK159.out 24
   have hfz14_25 := blk_frozen BK159.out 25
   have hfz14_26 := blk_frozen BK159.out 26
   have hfz14_27 := blk_frozen BK159.out 27
   have hfz14_28 := blk_frozen BK159.out 28
   have hfz14_29 := blk_frozen BK159.out 29
   have hfz14_30 := blk_frozen BK159.out 30
   have hfz14_31 := blk_frozen BK159.out 31
   have hfz14_32 := blk_frozen BK159.out 32
   have hfz14_33 := blk_frozen BK159.out 33
   have hfz14_34 := blk_frozen BK159.out 34
   have hfz14_35 := blk_frozen BK159.out 35
   have hfz14_36 := blk_frozen BK159.out 36
   go_upto_region 6 with (first | ((with_reducible refine gate_ (.load 55 (.tmp 6)) rfl ?_); refine wpList_load_row rfl 55 (.tmp 6) rfl gb159 rfl 55 _ (0, 0) _ (by (with_reducible repeat (first | refine blk_drewN ?_ _ | refine blk_drew ?_ | refine blk_alloc ?_ _)); exact BK159.out) Try.underlying55 rfl (by kernel_rfl) ?_) | ((with_reducible refine gate_callee (f := 34) rfl ?_); refine goesL_ (some 31) rfl rfl Try.func34 (by kernel_rfl) rfl #[.slice A0 l0.length c0, .agg #[.int .i64 a1_0, .int .u64 a1_1, .slice A1_2 l1_2.length c1_2], .agg #[.slice A2_0 l2_0.length c2_0, .int .u64 a2_1, .int .u64 a2_2, .int .u64 a2_3, .int .u64 a2_4, .int .u64 a2_5, .int .u64 a2_6, .int .u64 a2_7, .int .u64 a2_8, .int .u64 a2_9, .int .u64 a2_10, .int .u64 a2_11, .int .u64 a2_12, .int .u64 a2_13, .bool a2_14, .bool a2_15, .bool a2_16, .int .u64 a2_17, .int .u64 a2_18, .int .u64 a2_19, .int .u64 a2_20, .int .u64 a2_21, .int .u64 a2_22, .int .u64 a2_23, .int .u64 a2_24, .int .u64 a2_25, .int .u64 a2_26, .int .u64 a2_27, .int .u64 a2_28, .int .u64 a2_29, .int .u64 a2_30, .int .u64 a2_31, .bool a2_32, .bool a2_33, .bool a2_34, .bool a2_35, .bool a2_36]] rfl (by (try simp only [List.map_toArray, List.map_cons, List.map_nil]); first | done | rfl | (simp only [List.length_drop, List.length_take]; rfl)) ?_; (with_reducible refine (syms_Strings.calls k _ _ l0 a1_0 a1_1 _ _ l1_2 _ _ l2_0 a2_1 a2_2 a2_3 a2_4 a2_5 a2_6 a2_7 a2_8 a2_9 a2_10 a2_11 a2_12 a2_13 a2_14 a2_15 a2_16 a2_17 a2_18 a2_19 a2_20 a2_21 a2_22 a2_23 a2_24 a2_25 a2_26 a2_27 a2_28 a2_29 a2_30 a2_31 a2_32 a2_33 a2_34 a2_35 a2_36 t160 t163 _ ?side1 ?side2 ?side3 ?side4 ?side5 ?side6 A10.out).mono ?_); (case side1 => repeat (first | exact (Kd.C_below HR0.out HB.out) | (with_reducible refine Kd.C_alloc ?_ _) | (with_reducible refine Kd.C_drewN ?_ _) | (with_reducible refine Kd.C_drew ?_))); (case side2 => exact HC0.out); (case side3 => repeat (first | exact (Kd.C_below HR1_2.out HB.out) | (with_reducible refine Kd.C_alloc ?_ _) | (with_reducible refine Kd.C_drewN ?_ _) | (with_reducible refine Kd.C_drew ?_))); (case side4 => exact HC1_2.out); (case side5 => repeat (first | exact (Kd.C_below HR2_0.out HB.out) | (with_reducible refine Kd.C_alloc ?_ _) | (with_reducible refine Kd.C_drewN ?_ _) | (with_reducible refine Kd.C_drew ?_))); (case side6 => exact HC2_0.out); rintro e w15 ⟨v161, rfl, ho0, hb⟩; refine ⟨_, rfl, ?_⟩; have n0_ := Aside0.mk (Kd.V_lower (Kd.V_mono (ok' := fun k_ => k_ ≠ gb158 ∧ k_ ≠ gb159) ho0 (fun k_ hk_ => ⟨(Kd.freshB (g := gb158) (o := .cells #[.int .i64 a1_0, .int .u64 a1_1, .slice A1_2 l1_2.length c1_2] 53 (0, 0)) (by (with_reducible repeat (first | refine blk_drewN ?_ _ | refine blk_drew ?_ | refine blk_alloc ?_ _)); exact BK158.out) k_ hk_), (Kd.freshB (g := gb159) (o := .cells #[.slice A2_0 l2_0.length c2_0, .int .u64 a2_1, .int .u64 a2_2, .int .u64 a2_3, .int .u64 a2_4, .int .u64 a2_5, .int .u64 a2_6, .int .u64 a2_7, .int .u64 a2_8, .int .u64 a2_9, .int .u64 a2_10, .int .u64 a2_11, .int .u64 a2_12, .int .u64 a2_13, .bool a2_14, .bool a2_15, .bool a2_16, .int .u64 a2_17, .int .u64 a2_18, .int .u64 a2_19, .int .u64 a2_20, .int .u64 a2_21, .int .u64 a2_22, .int .u64 a2_23, .int .u64 a2_24, .int .u64 a2_25, .int .u64 a2_26, .int .u64 a2_27, .int .u64 a2_28, .int .u64 a2_29, .int .u64 a2_30, .int .u64 a2_31, .bool a2_32, .bool a2_33, .bool a2_34, .bool a2_35, .bool a2_36] 55 (0, 0)) (by (with_reducible repeat (first | refine blk_drewN ?_ _ | refine blk_drew ?_ | refine blk_alloc ?_ _)); exact BK159.out) k_ hk_)⟩)) (below_size (by repeat (first | (with_reducible first | exact HB.out | apply below_alloc | apply pw_below_drewN | apply below_drew1 | refine below_set ?_ GE158.out | refine below_set ?_ GE159.out) | exact HB.out)))); have n1_ := Aside0.mk (blk_below (g := gb158) (o := .cells #[.int .i64 a1_0, .int .u64 a1_1, .slice A1_2 l1_2.length c1_2] 53 (0, 0)) (by (with_reducible repeat (first | refine blk_drewN ?_ _ | refine blk_drew ?_ | refine blk_alloc ?_ _)); exact BK158.out) hb); have n2_ := Aside0.mk (blk_below (g := gb159) (o := .cells #[.slice A2_0 l2_0.length c2_0, .int .u64 a2_1, .int .u64 a2_2, .int .u64 a2_3, .int .u64 a2_4, .int .u64 a2_5, .int .u64 a2_6, .int .u64 a2_7, .int .u64 a2_8, .int .u64 a2_9, .int .u64 a2_10, .int .u64 a2_11, .int .u64 a2_12, .int .u64 a2_13, .bool a2_14, .bool a2_15, .bool a2_16, .int .u64 a2_17, .int .u64 a2_18, .int .u64 a2_19, .int .u64 a2_20, .int .u64 a2_21, .int .u64 a2_22, .int .u64 a2_23, .int .u64 a2_24, .int .u64 a2_25, .int .u64 a2_26, .int .u64 a2_27, .int .u64 a2_28, .int .u64 a2_29, .int .u64 a2_30, .int .u64 a2_31, .bool a2_32, .bool a2_33, .bool a2_34, .bool a2_35, .bool a2_36] 55 (0, 0)) (by (with_reducible repeat (first | refine blk_drewN ?_ _ | refine blk_drew ?_ | refine blk_alloc ?_ _)); exact BK159.out) hb); have n3_ := Aside0.mk (below_step (by repeat (first | (with_reducible first | exact HB.out | apply below_alloc | apply pw_below_drewN | apply below_drew1 | refine below_set ?_ GE158.out | refine below_set ?_ GE159.out) | exact HB.out)) hb); clear BK158; clear BK159; clear HB; have HO162 := n0_; have BK158 := n1_; have BK159 := n2_; have HB := n3_; clear n0_ n1_ n2_ n3_; (try clear hb); (try clear hb2); (try clear hk); (try clear hi); (try clear ho0); (try simp only [errW_none, errW_some])))
   (try simp only [Act.put, List.setIfInBounds_toArray, List.set_cons_zero, List.set_cons_succ])
   have H := HC11.out
   clear HC11
   rcases t163 with _ | q164
   ·have H1 : ((dyn_Slice.f k l0 a1_0 a1_1 l1_2 a2_5 (IntKind.u64.wrap (24 * (IntKind.u64.wrap (a3))))).bind fun bt165 => (if bt165.2.isNone = true then (syms_Read.l0 k t160 bt165.1 ([] : List (S68)) a3 0) else (some (([] : List (S68)), some (bt165.2.getD 0))))) = some (r1, r2) := by rw [if_pos (show (none : Option Int).isNone = true by rfl)] at H; exact H
    clear H
    have H := H1
    clear H1
    try simp only [errW_none, errW_some]
    replace H := Option.bind_eq_some_iff.mp H
    obtain ⟨⟨t165, t168⟩, A160, H⟩ := H
    replace H : (if t168.isNone = true then (syms_Read.l0 k t160 t165 ([] : List (S68)) a3 0) else (some (([] : List (S68)), some (t168.getD 0)))) = some (r1, r2) := H
    have A16 := Aside0.mk A160
    clear A160
    have HC17 := Aside0.mk H
    clear H
    have hnb18 := NB158_159.out
    have hnc18 := NB159_158.out
    have hcz19_0 : w15.cell? ⟨gb158, 0, none⟩ = some (.int .i64 a1_0) := (blk_cell BK158.out 0).trans rfl
    have hcz19_1 : w15.cell? ⟨gb158, 1, none⟩ = some (.int .u64 a1_1) := (blk_cell BK158.out 1).trans rfl
    have hcz19_2 : w15.cell? ⟨gb158, 2, none⟩ = some (.slice A1_2 l1_2.length c1_2) := (blk_cell BK158.out 2).trans rfl
    have hfz19_0 := blk_frozen BK158.out 0
    have hfz19_1 := blk_frozen BK158.out 1
    have hfz19_2 := blk_frozen BK158.out 2
    have hcz20_0 : w15.cell? ⟨gb159, 0, none⟩ = some (.slice A2_0 l2_0.length c2_0) := (blk_cell BK159.out 0).trans rfl
    have hcz20_1 : w15.cell? ⟨gb159, 1, none⟩ = some (.int .u64 a2_1) := (blk_cell BK159.out 1).trans rfl
    have hcz20_2 : w15.cell? ⟨gb159, 2, none⟩ = some (.int .u64 a2_2) := (blk_cell BK159.out 2).trans rfl
    have hcz20_3 : w15.cell? ⟨gb159, 3, none⟩ = some (.int .u64 a2_3) := (blk_cell BK159.out 3).trans rfl
    have hcz20_4 : w15.cell? ⟨gb159, 4, none⟩ = some (.int .u64 a2_4) := (blk_cell BK159.out 4).trans rfl
    have hcz20_5 : w15.cell? ⟨gb159, 5, none⟩ = some (.int .u64 a2_5) := (blk_cell BK159.out 5).trans rfl
    have hcz20_6 : w15.cell? ⟨gb159, 6, none⟩ = some (.int .u64 a2_6) := (blk_cell BK159.out 6).trans rfl
    have hcz20_7 : w15.cell? ⟨gb159, 7, none⟩ = some (.int .u64 a2_7) := (blk_cell BK159.out 7).trans rfl
    have hcz20_8 : w15.cell? ⟨gb159, 8, none⟩ = some (.int .u64 a2_8) := (blk_cell BK159.out 8).trans rfl
    have hcz20_9 : w15.cell? ⟨gb159, 9, none⟩ = some (.int .u64 a2_9) := (blk_cell BK159.out 9).trans rfl
    have hcz20_10 : w15.cell? ⟨gb159, 10, none⟩ = some (.int .u64 a2_10) := (blk_cell BK159.out 10).trans rfl
    have hcz20_11 : w15.cell? ⟨gb159, 11, none⟩ = some (.int .u64 a2_11) := (blk_cell BK159.out 11).trans rfl
    have hcz20_12 : w15.cell? ⟨gb159, 12, none⟩ = some (.int .u64 a2_12) := (blk_cell BK159.out 12).trans rfl
    have hcz20_13 : w15.cell? ⟨gb159, 13, none⟩ = some (.int .u64 a2_13) := (blk_cell BK159.out 13).trans rfl
    have hcz20_14 : w15.cell? ⟨gb159, 14, none⟩ = some (.bool a2_14) := (blk_cell BK159.out 14).trans rfl
    have hcz20_15 : w15.cell? ⟨gb159, 15, none⟩ = some (.bool a2_15) := (blk_cell BK159.out 15).trans rfl
    have hcz20_16 : w15.cell? ⟨gb159, 16, none⟩ = some (.bool a2_16) := (blk_cell BK159.out 16).trans rfl
    have hcz20_17 : w15.cell? ⟨gb159, 17, none⟩ = some (.int .u64 a2_17) := (blk_cell BK159.out 17).trans rfl
    have hcz20_18 : w15.cell? ⟨gb159, 18, none⟩ = some (.int .u64 a2_18) := (blk_cell BK159.out 18).trans rfl
    have hcz20_19 : w15.cell? ⟨gb159, 19, none⟩ = some (.int .u64 a2_19) := (blk_cell BK159.out 19).trans rfl
    have hcz20_20 : w15.cell? ⟨gb159, 20, none⟩ = some (.int .u64 a2_20) := (blk_cell BK159.out 20).trans rfl
    have hcz20_21 : w15.cell? ⟨gb159, 21, none⟩ = some (.int .u64 a2_21) := (blk_cell BK159.out 21).trans rfl
    have hcz20_22 : w15.cell? ⟨gb159, 22, none⟩ = some (.int .u64 a2_22) := (blk_cell BK159.out 22).trans rfl
    have hcz20_23 : w15.cell? ⟨gb159, 23, none⟩ = some (.int .u64 a2_23) := (blk_cell BK159.out 23).trans rfl
    have hcz20_24 : w15.cell? ⟨gb159, 24, none⟩ = some (.int .u64 a2_24) := (blk_cell BK159.out 24).trans rfl
    have hcz20_25 : w15.cell? ⟨gb159, 25, none⟩ = some (.int .u64 a2_25) := (blk_cell BK159.out 25).trans rfl
    have hcz20_26 : w15.cell? ⟨gb159, 26, none⟩ = some (.int .u64 a2_26) := (blk_cell BK159.out 26).trans rfl
    have hcz20_27 : w15.cell? ⟨gb159, 27, none⟩ = some (.int .u64 a2_27) := (blk_cell BK159.out 27).trans rfl
    have hcz20_28 : w15.cell? ⟨gb159, 28, none⟩ = some (.int .u64 a2_28) := (blk_cell BK159.out 28).trans rfl
    have hcz20_29 : w15.cell? ⟨gb159, 29, none⟩ = some (.int .u64 a2_29) := (blk_cell BK159.out 29).trans rfl
    have hcz20_30 : w15.cell? ⟨gb159, 30, none⟩ = some (.int .u64 a2_30) := (blk_cell BK159.out 30).trans rfl
    have hcz20_31 : w15.cell? ⟨gb159, 31, none⟩ = some (.int .u64 a2_31) := (blk_cell BK159.out 31).trans rfl
    have hcz20_32 : w15.cell? ⟨gb159, 32, none⟩ = some (.bool a2_32) := (blk_cell BK159.out 32).trans rfl
    have hcz20_33 : w15.cell? ⟨gb159, 33, none⟩ = some (.bool a2_33) := (blk_cell BK159.out 33).trans rfl
    have hcz20_34 : w15.cell? ⟨gb159, 34, none⟩ = some (.bool a2_34) := (blk_cell BK159.out 34).trans rfl
    have hcz20_35 : w15.cell? ⟨gb159, 35, none⟩ = some (.bool a2_35) := (blk_cell BK159.out 35).trans rfl
    have hcz20_36 : w15.cell? ⟨gb159, 36, none⟩ = some (.bool a2_36) := (blk_cell BK159.out 36).trans rfl
    have hfz20_0 := blk_frozen BK159.out 0
    have hfz20_1 := blk_frozen BK159.out 1
    have hfz20_2 := blk_frozen BK159.out 2
    have hfz20_3 := blk_frozen BK159.out 3
    have hfz20_4 := blk_frozen BK159.out 4
    have hfz20_5 := blk_frozen BK159.out 5
    have hfz20_6 := blk_frozen BK159.out 6
    have hfz20_7 := blk_frozen BK159.out 7
    have hfz20_8 := blk_frozen BK159.out 8
    have hfz20_9 := blk_frozen BK159.out 9
    have hfz20_10 := blk_frozen BK159.out 10
    have hfz20_11 := blk_frozen BK159.out 11
    have hfz20_12 := blk_frozen BK159.out 12
    have hfz20_13 := blk_frozen BK159.out 13
    have hfz20_14 := blk_frozen BK159.out 14
    have hfz20_15 := blk_frozen BK159.out 15
    have hfz20_16 := blk_frozen BK159.out 16
    have hfz20_17 := blk_frozen BK159.out 17
    have hfz20_18 := blk_frozen BK159.out 18
    have hfz20_19 := blk_frozen BK159.out 19
    have hfz20_20 := blk_frozen BK159.out 20
    have hfz20_21 := blk_frozen BK159.out 21
    have hfz20_22 := blk_frozen BK159.out 22
    have hfz20_23 := blk_frozen BK159.out 23
    have hfz20_24 := blk_frozen BK159.out 24
    have hfz20_25 := blk_frozen BK159.out 25
    have hfz20_26 := blk_frozen BK159.out 26
    have hfz20_27 := blk_frozen BK159.out 27
    have hfz20_28 := blk_frozen BK159.out 28
    have hfz20_29 := blk_frozen BK159.out 29
    have hfz20_30 := blk_frozen BK159.out 30
    have hfz20_31 := blk_frozen BK159.out 31
    have hfz20_32 := blk_frozen BK159.out 32
    have hfz20_33 := blk_frozen BK159.out 33
    have hfz20_34 := blk_frozen BK159.out 34
    have hfz20_35 := blk_frozen BK159.out 35
    have hfz20_36 := blk_frozen BK159.out 36
    go_upto_region 9 with (first | ((with_reducible refine gate_ (.load 55 (.tmp 6)) rfl ?_); refine wpList_load_row rfl 55 (.tmp 6) rfl gb159 rfl 55 _ (0, 0) _ (by (with_reducible repeat (first | refine blk_drewN ?_ _ | refine blk_drew ?_ | refine blk_alloc ?_ _)); exact BK159.out) Try.underlying55 rfl (by kernel_rfl) ?_) | ((with_reducible refine gate_callee (f := 46) rfl ?_); refine goesL_ (some 45) rfl rfl Try.func46 (by kernel_rfl) rfl #[.slice A0 l0.length c0, .agg #[.int .i64 a1_0, .int .u64 a1_1, .slice A1_2 l1_2.length c1_2], .int .u64 a2_5, .int .u64 (IntKind.u64.wrap (24 * (IntKind.u64.wrap (a3))))] rfl (by (try simp only [List.map_toArray, List.map_cons, List.map_nil]); first | done | rfl | (simp only [List.length_drop, List.length_take]; rfl)) ?_; (with_reducible refine (dyn_Slice.calls k _ _ l0 a1_0 a1_1 _ _ l1_2 a2_5 (IntKind.u64.wrap (24 * (IntKind.u64.wrap (a3)))) t165 t168 _ ?side1 ?side2 ?side3 ?side4 A16.out).mono ?_); (case side1 => repeat (first | exact (Kd.C_below HR0.out HB.out) | (with_reducible refine Kd.C_alloc ?_ _) | (with_reducible refine Kd.C_drewN ?_ _) | (with_reducible refine Kd.C_drew ?_))); (case side2 => exact HC0.out); (case side3 => repeat (first | exact (Kd.C_below HR1_2.out HB.out) | (with_reducible refine Kd.C_alloc ?_ _) | (with_reducible refine Kd.C_drewN ?_ _) | (with_reducible refine Kd.C_drew ?_))); (case side4 => exact HC1_2.out); rintro e w21 ⟨v166, rfl, ho0, hb⟩; refine ⟨_, rfl, ?_⟩; have n0_ := Aside0.mk (Kd.V_below (by (with_reducible repeat (first | apply Kd.V_alloc | apply Kd.V_drewN | apply Kd.V_drew)); exact HO162.out) hb); have n1_ := Aside0.mk (Kd.V_lower (Kd.V_mono (ok' := fun k_ => k_ ≠ gb158 ∧ k_ ≠ gb159) ho0 (fun k_ hk_ => ⟨(Kd.freshB (g := gb158) (o := .cells #[.int .i64 a1_0, .int .u64 a1_1, .slice A1_2 l1_2.length c1_2] 53 (0, 0)) (by (with_reducible repeat (first | refine blk_drewN ?_ _ | refine blk_drew ?_ | refine blk_alloc ?_ _)); exact BK158.out) k_ hk_), (Kd.freshB (g := gb159) (o := .cells #[.slice A2_0 l2_0.length c2_0, .int .u64 a2_1, .int .u64 a2_2, .int .u64 a2_3, .int .u64 a2_4, .int .u64 a2_5, .int .u64 a2_6, .int .u64 a2_7, .int .u64 a2_8, .int .u64 a2_9, .int .u64 a2_10, .int .u64 a2_11, .int .u64 a2_12, .int .u64 a2_13, .bool a2_14, .bool a2_15, .bool a2_16, .int .u64 a2_17, .int .u64 a2_18, .int .u64 a2_19, .int .u64 a2_20, .int .u64 a2_21, .int .u64 a2_22, .int .u64 a2_23, .int .u64 a2_24, .int .u64 a2_25, .int .u64 a2_26, .int .u64 a2_27, .int .u64 a2_28, .int .u64 a2_29, .int .u64 a2_30, .int .u64 a2_31, .bool a2_32, .bool a2_33, .bool a2_34, .bool a2_35, .bool a2_36] 55 (0, 0)) (by (with_reducible repeat (first | refine blk_drewN ?_ _ | refine blk_drew ?_ | refine blk_alloc ?_ _)); exact BK159.out) k_ hk_)⟩)) (below_size (by repeat (first | (with_reducible first | exact HB.out | apply below_alloc | apply pw_below_drewN | apply below_drew1 | refine below_set ?_ GE158.out | refine below_set ?_ GE159.out) | exact HB.out)))); have n2_ := Aside0.mk (blk_below (g := gb158) (o := .cells #[.int .i64 a1_0, .int .u64 a1_1, .slice A1_2 l1_2.length c1_2] 53 (0, 0)) (by (with_reducible repeat (first | refine blk_drewN ?_ _ | refine blk_drew ?_ | refine blk_alloc ?_ _)); exact BK158.out) hb); have n3_ := Aside0.mk (blk_below (g := gb159) (o := .cells #[.slice A2_0 l2_0.length c2_0, .int .u64 a2_1, .int .u64 a2_2, .int .u64 a2_3, .int .u64 a2_4, .int .u64 a2_5, .int .u64 a2_6, .int .u64 a2_7, .int .u64 a2_8, .int .u64 a2_9, .int .u64 a2_10, .int .u64 a2_11, .int .u64 a2_12, .int .u64 a2_13, .bool a2_14, .bool a2_15, .bool a2_16, .int .u64 a2_17, .int .u64 a2_18, .int .u64 a2_19, .int .u64 a2_20, .int .u64 a2_21, .int .u64 a2_22, .int .u64 a2_23, .int .u64 a2_24, .int .u64 a2_25, .int .u64 a2_26, .int .u64 a2_27, .int .u64 a2_28, .int .u64 a2_29, .int .u64 a2_30, .int .u64 a2_31, .bool a2_32, .bool a2_33, .bool a2_34, .bool a2_35, .bool a2_36] 55 (0, 0)) (by (with_reducible repeat (first | refine blk_drewN ?_ _ | refine blk_drew ?_ | refine blk_alloc ?_ _)); exact BK159.out) hb); have n4_ := Aside0.mk (below_step (by repeat (first | (with_reducible first | exact HB.out | apply below_alloc | apply pw_below_drewN | apply below_drew1 | refine below_set ?_ GE158.out | refine below_set ?_ GE159.out) | exact HB.out)) hb); clear HO162; clear BK158; clear BK159; clear HB; have HO162 := n0_; have HO167 := n1_; have BK158 := n2_; have BK159 := n3_; have HB := n4_; clear n0_ n1_ n2_ n3_ n4_; (try clear hb); (try clear hb2); (try clear hk); (try clear hi); (try clear ho0); (try simp only [errW_none, errW_some])))
    (try simp only [Act.put, List.setIfInBounds_toArray, List.set_cons_zero, List.set_cons_succ])
    have H := HC17.out
    clear HC17
    rcases t168 with _ | q169
    ·have H1 : (syms_Read.l0 k t160 t165 ([] : List (S68)) a3 0) = some (r1, r2) := by rw [if_pos (show (none : Option Int).isNone = true by rfl)] at H; exact H
     clear H
     have H := H1
     clear H1
     try simp only [errW_none, errW_some]
     have HC22 := Aside0.mk H
     clear H
     go_upto_region 12 with (fail)
     have H := HC22.out
     clear HC22
     have H' := Aside0.mk H
     clear H
     go_wp2
     go_loopg [13, 52] k (fun kq v13 v52 w' => ∃ (x13_1 : List (S68)) (x52_1 : Int), v52 = .int .i64 x52_1 ∧ Aside0 (syms_Read.l0 kq t160 t165 x13_1 a3 x52_1 = some (r1, r2)) ∧ Aside0 (kq ≤ k) ∧ Aside0 (Kd.V (Kd.int .u8) 5 w' w.heap.size (fun k_ => some k_ ≠ (v13 : Value).ownBlock ∧ k_ ≠ gb158 ∧ k_ ≠ gb159) v161 t160) ∧ Aside0 (Kd.V (Kd.int .u8) 5 w' w.heap.size (fun k_ => some k_ ≠ (v13 : Value).ownBlock ∧ k_ ≠ gb158 ∧ k_ ≠ gb159) v166 t165) ∧ Aside0 (Kd.R k68 68 w' w.heap.size (fun _ => True) v13 x13_1) ∧ Aside0 (w'.heap[gb158]? = some (.cells #[.int .i64 a1_0, .int .u64 a1_1, (.slice A1_2 l1_2.length c1_2)] 53 (0, 0))) ∧ Aside0 (w'.heap[gb159]? = some (.cells #[(.slice A2_0 l2_0.length c2_0), .int .u64 a2_1, .int .u64 a2_2, .int .u64 a2_3, .int .u64 a2_4, .int .u64 a2_5, .int .u64 a2_6, .int .u64 a2_7, .int .u64 a2_8, .int .u64 a2_9, .int .u64 a2_10, .int .u64 a2_11, .int .u64 a2_12, .int .u64 a2_13, .bool a2_14, .bool a2_15, .bool a2_16, .int .u64 a2_17, .int .u64 a2_18, .int .u64 a2_19, .int .u64 a2_20, .int .u64 a2_21, .int .u64 a2_22, .int .u64 a2_23, .int .u64 a2_24, .int .u64 a2_25, .int .u64 a2_26, .int .u64 a2_27, .int .u64 a2_28, .int .u64 a2_29, .int .u64 a2_30, .int .u64 a2_31, .bool a2_32, .bool a2_33, .bool a2_34, .bool a2_35, .bool a2_36] 55 (0, 0))) ∧ Aside0 (Below w.heap.size w w'))
     case atStart => exact ⟨(([] : List (S68))), (0), (by first | rfl | (simp; done) | (simp [*]; done)), H', ⟨Nat.le_refl _⟩, ⟨by (with_reducible repeat (first | apply Kd.V_alloc | apply Kd.V_drewN | apply Kd.V_drew)); exact Kd.V_mono HO162.out (fun _ hk => ⟨(by simp [Value.ownBlock]), ⟨hk.1, hk.2⟩⟩)⟩, ⟨by (with_reducible repeat (first | apply Kd.V_alloc | apply Kd.V_drewN | apply Kd.V_drew)); exact Kd.V_mono HO167.out (fun _ hk => ⟨(by simp [Value.ownBlock]), ⟨hk.1, hk.2⟩⟩)⟩, ⟨by first | exact Kd.R_nil _ _ _ _ _ | exact Kd.N_nil _ _ _ _ _ | exact Kd.V_nil _ _ _ _ _ | exact Kd.Q_nil _ _ _ _ _ | exact Kd.S_nil _ _ _ _ _⟩, ⟨by (with_reducible repeat (first | refine blk_drewN ?_ _ | refine blk_drew ?_ | refine blk_alloc ?_ _)); exact BK158.out⟩, ⟨by (with_reducible repeat (first | refine blk_drewN ?_ _ | refine blk_drew ?_ | refine blk_alloc ?_ _)); exact BK159.out⟩, ⟨by repeat (first | (with_reducible first | exact HB.out | apply below_alloc | apply pw_below_drewN | apply below_drew1 | refine below_set ?_ GE158.out | refine below_set ?_ GE159.out) | exact HB.out)⟩⟩
     case round =>
      clear H'
      try clear c1
      try clear q1
      try clear c2
      try clear p2
      try clear c3
      try clear c4
      try clear c8
      try clear c8b0
      try clear c9
      try clear c9b0
      try clear c12
      try clear q16
      try clear c18
      try clear hcz13_0
      try clear hcz13_1
      try clear hcz13_2
      try clear hcz14_0
      try clear hcz14_1
      try clear hcz14_10
      try clear hcz14_11
      try clear hcz14_12
      try clear hcz14_13
      try clear hcz14_14
      try clear hcz14_15
      try clear hcz14_16
      try clear hcz14_17
      try clear hcz14_18
      try clear hcz14_19
      try clear hcz14_2
      try clear hcz14_20
      try clear hcz14_21
      try clear hcz14_22
      try clear hcz14_23
      try clear hcz14_24
      try clear hcz14_25
      try clear hcz14_26
      try clear hcz14_27
      try clear hcz14_28
      try clear hcz14_29
      try clear hcz14_3
      try clear hcz14_30
      try clear hcz14_31
      try clear hcz14_32
      try clear hcz14_33
      try clear hcz14_34
      try clear hcz14_35
      try clear hcz14_36
      try clear hcz14_4
      try clear hcz14_5
      try clear hcz14_6
      try clear hcz14_7
      try clear hcz14_8
      try clear hcz14_9
      try clear hcz19_0
      try clear hcz19_1
      try clear hcz19_2
      try clear hcz20_0
      try clear hcz20_1
      try clear hcz20_10
      try clear hcz20_11
      try clear hcz20_12
      try clear hcz20_13
      try clear hcz20_14
      try clear hcz20_15
      try clear hcz20_16
      try clear hcz20_17
      try clear hcz20_18
      try clear hcz20_19
      try clear hcz20_2
      try clear hcz20_20
      try clear hcz20_21
      try clear hcz20_22
      try clear hcz20_23
      try clear hcz20_24
      try clear hcz20_25
      try clear hcz20_26
      try clear hcz20_27
      try clear hcz20_28
      try clear hcz20_29
      try clear hcz20_3
      try clear hcz20_30
      try clear hcz20_31
      try clear hcz20_32
      try clear hcz20_33
      try clear hcz20_34
      try clear hcz20_35
      try clear hcz20_36
      try clear hcz20_4
      try clear hcz20_5
      try clear hcz20_6
      try clear hcz20_7
      try clear hcz20_8
      try clear hcz20_9
      try clear hfz13_0
      try clear hfz13_1
      try clear hfz13_2
      try clear hfz14_0
      try clear hfz14_1
      try clear hfz14_10
      try clear hfz14_11
      try clear hfz14_12
      try clear hfz14_13
      try clear hfz14_14
      try clear hfz14_15
      try clear hfz14_16
      try clear hfz14_17
      try clear hfz14_18
      try clear hfz14_19
      try clear hfz14_2
      try clear hfz14_20
      try clear hfz14_21
      try clear hfz14_22
      try clear hfz14_23
      try clear hfz14_24
      try clear hfz14_25
      try clear hfz14_26
      try clear hfz14_27
      try clear hfz14_28
      try clear hfz14_29
      try clear hfz14_3
      try clear hfz14_30
      try clear hfz14_31
      try clear hfz14_32
      try clear hfz14_33
      try clear hfz14_34
      try clear hfz14_35
      try clear hfz14_36
      try clear hfz14_4
      try clear hfz14_5
      try clear hfz14_6
      try clear hfz14_7
      try clear hfz14_8
      try clear hfz14_9
      try clear hfz19_0
      try clear hfz19_1
      try clear hfz19_2
      try clear hfz20_0
      try clear hfz20_1
      try clear hfz20_10
      try clear hfz20_11
      try clear hfz20_12
      try clear hfz20_13
      try clear hfz20_14
      try clear hfz20_15
      try clear hfz20_16
      try clear hfz20_17
      try clear hfz20_18
      try clear hfz20_19
      try clear hfz20_2
      try clear hfz20_20
      try clear hfz20_21
      try clear hfz20_22
      try clear hfz20_23
      try clear hfz20_24
      try clear hfz20_25
      try clear hfz20_26
      try clear hfz20_27
      try clear hfz20_28
      try clear hfz20_29
      try clear hfz20_3
      try clear hfz20_30
      try clear hfz20_31
      try clear hfz20_32
      try clear hfz20_33
      try clear hfz20_34
      try clear hfz20_35
      try clear hfz20_36
      try clear hfz20_4
      try clear hfz20_5
      try clear hfz20_6
      try clear hfz20_7
      try clear hfz20_8
      try clear hfz20_9
      try clear q164
      try clear q169
      obtain ⟨x13_1, x52_1, rfl, HA, HK1, HO_10, HO_12, HO_13, BK158, BK159, HB⟩ := hrel
      cases gk with
      | zero => exact absurd HA.out (by simp [syms_Read.l0])
      | succ k1 =>
       have H := HA.out
       clear HA
       simp only [syms_Read.l0] at H
       by_cases c23 : x52_1 < a3
       ·rw [if_pos c23] at H
        have c23b0 : decide (x52_1 < a3) = true := decide_eq_true c23
        clear c23
        (first | rw [c23b0] | (simp only [i64_w, i32_w]; rw [c23b0]) | skip)
        obtain ⟨ji24, hji24⟩ : ∃ j_ : Int, (wrap64 (24 * x52_1)) = j_ := ⟨_, rfl⟩
        replace H : (if 0 ≤ (ji24) then (if (ji24) ≤ (wrap64 ((ji24) + 24)) then (if (wrap64 ((ji24) + 24)) ≤ (t165.length : Int) then ((some ((t165.take ((wrap64 ((ji24) + 24)) : Int).toNat).drop ((ji24) : Int).toNat : List Int)).bind fun y170 => (if x52_1 = 0 then (if 24 ≤ 281474976710656 then ((bytes_Equal.f y170 (List.replicate 24 0)).bind fun t178 => (syms_Read.j1 k1 t160 t165 x13_1 y170 a3 x52_1 (!t178))) else (none)) else (syms_Read.j1 k1 t160 t165 x13_1 y170 a3 x52_1 false))) else (none)) else (none)) else (none)) = some (r1, r2) := by first | (rw [hji24] at H; exact H) | (simp only [hji24] at H ⊢; exact H)
        have hji24w : (IntKind.i64.wrap (24 * x52_1)) = ji24 := (i64_w _).trans hji24
        by_cases c25 : 0 ≤ (ji24)
        ·rw [if_pos c25] at H
         have c25b0 := eq_true c25
         have c25b1 : decide (0 ≤ (ji24)) = true := decide_eq_true c25
         clear c25
         by_cases c26 : (ji24) ≤ (wrap64 ((ji24) + 24))
         ·rw [if_pos c26] at H
          have c26b0 := eq_true c26
          have c26b1 : decide ((ji24) ≤ (wrap64 ((ji24) + 24))) = true := decide_eq_true c26
          by_cases c27 : (wrap64 ((ji24) + 24)) ≤ (t165.length : Int)
          ·rw [if_pos c27] at H
           have c27b0 := eq_true c27
           have c27b1 : decide ((wrap64 ((ji24) + 24)) ≤ (t165.length : Int)) = true := decide_eq_true c27
           obtain ⟨y170, hy170⟩ : ∃ y_ : List Int, y_ = ((t165.take ((wrap64 ((ji24) + 24)) : Int).toNat).drop ((ji24) : Int).toNat) := ⟨_, rfl⟩
           replace H : (if x52_1 = 0 then (if 24 ≤ 281474976710656 then ((bytes_Equal.f y170 (List.replicate 24 0)).bind fun t178 => (syms_Read.j1 k1 t160 t165 x13_1 y170 a3 x52_1 (!t178))) else (none)) else (syms_Read.j1 k1 t160 t165 x13_1 y170 a3 x52_1 false)) = some (r1, r2) := by first | (rw [hy170]; with_reducible exact H) | (have H2_ := (Option.bind_some _ _).symm.trans H; rw [hy170]; with_reducible exact H2_) | (have H2_ := (Option.bind_some _ _).symm.trans H; with_reducible exact H2_) | with_reducible exact H | (rw [hy170]; exact H) | exact H
           have Ny170 := Aside0.mk hy170
           clear hy170
           have HC28 := Aside0.mk H
           clear H
           obtain ⟨Ao30, co30, eo30⟩ := Kd.V_slice HO_12.out
           subst eo30
           have q29 : ((wrap64 ((ji24) + 24)) : Int) ≤ ((t165.length : Int) : Int) := of_decide_eq_true (by assumption)
           obtain ⟨i029, hi029, _, hsz29, _⟩ := info_parts info5
           have hroom29 : t165.length ≤ co30 := (Kd.V_reads' HO_12.out).2.1
           have hC29 : Kd.F (Kd.int .u8) _ _ Ao30 t165.length t165 := (Kd.V_at (base := w.heap.size) HO_12.out).2.2
           have ql29 : ((ji24) : Int) ≤ ((wrap64 ((ji24) + 24)) : Int) := of_decide_eq_true (by assumption)
           have q029 : (0 : Int) ≤ ((ji24) : Int) := of_decide_eq_true (by assumption)
           have hcut29 := cut_mid (P := Try.prog) 22 5 .i64 .i64 Try.underlying22 hi029 1 hsz29 Ao30 t165.length co30 (ji24) (wrap64 ((ji24) + 24)) q029 ql29 q29 hroom29
           have hr29 := Kd.F_mid (lo := ((ji24) : Int).toNat) (hi := ((wrap64 ((ji24) + 24)) : Int).toNat) (c := co30) hC29 (by omega) (by omega) hroom29
           obtain ⟨A29, hA29⟩ : ∃ A1, A1 = (if co30 = ((ji24) : Int).toNat then Ao30 else (Ao30 : Option Addr).map (·.add (((ji24) : Int).toNat * 1))) := ⟨_, rfl⟩
           obtain ⟨c29, hc29⟩ : ∃ c1, c1 = co30 - ((ji24) : Int).toNat := ⟨_, rfl⟩
           have hy29 : y170.length = ((wrap64 ((ji24) + 24)) : Int).toNat - ((ji24) : Int).toNat := (by rw [Ny170.out, List.length_drop, List.length_take] <;> omega)
           rw [show ((t165).take ((wrap64 ((ji24) + 24)) : Int).toNat).drop ((ji24) : Int).toNat = y170 from Ny170.out.symm] at hr29
           replace hr29 : Kd.F (Kd.int .u8) _ _ A29 y170.length y170 := (by rw [hA29]; exact hr29)
           rw [← hy29, ← hA29, ← hc29] at hcut29
           have HO174 := Aside0.mk (show Kd.V (Kd.int .u8) 5 _ w.heap.size _ (.slice A29 y170.length c29) y170 from Kd.V_mk (by rw [hy29, hc29]; exact Nat.sub_le_sub_right (Nat.le_trans (by omega) hroom29) _) hr29)
           have HC174 := Aside0.mk (show y170.length ≤ c29 from by rw [hy29, hc29]; exact Nat.sub_le_sub_right (Nat.le_trans (by omega) hroom29) _)
           clear hr29 hC29 hroom29 hi029 hsz29 hc29
           have KY29 := Aside0.mk hy29
           have KA29 := Aside0.mk hA29
           clear hy29 hA29
           replace q29 := eq_true q29
           go_upto_region 16 with (fail)
           go_cut [69] (fun v69 wc => ∃ (kq : Nat) (x69_27 : Bool), v69 = .bool x69_27 ∧ Aside0 (syms_Read.j1 kq t160 t165 x13_1 y170 a3 x52_1 x69_27 = some (r1, r2)) ∧ Aside0 (kq ≤ k1) ∧ Aside0 (Kd.V (Kd.int .u8) 5 wc w.heap.size (fun k_ => some k_ ≠ (u13 : Value).ownBlock ∧ k_ ≠ gb158 ∧ k_ ≠ gb159) v161 t160) ∧ Aside0 (Kd.V (Kd.int .u8) 5 wc w.heap.size (fun k_ => some k_ ≠ (u13 : Value).ownBlock ∧ k_ ≠ gb158 ∧ k_ ≠ gb159) (.slice Ao30 t165.length co30) t165) ∧ Aside0 (Kd.R k68 68 wc w.heap.size (fun _ => True) u13 x13_1) ∧ Aside0 (Kd.V (Kd.int .u8) 5 wc w.heap.size (fun k_ => some k_ ≠ (u13 : Value).ownBlock ∧ k_ ≠ gb158 ∧ k_ ≠ gb159) (.slice A29 y170.length c29) y170) ∧ Aside0 (wc.heap[gb158]? = some (.cells #[.int .i64 a1_0, .int .u64 a1_1, (.slice A1_2 l1_2.length c1_2)] 53 (0, 0))) ∧ Aside0 (wc.heap[gb159]? = some (.cells #[(.slice A2_0 l2_0.length c2_0), .int .u64 a2_1, .int .u64 a2_2, .int .u64 a2_3, .int .u64 a2_4, .int .u64 a2_5, .int .u64 a2_6, .int .u64 a2_7, .int .u64 a2_8, .int .u64 a2_9, .int .u64 a2_10, .int .u64 a2_11, .int .u64 a2_12, .int .u64 a2_13, .bool a2_14, .bool a2_15, .bool a2_16, .int .u64 a2_17, .int .u64 a2_18, .int .u64 a2_19, .int .u64 a2_20, .int .u64 a2_21, .int .u64 a2_22, .int .u64 a2_23, .int .u64 a2_24, .int .u64 a2_25, .int .u64 a2_26, .int .u64 a2_27, .int .u64 a2_28, .int .u64 a2_29, .int .u64 a2_30, .int .u64 a2_31, .bool a2_32, .bool a2_33, .bool a2_34, .bool a2_35, .bool a2_36] 55 (0, 0))) ∧ Aside0 (Below w.heap.size w wc))
           case first =>
            have H := HC28.out
            clear HC28
            by_cases c31 : x52_1 = 0
            ·rw [if_pos c31] at H
             have c31b0 : (x52_1 == 0) = true := beq_iff_eq.mpr c31
             have c31b1 : (x52_1 != 0) = false := bne_eq_false_iff_eq.mpr c31
             clear c31
             (first | rw [c31b0] | (simp only [i64_w, i32_w]; rw [c31b0]) | skip)
             by_cases c32 : 24 ≤ 281474976710656
             ·rw [if_pos c32] at H
              have c32b0 := eq_true c32
              have c32b1 : decide (24 ≤ 281474976710656) = true := decide_eq_true c32
              clear c32
              obtain ⟨y175, hy175⟩ : ∃ y_ : List Int, y_ = (List.replicate 24 0) := ⟨_, rfl⟩
              replace H : ((bytes_Equal.f y170 y175).bind fun t178 => (syms_Read.j1 k1 t160 t165 x13_1 y170 a3 x52_1 (!t178))) = some (r1, r2) := by first | (rw [hy175]; with_reducible exact H) | (have H2_ := (Option.bind_some _ _).symm.trans H; rw [hy175]; with_reducible exact H2_) | (have H2_ := (Option.bind_some _ _).symm.trans H; with_reducible exact H2_) | with_reducible exact H | (rw [hy175]; exact H) | exact H
              have Ny175 := Aside0.mk hy175
              clear hy175
              replace H := Option.bind_eq_some_iff.mp H
              obtain ⟨t178, A330, H⟩ := H
              replace H : (syms_Read.j1 k1 t160 t165 x13_1 y170 a3 x52_1 (!t178)) = some (r1, r2) := H
              have A33 := Aside0.mk A330
              clear A330
              have H' := Aside0.mk H
              clear H
              go_wp2_with (first | ((with_reducible refine gate_ (.load 55 (.tmp 6)) rfl ?_); refine wpList_load_row rfl 55 (.tmp 6) rfl gb159 rfl 55 _ (0, 0) _ (by (with_reducible repeat (first | refine blk_drewN ?_ _ | refine blk_drew ?_ | refine blk_alloc ?_ _)); exact BK159.out) Try.underlying55 rfl (by kernel_rfl) ?_) | ((with_reducible refine gate_dst (N := 66) rfl ?_); (try (refine gate_guard (by rfl) ?_; dsimp only)); refine Kd.R_make (Kd.int .u8) _ 5 rfl (N := 66) rfl 22 _ _ rfl 24 rfl rfl Try.underlying22 (.int .u8 0) 1 info5 rfl (by decide) (by omega) 0 (ok := fun _ => True) (okp := fun _ => True) rfl (fun _ hk => hk) trivial (by omega) (by omega) (Below.refl _ _) (Nat.le_refl _) ?_; intro v176 w34 ho35 hb hg_ hnew_; clear hg_ hnew_; (first | rw [← Ny175.out] at ho35 | (simp only [Int.reduceToNat] at ho35; rw [← Ny175.out] at ho35)); have n0_ := Aside0.mk (Kd.V_elder' (by (with_reducible repeat (first | apply Kd.V_alloc | apply Kd.V_drewN | apply Kd.V_drew)); exact HO_10.out) (Kd.R_base ho35) hb); have n1_ := Aside0.mk (Kd.V_elder' (by (with_reducible repeat (first | apply Kd.V_alloc | apply Kd.V_drewN | apply Kd.V_drew)); exact HO_12.out) (Kd.R_base ho35) hb); have n2_ := Aside0.mk (Kd.R_below (by (with_reducible repeat (first | apply Kd.R_alloc | apply Kd.R_drewN | apply Kd.R_drew)); exact HO_13.out) hb); have n3_ := Aside0.mk (Kd.V_elder' (by (with_reducible repeat (first | apply Kd.V_alloc | apply Kd.V_drewN | apply Kd.V_drew)); exact HO174.out) (Kd.R_base ho35) hb); have n4_ := Aside0.mk (Kd.R_lower ho35 (below_size (by repeat (first | (with_reducible first | exact HB.out | apply below_alloc | apply pw_below_drewN | apply below_drew1 | refine below_set ?_ GE158.out | refine below_set ?_ GE159.out) | exact HB.out)))); have n5_ := Aside0.mk (blk_below (g := gb158) (o := .cells #[.int .i64 a1_0, .int .u64 a1_1, .slice A1_2 l1_2.length c1_2] 53 (0, 0)) (by (with_reducible repeat (first | refine blk_drewN ?_ _ | refine blk_drew ?_ | refine blk_alloc ?_ _)); exact BK158.out) hb); have n6_ := Aside0.mk (blk_below (g := gb159) (o := .cells #[.slice A2_0 l2_0.length c2_0, .int .u64 a2_1, .int .u64 a2_2, .int .u64 a2_3, .int .u64 a2_4, .int .u64 a2_5, .int .u64 a2_6, .int .u64 a2_7, .int .u64 a2_8, .int .u64 a2_9, .int .u64 a2_10, .int .u64 a2_11, .int .u64 a2_12, .int .u64 a2_13, .bool a2_14, .bool a2_15, .bool a2_16, .int .u64 a2_17, .int .u64 a2_18, .int .u64 a2_19, .int .u64 a2_20, .int .u64 a2_21, .int .u64 a2_22, .int .u64 a2_23, .int .u64 a2_24, .int .u64 a2_25, .int .u64 a2_26, .int .u64 a2_27, .int .u64 a2_28, .int .u64 a2_29, .int .u64 a2_30, .int .u64 a2_31, .bool a2_32, .bool a2_33, .bool a2_34, .bool a2_35, .bool a2_36] 55 (0, 0)) (by (with_reducible repeat (first | refine blk_drewN ?_ _ | refine blk_drew ?_ | refine blk_alloc ?_ _)); exact BK159.out) hb); have n7_ := Aside0.mk (below_step (by repeat (first | (with_reducible first | exact HB.out | apply below_alloc | apply pw_below_drewN | apply below_drew1 | refine below_set ?_ GE158.out | refine below_set ?_ GE159.out) | exact HB.out)) hb); clear HO_10; clear HO_12; clear HO_13; clear HO174; clear BK158; clear BK159; clear HB; have HO_10 := n0_; have HO_12 := n1_; have HO_13 := n2_; have HO174 := n3_; have HO177 := n4_; have BK158 := n5_; have BK159 := n6_; have HB := n7_; clear n0_ n1_ n2_ n3_ n4_ n5_ n6_ n7_; clear hb ho35; obtain ⟨Ao36, co36, eo36⟩ := Kd.R_slice HO177.out; subst eo36) | (go_at_call 48; (with_reducible refine (bytes_Equal.calls _ _ y170 _ _ y175 t178 _ ?side1 ?side2 ?side3 ?side4 A33.out).mono ?_); (case side1 => repeat (first | exact (Kd.V_reads' HO174.out).2.2 | (with_reducible refine Kd.C_alloc ?_ _) | (with_reducible refine Kd.C_drewN ?_ _) | (with_reducible refine Kd.C_drew ?_))); (case side2 => exact (Kd.V_reads' HO174.out).2.1); (case side3 => repeat (first | exact (Kd.R_reads' HO177.out).2.2 | (with_reducible refine Kd.C_alloc ?_ _) | (with_reducible refine Kd.C_drewN ?_ _) | (with_reducible refine Kd.C_drew ?_))); (case side4 => exact (Kd.R_reads' HO177.out).2.1); rintro e w' ⟨rfl, ⟨nd, rfl⟩⟩))
              go_meet
              case rel => exact ⟨_, (!t178), (by first | rfl | (simp; done) | (simp [*]; done)), H', ⟨by have := HK1.out; first | omega | exact Nat.le_refl _⟩, ⟨by (with_reducible repeat (first | apply Kd.V_alloc | apply Kd.V_drewN | apply Kd.V_drew)); exact Kd.V_mono HO_10.out (fun _ hk => ⟨hk.1.1, ⟨hk.1.2.1, hk.1.2.2⟩⟩)⟩, ⟨by (with_reducible repeat (first | apply Kd.V_alloc | apply Kd.V_drewN | apply Kd.V_drew)); exact Kd.V_mono HO_12.out (fun _ hk => ⟨hk.1.1, ⟨hk.1.2.1, hk.1.2.2⟩⟩)⟩, ⟨by (with_reducible repeat (first | apply Kd.R_alloc | apply Kd.R_drewN | apply Kd.R_drew)); exact HO_13.out⟩, ⟨by (with_reducible repeat (first | apply Kd.V_alloc | apply Kd.V_drewN | apply Kd.V_drew)); exact Kd.V_mono HO174.out (fun _ hk => ⟨hk.1.1, ⟨hk.1.2.1, hk.1.2.2⟩⟩)⟩, ⟨by (with_reducible repeat (first | refine blk_drewN ?_ _ | refine blk_drew ?_ | refine blk_alloc ?_ _)); exact BK158.out⟩, ⟨by (with_reducible repeat (first | refine blk_drewN ?_ _ | refine blk_drew ?_ | refine blk_alloc ?_ _)); exact BK159.out⟩, ⟨by repeat (first | (with_reducible first | exact HB.out | apply below_alloc | apply pw_below_drewN | apply below_drew1 | refine below_set ?_ GE158.out | refine below_set ?_ GE159.out) | exact HB.out)⟩⟩
             ·rw [if_neg c32] at H
              exact absurd H (by simp)
            ·rw [if_neg c31] at H
             have c31b0 : (x52_1 == 0) = false := beq_eq_false_iff_ne.mpr c31
             have c31b1 : (x52_1 != 0) = true := bne_iff_ne.mpr c31
             (first | rw [c31b0] | (simp only [i64_w, i32_w]; rw [c31b0]) | skip)
             have H' := Aside0.mk H
             clear H
             go_wp2
             go_meet
             case rel => exact ⟨_, (false), (by first | rfl | (simp; done) | (simp [*]; done)), H', ⟨by have := HK1.out; first | omega | exact Nat.le_refl _⟩, ⟨by (with_reducible repeat (first | apply Kd.V_alloc | apply Kd.V_drewN | apply Kd.V_drew)); exact HO_10.out⟩, ⟨by (with_reducible repeat (first | apply Kd.V_alloc | apply Kd.V_drewN | apply Kd.V_drew)); exact HO_12.out⟩, ⟨by (with_reducible repeat (first | apply Kd.R_alloc | apply Kd.R_drewN | apply Kd.R_drew)); exact HO_13.out⟩, ⟨by (with_reducible repeat (first | apply Kd.V_alloc | apply Kd.V_drewN | apply Kd.V_drew)); exact HO174.out⟩, ⟨by (with_reducible repeat (first | refine blk_drewN ?_ _ | refine blk_drew ?_ | refine blk_alloc ?_ _)); exact BK158.out⟩, ⟨by (with_reducible repeat (first | refine blk_drewN ?_ _ | refine blk_drew ?_ | refine blk_alloc ?_ _)); exact BK159.out⟩, ⟨by repeat (first | (with_reducible first | exact HB.out | apply below_alloc | apply pw_below_drewN | apply below_drew1 | refine below_set ?_ GE158.out | refine below_set ?_ GE159.out) | exact HB.out)⟩⟩
           case rest =>
            clear HC28
            try clear c1
            try clear q1
            try clear c2
            try clear p2
            try clear q2
            try clear c3
            try clear c4
            try clear p6
            try clear c8
            try clear c8b0
            try clear c9
            try clear c9b0
            try clear c12
            try clear q16
            try clear c18
            try clear c23
            try clear c23b0
            try clear c25
            try clear c25b0
            try clear c25b1
            try clear c26
            try clear c26b0
            try clear c26b1
            try clear c27
            try clear c27b0
            try clear c27b1
            try clear c29
            try clear q29
            try clear c31
            try clear c31b0
            try clear c31b1
            try clear c32
            try clear c32b0
            try clear c32b1
            try clear c34
            try clear c36
            try clear hcz13_0
            try clear hcz13_1
            try clear hcz13_2
            try clear hcz14_0
            try clear hcz14_1
            try clear hcz14_10
            try clear hcz14_11
            try clear hcz14_12
            try clear hcz14_13
            try clear hcz14_14
            try clear hcz14_15
            try clear hcz14_16
            try clear hcz14_17
            try clear hcz14_18
            try clear hcz14_19
            try clear hcz14_2
            try clear hcz14_20
            try clear hcz14_21
            try clear hcz14_22
            try clear hcz14_23
            try clear hcz14_24
            try clear hcz14_25
            try clear hcz14_26
            try clear hcz14_27
            try clear hcz14_28
            try clear hcz14_29
            try clear hcz14_3
            try clear hcz14_30
            try clear hcz14_31
            try clear hcz14_32
            try clear hcz14_33
            try clear hcz14_34
            try clear hcz14_35
            try clear hcz14_36
            try clear hcz14_4
            try clear hcz14_5
            try clear hcz14_6
            try clear hcz14_7
            try clear hcz14_8
            try clear hcz14_9
            try clear hcz19_0
            try clear hcz19_1
            try clear hcz19_2
            try clear hcz20_0
            try clear hcz20_1
            try clear hcz20_10
            try clear hcz20_11
            try clear hcz20_12
            try clear hcz20_13
            try clear hcz20_14
            try clear hcz20_15
            try clear hcz20_16
            try clear hcz20_17
            try clear hcz20_18
            try clear hcz20_19
            try clear hcz20_2
            try clear hcz20_20
            try clear hcz20_21
            try clear hcz20_22
            try clear hcz20_23
            try clear hcz20_24
            try clear hcz20_25
            try clear hcz20_26
            try clear hcz20_27
            try clear hcz20_28
            try clear hcz20_29
            try clear hcz20_3
            try clear hcz20_30
            try clear hcz20_31
            try clear hcz20_32
            try clear hcz20_33
            try clear hcz20_34
            try clear hcz20_35
            try clear hcz20_36
            try clear hcz20_4
            try clear hcz20_5
            try clear hcz20_6
            try clear hcz20_7
            try clear hcz20_8
            try clear hcz20_9
            try clear hfz13_0
            try clear hfz13_1
            try clear hfz13_2
            try clear hfz14_0
            try clear hfz14_1
            try clear hfz14_10
            try clear hfz14_11
            try clear hfz14_12
            try clear hfz14_13
            try clear hfz14_14
            try clear hfz14_15
            try clear hfz14_16
            try clear hfz14_17
            try clear hfz14_18
            try clear hfz14_19
            try clear hfz14_2
            try clear hfz14_20
            try clear hfz14_21
            try clear hfz14_22
            try clear hfz14_23
            try clear hfz14_24
            try clear hfz14_25
            try clear hfz14_26
            try clear hfz14_27
            try clear hfz14_28
            try clear hfz14_29
            try clear hfz14_3
            try clear hfz14_30
            try clear hfz14_31
            try clear hfz14_32
            try clear hfz14_33
            try clear hfz14_34
            try clear hfz14_35
            try clear hfz14_36
            try clear hfz14_4
            try clear hfz14_5
            try clear hfz14_6
            try clear hfz14_7
            try clear hfz14_8
            try clear hfz14_9
            try clear hfz19_0
            try clear hfz19_1
            try clear hfz19_2
            try clear hfz20_0
            try clear hfz20_1
            try clear hfz20_10
            try clear hfz20_11
            try clear hfz20_12
            try clear hfz20_13
            try clear hfz20_14
            try clear hfz20_15
            try clear hfz20_16
            try clear hfz20_17
            try clear hfz20_18
            try clear hfz20_19
            try clear hfz20_2
            try clear hfz20_20
            try clear hfz20_21
            try clear hfz20_22
            try clear hfz20_23
            try clear hfz20_24
            try clear hfz20_25
            try clear hfz20_26
            try clear hfz20_27
            try clear hfz20_28
            try clear hfz20_29
            try clear hfz20_3
            try clear hfz20_30
            try clear hfz20_31
            try clear hfz20_32
            try clear hfz20_33
            try clear hfz20_34
            try clear hfz20_35
            try clear hfz20_36
            try clear hfz20_4
            try clear hfz20_5
            try clear hfz20_6
            try clear hfz20_7
            try clear hfz20_8
            try clear hfz20_9
            try clear p2
            try clear q029
            try clear q1
            try clear q16
            try clear q164
            try clear q169
            try clear q29
            obtain ⟨kq, x69_27, rfl, HA, HJ27, HO_10, HO_12, HO_13, HO_15, BK158, BK159, HB⟩ := hcut
            cases kq with
            | zero => exact absurd HA.out (by simp [syms_Read.j1])
            | succ kj27 =>
             have H := HA.out
             clear HA
             simp only [syms_Read.j1] at H
             by_cases c37 : x69_27 = true
             ·subst c37
              have H1 : (some (([] : List (S68)), some 3)) = some (r1, r2) := by rw [if_pos rfl] at H; exact H
              clear H
              have H := H1
              clear H1
              have HC38 := Aside0.mk H
              clear H
              go_upto_region 17 with (fail)
              have H := HC38.out
              clear HC38
              simp only [Option.some.injEq, Prod.mk.injEq] at H
              obtain ⟨rfl, rfl⟩ := H
              go_wp2
              go_ret2
              exact ⟨_, by first | rfl | (simp [errW_none, errW_some] <;> rfl) | (simp only [← hji24]; first | rfl | (simp [errW_none, errW_some] <;> rfl)) | (simp [*, errW_none, errW_some] <;> rfl), by first | exact Kd.R_nil _ _ _ _ _ | exact Kd.N_nil _ _ _ _ _ | exact Kd.V_nil _ _ _ _ _ | exact Kd.Q_nil _ _ _ _ _ | exact Kd.S_nil _ _ _ _ _, by repeat (first | (with_reducible first | exact HB.out | apply below_alloc | apply pw_below_drewN | apply below_drew1 | refine below_set ?_ GE158.out | refine below_set ?_ GE159.out) | exact HB.out)⟩
             ·replace c37 := Bool.eq_false_iff.mpr c37
              subst c37
              have H1 : (if 4 ≤ (y170.length : Int) then ((syms_number.f kj27 (y170.take 4)).bind fun t184 => ((syms_Text.f t160 t184).bind fun bt185 => (if bt185.2.isNone = true then (if 4 < (y170.length : Int) then (if 5 < (y170.length : Int) then (if 6 ≤ 8 then (if 8 ≤ (y170.length : Int) then ((syms_number.f kj27 ((y170.take 8).drop 6)).bind fun t196 => (if 8 ≤ 16 then (if 16 ≤ (y170.length : Int) then ((syms_number.f kj27 ((y170.take 16).drop 8)).bind fun t202 => ((syms_number.f kj27 (y170.drop 16)).bind fun t208 => (if (wrap64 ((rd y170 4) / 16)) > 2 then (some (([] : List (S68)), some 3)) else (if (wrap64 (Go.bits .and .u8 (rd y170 4) 15)) > 6 then (if (wrap64 (Go.bits .and .u8 (rd y170 4) 15)) = 10 then (if (wrap64 (Go.bits .and .u8 (rd y170 4) 15)) = 5 then (some (([] : List (S68)), some 3)) else (if x13_1.length < 2199023255552 then (syms_Read.l0 kj27 t160 t165 (x13_1 ++ [(⟨bt185.1, wrap64 ((rd y170 4) / 16), wrap64 (Go.bits .and .u8 (rd y170 4) 15), wrap64 (Go.bits .and .u8 (rd y170 5) 3), wrap64 (t196), t202, t208⟩ : S68)]) a3 (wrap64 (x52_1 + 1))) else (none))) else (some (([] : List (S68)), some 3))) else (if (wrap64 (Go.bits .and .u8 (rd y170 4) 15)) = 5 then (some (([] : List (S68)), some 3)) else (if x13_1.length < 2199023255552 then (syms_Read.l0 kj27 t160 t165 (x13_1 ++ [(⟨bt185.1, wrap64 ((rd y170 4) / 16), wrap64 (Go.bits .and .u8 (rd y170 4) 15), wrap64 (Go.bits .and .u8 (rd y170 5) 3), wrap64 (t196), t202, t208⟩ : S68)]) a3 (wrap64 (x52_1 + 1))) else (none))))))) else (none)) else (none))) else (none)) else (none)) else (none)) else (none)) else (some (([] : List (S68)), some (bt185.2.getD 0)))))) else (none)) = some (r1, r2) := by rw [if_neg (show ¬ (false = true) by decide)] at H; exact H
              clear H
              have H := H1
              clear H1
              by_cases c39 : 4 ≤ (y170.length : Int)
              ·rw [if_pos c39] at H
               have c39b0 := eq_true c39
               have c39b1 : decide (4 ≤ (y170.length : Int)) = true := decide_eq_true c39
               clear c39
               obtain ⟨y179, hy179⟩ : ∃ y_ : List Int, y_ = (y170.take 4) := ⟨_, rfl⟩
               replace H : ((syms_number.f kj27 y179).bind fun t184 => ((syms_Text.f t160 t184).bind fun bt185 => (if bt185.2.isNone = true then (if 4 < (y170.length : Int) then (if 5 < (y170.length : Int) then (if 6 ≤ 8 then (if 8 ≤ (y170.length : Int) then ((syms_number.f kj27 ((y170.take 8).drop 6)).bind fun t196 => (if 8 ≤ 16 then (if 16 ≤ (y170.length : Int) then ((syms_number.f kj27 ((y170.take 16).drop 8)).bind fun t202 => ((syms_number.f kj27 (y170.drop 16)).bind fun t208 => (if (wrap64 ((rd y170 4) / 16)) > 2 then (some (([] : List (S68)), some 3)) else (if (wrap64 (Go.bits .and .u8 (rd y170 4) 15)) > 6 then (if (wrap64 (Go.bits .and .u8 (rd y170 4) 15)) = 10 then (if (wrap64 (Go.bits .and .u8 (rd y170 4) 15)) = 5 then (some (([] : List (S68)), some 3)) else (if x13_1.length < 2199023255552 then (syms_Read.l0 kj27 t160 t165 (x13_1 ++ [(⟨bt185.1, wrap64 ((rd y170 4) / 16), wrap64 (Go.bits .and .u8 (rd y170 4) 15), wrap64 (Go.bits .and .u8 (rd y170 5) 3), wrap64 (t196), t202, t208⟩ : S68)]) a3 (wrap64 (x52_1 + 1))) else (none))) else (some (([] : List (S68)), some 3))) else (if (wrap64 (Go.bits .and .u8 (rd y170 4) 15)) = 5 then (some (([] : List (S68)), some 3)) else (if x13_1.length < 2199023255552 then (syms_Read.l0 kj27 t160 t165 (x13_1 ++ [(⟨bt185.1, wrap64 ((rd y170 4) / 16), wrap64 (Go.bits .and .u8 (rd y170 4) 15), wrap64 (Go.bits .and .u8 (rd y170 5) 3), wrap64 (t196), t202, t208⟩ : S68)]) a3 (wrap64 (x52_1 + 1))) else (none))))))) else (none)) else (none))) else (none)) else (none)) else (none)) else (none)) else (some (([] : List (S68)), some (bt185.2.getD 0)))))) = some (r1, r2) := by first | (rw [hy179]; with_reducible exact H) | (have H2_ := (Option.bind_some _ _).symm.trans H; rw [hy179]; with_reducible exact H2_) | (have H2_ := (Option.bind_some _ _).symm.trans H; with_reducible exact H2_) | with_reducible exact H | (rw [hy179]; exact H) | exact H
               have Ny179 := Aside0.mk hy179
               clear hy179
               replace H := Option.bind_eq_some_iff.mp H
               obtain ⟨t184, A400, H⟩ := H
               replace H : ((syms_Text.f t160 t184).bind fun bt185 => (if bt185.2.isNone = true then (if 4 < (y170.length : Int) then (if 5 < (y170.length : Int) then (if 6 ≤ 8 then (if 8 ≤ (y170.length : Int) then ((syms_number.f kj27 ((y170.take 8).drop 6)).bind fun t196 => (if 8 ≤ 16 then (if 16 ≤ (y170.length : Int) then ((syms_number.f kj27 ((y170.take 16).drop 8)).bind fun t202 => ((syms_number.f kj27 (y170.drop 16)).bind fun t208 => (if (wrap64 ((rd y170 4) / 16)) > 2 then (some (([] : List (S68)), some 3)) else (if (wrap64 (Go.bits .and .u8 (rd y170 4) 15)) > 6 then (if (wrap64 (Go.bits .and .u8 (rd y170 4) 15)) = 10 then (if (wrap64 (Go.bits .and .u8 (rd y170 4) 15)) = 5 then (some (([] : List (S68)), some 3)) else (if x13_1.length < 2199023255552 then (syms_Read.l0 kj27 t160 t165 (x13_1 ++ [(⟨bt185.1, wrap64 ((rd y170 4) / 16), wrap64 (Go.bits .and .u8 (rd y170 4) 15), wrap64 (Go.bits .and .u8 (rd y170 5) 3), wrap64 (t196), t202, t208⟩ : S68)]) a3 (wrap64 (x52_1 + 1))) else (none))) else (some (([] : List (S68)), some 3))) else (if (wrap64 (Go.bits .and .u8 (rd y170 4) 15)) = 5 then (some (([] : List (S68)), some 3)) else (if x13_1.length < 2199023255552 then (syms_Read.l0 kj27 t160 t165 (x13_1 ++ [(⟨bt185.1, wrap64 ((rd y170 4) / 16), wrap64 (Go.bits .and .u8 (rd y170 4) 15), wrap64 (Go.bits .and .u8 (rd y170 5) 3), wrap64 (t196), t202, t208⟩ : S68)]) a3 (wrap64 (x52_1 + 1))) else (none))))))) else (none)) else (none))) else (none)) else (none)) else (none)) else (none)) else (some (([] : List (S68)), some (bt185.2.getD 0))))) = some (r1, r2) := H
               have A40 := Aside0.mk A400
               clear A400
               replace H := Option.bind_eq_some_iff.mp H
               obtain ⟨⟨t185, t186⟩, A410, H⟩ := H
               replace H : (if t186.isNone = true then (if 4 < (y170.length : Int) then (if 5 < (y170.length : Int) then (if 6 ≤ 8 then (if 8 ≤ (y170.length : Int) then ((syms_number.f kj27 ((y170.take 8).drop 6)).bind fun t196 => (if 8 ≤ 16 then (if 16 ≤ (y170.length : Int) then ((syms_number.f kj27 ((y170.take 16).drop 8)).bind fun t202 => ((syms_number.f kj27 (y170.drop 16)).bind fun t208 => (if (wrap64 ((rd y170 4) / 16)) > 2 then (some (([] : List (S68)), some 3)) else (if (wrap64 (Go.bits .and .u8 (rd y170 4) 15)) > 6 then (if (wrap64 (Go.bits .and .u8 (rd y170 4) 15)) = 10 then (if (wrap64 (Go.bits .and .u8 (rd y170 4) 15)) = 5 then (some (([] : List (S68)), some 3)) else (if x13_1.length < 2199023255552 then (syms_Read.l0 kj27 t160 t165 (x13_1 ++ [(⟨t185, wrap64 ((rd y170 4) / 16), wrap64 (Go.bits .and .u8 (rd y170 4) 15), wrap64 (Go.bits .and .u8 (rd y170 5) 3), wrap64 (t196), t202, t208⟩ : S68)]) a3 (wrap64 (x52_1 + 1))) else (none))) else (some (([] : List (S68)), some 3))) else (if (wrap64 (Go.bits .and .u8 (rd y170 4) 15)) = 5 then (some (([] : List (S68)), some 3)) else (if x13_1.length < 2199023255552 then (syms_Read.l0 kj27 t160 t165 (x13_1 ++ [(⟨t185, wrap64 ((rd y170 4) / 16), wrap64 (Go.bits .and .u8 (rd y170 4) 15), wrap64 (Go.bits .and .u8 (rd y170 5) 3), wrap64 (t196), t202, t208⟩ : S68)]) a3 (wrap64 (x52_1 + 1))) else (none))))))) else (none)) else (none))) else (none)) else (none)) else (none)) else (none)) else (some (([] : List (S68)), some (t186.getD 0)))) = some (r1, r2) := H
               have A41 := Aside0.mk A410
               clear A410
               rcases t186 with _ | q187
               ·have H1 : (if 4 < (y170.length : Int) then (if 5 < (y170.length : Int) then (if 6 ≤ 8 then (if 8 ≤ (y170.length : Int) then ((syms_number.f kj27 ((y170.take 8).drop 6)).bind fun t196 => (if 8 ≤ 16 then (if 16 ≤ (y170.length : Int) then ((syms_number.f kj27 ((y170.take 16).drop 8)).bind fun t202 => ((syms_number.f kj27 (y170.drop 16)).bind fun t208 => (if (wrap64 ((rd y170 4) / 16)) > 2 then (some (([] : List (S68)), some 3)) else (if (wrap64 (Go.bits .and .u8 (rd y170 4) 15)) > 6 then (if (wrap64 (Go.bits .and .u8 (rd y170 4) 15)) = 10 then (if (wrap64 (Go.bits .and .u8 (rd y170 4) 15)) = 5 then (some (([] : List (S68)), some 3)) else (if x13_1.length < 2199023255552 then (syms_Read.l0 kj27 t160 t165 (x13_1 ++ [(⟨t185, wrap64 ((rd y170 4) / 16), wrap64 (Go.bits .and .u8 (rd y170 4) 15), wrap64 (Go.bits .and .u8 (rd y170 5) 3), wrap64 (t196), t202, t208⟩ : S68)]) a3 (wrap64 (x52_1 + 1))) else (none))) else (some (([] : List (S68)), some 3))) else (if (wrap64 (Go.bits .and .u8 (rd y170 4) 15)) = 5 then (some (([] : List (S68)), some 3)) else (if x13_1.length < 2199023255552 then (syms_Read.l0 kj27 t160 t165 (x13_1 ++ [(⟨t185, wrap64 ((rd y170 4) / 16), wrap64 (Go.bits .and .u8 (rd y170 4) 15), wrap64 (Go.bits .and .u8 (rd y170 5) 3), wrap64 (t196), t202, t208⟩ : S68)]) a3 (wrap64 (x52_1 + 1))) else (none))))))) else (none)) else (none))) else (none)) else (none)) else (none)) else (none)) = some (r1, r2) := by rw [if_pos (show (none : Option Int).isNone = true by rfl)] at H; exact H
                clear H
                have H := H1
                clear H1
                try simp only [errW_none, errW_some]
                by_cases c42 : 4 < (y170.length : Int)
                ·rw [if_pos c42] at H
                 have c42b0 : decide (4 < (y170.length : Int)) = true := decide_eq_true c42
                 have c42b1 : decide (4 < y170.length) = true := decide_eq_true (by omega)
                 clear c42
                 by_cases c43 : 5 < (y170.length : Int)
                 ·rw [if_pos c43] at H
                  have c43b0 : decide (5 < (y170.length : Int)) = true := decide_eq_true c43
                  have c43b1 : decide (5 < y170.length) = true := decide_eq_true (by omega)
                  clear c43
                  by_cases c44 : 6 ≤ 8
                  ·rw [if_pos c44] at H
                   have c44b0 := eq_true c44
                   have c44b1 : decide (6 ≤ 8) = true := decide_eq_true c44
                   clear c44
                   by_cases c45 : 8 ≤ (y170.length : Int)
                   ·rw [if_pos c45] at H
                    have c45b0 := eq_true c45
                    have c45b1 : decide (8 ≤ (y170.length : Int)) = true := decide_eq_true c45
                    clear c45
                    obtain ⟨y191, hy191⟩ : ∃ y_ : List Int, y_ = ((y170.take 8).drop 6) := ⟨_, rfl⟩
                    replace H : ((syms_number.f kj27 y191).bind fun t196 => (if 8 ≤ 16 then (if 16 ≤ (y170.length : Int) then ((syms_number.f kj27 ((y170.take 16).drop 8)).bind fun t202 => ((syms_number.f kj27 (y170.drop 16)).bind fun t208 => (if (wrap64 ((rd y170 4) / 16)) > 2 then (some (([] : List (S68)), some 3)) else (if (wrap64 (Go.bits .and .u8 (rd y170 4) 15)) > 6 then (if (wrap64 (Go.bits .and .u8 (rd y170 4) 15)) = 10 then (if (wrap64 (Go.bits .and .u8 (rd y170 4) 15)) = 5 then (some (([] : List (S68)), some 3)) else (if x13_1.length < 2199023255552 then (syms_Read.l0 kj27 t160 t165 (x13_1 ++ [(⟨t185, wrap64 ((rd y170 4) / 16), wrap64 (Go.bits .and .u8 (rd y170 4) 15), wrap64 (Go.bits .and .u8 (rd y170 5) 3), wrap64 (t196), t202, t208⟩ : S68)]) a3 (wrap64 (x52_1 + 1))) else (none))) else (some (([] : List (S68)), some 3))) else (if (wrap64 (Go.bits .and .u8 (rd y170 4) 15)) = 5 then (some (([] : List (S68)), some 3)) else (if x13_1.length < 2199023255552 then (syms_Read.l0 kj27 t160 t165 (x13_1 ++ [(⟨t185, wrap64 ((rd y170 4) / 16), wrap64 (Go.bits .and .u8 (rd y170 4) 15), wrap64 (Go.bits .and .u8 (rd y170 5) 3), wrap64 (t196), t202, t208⟩ : S68)]) a3 (wrap64 (x52_1 + 1))) else (none))))))) else (none)) else (none))) = some (r1, r2) := by first | (rw [hy191]; with_reducible exact H) | (have H2_ := (Option.bind_some _ _).symm.trans H; rw [hy191]; with_reducible exact H2_) | (have H2_ := (Option.bind_some _ _).symm.trans H; with_reducible exact H2_) | with_reducible exact H | (rw [hy191]; exact H) | exact H
                    have Ny191 := Aside0.mk hy191
                    clear hy191
                    replace H := Option.bind_eq_some_iff.mp H
                    obtain ⟨t196, A460, H⟩ := H
                    replace H : (if 8 ≤ 16 then (if 16 ≤ (y170.length : Int) then ((syms_number.f kj27 ((y170.take 16).drop 8)).bind fun t202 => ((syms_number.f kj27 (y170.drop 16)).bind fun t208 => (if (wrap64 ((rd y170 4) / 16)) > 2 then (some (([] : List (S68)), some 3)) else (if (wrap64 (Go.bits .and .u8 (rd y170 4) 15)) > 6 then (if (wrap64 (Go.bits .and .u8 (rd y170 4) 15)) = 10 then (if (wrap64 (Go.bits .and .u8 (rd y170 4) 15)) = 5 then (some (([] : List (S68)), some 3)) else (if x13_1.length < 2199023255552 then (syms_Read.l0 kj27 t160 t165 (x13_1 ++ [(⟨t185, wrap64 ((rd y170 4) / 16), wrap64 (Go.bits .and .u8 (rd y170 4) 15), wrap64 (Go.bits .and .u8 (rd y170 5) 3), wrap64 (t196), t202, t208⟩ : S68)]) a3 (wrap64 (x52_1 + 1))) else (none))) else (some (([] : List (S68)), some 3))) else (if (wrap64 (Go.bits .and .u8 (rd y170 4) 15)) = 5 then (some (([] : List (S68)), some 3)) else (if x13_1.length < 2199023255552 then (syms_Read.l0 kj27 t160 t165 (x13_1 ++ [(⟨t185, wrap64 ((rd y170 4) / 16), wrap64 (Go.bits .and .u8 (rd y170 4) 15), wrap64 (Go.bits .and .u8 (rd y170 5) 3), wrap64 (t196), t202, t208⟩ : S68)]) a3 (wrap64 (x52_1 + 1))) else (none))))))) else (none)) else (none)) = some (r1, r2) := H
                    have A46 := Aside0.mk A460
                    clear A460
                    by_cases c47 : 8 ≤ 16
                    ·rw [if_pos c47] at H
                     have c47b0 := eq_true c47
                     have c47b1 : decide (8 ≤ 16) = true := decide_eq_true c47
                     clear c47
                     by_cases c48 : 16 ≤ (y170.length : Int)
                     ·rw [if_pos c48] at H
                      have c48b0 := eq_true c48
                      have c48b1 : decide (16 ≤ (y170.length : Int)) = true := decide_eq_true c48
                      clear c48
                      obtain ⟨y197, hy197⟩ : ∃ y_ : List Int, y_ = ((y170.take 16).drop 8) := ⟨_, rfl⟩
                      replace H : ((syms_number.f kj27 y197).bind fun t202 => ((syms_number.f kj27 (y170.drop 16)).bind fun t208 => (if (wrap64 ((rd y170 4) / 16)) > 2 then (some (([] : List (S68)), some 3)) else (if (wrap64 (Go.bits .and .u8 (rd y170 4) 15)) > 6 then (if (wrap64 (Go.bits .and .u8 (rd y170 4) 15)) = 10 then (if (wrap64 (Go.bits .and .u8 (rd y170 4) 15)) = 5 then (some (([] : List (S68)), some 3)) else (if x13_1.length < 2199023255552 then (syms_Read.l0 kj27 t160 t165 (x13_1 ++ [(⟨t185, wrap64 ((rd y170 4) / 16), wrap64 (Go.bits .and .u8 (rd y170 4) 15), wrap64 (Go.bits .and .u8 (rd y170 5) 3), wrap64 (t196), t202, t208⟩ : S68)]) a3 (wrap64 (x52_1 + 1))) else (none))) else (some (([] : List (S68)), some 3))) else (if (wrap64 (Go.bits .and .u8 (rd y170 4) 15)) = 5 then (some (([] : List (S68)), some 3)) else (if x13_1.length < 2199023255552 then (syms_Read.l0 kj27 t160 t165 (x13_1 ++ [(⟨t185, wrap64 ((rd y170 4) / 16), wrap64 (Go.bits .and .u8 (rd y170 4) 15), wrap64 (Go.bits .and .u8 (rd y170 5) 3), wrap64 (t196), t202, t208⟩ : S68)]) a3 (wrap64 (x52_1 + 1))) else (none))))))) = some (r1, r2) := by first | (rw [hy197]; with_reducible exact H) | (have H2_ := (Option.bind_some _ _).symm.trans H; rw [hy197]; with_reducible exact H2_) | (have H2_ := (Option.bind_some _ _).symm.trans H; with_reducible exact H2_) | with_reducible exact H | (rw [hy197]; exact H) | exact H
                      have Ny197 := Aside0.mk hy197
                      clear hy197
                      replace H := Option.bind_eq_some_iff.mp H
                      obtain ⟨t202, A490, H⟩ := H
                      replace H : ((syms_number.f kj27 (y170.drop 16)).bind fun t208 => (if (wrap64 ((rd y170 4) / 16)) > 2 then (some (([] : List (S68)), some 3)) else (if (wrap64 (Go.bits .and .u8 (rd y170 4) 15)) > 6 then (if (wrap64 (Go.bits .and .u8 (rd y170 4) 15)) = 10 then (if (wrap64 (Go.bits .and .u8 (rd y170 4) 15)) = 5 then (some (([] : List (S68)), some 3)) else (if x13_1.length < 2199023255552 then (syms_Read.l0 kj27 t160 t165 (x13_1 ++ [(⟨t185, wrap64 ((rd y170 4) / 16), wrap64 (Go.bits .and .u8 (rd y170 4) 15), wrap64 (Go.bits .and .u8 (rd y170 5) 3), wrap64 (t196), t202, t208⟩ : S68)]) a3 (wrap64 (x52_1 + 1))) else (none))) else (some (([] : List (S68)), some 3))) else (if (wrap64 (Go.bits .and .u8 (rd y170 4) 15)) = 5 then (some (([] : List (S68)), some 3)) else (if x13_1.length < 2199023255552 then (syms_Read.l0 kj27 t160 t165 (x13_1 ++ [(⟨t185, wrap64 ((rd y170 4) / 16), wrap64 (Go.bits .and .u8 (rd y170 4) 15), wrap64 (Go.bits .and .u8 (rd y170 5) 3), wrap64 (t196), t202, t208⟩ : S68)]) a3 (wrap64 (x52_1 + 1))) else (none)))))) = some (r1, r2) := H
                      have A49 := Aside0.mk A490
                      clear A490
                      have c50b0 := eq_true (of_decide_eq_true (by assumption) : 16 ≤ (y170.length : Int))
                      obtain ⟨y203, hy203⟩ : ∃ y_ : List Int, y_ = (y170.drop 16) := ⟨_, rfl⟩
                      replace H : ((syms_number.f kj27 y203).bind fun t208 => (if (wrap64 ((rd y170 4) / 16)) > 2 then (some (([] : List (S68)), some 3)) else (if (wrap64 (Go.bits .and .u8 (rd y170 4) 15)) > 6 then (if (wrap64 (Go.bits .and .u8 (rd y170 4) 15)) = 10 then (if (wrap64 (Go.bits .and .u8 (rd y170 4) 15)) = 5 then (some (([] : List (S68)), some 3)) else (if x13_1.length < 2199023255552 then (syms_Read.l0 kj27 t160 t165 (x13_1 ++ [(⟨t185, wrap64 ((rd y170 4) / 16), wrap64 (Go.bits .and .u8 (rd y170 4) 15), wrap64 (Go.bits .and .u8 (rd y170 5) 3), wrap64 (t196), t202, t208⟩ : S68)]) a3 (wrap64 (x52_1 + 1))) else (none))) else (some (([] : List (S68)), some 3))) else (if (wrap64 (Go.bits .and .u8 (rd y170 4) 15)) = 5 then (some (([] : List (S68)), some 3)) else (if x13_1.length < 2199023255552 then (syms_Read.l0 kj27 t160 t165 (x13_1 ++ [(⟨t185, wrap64 ((rd y170 4) / 16), wrap64 (Go.bits .and .u8 (rd y170 4) 15), wrap64 (Go.bits .and .u8 (rd y170 5) 3), wrap64 (t196), t202, t208⟩ : S68)]) a3 (wrap64 (x52_1 + 1))) else (none)))))) = some (r1, r2) := by first | (rw [hy203]; with_reducible exact H) | (have H2_ := (Option.bind_some _ _).symm.trans H; rw [hy203]; with_reducible exact H2_) | (have H2_ := (Option.bind_some _ _).symm.trans H; with_reducible exact H2_) | with_reducible exact H | (rw [hy203]; exact H) | exact H
                      have Ny203 := Aside0.mk hy203
                      clear hy203
                      replace H := Option.bind_eq_some_iff.mp H
                      obtain ⟨t208, A510, H⟩ := H
                      replace H : (if (wrap64 ((rd y170 4) / 16)) > 2 then (some (([] : List (S68)), some 3)) else (if (wrap64 (Go.bits .and .u8 (rd y170 4) 15)) > 6 then (if (wrap64 (Go.bits .and .u8 (rd y170 4) 15)) = 10 then (if (wrap64 (Go.bits .and .u8 (rd y170 4) 15)) = 5 then (some (([] : List (S68)), some 3)) else (if x13_1.length < 2199023255552 then (syms_Read.l0 kj27 t160 t165 (x13_1 ++ [(⟨t185, wrap64 ((rd y170 4) / 16), wrap64 (Go.bits .and .u8 (rd y170 4) 15), wrap64 (Go.bits .and .u8 (rd y170 5) 3), wrap64 (t196), t202, t208⟩ : S68)]) a3 (wrap64 (x52_1 + 1))) else (none))) else (some (([] : List (S68)), some 3))) else (if (wrap64 (Go.bits .and .u8 (rd y170 4) 15)) = 5 then (some (([] : List (S68)), some 3)) else (if x13_1.length < 2199023255552 then (syms_Read.l0 kj27 t160 t165 (x13_1 ++ [(⟨t185, wrap64 ((rd y170 4) / 16), wrap64 (Go.bits .and .u8 (rd y170 4) 15), wrap64 (Go.bits .and .u8 (rd y170 5) 3), wrap64 (t196), t202, t208⟩ : S68)]) a3 (wrap64 (x52_1 + 1))) else (none))))) = some (r1, r2) := H
                      have A51 := Aside0.mk A510
                      clear A510
                      have HC52 := Aside0.mk H
                      clear H
                      have q53 : (4 : Int) ≤ ((y170.length : Int) : Int) := of_decide_eq_true (by assumption)
                      obtain ⟨i053, hi053, _, hsz53, _⟩ := info_parts info5
                      have hroom53 : y170.length ≤ c29 := (Kd.V_reads' HO_15.out).2.1
                      have hC53 : Kd.F (Kd.int .u8) _ _ A29 y170.length y170 := (Kd.V_at (base := w.heap.size) HO_15.out).2.2
                      have hcut53 := cut_to (P := Try.prog) 22 5 .i64 Try.underlying22 hi053 A29 y170.length c29 4 (by omega) q53 hroom53
                      have hr53 := Kd.F_take (m := 4) hC53 (by omega)
                      have hy53 : y179.length = (4 : Int).toNat := (by rw [Ny179.out, List.length_take]; omega)
                      rw [← Ny179.out] at hr53
                      rw [← hy53] at hcut53
                      have HO183 := Aside0.mk (show Kd.V (Kd.int .u8) 5 _ w.heap.size _ (.slice A29 y179.length c29) y179 from Kd.V_mk (by omega) hr53)
                      have HC183 := Aside0.mk (show y179.length ≤ c29 from by omega)
                      clear hr53 hC53 hroom53 hi053 hsz53
                      have KY53 := Aside0.mk hy53
                      clear hy53
                      replace q53 := eq_true q53
                      try go_wp2_with (first | ((with_reducible refine gate_ (.load 55 (.tmp 6)) rfl ?_); refine wpList_load_row rfl 55 (.tmp 6) rfl gb159 rfl 55 _ (0, 0) _ (by (with_reducible repeat (first | refine blk_drewN ?_ _ | refine blk_drew ?_ | refine blk_alloc ?_ _)); exact BK159.out) Try.underlying55 rfl (by kernel_rfl) ?_) | ((with_reducible refine gate_callee (f := 49) rfl ?_); refine goesL_ (some 75) rfl rfl Try.func49 (by kernel_rfl) rfl #[.slice A29 y179.length c29] rfl (by (try simp only [List.map_toArray, List.map_cons, List.map_nil]); first | done | rfl | (simp only [List.length_drop, List.length_take]; rfl)) ?_; (with_reducible refine (syms_number.calls kj27 _ _ y179 t184 _ ?side1 ?side2 A40.out).mono ?_); (case side1 => repeat (first | exact (Kd.V_reads' HO183.out).2.2 | (with_reducible refine Kd.C_alloc ?_ _) | (with_reducible refine Kd.C_drewN ?_ _) | (with_reducible refine Kd.C_drew ?_))); (case side2 => exact (Kd.V_reads' HO183.out).2.1); rintro e w' ⟨rfl, ⟨nd, rfl⟩⟩; refine ⟨_, rfl, ?_⟩; (try (rw [drewN_self wc]; generalize hq_ : World.drewN wc _ = wc; have n0_ : Aside0 (Kd.V (Kd.int .u8) 5 wc w.heap.size (fun k_ => some k_ ≠ (u13 : Value).ownBlock ∧ k_ ≠ gb158 ∧ k_ ≠ gb159) (.slice A29 y179.length c29) y179) := ⟨by rw [← hq_]; exact (by (with_reducible repeat (first | apply Kd.V_alloc | apply Kd.V_drewN | apply Kd.V_drew)); exact HO183.out)⟩; have n1_ : Aside0 (Kd.V (Kd.int .u8) 5 wc w.heap.size (fun k_ => some k_ ≠ (u13 : Value).ownBlock ∧ k_ ≠ gb158 ∧ k_ ≠ gb159) v161 t160) := ⟨by rw [← hq_]; exact (by (with_reducible repeat (first | apply Kd.V_alloc | apply Kd.V_drewN | apply Kd.V_drew)); exact HO_10.out)⟩; have n2_ : Aside0 (Kd.V (Kd.int .u8) 5 wc w.heap.size (fun k_ => some k_ ≠ (u13 : Value).ownBlock ∧ k_ ≠ gb158 ∧ k_ ≠ gb159) (.slice Ao30 t165.length co30) t165) := ⟨by rw [← hq_]; exact (by (with_reducible repeat (first | apply Kd.V_alloc | apply Kd.V_drewN | apply Kd.V_drew)); exact HO_12.out)⟩; have n3_ : Aside0 (Kd.R k68 68 wc w.heap.size (fun _ => True) u13 x13_1) := ⟨by rw [← hq_]; exact (by (with_reducible repeat (first | apply Kd.R_alloc | apply Kd.R_drewN | apply Kd.R_drew)); exact HO_13.out)⟩; have n4_ : Aside0 (Kd.V (Kd.int .u8) 5 wc w.heap.size (fun k_ => some k_ ≠ (u13 : Value).ownBlock ∧ k_ ≠ gb158 ∧ k_ ≠ gb159) (.slice A29 y170.length c29) y170) := ⟨by rw [← hq_]; exact (by (with_reducible repeat (first | apply Kd.V_alloc | apply Kd.V_drewN | apply Kd.V_drew)); exact HO_15.out)⟩; have n5_ : Aside0 (wc.heap[gb158]? = some (.cells #[.int .i64 a1_0, .int .u64 a1_1, .slice A1_2 l1_2.length c1_2] 53 (0, 0))) := ⟨by rw [← hq_]; exact (by (with_reducible repeat (first | refine blk_drewN ?_ _ | refine blk_drew ?_ | refine blk_alloc ?_ _)); exact BK158.out)⟩; have n6_ : Aside0 (wc.heap[gb159]? = some (.cells #[.slice A2_0 l2_0.length c2_0, .int .u64 a2_1, .int .u64 a2_2, .int .u64 a2_3, .int .u64 a2_4, .int .u64 a2_5, .int .u64 a2_6, .int .u64 a2_7, .int .u64 a2_8, .int .u64 a2_9, .int .u64 a2_10, .int .u64 a2_11, .int .u64 a2_12, .int .u64 a2_13, .bool a2_14, .bool a2_15, .bool a2_16, .int .u64 a2_17, .int .u64 a2_18, .int .u64 a2_19, .int .u64 a2_20, .int .u64 a2_21, .int .u64 a2_22, .int .u64 a2_23, .int .u64 a2_24, .int .u64 a2_25, .int .u64 a2_26, .int .u64 a2_27, .int .u64 a2_28, .int .u64 a2_29, .int .u64 a2_30, .int .u64 a2_31, .bool a2_32, .bool a2_33, .bool a2_34, .bool a2_35, .bool a2_36] 55 (0, 0))) := ⟨by rw [← hq_]; exact (by (with_reducible repeat (first | refine blk_drewN ?_ _ | refine blk_drew ?_ | refine blk_alloc ?_ _)); exact BK159.out)⟩; have n7_ : Aside0 (Below w.heap.size w wc) := ⟨by rw [← hq_]; exact (by repeat (first | (with_reducible first | exact HB.out | apply below_alloc | apply pw_below_drewN | apply below_drew1 | refine below_set ?_ GE158.out | refine below_set ?_ GE159.out) | exact HB.out))⟩; clear HO183 HO_10 HO_12 HO_13 HO_15 BK158 BK159 HB hq_; have HO183 := n0_; have HO_10 := n1_; have HO_12 := n2_; have HO_13 := n3_; have HO_15 := n4_; have BK158 := n5_; have BK159 := n6_; have HB := n7_; clear n0_ n1_ n2_ n3_ n4_ n5_ n6_ n7_)); obtain ⟨Ao54, co54, eo54⟩ := Kd.V_slice HO_10.out; subst eo54) | ((with_reducible refine gate_callee (f := 14) rfl ?_); refine goesL_ (some 76) rfl rfl Try.func14 (by kernel_rfl) rfl #[.slice Ao54 t160.length co54, .int .u64 t184] rfl (by (try simp only [List.map_toArray, List.map_cons, List.map_nil]); first | done | rfl | (simp only [List.length_drop, List.length_take]; rfl)) ?_; (with_reducible refine (syms_Text.calls _ _ t160 t184 t185 none _ ?side1 ?side2 A41.out).mono ?_); (case side1 => repeat (first | exact (Kd.V_reads' HO_10.out).2.2 | (with_reducible refine Kd.C_alloc ?_ _) | (with_reducible refine Kd.C_drewN ?_ _) | (with_reducible refine Kd.C_drew ?_))); (case side2 => exact (Kd.V_reads' HO_10.out).2.1); rintro e w' ⟨rfl, ⟨nd, rfl⟩⟩; refine ⟨_, rfl, ?_⟩; (try simp only [errW_none, errW_some]); (try (rw [drewN_self wc]; generalize hq_ : World.drewN wc _ = wc; have n0_ : Aside0 (Kd.V (Kd.int .u8) 5 wc w.heap.size (fun k_ => some k_ ≠ (u13 : Value).ownBlock ∧ k_ ≠ gb158 ∧ k_ ≠ gb159) (.slice A29 y179.length c29) y179) := ⟨by rw [← hq_]; exact (by (with_reducible repeat (first | apply Kd.V_alloc | apply Kd.V_drewN | apply Kd.V_drew)); exact HO183.out)⟩; have n1_ : Aside0 (Kd.V (Kd.int .u8) 5 wc w.heap.size (fun k_ => some k_ ≠ (u13 : Value).ownBlock ∧ k_ ≠ gb158 ∧ k_ ≠ gb159) (.slice Ao54 t160.length co54) t160) := ⟨by rw [← hq_]; exact (by (with_reducible repeat (first | apply Kd.V_alloc | apply Kd.V_drewN | apply Kd.V_drew)); exact HO_10.out)⟩; have n2_ : Aside0 (Kd.V (Kd.int .u8) 5 wc w.heap.size (fun k_ => some k_ ≠ (u13 : Value).ownBlock ∧ k_ ≠ gb158 ∧ k_ ≠ gb159) (.slice Ao30 t165.length co30) t165) := ⟨by rw [← hq_]; exact (by (with_reducible repeat (first | apply Kd.V_alloc | apply Kd.V_drewN | apply Kd.V_drew)); exact HO_12.out)⟩; have n3_ : Aside0 (Kd.R k68 68 wc w.heap.size (fun _ => True) u13 x13_1) := ⟨by rw [← hq_]; exact (by (with_reducible repeat (first | apply Kd.R_alloc | apply Kd.R_drewN | apply Kd.R_drew)); exact HO_13.out)⟩; have n4_ : Aside0 (Kd.V (Kd.int .u8) 5 wc w.heap.size (fun k_ => some k_ ≠ (u13 : Value).ownBlock ∧ k_ ≠ gb158 ∧ k_ ≠ gb159) (.slice A29 y170.length c29) y170) := ⟨by rw [← hq_]; exact (by (with_reducible repeat (first | apply Kd.V_alloc | apply Kd.V_drewN | apply Kd.V_drew)); exact HO_15.out)⟩; have n5_ : Aside0 (wc.heap[gb158]? = some (.cells #[.int .i64 a1_0, .int .u64 a1_1, .slice A1_2 l1_2.length c1_2] 53 (0, 0))) := ⟨by rw [← hq_]; exact (by (with_reducible repeat (first | refine blk_drewN ?_ _ | refine blk_drew ?_ | refine blk_alloc ?_ _)); exact BK158.out)⟩; have n6_ : Aside0 (wc.heap[gb159]? = some (.cells #[.slice A2_0 l2_0.length c2_0, .int .u64 a2_1, .int .u64 a2_2, .int .u64 a2_3, .int .u64 a2_4, .int .u64 a2_5, .int .u64 a2_6, .int .u64 a2_7, .int .u64 a2_8, .int .u64 a2_9, .int .u64 a2_10, .int .u64 a2_11, .int .u64 a2_12, .int .u64 a2_13, .bool a2_14, .bool a2_15, .bool a2_16, .int .u64 a2_17, .int .u64 a2_18, .int .u64 a2_19, .int .u64 a2_20, .int .u64 a2_21, .int .u64 a2_22, .int .u64 a2_23, .int .u64 a2_24, .int .u64 a2_25, .int .u64 a2_26, .int .u64 a2_27, .int .u64 a2_28, .int .u64 a2_29, .int .u64 a2_30, .int .u64 a2_31, .bool a2_32, .bool a2_33, .bool a2_34, .bool a2_35, .bool a2_36] 55 (0, 0))) := ⟨by rw [← hq_]; exact (by (with_reducible repeat (first | refine blk_drewN ?_ _ | refine blk_drew ?_ | refine blk_alloc ?_ _)); exact BK159.out)⟩; have n7_ : Aside0 (Below w.heap.size w wc) := ⟨by rw [← hq_]; exact (by repeat (first | (with_reducible first | exact HB.out | apply below_alloc | apply pw_below_drewN | apply below_drew1 | refine below_set ?_ GE158.out | refine below_set ?_ GE159.out) | exact HB.out))⟩; clear HO183 HO_10 HO_12 HO_13 HO_15 BK158 BK159 HB hq_; have HO183 := n0_; have HO_10 := n1_; have HO_12 := n2_; have HO_13 := n3_; have HO_15 := n4_; have BK158 := n5_; have BK159 := n6_; have HB := n7_; clear n0_ n1_ n2_ n3_ n4_ n5_ n6_ n7_))))
                      have n0_ := Aside0.mk (Kd.V_drew HO_10.out)
                      have n1_ := Aside0.mk (Kd.V_drew HO_12.out)
                      have n2_ := Aside0.mk (Kd.R_drew HO_13.out)
                      have n3_ := Aside0.mk (Kd.V_drew HO_15.out)
                      have n4_ := Aside0.mk (Kd.V_drew HO183.out)
                      have n5_ := Aside0.mk (blk_drew BK158.out)
                      have n6_ := Aside0.mk (blk_drew BK159.out)
                      have n7_ := Aside0.mk (below_drew1 HB.out)
                      clear HO_10
                      clear HO_12
                      clear HO_13
                      clear HO_15
                      clear HO183
                      clear BK158
                      clear BK159
                      clear HB
                      have HO_10 := n0_
                      have HO_12 := n1_
                      have HO_13 := n2_
                      have HO_15 := n3_
                      have HO183 := n4_
                      have BK158 := n5_
                      have BK159 := n6_
                      have HB := n7_
                      clear n0_ n1_ n2_ n3_ n4_ n5_ n6_ n7_
                      have p188 : 0 ≤ (4 : Int) := (by omega)
                      have q188 : 4 < (y170.length : Int) := of_decide_eq_true (by assumption)
                      obtain ⟨ad188, e188, hx188_0⟩ := Kd.at_int (Kd.V_reads' HO_15.out).2.2 4 p188 q188
                      cases e188
                      (try simp only [show (4 : Int).toNat = 4 from rfl, Nat.reduceMul, Nat.reduceEqDiff, Go.Addr.add, ↓reduceIte] at hx188_0)
                      have qi188 : (4 < y170.length) = True := eq_true (by omega)
                      have qz_ : (0 < y170.length) = True := eq_true (by omega)
                      (try rw [show ((4 : Int)).toNat = 4 from rfl] at hx188_0)
                      replace p188 := eq_true p188
                      replace q188 := eq_true q188
                      have p189 : 0 ≤ (4 : Int) := (by omega)
                      have q189 : 4 < (y170.length : Int) := of_decide_eq_true (by assumption)
                      obtain ⟨ad189, e189, hx189_0⟩ := Kd.at_int (Kd.V_reads' HO_15.out).2.2 4 p189 q189
                      obtain rfl : ad188 = ad189 := (by injection e189)
                      (try simp only [show (4 : Int).toNat = 4 from rfl, Nat.reduceMul, Nat.reduceEqDiff, Go.Addr.add, ↓reduceIte] at hx189_0)
                      have qi189 : (4 < y170.length) = True := eq_true (by omega)
                      have qz_ : (0 < y170.length) = True := eq_true (by omega)
                      (try rw [show ((4 : Int)).toNat = 4 from rfl] at hx189_0)
                      replace p189 := eq_true p189
                      replace q189 := eq_true q189
                      have p190 : 0 ≤ (5 : Int) := (by omega)
                      have q190 : 5 < (y170.length : Int) := of_decide_eq_true (by assumption)
                      obtain ⟨ad190, e190, hx190_0⟩ := Kd.at_int (Kd.V_reads' HO_15.out).2.2 5 p190 q190
                      obtain rfl : ad188 = ad190 := (by injection e190)
                      (try simp only [show (5 : Int).toNat = 5 from rfl, Nat.reduceMul, Nat.reduceEqDiff, Go.Addr.add, ↓reduceIte] at hx190_0)
                      have qi190 : (5 < y170.length) = True := eq_true (by omega)
                      (try rw [show ((5 : Int)).toNat = 5 from rfl] at hx190_0)
                      replace p190 := eq_true p190
                      replace q190 := eq_true q190
                      have q56 : (8 : Int) ≤ ((y170.length : Int) : Int) := of_decide_eq_true (by assumption)
                      obtain ⟨i056, hi056, _, hsz56, _⟩ := info_parts info5
                      have hroom56 : y170.length ≤ c29 := (Kd.V_reads' HO_15.out).2.1
                      have hC56 : Kd.F (Kd.int .u8) _ _ (some ad188) y170.length y170 := (Kd.V_at (base := w.heap.size) HO_15.out).2.2
                      have ql56 : (6 : Int) ≤ (8 : Int) := (by omega)
                      have hcut56 := cut_mid (P := Try.prog) 22 5 .i64 .i64 Try.underlying22 hi056 1 hsz56 (some ad188) y170.length c29 6 8 (by omega) ql56 q56 hroom56
                      have hr56 := Kd.F_mid (lo := (6 : Int).toNat) (hi := (8 : Int).toNat) (c := c29) hC56 (by omega) (by omega) hroom56
                      obtain ⟨A56, hA56⟩ : ∃ A1, A1 = (if c29 = (6 : Int).toNat then (some ad188) else ((some ad188) : Option Addr).map (·.add ((6 : Int).toNat * 1))) := ⟨_, rfl⟩
                      obtain ⟨c56, hc56⟩ : ∃ c1, c1 = c29 - (6 : Int).toNat := ⟨_, rfl⟩
                      have hy56 : y191.length = (8 : Int).toNat - (6 : Int).toNat := (by rw [Ny191.out, List.length_drop, List.length_take] <;> omega)
                      rw [show ((y170).take (8 : Int).toNat).drop (6 : Int).toNat = y191 from Ny191.out.symm] at hr56
                      replace hr56 : Kd.F (Kd.int .u8) _ _ A56 y191.length y191 := (by rw [hA56]; exact hr56)
                      rw [← hy56, ← hA56, ← hc56] at hcut56
                      have HO195 := Aside0.mk (show Kd.V (Kd.int .u8) 5 _ w.heap.size _ (.slice A56 y191.length c56) y191 from Kd.V_mk (by rw [hy56, hc56]; exact Nat.sub_le_sub_right (Nat.le_trans (by omega) hroom56) _) hr56)
                      have HC195 := Aside0.mk (show y191.length ≤ c56 from by rw [hy56, hc56]; exact Nat.sub_le_sub_right (Nat.le_trans (by omega) hroom56) _)
                      clear hr56 hC56 hroom56 hi056 hsz56 hc56
                      have KY56 := Aside0.mk hy56
                      have KA56 := Aside0.mk hA56
                      clear hy56 hA56
                      replace q56 := eq_true q56
                      have q57 : (16 : Int) ≤ ((y170.length : Int) : Int) := of_decide_eq_true (by assumption)
                      obtain ⟨i057, hi057, _, hsz57, _⟩ := info_parts info5
                      have hroom57 : y170.length ≤ c29 := (Kd.V_reads' HO_15.out).2.1
                      have hC57 : Kd.F (Kd.int .u8) _ _ (some ad188) y170.length y170 := (Kd.V_at (base := w.heap.size) HO_15.out).2.2
                      have ql57 : (8 : Int) ≤ (16 : Int) := (by omega)
                      have hcut57 := cut_mid (P := Try.prog) 22 5 .i64 .i64 Try.underlying22 hi057 1 hsz57 (some ad188) y170.length c29 8 16 (by omega) ql57 q57 hroom57
                      have hr57 := Kd.F_mid (lo := (8 : Int).toNat) (hi := (16 : Int).toNat) (c := c29) hC57 (by omega) (by omega) hroom57
                      obtain ⟨A57, hA57⟩ : ∃ A1, A1 = (if c29 = (8 : Int).toNat then (some ad188) else ((some ad188) : Option Addr).map (·.add ((8 : Int).toNat * 1))) := ⟨_, rfl⟩
                      obtain ⟨c57, hc57⟩ : ∃ c1, c1 = c29 - (8 : Int).toNat := ⟨_, rfl⟩
                      have hy57 : y197.length = (16 : Int).toNat - (8 : Int).toNat := (by rw [Ny197.out, List.length_drop, List.length_take] <;> omega)
                      rw [show ((y170).take (16 : Int).toNat).drop (8 : Int).toNat = y197 from Ny197.out.symm] at hr57
                      replace hr57 : Kd.F (Kd.int .u8) _ _ A57 y197.length y197 := (by rw [hA57]; exact hr57)
                      rw [← hy57, ← hA57, ← hc57] at hcut57
                      have HO201 := Aside0.mk (show Kd.V (Kd.int .u8) 5 _ w.heap.size _ (.slice A57 y197.length c57) y197 from Kd.V_mk (by rw [hy57, hc57]; exact Nat.sub_le_sub_right (Nat.le_trans (by omega) hroom57) _) hr57)
                      have HC201 := Aside0.mk (show y197.length ≤ c57 from by rw [hy57, hc57]; exact Nat.sub_le_sub_right (Nat.le_trans (by omega) hroom57) _)
                      clear hr57 hC57 hroom57 hi057 hsz57 hc57
                      have KY57 := Aside0.mk hy57
                      have KA57 := Aside0.mk hA57
                      clear hy57 hA57
                      replace q57 := eq_true q57
                      have q58 : (16 : Int) ≤ ((y170.length : Int) : Int) := of_decide_eq_true (by assumption)
                      obtain ⟨i058, hi058, _, hsz58, _⟩ := info_parts info5
                      have hroom58 : y170.length ≤ c29 := (Kd.V_reads' HO_15.out).2.1
                      have hC58 : Kd.F (Kd.int .u8) _ _ (some ad188) y170.length y170 := (Kd.V_at (base := w.heap.size) HO_15.out).2.2
                      have hcut58 := cut_from (P := Try.prog) 22 5 .i64 Try.underlying22 hi058 1 hsz58 (some ad188) y170.length c29 16 (by omega) q58
                      have hr58 := Kd.F_cut (m := (16 : Int).toNat) (c := c29) hC58 (by omega) hroom58
                      obtain ⟨A58, hA58⟩ : ∃ A1, A1 = (if c29 = (16 : Int).toNat then (some ad188) else ((some ad188) : Option Addr).map (·.add ((16 : Int).toNat * 1))) := ⟨_, rfl⟩
                      obtain ⟨c58, hc58⟩ : ∃ c1, c1 = c29 - (16 : Int).toNat := ⟨_, rfl⟩
                      have hy58 : y203.length = y170.length - (16 : Int).toNat := (by rw [Ny203.out, List.length_drop] <;> omega)
                      rw [show (y170).drop (16 : Int).toNat = y203 from Ny203.out.symm] at hr58
                      replace hr58 : Kd.F (Kd.int .u8) _ _ A58 y203.length y203 := (by rw [hA58]; exact hr58)
                      rw [← hy58, ← hA58, ← hc58] at hcut58
                      have HO207 := Aside0.mk (show Kd.V (Kd.int .u8) 5 _ w.heap.size _ (.slice A58 y203.length c58) y203 from Kd.V_mk (by rw [hy58, hc58]; exact Nat.sub_le_sub_right hroom58 _) hr58)
                      have HC207 := Aside0.mk (show y203.length ≤ c58 from by rw [hy58, hc58]; exact Nat.sub_le_sub_right hroom58 _)
                      clear hr58 hC58 hroom58 hi058 hsz58 hc58
                      have KY58 := Aside0.mk hy58
                      have KA58 := Aside0.mk hA58
                      clear hy58 hA58
                      replace q58 := eq_true q58
                      refine start_ (n := 29) (S := fun w' => w'.cell? ⟨ad188.block, ad188.off + 4, none⟩ = some (.int .u8 (rd y170 4)) ∧ w'.cell? ⟨ad188.block, ad188.off + 4, none⟩ = some (.int .u8 (rd y170 4)) ∧ w'.cell? ⟨ad188.block, ad188.off + 5, none⟩ = some (.int .u8 (rd y170 5))) (ds := []) #[false, false, false, false, false, false, false, false, false, false, false, false, false, false, false, false, false, false, false, false, false, false, false, false, false, false, false, false, false] (by kernel_rfl) rfl rfl ⟨hx188_0, hx189_0, hx190_0⟩ (fun hHeld => ?_); refine with_tabW syms_Read.tab21 syms_Read.bits21 (fun HT_ HW_ => ?_)
                      generalize wc.drew = w55 at HO_10 HO_12 HO_13 HO_15 HO183 BK158 BK159 HB HO195 HO201 HO207 hx188_0 hx189_0 hx190_0 hHeld ⊢
                      refine pure_ (i := 0) (N := some 82) (v := ?_) (a' := ?_) #[true, false, false, false, false, false, false, false, false, false, false, false, false, false, false, false, false, false, false, false, false, false, false, false, false, false, false, false, false] rfl rfl (any_of HT_.out (by kernel_rfl)) (fun _ _ _ h => h) (Or.inl ⟨by rfl, ?_⟩) ?_ ?_
                      rotate_left
                      ·intro w'
                       go_simp
                       with_reducible rfl
                      rotate_left
                      ·simp only [Act.put, List.setIfInBounds_toArray, List.set_cons_zero, List.set_cons_succ, i64_w, i32_w]
                       rfl
                      refine pure_ (i := 1) (N := some 83) (v := ?_) (a' := ?_) #[true, true, false, false, false, false, false, false, false, false, false, false, false, false, false, false, false, false, false, false, false, false, false, false, false, false, false, false, false] rfl rfl (any_of HT_.out (by kernel_rfl)) (fun _ _ _ h => h) (Or.inl ⟨by rfl, ?_⟩) ?_ ?_
                      rotate_left
                      ·intro w'
                       go_simp
                       with_reducible rfl
                      rotate_left
                      ·simp only [Act.put, List.setIfInBounds_toArray, List.set_cons_zero, List.set_cons_succ, i64_w, i32_w]
                       rfl
                      refine pure_ (i := 2) (N := some 84) (v := ?_) (a' := ?_) #[true, true, true, false, false, false, false, false, false, false, false, false, false, false, false, false, false, false, false, false, false, false, false, false, false, false, false, false, false] rfl rfl (any_of HT_.out (by kernel_rfl)) (fun _ _ _ h => h) (Or.inl ⟨by rfl, ?_⟩) ?_ ?_
                      rotate_left
                      ·intro w'
                       go_simp
                       with_reducible rfl
                      rotate_left
                      ·simp only [Act.put, List.setIfInBounds_toArray, List.set_cons_zero, List.set_cons_succ, i64_w, i32_w]
                       rfl
                      refine pure_ (i := 6) (N := some 88) (v := ?_) (a' := ?_) #[true, true, true, false, false, false, true, false, false, false, false, false, false, false, false, false, false, false, false, false, false, false, false, false, false, false, false, false, false] rfl rfl (any_of HT_.out (by kernel_rfl)) (fun _ _ _ h => h) (Or.inl ⟨by rfl, ?_⟩) ?_ ?_
                      rotate_left
                      ·intro w'
                       go_simp
                       with_reducible rfl
                      rotate_left
                      ·simp only [Act.put, List.setIfInBounds_toArray, List.set_cons_zero, List.set_cons_succ, i64_w, i32_w]
                       rfl
                      refine pure_ (i := 7) (N := some 89) (v := ?_) (a' := ?_) #[true, true, true, false, false, false, true, true, false, false, false, false, false, false, false, false, false, false, false, false, false, false, false, false, false, false, false, false, false] rfl rfl (any_of HT_.out (by kernel_rfl)) (fun _ _ _ h => h) (Or.inl ⟨by rfl, ?_⟩) ?_ ?_
                      rotate_left
                      ·intro w'
                       go_simp
                       with_reducible rfl
                      rotate_left
                      ·simp only [Act.put, List.setIfInBounds_toArray, List.set_cons_zero, List.set_cons_succ, i64_w, i32_w]
                       rfl
                      refine pure_ (i := 11) (N := some 93) (v := ?_) (a' := ?_) #[true, true, true, false, false, false, true, true, false, false, false, true, false, false, false, false, false, false, false, false, false, false, false, false, false, false, false, false, false] rfl rfl (any_of HT_.out (by kernel_rfl)) (fun _ _ _ h => h) (Or.inl ⟨by rfl, ?_⟩) ?_ ?_
                      rotate_left
                      ·intro w'
                       go_simp
                       with_reducible rfl
                      rotate_left
                      ·simp only [Act.put, List.setIfInBounds_toArray, List.set_cons_zero, List.set_cons_succ, i64_w, i32_w]
                       rfl
                      refine pure_ (i := 12) (N := some 94) (v := ?_) (a' := ?_) #[true, true, true, false, false, false, true, true, false, false, false, true, true, false, false, false, false, false, false, false, false, false, false, false, false, false, false, false, false] rfl rfl (any_of HT_.out (by kernel_rfl)) (fun _ _ _ h => h) (Or.inl ⟨by rfl, ?_⟩) ?_ ?_
                      rotate_left
                      ·intro w'
                       go_simp
                       with_reducible rfl
                      rotate_left
                      ·simp only [Act.put, List.setIfInBounds_toArray, List.set_cons_zero, List.set_cons_succ, i64_w, i32_w]
                       rfl
                      refine pure_ (i := 16) (N := some 98) (v := ?_) (a' := ?_) #[true, true, true, false, false, false, true, true, false, false, false, true, true, false, false, false, true, false, false, false, false, false, false, false, false, false, false, false, false] rfl rfl (any_of HT_.out (by kernel_rfl)) (fun _ _ _ h => h) (Or.inl ⟨by rfl, ?_⟩) ?_ ?_
                      rotate_left
                      ·intro w'
                       go_simp
                       with_reducible rfl
                      rotate_left
                      ·simp only [Act.put, List.setIfInBounds_toArray, List.set_cons_zero, List.set_cons_succ, i64_w, i32_w]
                       rfl
                      refine pure_ (i := 17) (N := some 99) (v := ?_) (a' := ?_) #[true, true, true, false, false, false, true, true, false, false, false, true, true, false, false, false, true, true, false, false, false, false, false, false, false, false, false, false, false] rfl rfl (any_of HT_.out (by kernel_rfl)) (fun _ _ _ h => h) (Or.inl ⟨by rfl, ?_⟩) ?_ ?_
                      rotate_left
                      ·intro w'
                       go_simp
                       with_reducible rfl
                      rotate_left
                      ·simp only [Act.put, List.setIfInBounds_toArray, List.set_cons_zero, List.set_cons_succ, i64_w, i32_w]
                       rfl
                      refine pure_ (i := 20) (N := some 102) (v := ?_) (a' := ?_) #[true, true, true, false, false, false, true, true, false, false, false, true, true, false, false, false, true, true, false, false, true, false, false, false, false, false, false, false, false] rfl rfl (any_of HT_.out (by kernel_rfl)) (fun _ _ _ h => h) (Or.inl ⟨by rfl, ?_⟩) ?_ ?_
                      rotate_left
                      ·intro w'
                       go_simp
                       with_reducible rfl
                      rotate_left
                      ·simp only [Act.put, List.setIfInBounds_toArray, List.set_cons_zero, List.set_cons_succ, i64_w, i32_w]
                       rfl
                      refine pure_ (i := 21) (N := some 103) (v := ?_) (a' := ?_) #[true, true, true, false, false, false, true, true, false, false, false, true, true, false, false, false, true, true, false, false, true, true, false, false, false, false, false, false, false] rfl rfl (any_of HT_.out (by kernel_rfl)) (fun _ _ _ h => h) (Or.inl ⟨by rfl, ?_⟩) ?_ ?_
                      rotate_left
                      ·intro w'
                       go_simp
                       with_reducible rfl
                      rotate_left
                      ·simp only [Act.put, List.setIfInBounds_toArray, List.set_cons_zero, List.set_cons_succ, i64_w, i32_w]
                       rfl
                      refine pure_ (i := 23) (N := some 105) (v := ?_) (a' := ?_) #[true, true, true, false, false, false, true, true, false, false, false, true, true, false, false, false, true, true, false, false, true, true, false, true, false, false, false, false, false] rfl rfl (any_of HT_.out (by kernel_rfl)) (fun _ _ _ h => h) (Or.inl ⟨by rfl, ?_⟩) ?_ ?_
                      rotate_left
                      ·intro w'
                       go_simp
                       with_reducible rfl
                      rotate_left
                      ·simp only [Act.put, List.setIfInBounds_toArray, List.set_cons_zero, List.set_cons_succ, i64_w, i32_w]
                       rfl
                      refine pure_ (i := 24) (N := some 106) (v := ?_) (a' := ?_) #[true, true, true, false, false, false, true, true, false, false, false, true, true, false, false, false, true, true, false, false, true, true, false, true, true, false, false, false, false] rfl rfl (any_of HT_.out (by kernel_rfl)) (fun _ _ _ h => h) (Or.inl ⟨by rfl, ?_⟩) ?_ ?_
                      rotate_left
                      ·intro w'
                       go_simp
                       with_reducible rfl
                      rotate_left
                      ·simp only [Act.put, List.setIfInBounds_toArray, List.set_cons_zero, List.set_cons_succ, i64_w, i32_w]
                       rfl
                      refine take_ (i := 3) (N := some 85) (v := ?_) (a' := ?_) #[true, true, true, true, false, false, true, true, false, false, false, true, true, false, false, false, true, true, false, false, true, true, false, true, true, false, false, false, false] rfl rfl (take_ofW HT_.out HW_.out (by kernel_rfl)) (fun _ _ _ h => h) (Or.inl ⟨by rfl, ?_⟩) hHeld ?_ ?_
                      rotate_left
                      ·rintro w' ⟨s0, s1, s2⟩
                       go_simp
                       with_reducible rfl
                      rotate_left
                      ·simp only [Act.put, List.setIfInBounds_toArray, List.set_cons_zero, List.set_cons_succ, i64_w, i32_w]
                       rfl
                      refine pure_ (i := 4) (N := some 86) (v := ?_) (a' := ?_) #[true, true, true, true, true, false, true, true, false, false, false, true, true, false, false, false, true, true, false, false, true, true, false, true, true, false, false, false, false] rfl rfl (any_of HT_.out (by kernel_rfl)) (fun _ _ _ h => h) (Or.inl ⟨by rfl, ?_⟩) ?_ ?_
                      rotate_left
                      ·intro w'
                       go_simp
                       with_reducible rfl
                      rotate_left
                      ·simp only [Act.put, List.setIfInBounds_toArray, List.set_cons_zero, List.set_cons_succ, i64_w, i32_w]
                       rfl
                      refine pure_ (i := 5) (N := some 87) (v := ?_) (a' := ?_) #[true, true, true, true, true, true, true, true, false, false, false, true, true, false, false, false, true, true, false, false, true, true, false, true, true, false, false, false, false] rfl rfl (any_of HT_.out (by kernel_rfl)) (fun _ _ _ h => h) (Or.inl ⟨by rfl, ?_⟩) ?_ ?_
                      rotate_left
                      ·intro w'
                       go_simp
                       with_reducible rfl
                      rotate_left
                      ·simp only [Act.put, List.setIfInBounds_toArray, List.set_cons_zero, List.set_cons_succ, i64_w, i32_w]
                       rfl
                      refine take_ (i := 8) (N := some 90) (v := ?_) (a' := ?_) #[true, true, true, true, true, true, true, true, true, false, false, true, true, false, false, false, true, true, false, false, true, true, false, true, true, false, false, false, false] rfl rfl (take_ofW HT_.out HW_.out (by kernel_rfl)) (fun _ _ _ h => h) (Or.inl ⟨by rfl, ?_⟩) hHeld ?_ ?_
                      rotate_left
                      ·rintro w' ⟨s0, s1, s2⟩
                       go_simp
                       with_reducible rfl
                      rotate_left
                      ·simp only [Act.put, List.setIfInBounds_toArray, List.set_cons_zero, List.set_cons_succ, i64_w, i32_w]
                       rfl
                      refine pure_ (i := 9) (N := some 91) (v := ?_) (a' := ?_) #[true, true, true, true, true, true, true, true, true, true, false, true, true, false, false, false, true, true, false, false, true, true, false, true, true, false, false, false, false] rfl rfl (any_of HT_.out (by kernel_rfl)) (fun _ _ _ h => h) (Or.inl ⟨by rfl, ?_⟩) ?_ ?_
                      rotate_left
                      ·intro w'
                       go_simp
                       with_reducible rfl
                      rotate_left
                      ·simp only [Act.put, List.setIfInBounds_toArray, List.set_cons_zero, List.set_cons_succ, i64_w, i32_w]
                       rfl
                      refine pure_ (i := 10) (N := some 92) (v := ?_) (a' := ?_) #[true, true, true, true, true, true, true, true, true, true, true, true, true, false, false, false, true, true, false, false, true, true, false, true, true, false, false, false, false] rfl rfl (any_of HT_.out (by kernel_rfl)) (fun _ _ _ h => h) (Or.inl ⟨by rfl, ?_⟩) ?_ ?_
                      rotate_left
                      ·intro w'
                       go_simp
                       with_reducible rfl
                      rotate_left
                      ·simp only [Act.put, List.setIfInBounds_toArray, List.set_cons_zero, List.set_cons_succ, i64_w, i32_w]
                       rfl
                      refine take_ (i := 13) (N := some 95) (v := ?_) (a' := ?_) #[true, true, true, true, true, true, true, true, true, true, true, true, true, true, false, false, true, true, false, false, true, true, false, true, true, false, false, false, false] rfl rfl (take_ofW HT_.out HW_.out (by kernel_rfl)) (fun _ _ _ h => h) (Or.inl ⟨by rfl, ?_⟩) hHeld ?_ ?_
                      rotate_left
                      ·rintro w' ⟨s0, s1, s2⟩
                       go_simp
                       with_reducible rfl
                      rotate_left
                      ·simp only [Act.put, List.setIfInBounds_toArray, List.set_cons_zero, List.set_cons_succ, i64_w, i32_w]
                       rfl
                      refine pure_ (i := 14) (N := some 96) (v := ?_) (a' := ?_) #[true, true, true, true, true, true, true, true, true, true, true, true, true, true, true, false, true, true, false, false, true, true, false, true, true, false, false, false, false] rfl rfl (any_of HT_.out (by kernel_rfl)) (fun _ _ _ h => h) (Or.inl ⟨by rfl, ?_⟩) ?_ ?_
                      rotate_left
                      ·intro w'
                       go_simp
                       with_reducible rfl
                      rotate_left
                      ·simp only [Act.put, List.setIfInBounds_toArray, List.set_cons_zero, List.set_cons_succ, i64_w, i32_w]
                       rfl
                      refine pure_ (i := 15) (N := some 97) (v := ?_) (a' := ?_) #[true, true, true, true, true, true, true, true, true, true, true, true, true, true, true, true, true, true, false, false, true, true, false, true, true, false, false, false, false] rfl rfl (any_of HT_.out (by kernel_rfl)) (fun _ _ _ h => h) (Or.inl ⟨by rfl, ?_⟩) ?_ ?_
                      rotate_left
                      ·intro w'
                       go_simp
                       with_reducible rfl
                      rotate_left
                      ·simp only [Act.put, List.setIfInBounds_toArray, List.set_cons_zero, List.set_cons_succ, i64_w, i32_w]
                       rfl
                      refine join_ (σ := Nat) 1 #[true, true, true, true, true, true, true, true, true, true, true, true, true, true, true, true, true, true, true, true, true, true, true, true, true, true, true, true, false] (fun s_ => [(100, .int .u64 t196), (104, .int .u64 t202), (107, .int .u64 t208), (18, .pointer (some ⟨s_, 0, none⟩)), (101, .int .i64 (wrap64 (t196))), (108, .agg #[.string t185, .int .i64 (wrap64 ((rd y170 4) / 16)), .int .i64 (wrap64 (Go.bits .and .u8 (rd y170 4) 15)), .int .i64 (wrap64 (Go.bits .and .u8 (rd y170 5) 3)), .int .i64 (wrap64 (t196)), .int .u64 t202, .int .u64 t208])]) (fun s_ w' => (w'.cell? ⟨ad188.block, ad188.off + 4, none⟩ = some (.int .u8 (rd y170 4)) ∧ w'.cell? ⟨ad188.block, ad188.off + 4, none⟩ = some (.int .u8 (rd y170 4)) ∧ w'.cell? ⟨ad188.block, ad188.off + 5, none⟩ = some (.int .u8 (rd y170 5))) ∧ (Kd.V (Kd.int .u8) 5 w' w.heap.size (fun k_ => some k_ ≠ (u13 : Value).ownBlock ∧ k_ ≠ gb158 ∧ k_ ≠ gb159 ∧ k_ ≠ s_) (.slice (some ad188) y179.length c29) y179) ∧ (Kd.V (Kd.int .u8) 5 w' w.heap.size (fun k_ => some k_ ≠ (u13 : Value).ownBlock ∧ k_ ≠ gb158 ∧ k_ ≠ gb159 ∧ k_ ≠ s_) (.slice A56 y191.length c56) y191) ∧ (Kd.V (Kd.int .u8) 5 w' w.heap.size (fun k_ => some k_ ≠ (u13 : Value).ownBlock ∧ k_ ≠ gb158 ∧ k_ ≠ gb159 ∧ k_ ≠ s_) (.slice A57 y197.length c57) y197) ∧ (Kd.V (Kd.int .u8) 5 w' w.heap.size (fun k_ => some k_ ≠ (u13 : Value).ownBlock ∧ k_ ≠ gb158 ∧ k_ ≠ gb159 ∧ k_ ≠ s_) (.slice A58 y203.length c58) y203) ∧ (Kd.V (Kd.int .u8) 5 w' w.heap.size (fun k_ => some k_ ≠ (u13 : Value).ownBlock ∧ k_ ≠ gb158 ∧ k_ ≠ gb159 ∧ k_ ≠ s_) (.slice Ao54 t160.length co54) t160) ∧ (Kd.V (Kd.int .u8) 5 w' w.heap.size (fun k_ => some k_ ≠ (u13 : Value).ownBlock ∧ k_ ≠ gb158 ∧ k_ ≠ gb159 ∧ k_ ≠ s_) (.slice Ao30 t165.length co30) t165) ∧ (Kd.R k68 68 w' w.heap.size (fun k_ => k_ ≠ s_) u13 x13_1) ∧ (Kd.V (Kd.int .u8) 5 w' w.heap.size (fun k_ => some k_ ≠ (u13 : Value).ownBlock ∧ k_ ≠ gb158 ∧ k_ ≠ gb159 ∧ k_ ≠ s_) (.slice (some ad188) y170.length c29) y170) ∧ (w'.heap[gb158]? = some (.cells #[.int .i64 a1_0, .int .u64 a1_1, .slice A1_2 l1_2.length c1_2] 53 (0, 0))) ∧ (w'.heap[gb159]? = some (.cells #[.slice A2_0 l2_0.length c2_0, .int .u64 a2_1, .int .u64 a2_2, .int .u64 a2_3, .int .u64 a2_4, .int .u64 a2_5, .int .u64 a2_6, .int .u64 a2_7, .int .u64 a2_8, .int .u64 a2_9, .int .u64 a2_10, .int .u64 a2_11, .int .u64 a2_12, .int .u64 a2_13, .bool a2_14, .bool a2_15, .bool a2_16, .int .u64 a2_17, .int .u64 a2_18, .int .u64 a2_19, .int .u64 a2_20, .int .u64 a2_21, .int .u64 a2_22, .int .u64 a2_23, .int .u64 a2_24, .int .u64 a2_25, .int .u64 a2_26, .int .u64 a2_27, .int .u64 a2_28, .int .u64 a2_29, .int .u64 a2_30, .int .u64 a2_31, .bool a2_32, .bool a2_33, .bool a2_34, .bool a2_35, .bool a2_36] 55 (0, 0))) ∧ (w'.heap[s_]? = some (.cells #[.string (⟨#[]⟩ : ByteArray), .int .i64 0, .int .i64 0, .int .i64 0, .int .i64 0, .int .u64 0, .int .u64 0] 68 (0, 0))) ∧ (w.heap.size ≤ s_) ∧ (w.heap.size ≤ s_) ∧ (gb158 ≠ s_) ∧ (s_ ≠ gb158) ∧ (gb159 ≠ s_) ∧ (s_ ≠ gb159) ∧ (Below w.heap.size w w')) ?_ ?_
                      rotate_left
                      ·intro hCont
                       refine two_ (i := 18) (j := 27) (Ni := some 100) (Nj := some 18) #[true, true, true, true, true, true, true, true, true, true, true, true, true, true, true, true, true, true, true, false, true, true, false, true, true, false, false, false, false] #[true, true, true, true, true, true, true, true, true, true, true, true, true, true, true, true, true, true, false, false, true, true, false, true, true, false, false, true, false] rfl rfl rfl rfl (two_of HT_.out (by kernel_rfl)) (by decide) (by decide) (fun K hK => ?_) (fun K hK => ?_)
                       ·skip
                        refine goes_ Try.func49 (by kernel_rfl) rfl #[.slice A56 y191.length c56] (by rfl) rfl rfl (by (try simp only [List.map_toArray, List.map_cons, List.map_nil]); first | done | rfl | (simp only [List.length_drop, List.length_take]; rfl)) ?_
                        with_reducible refine (syms_number.calls kj27 _ _ y191 t196 _ ?side1 ?side2 A46.out).mono ?_
                        (case side1 => repeat (first | exact (Kd.V_reads' HO195.out).2.2 | (with_reducible refine Kd.C_alloc ?_ _) | (with_reducible refine Kd.C_drewN ?_ _) | (with_reducible refine Kd.C_drew ?_)))
                        (case side2 => exact (Kd.V_reads' HO195.out).2.1)
                        rintro e w' ⟨rfl, ⟨nd, rfl⟩⟩
                        refine ⟨_, rfl, ?_⟩
                        refine hK.out _ _ ⟨hHeld.1, hHeld.2.1, hHeld.2.2⟩ (fun hHeld => ?_)
                        clear hK K
                        refine norm_ (a' := ?_) ?_ ?_
                        rotate_left
                        ·show Act.put _ (some 100) _ = _
                         simp only [Act.put, List.setIfInBounds_toArray, List.set_cons_zero, List.set_cons_succ, i64_w, i32_w]
                         rfl
                        refine pure_ (i := 19) (N := some 101) (v := ?_) (a' := ?_) #[true, true, true, true, true, true, true, true, true, true, true, true, true, true, true, true, true, true, true, true, true, true, false, true, true, false, false, false, false] rfl rfl (any_of HT_.out (by kernel_rfl)) (fun _ _ _ h => h) (Or.inl ⟨by rfl, ?_⟩) ?_ ?_
                        rotate_left
                        ·intro w'
                         go_simp
                         with_reducible rfl
                        rotate_left
                        ·simp only [Act.put, List.setIfInBounds_toArray, List.set_cons_zero, List.set_cons_succ, i64_w, i32_w]
                         rfl
                        refine two_ (i := 22) (j := 27) (Ni := some 104) (Nj := some 18) #[true, true, true, true, true, true, true, true, true, true, true, true, true, true, true, true, true, true, true, true, true, true, true, true, true, false, false, false, false] #[true, true, true, true, true, true, true, true, true, true, true, true, true, true, true, true, true, true, true, true, true, true, false, true, true, false, false, true, false] rfl rfl rfl rfl (two_of HT_.out (by kernel_rfl)) (by decide) (by decide) (fun K hK => ?_) (fun K hK => ?_)
                        ·skip
                         refine goes_ Try.func49 (by kernel_rfl) rfl #[.slice A57 y197.length c57] (by rfl) rfl rfl (by (try simp only [List.map_toArray, List.map_cons, List.map_nil]); first | done | rfl | (simp only [List.length_drop, List.length_take]; rfl)) ?_
                         with_reducible refine (syms_number.calls kj27 _ _ y197 t202 _ ?side1 ?side2 A49.out).mono ?_
                         (case side1 => repeat (first | exact (Kd.V_reads' HO201.out).2.2 | (with_reducible refine Kd.C_alloc ?_ _) | (with_reducible refine Kd.C_drewN ?_ _) | (with_reducible refine Kd.C_drew ?_)))
                         (case side2 => exact (Kd.V_reads' HO201.out).2.1)
                         rintro e w' ⟨rfl, ⟨nd, rfl⟩⟩
                         refine ⟨_, rfl, ?_⟩
                         refine hK.out _ _ ⟨hHeld.1, hHeld.2.1, hHeld.2.2⟩ (fun hHeld => ?_)
                         clear hK K
                         refine norm_ (a' := ?_) ?_ ?_
                         rotate_left
                         ·show Act.put _ (some 104) _ = _
                          simp only [Act.put, List.setIfInBounds_toArray, List.set_cons_zero, List.set_cons_succ, i64_w, i32_w]
                          rfl
                         refine two_ (i := 25) (j := 27) (Ni := some 107) (Nj := some 18) #[true, true, true, true, true, true, true, true, true, true, true, true, true, true, true, true, true, true, true, true, true, true, true, true, true, true, false, false, false] #[true, true, true, true, true, true, true, true, true, true, true, true, true, true, true, true, true, true, true, true, true, true, true, true, true, false, false, true, false] rfl rfl rfl rfl (two_of HT_.out (by kernel_rfl)) (by decide) (by decide) (fun K hK => ?_) (fun K hK => ?_)
                         ·skip
                          refine goes_ Try.func49 (by kernel_rfl) rfl #[.slice A58 y203.length c58] (by rfl) rfl rfl (by (try simp only [List.map_toArray, List.map_cons, List.map_nil]); first | done | rfl | (simp only [List.length_drop, List.length_take]; rfl)) ?_
                          with_reducible refine (syms_number.calls kj27 _ _ y203 t208 _ ?side1 ?side2 A51.out).mono ?_
                          (case side1 => repeat (first | exact (Kd.V_reads' HO207.out).2.2 | (with_reducible refine Kd.C_alloc ?_ _) | (with_reducible refine Kd.C_drewN ?_ _) | (with_reducible refine Kd.C_drew ?_)))
                          (case side2 => exact (Kd.V_reads' HO207.out).2.1)
                          rintro e w' ⟨rfl, ⟨nd, rfl⟩⟩
                          refine ⟨_, rfl, ?_⟩
                          refine hK.out _ _ ⟨hHeld.1, hHeld.2.1, hHeld.2.2⟩ (fun hHeld => ?_)
                          clear hK K
                          refine norm_ (a' := ?_) ?_ ?_
                          rotate_left
                          ·show Act.put _ (some 107) _ = _
                           simp only [Act.put, List.setIfInBounds_toArray, List.set_cons_zero, List.set_cons_succ, i64_w, i32_w]
                           rfl
                          refine pure_ (i := 26) (N := some 108) (v := ?_) (a' := ?_) #[true, true, true, true, true, true, true, true, true, true, true, true, true, true, true, true, true, true, true, true, true, true, true, true, true, true, true, false, false] rfl rfl (any_of HT_.out (by kernel_rfl)) (fun _ _ _ h => h) (Or.inl ⟨by rfl, ?_⟩) ?_ ?_
                          rotate_left
                          ·intro w'
                           go_simp
                           with_reducible rfl
                          rotate_left
                          ·simp only [Act.put, List.setIfInBounds_toArray, List.set_cons_zero, List.set_cons_succ, i64_w, i32_w]
                           rfl
                          refine one_ (i := 27) (N := some 18) #[true, true, true, true, true, true, true, true, true, true, true, true, true, true, true, true, true, true, true, true, true, true, true, true, true, true, true, true, false] rfl rfl (one_of HT_.out (by kernel_rfl)) (by decide) (fun K hK => ?_)
                          refine box_step ?hg (N := 18) ?hd (cs := #[.string (⟨#[]⟩ : ByteArray), .int .i64 0, .int .i64 0, .int .i64 0, .int .i64 0, .int .u64 0, .int .u64 0]) (t := 68) ?hr ?_; (case hd => rfl); (case hg => rfl); (case hr => first | (go_simp; done) | (go_simp; rfl))
                          intro gb209 hg w59 hbox hb
                          have HS0_ := (hb.cell (World.block_lt_of_cell? _ _ (hHeld.1))).trans (hHeld.1)
                          have HS1_ := (hb.cell (World.block_lt_of_cell? _ _ (hHeld.2.1))).trans (hHeld.2.1)
                          have HS2_ := (hb.cell (World.block_lt_of_cell? _ _ (hHeld.2.2))).trans (hHeld.2.2)
                          have n0_ := Aside0.mk (Kd.V_below (Kd.V_elderB (by (with_reducible repeat (first | apply Kd.V_alloc | apply Kd.V_drewN | apply Kd.V_drew)); exact HO_10.out) gb209 (Nat.le_of_eq hg.symm)) hb)
                          have n1_ := Aside0.mk (Kd.V_below (Kd.V_elderB (by (with_reducible repeat (first | apply Kd.V_alloc | apply Kd.V_drewN | apply Kd.V_drew)); exact HO_12.out) gb209 (Nat.le_of_eq hg.symm)) hb)
                          have n2_ := Aside0.mk (Kd.R_below (Kd.R_elderB (by (with_reducible repeat (first | apply Kd.R_alloc | apply Kd.R_drewN | apply Kd.R_drew)); exact HO_13.out) gb209 (Nat.le_of_eq hg.symm)) hb)
                          have n3_ := Aside0.mk (Kd.V_below (Kd.V_elderB (by (with_reducible repeat (first | apply Kd.V_alloc | apply Kd.V_drewN | apply Kd.V_drew)); exact HO_15.out) gb209 (Nat.le_of_eq hg.symm)) hb)
                          have n4_ := Aside0.mk (Kd.V_below (Kd.V_elderB (by (with_reducible repeat (first | apply Kd.V_alloc | apply Kd.V_drewN | apply Kd.V_drew)); exact HO183.out) gb209 (Nat.le_of_eq hg.symm)) hb)
                          have n5_ := Aside0.mk (Kd.V_below (Kd.V_elderB (by (with_reducible repeat (first | apply Kd.V_alloc | apply Kd.V_drewN | apply Kd.V_drew)); exact HO195.out) gb209 (Nat.le_of_eq hg.symm)) hb)
                          have n6_ := Aside0.mk (Kd.V_below (Kd.V_elderB (by (with_reducible repeat (first | apply Kd.V_alloc | apply Kd.V_drewN | apply Kd.V_drew)); exact HO201.out) gb209 (Nat.le_of_eq hg.symm)) hb)
                          have n7_ := Aside0.mk (Kd.V_below (Kd.V_elderB (by (with_reducible repeat (first | apply Kd.V_alloc | apply Kd.V_drewN | apply Kd.V_drew)); exact HO207.out) gb209 (Nat.le_of_eq hg.symm)) hb)
                          have n8_ := Aside0.mk (blk_below (g := gb158) (o := .cells #[.int .i64 a1_0, .int .u64 a1_1, .slice A1_2 l1_2.length c1_2] 53 (0, 0)) (by (with_reducible repeat (first | refine blk_drewN ?_ _ | refine blk_drew ?_ | refine blk_alloc ?_ _)); exact BK158.out) hb)
                          have n9_ := Aside0.mk (blk_below (g := gb159) (o := .cells #[.slice A2_0 l2_0.length c2_0, .int .u64 a2_1, .int .u64 a2_2, .int .u64 a2_3, .int .u64 a2_4, .int .u64 a2_5, .int .u64 a2_6, .int .u64 a2_7, .int .u64 a2_8, .int .u64 a2_9, .int .u64 a2_10, .int .u64 a2_11, .int .u64 a2_12, .int .u64 a2_13, .bool a2_14, .bool a2_15, .bool a2_16, .int .u64 a2_17, .int .u64 a2_18, .int .u64 a2_19, .int .u64 a2_20, .int .u64 a2_21, .int .u64 a2_22, .int .u64 a2_23, .int .u64 a2_24, .int .u64 a2_25, .int .u64 a2_26, .int .u64 a2_27, .int .u64 a2_28, .int .u64 a2_29, .int .u64 a2_30, .int .u64 a2_31, .bool a2_32, .bool a2_33, .bool a2_34, .bool a2_35, .bool a2_36] 55 (0, 0)) (by (with_reducible repeat (first | refine blk_drewN ?_ _ | refine blk_drew ?_ | refine blk_alloc ?_ _)); exact BK159.out) hb)
                          have n10_ := Aside0.mk (below_step (by repeat (first | (with_reducible first | exact HB.out | apply below_alloc | apply pw_below_drewN | apply below_drew1 | refine below_set ?_ GE158.out | refine below_set ?_ GE159.out) | exact HB.out)) hb)
                          have n11_ := Aside0.mk (hbox)
                          have n12_ := Aside0.mk ((by rw [hg]; exact (below_size (by repeat (first | (with_reducible first | exact HB.out | apply below_alloc | apply pw_below_drewN | apply below_drew1 | refine below_set ?_ GE158.out | refine below_set ?_ GE159.out) | exact HB.out))) : w.heap.size ≤ gb209))
                          have n13_ := Aside0.mk ((by rw [hg]; exact (below_size (by repeat (first | (with_reducible first | exact HB.out | apply below_alloc | apply pw_below_drewN | apply below_drew1 | refine below_set ?_ GE158.out | refine below_set ?_ GE159.out) | exact HB.out))) : w.heap.size ≤ gb209))
                          have n14_ := Aside0.mk ((by rw [hg]; exact Nat.ne_of_lt (blk_lt (g := gb158) (o := .cells #[.int .i64 a1_0, .int .u64 a1_1, .slice A1_2 l1_2.length c1_2] 53 (0, 0)) (by (with_reducible repeat (first | refine blk_drewN ?_ _ | refine blk_drew ?_ | refine blk_alloc ?_ _)); exact BK158.out)) : gb158 ≠ gb209))
                          have n15_ := Aside0.mk ((by rw [hg]; exact Nat.ne_of_gt (blk_lt (g := gb158) (o := .cells #[.int .i64 a1_0, .int .u64 a1_1, .slice A1_2 l1_2.length c1_2] 53 (0, 0)) (by (with_reducible repeat (first | refine blk_drewN ?_ _ | refine blk_drew ?_ | refine blk_alloc ?_ _)); exact BK158.out)) : gb209 ≠ gb158))
                          have n16_ := Aside0.mk ((by rw [hg]; exact Nat.ne_of_lt (blk_lt (g := gb159) (o := .cells #[.slice A2_0 l2_0.length c2_0, .int .u64 a2_1, .int .u64 a2_2, .int .u64 a2_3, .int .u64 a2_4, .int .u64 a2_5, .int .u64 a2_6, .int .u64 a2_7, .int .u64 a2_8, .int .u64 a2_9, .int .u64 a2_10, .int .u64 a2_11, .int .u64 a2_12, .int .u64 a2_13, .bool a2_14, .bool a2_15, .bool a2_16, .int .u64 a2_17, .int .u64 a2_18, .int .u64 a2_19, .int .u64 a2_20, .int .u64 a2_21, .int .u64 a2_22, .int .u64 a2_23, .int .u64 a2_24, .int .u64 a2_25, .int .u64 a2_26, .int .u64 a2_27, .int .u64 a2_28, .int .u64 a2_29, .int .u64 a2_30, .int .u64 a2_31, .bool a2_32, .bool a2_33, .bool a2_34, .bool a2_35, .bool a2_36] 55 (0, 0)) (by (with_reducible repeat (first | refine blk_drewN ?_ _ | refine blk_drew ?_ | refine blk_alloc ?_ _)); exact BK159.out)) : gb159 ≠ gb209))
                          have n17_ := Aside0.mk ((by rw [hg]; exact Nat.ne_of_gt (blk_lt (g := gb159) (o := .cells #[.slice A2_0 l2_0.length c2_0, .int .u64 a2_1, .int .u64 a2_2, .int .u64 a2_3, .int .u64 a2_4, .int .u64 a2_5, .int .u64 a2_6, .int .u64 a2_7, .int .u64 a2_8, .int .u64 a2_9, .int .u64 a2_10, .int .u64 a2_11, .int .u64 a2_12, .int .u64 a2_13, .bool a2_14, .bool a2_15, .bool a2_16, .int .u64 a2_17, .int .u64 a2_18, .int .u64 a2_19, .int .u64 a2_20, .int .u64 a2_21, .int .u64 a2_22, .int .u64 a2_23, .int .u64 a2_24, .int .u64 a2_25, .int .u64 a2_26, .int .u64 a2_27, .int .u64 a2_28, .int .u64 a2_29, .int .u64 a2_30, .int .u64 a2_31, .bool a2_32, .bool a2_33, .bool a2_34, .bool a2_35, .bool a2_36] 55 (0, 0)) (by (with_reducible repeat (first | refine blk_drewN ?_ _ | refine blk_drew ?_ | refine blk_alloc ?_ _)); exact BK159.out)) : gb209 ≠ gb159))
                          clear HO_10
                          clear HO_12
                          clear HO_13
                          clear HO_15
                          clear HO183
                          clear HO195
                          clear HO201
                          clear HO207
                          clear BK158
                          clear BK159
                          clear HB
                          have HO_10 := n0_
                          have HO_12 := n1_
                          have HO_13 := n2_
                          have HO_15 := n3_
                          have HO183 := n4_
                          have HO195 := n5_
                          have HO201 := n6_
                          have HO207 := n7_
                          have BK158 := n8_
                          have BK159 := n9_
                          have HB := n10_
                          have BK209 := n11_
                          have GW209 := n12_
                          have GE209 := n13_
                          have NB158_209 := n14_
                          have NB209_158 := n15_
                          have NB159_209 := n16_
                          have NB209_159 := n17_
                          clear n0_ n1_ n2_ n3_ n4_ n5_ n6_ n7_ n8_ n9_ n10_ n11_ n12_ n13_ n14_ n15_ n16_ n17_
                          clear hb hbox hg
                          refine hK.out _ _ ⟨HS0_, HS1_, HS2_⟩ (fun hHeld => ?_)
                          clear hK K
                          refine norm_ (a' := ?_) ?_ ?_
                          rotate_left
                          ·show Act.put _ (some 18) _ = _
                           simp only [Act.put, List.setIfInBounds_toArray, List.set_cons_zero, List.set_cons_succ, i64_w, i32_w]
                           rfl
                          exact norm_ (by simp only [putAll, Act.put, List.setIfInBounds_toArray, List.set_cons_zero, List.set_cons_succ]) (hCont (gb209) _ ⟨hHeld, (by (with_reducible repeat (first | apply Kd.V_alloc | apply Kd.V_drewN | apply Kd.V_drew)); exact Kd.V_mono HO183.out (fun _ hk => ⟨hk.1.1, ⟨hk.1.2.1, ⟨hk.1.2.2, hk.2⟩⟩⟩)), (by (with_reducible repeat (first | apply Kd.V_alloc | apply Kd.V_drewN | apply Kd.V_drew)); exact Kd.V_mono HO195.out (fun _ hk => ⟨hk.1.1, ⟨hk.1.2.1, ⟨hk.1.2.2, hk.2⟩⟩⟩)), (by (with_reducible repeat (first | apply Kd.V_alloc | apply Kd.V_drewN | apply Kd.V_drew)); exact Kd.V_mono HO201.out (fun _ hk => ⟨hk.1.1, ⟨hk.1.2.1, ⟨hk.1.2.2, hk.2⟩⟩⟩)), (by (with_reducible repeat (first | apply Kd.V_alloc | apply Kd.V_drewN | apply Kd.V_drew)); exact Kd.V_mono HO207.out (fun _ hk => ⟨hk.1.1, ⟨hk.1.2.1, ⟨hk.1.2.2, hk.2⟩⟩⟩)), (by (with_reducible repeat (first | apply Kd.V_alloc | apply Kd.V_drewN | apply Kd.V_drew)); exact Kd.V_mono HO_10.out (fun _ hk => ⟨hk.1.1, ⟨hk.1.2.1, ⟨hk.1.2.2, hk.2⟩⟩⟩)), (by (with_reducible repeat (first | apply Kd.V_alloc | apply Kd.V_drewN | apply Kd.V_drew)); exact Kd.V_mono HO_12.out (fun _ hk => ⟨hk.1.1, ⟨hk.1.2.1, ⟨hk.1.2.2, hk.2⟩⟩⟩)), (by (with_reducible repeat (first | apply Kd.R_alloc | apply Kd.R_drewN | apply Kd.R_drew)); exact Kd.R_mono HO_13.out (fun _ hk => hk.2)), (by (with_reducible repeat (first | apply Kd.V_alloc | apply Kd.V_drewN | apply Kd.V_drew)); exact Kd.V_mono HO_15.out (fun _ hk => ⟨hk.1.1, ⟨hk.1.2.1, ⟨hk.1.2.2, hk.2⟩⟩⟩)), (by (with_reducible repeat (first | refine blk_drewN ?_ _ | refine blk_drew ?_ | refine blk_alloc ?_ _)); exact BK158.out), (by (with_reducible repeat (first | refine blk_drewN ?_ _ | refine blk_drew ?_ | refine blk_alloc ?_ _)); exact BK159.out), (by (with_reducible repeat (first | refine blk_drewN ?_ _ | refine blk_drew ?_ | refine blk_alloc ?_ _)); exact BK209.out), GW209.out, GE209.out, NB158_209.out, NB209_158.out, NB159_209.out, NB209_159.out, (by repeat (first | (with_reducible first | exact HB.out | apply below_alloc | apply pw_below_drewN | apply below_drew1 | refine below_set ?_ GE158.out | refine below_set ?_ GE159.out | refine below_set ?_ GE209.out) | exact HB.out))⟩)
                         ·skip
                          refine box_step ?hg (N := 18) ?hd (cs := #[.string (⟨#[]⟩ : ByteArray), .int .i64 0, .int .i64 0, .int .i64 0, .int .i64 0, .int .u64 0, .int .u64 0]) (t := 68) ?hr ?_; (case hd => rfl); (case hg => rfl); (case hr => first | (go_simp; done) | (go_simp; rfl))
                          intro gb209 hg w59 hbox hb
                          have HS0_ := (hb.cell (World.block_lt_of_cell? _ _ (hHeld.1))).trans (hHeld.1)
                          have HS1_ := (hb.cell (World.block_lt_of_cell? _ _ (hHeld.2.1))).trans (hHeld.2.1)
                          have HS2_ := (hb.cell (World.block_lt_of_cell? _ _ (hHeld.2.2))).trans (hHeld.2.2)
                          have n0_ := Aside0.mk (Kd.V_below (Kd.V_elderB (by (with_reducible repeat (first | apply Kd.V_alloc | apply Kd.V_drewN | apply Kd.V_drew)); exact HO_10.out) gb209 (Nat.le_of_eq hg.symm)) hb)
                          have n1_ := Aside0.mk (Kd.V_below (Kd.V_elderB (by (with_reducible repeat (first | apply Kd.V_alloc | apply Kd.V_drewN | apply Kd.V_drew)); exact HO_12.out) gb209 (Nat.le_of_eq hg.symm)) hb)
                          have n2_ := Aside0.mk (Kd.R_below (Kd.R_elderB (by (with_reducible repeat (first | apply Kd.R_alloc | apply Kd.R_drewN | apply Kd.R_drew)); exact HO_13.out) gb209 (Nat.le_of_eq hg.symm)) hb)
                          have n3_ := Aside0.mk (Kd.V_below (Kd.V_elderB (by (with_reducible repeat (first | apply Kd.V_alloc | apply Kd.V_drewN | apply Kd.V_drew)); exact HO_15.out) gb209 (Nat.le_of_eq hg.symm)) hb)
                          have n4_ := Aside0.mk (Kd.V_below (Kd.V_elderB (by (with_reducible repeat (first | apply Kd.V_alloc | apply Kd.V_drewN | apply Kd.V_drew)); exact HO183.out) gb209 (Nat.le_of_eq hg.symm)) hb)
                          have n5_ := Aside0.mk (Kd.V_below (Kd.V_elderB (by (with_reducible repeat (first | apply Kd.V_alloc | apply Kd.V_drewN | apply Kd.V_drew)); exact HO195.out) gb209 (Nat.le_of_eq hg.symm)) hb)
                          have n6_ := Aside0.mk (Kd.V_below (Kd.V_elderB (by (with_reducible repeat (first | apply Kd.V_alloc | apply Kd.V_drewN | apply Kd.V_drew)); exact HO201.out) gb209 (Nat.le_of_eq hg.symm)) hb)
                          have n7_ := Aside0.mk (Kd.V_below (Kd.V_elderB (by (with_reducible repeat (first | apply Kd.V_alloc | apply Kd.V_drewN | apply Kd.V_drew)); exact HO207.out) gb209 (Nat.le_of_eq hg.symm)) hb)
                          have n8_ := Aside0.mk (blk_below (g := gb158) (o := .cells #[.int .i64 a1_0, .int .u64 a1_1, .slice A1_2 l1_2.length c1_2] 53 (0, 0)) (by (with_reducible repeat (first | refine blk_drewN ?_ _ | refine blk_drew ?_ | refine blk_alloc ?_ _)); exact BK158.out) hb)
                          have n9_ := Aside0.mk (blk_below (g := gb159) (o := .cells #[.slice A2_0 l2_0.length c2_0, .int .u64 a2_1, .int .u64 a2_2, .int .u64 a2_3, .int .u64 a2_4, .int .u64 a2_5, .int .u64 a2_6, .int .u64 a2_7, .int .u64 a2_8, .int .u64 a2_9, .int .u64 a2_10, .int .u64 a2_11, .int .u64 a2_12, .int .u64 a2_13, .bool a2_14, .bool a2_15, .bool a2_16, .int .u64 a2_17, .int .u64 a2_18, .int .u64 a2_19, .int .u64 a2_20, .int .u64 a2_21, .int .u64 a2_22, .int .u64 a2_23, .int .u64 a2_24, .int .u64 a2_25, .int .u64 a2_26, .int .u64 a2_27, .int .u64 a2_28, .int .u64 a2_29, .int .u64 a2_30, .int .u64 a2_31, .bool a2_32, .bool a2_33, .bool a2_34, .bool a2_35, .bool a2_36] 55 (0, 0)) (by (with_reducible repeat (first | refine blk_drewN ?_ _ | refine blk_drew ?_ | refine blk_alloc ?_ _)); exact BK159.out) hb)
                          have n10_ := Aside0.mk (below_step (by repeat (first | (with_reducible first | exact HB.out | apply below_alloc | apply pw_below_drewN | apply below_drew1 | refine below_set ?_ GE158.out | refine below_set ?_ GE159.out) | exact HB.out)) hb)
                          have n11_ := Aside0.mk (hbox)
                          have n12_ := Aside0.mk ((by rw [hg]; exact (below_size (by repeat (first | (with_reducible first | exact HB.out | apply below_alloc | apply pw_below_drewN | apply below_drew1 | refine below_set ?_ GE158.out | refine below_set ?_ GE159.out) | exact HB.out))) : w.heap.size ≤ gb209))
                          have n13_ := Aside0.mk ((by rw [hg]; exact (below_size (by repeat (first | (with_reducible first | exact HB.out | apply below_alloc | apply pw_below_drewN | apply below_drew1 | refine below_set ?_ GE158.out | refine below_set ?_ GE159.out) | exact HB.out))) : w.heap.size ≤ gb209))
                          have n14_ := Aside0.mk ((by rw [hg]; exact Nat.ne_of_lt (blk_lt (g := gb158) (o := .cells #[.int .i64 a1_0, .int .u64 a1_1, .slice A1_2 l1_2.length c1_2] 53 (0, 0)) (by (with_reducible repeat (first | refine blk_drewN ?_ _ | refine blk_drew ?_ | refine blk_alloc ?_ _)); exact BK158.out)) : gb158 ≠ gb209))
                          have n15_ := Aside0.mk ((by rw [hg]; exact Nat.ne_of_gt (blk_lt (g := gb158) (o := .cells #[.int .i64 a1_0, .int .u64 a1_1, .slice A1_2 l1_2.length c1_2] 53 (0, 0)) (by (with_reducible repeat (first | refine blk_drewN ?_ _ | refine blk_drew ?_ | refine blk_alloc ?_ _)); exact BK158.out)) : gb209 ≠ gb158))
                          have n16_ := Aside0.mk ((by rw [hg]; exact Nat.ne_of_lt (blk_lt (g := gb159) (o := .cells #[.slice A2_0 l2_0.length c2_0, .int .u64 a2_1, .int .u64 a2_2, .int .u64 a2_3, .int .u64 a2_4, .int .u64 a2_5, .int .u64 a2_6, .int .u64 a2_7, .int .u64 a2_8, .int .u64 a2_9, .int .u64 a2_10, .int .u64 a2_11, .int .u64 a2_12, .int .u64 a2_13, .bool a2_14, .bool a2_15, .bool a2_16, .int .u64 a2_17, .int .u64 a2_18, .int .u64 a2_19, .int .u64 a2_20, .int .u64 a2_21, .int .u64 a2_22, .int .u64 a2_23, .int .u64 a2_24, .int .u64 a2_25, .int .u64 a2_26, .int .u64 a2_27, .int .u64 a2_28, .int .u64 a2_29, .int .u64 a2_30, .int .u64 a2_31, .bool a2_32, .bool a2_33, .bool a2_34, .bool a2_35, .bool a2_36] 55 (0, 0)) (by (with_reducible repeat (first | refine blk_drewN ?_ _ | refine blk_drew ?_ | refine blk_alloc ?_ _)); exact BK159.out)) : gb159 ≠ gb209))
                          have n17_ := Aside0.mk ((by rw [hg]; exact Nat.ne_of_gt (blk_lt (g := gb159) (o := .cells #[.slice A2_0 l2_0.length c2_0, .int .u64 a2_1, .int .u64 a2_2, .int .u64 a2_3, .int .u64 a2_4, .int .u64 a2_5, .int .u64 a2_6, .int .u64 a2_7, .int .u64 a2_8, .int .u64 a2_9, .int .u64 a2_10, .int .u64 a2_11, .int .u64 a2_12, .int .u64 a2_13, .bool a2_14, .bool a2_15, .bool a2_16, .int .u64 a2_17, .int .u64 a2_18, .int .u64 a2_19, .int .u64 a2_20, .int .u64 a2_21, .int .u64 a2_22, .int .u64 a2_23, .int .u64 a2_24, .int .u64 a2_25, .int .u64 a2_26, .int .u64 a2_27, .int .u64 a2_28, .int .u64 a2_29, .int .u64 a2_30, .int .u64 a2_31, .bool a2_32, .bool a2_33, .bool a2_34, .bool a2_35, .bool a2_36] 55 (0, 0)) (by (with_reducible repeat (first | refine blk_drewN ?_ _ | refine blk_drew ?_ | refine blk_alloc ?_ _)); exact BK159.out)) : gb209 ≠ gb159))
                          clear HO_10
                          clear HO_12
                          clear HO_13
                          clear HO_15
                          clear HO183
                          clear HO195
                          clear HO201
                          clear HO207
                          clear BK158
                          clear BK159
                          clear HB
                          have HO_10 := n0_
                          have HO_12 := n1_
                          have HO_13 := n2_
                          have HO_15 := n3_
                          have HO183 := n4_
                          have HO195 := n5_
                          have HO201 := n6_
                          have HO207 := n7_
                          have BK158 := n8_
                          have BK159 := n9_
                          have HB := n10_
                          have BK209 := n11_
                          have GW209 := n12_
                          have GE209 := n13_
                          have NB158_209 := n14_
                          have NB209_158 := n15_
                          have NB159_209 := n16_
                          have NB209_159 := n17_
                          clear n0_ n1_ n2_ n3_ n4_ n5_ n6_ n7_ n8_ n9_ n10_ n11_ n12_ n13_ n14_ n15_ n16_ n17_
                          clear hb hbox hg
                          refine hK.out _ _ ⟨HS0_, HS1_, HS2_⟩ (fun hHeld => ?_)
                          clear hK K
                          refine norm_ (a' := ?_) ?_ ?_
                          rotate_left
                          ·show Act.put _ (some 18) _ = _
                           simp only [Act.put, List.setIfInBounds_toArray, List.set_cons_zero, List.set_cons_succ, i64_w, i32_w]
                           rfl
                          refine one_ (i := 25) (N := some 107) #[true, true, true, true, true, true, true, true, true, true, true, true, true, true, true, true, true, true, true, true, true, true, true, true, true, true, false, true, false] rfl rfl (one_of HT_.out (by kernel_rfl)) (by decide) (fun K hK => ?_)
                          refine goes_ Try.func49 (by kernel_rfl) rfl #[.slice A58 y203.length c58] (by rfl) rfl rfl (by (try simp only [List.map_toArray, List.map_cons, List.map_nil]); first | done | rfl | (simp only [List.length_drop, List.length_take]; rfl)) ?_
                          with_reducible refine (syms_number.calls kj27 _ _ y203 t208 _ ?side1 ?side2 A51.out).mono ?_
                          (case side1 => repeat (first | exact (Kd.V_reads' HO207.out).2.2 | (with_reducible refine Kd.C_alloc ?_ _) | (with_reducible refine Kd.C_drewN ?_ _) | (with_reducible refine Kd.C_drew ?_)))
                          (case side2 => exact (Kd.V_reads' HO207.out).2.1)
                          rintro e w' ⟨rfl, ⟨nd, rfl⟩⟩
                          refine ⟨_, rfl, ?_⟩
                          refine hK.out _ _ ⟨hHeld.1, hHeld.2.1, hHeld.2.2⟩ (fun hHeld => ?_)
                          clear hK K
                          refine norm_ (a' := ?_) ?_ ?_
                          rotate_left
                          ·show Act.put _ (some 107) _ = _
                           simp only [Act.put, List.setIfInBounds_toArray, List.set_cons_zero, List.set_cons_succ, i64_w, i32_w]
                           rfl
                          refine pure_ (i := 26) (N := some 108) (v := ?_) (a' := ?_) #[true, true, true, true, true, true, true, true, true, true, true, true, true, true, true, true, true, true, true, true, true, true, true, true, true, true, true, true, false] rfl rfl (any_of HT_.out (by kernel_rfl)) (fun _ _ _ h => h) (Or.inl ⟨by rfl, ?_⟩) ?_ ?_
                          rotate_left
                          ·intro w'
                           go_simp
                           with_reducible rfl
                          rotate_left
                          ·simp only [Act.put, List.setIfInBounds_toArray, List.set_cons_zero, List.set_cons_succ, i64_w, i32_w]
                           rfl
                          exact norm_ (by simp only [putAll, Act.put, List.setIfInBounds_toArray, List.set_cons_zero, List.set_cons_succ]) (hCont (gb209) _ ⟨hHeld, (by (with_reducible repeat (first | apply Kd.V_alloc | apply Kd.V_drewN | apply Kd.V_drew)); exact Kd.V_mono HO183.out (fun _ hk => ⟨hk.1.1, ⟨hk.1.2.1, ⟨hk.1.2.2, hk.2⟩⟩⟩)), (by (with_reducible repeat (first | apply Kd.V_alloc | apply Kd.V_drewN | apply Kd.V_drew)); exact Kd.V_mono HO195.out (fun _ hk => ⟨hk.1.1, ⟨hk.1.2.1, ⟨hk.1.2.2, hk.2⟩⟩⟩)), (by (with_reducible repeat (first | apply Kd.V_alloc | apply Kd.V_drewN | apply Kd.V_drew)); exact Kd.V_mono HO201.out (fun _ hk => ⟨hk.1.1, ⟨hk.1.2.1, ⟨hk.1.2.2, hk.2⟩⟩⟩)), (by (with_reducible repeat (first | apply Kd.V_alloc | apply Kd.V_drewN | apply Kd.V_drew)); exact Kd.V_mono HO207.out (fun _ hk => ⟨hk.1.1, ⟨hk.1.2.1, ⟨hk.1.2.2, hk.2⟩⟩⟩)), (by (with_reducible repeat (first | apply Kd.V_alloc | apply Kd.V_drewN | apply Kd.V_drew)); exact Kd.V_mono HO_10.out (fun _ hk => ⟨hk.1.1, ⟨hk.1.2.1, ⟨hk.1.2.2, hk.2⟩⟩⟩)), (by (with_reducible repeat (first | apply Kd.V_alloc | apply Kd.V_drewN | apply Kd.V_drew)); exact Kd.V_mono HO_12.out (fun _ hk => ⟨hk.1.1, ⟨hk.1.2.1, ⟨hk.1.2.2, hk.2⟩⟩⟩)), (by (with_reducible repeat (first | apply Kd.R_alloc | apply Kd.R_drewN | apply Kd.R_drew)); exact Kd.R_mono HO_13.out (fun _ hk => hk.2)), (by (with_reducible repeat (first | apply Kd.V_alloc | apply Kd.V_drewN | apply Kd.V_drew)); exact Kd.V_mono HO_15.out (fun _ hk => ⟨hk.1.1, ⟨hk.1.2.1, ⟨hk.1.2.2, hk.2⟩⟩⟩)), (by (with_reducible repeat (first | refine blk_drewN ?_ _ | refine blk_drew ?_ | refine blk_alloc ?_ _)); exact BK158.out), (by (with_reducible repeat (first | refine blk_drewN ?_ _ | refine blk_drew ?_ | refine blk_alloc ?_ _)); exact BK159.out), (by (with_reducible repeat (first | refine blk_drewN ?_ _ | refine blk_drew ?_ | refine blk_alloc ?_ _)); exact BK209.out), GW209.out, GE209.out, NB158_209.out, NB209_158.out, NB159_209.out, NB209_159.out, (by repeat (first | (with_reducible first | exact HB.out | apply below_alloc | apply pw_below_drewN | apply below_drew1 | refine below_set ?_ GE158.out | refine below_set ?_ GE159.out | refine below_set ?_ GE209.out) | exact HB.out))⟩)
                        ·skip
                         refine box_step ?hg (N := 18) ?hd (cs := #[.string (⟨#[]⟩ : ByteArray), .int .i64 0, .int .i64 0, .int .i64 0, .int .i64 0, .int .u64 0, .int .u64 0]) (t := 68) ?hr ?_; (case hd => rfl); (case hg => rfl); (case hr => first | (go_simp; done) | (go_simp; rfl))
                         intro gb209 hg w59 hbox hb
                         have HS0_ := (hb.cell (World.block_lt_of_cell? _ _ (hHeld.1))).trans (hHeld.1)
                         have HS1_ := (hb.cell (World.block_lt_of_cell? _ _ (hHeld.2.1))).trans (hHeld.2.1)
                         have HS2_ := (hb.cell (World.block_lt_of_cell? _ _ (hHeld.2.2))).trans (hHeld.2.2)
                         have n0_ := Aside0.mk (Kd.V_below (Kd.V_elderB (by (with_reducible repeat (first | apply Kd.V_alloc | apply Kd.V_drewN | apply Kd.V_drew)); exact HO_10.out) gb209 (Nat.le_of_eq hg.symm)) hb)
                         have n1_ := Aside0.mk (Kd.V_below (Kd.V_elderB (by (with_reducible repeat (first | apply Kd.V_alloc | apply Kd.V_drewN | apply Kd.V_drew)); exact HO_12.out) gb209 (Nat.le_of_eq hg.symm)) hb)
                         have n2_ := Aside0.mk (Kd.R_below (Kd.R_elderB (by (with_reducible repeat (first | apply Kd.R_alloc | apply Kd.R_drewN | apply Kd.R_drew)); exact HO_13.out) gb209 (Nat.le_of_eq hg.symm)) hb)
                         have n3_ := Aside0.mk (Kd.V_below (Kd.V_elderB (by (with_reducible repeat (first | apply Kd.V_alloc | apply Kd.V_drewN | apply Kd.V_drew)); exact HO_15.out) gb209 (Nat.le_of_eq hg.symm)) hb)
                         have n4_ := Aside0.mk (Kd.V_below (Kd.V_elderB (by (with_reducible repeat (first | apply Kd.V_alloc | apply Kd.V_drewN | apply Kd.V_drew)); exact HO183.out) gb209 (Nat.le_of_eq hg.symm)) hb)
                         have n5_ := Aside0.mk (Kd.V_below (Kd.V_elderB (by (with_reducible repeat (first | apply Kd.V_alloc | apply Kd.V_drewN | apply Kd.V_drew)); exact HO195.out) gb209 (Nat.le_of_eq hg.symm)) hb)
                         have n6_ := Aside0.mk (Kd.V_below (Kd.V_elderB (by (with_reducible repeat (first | apply Kd.V_alloc | apply Kd.V_drewN | apply Kd.V_drew)); exact HO201.out) gb209 (Nat.le_of_eq hg.symm)) hb)
                         have n7_ := Aside0.mk (Kd.V_below (Kd.V_elderB (by (with_reducible repeat (first | apply Kd.V_alloc | apply Kd.V_drewN | apply Kd.V_drew)); exact HO207.out) gb209 (Nat.le_of_eq hg.symm)) hb)
                         have n8_ := Aside0.mk (blk_below (g := gb158) (o := .cells #[.int .i64 a1_0, .int .u64 a1_1, .slice A1_2 l1_2.length c1_2] 53 (0, 0)) (by (with_reducible repeat (first | refine blk_drewN ?_ _ | refine blk_drew ?_ | refine blk_alloc ?_ _)); exact BK158.out) hb)
                         have n9_ := Aside0.mk (blk_below (g := gb159) (o := .cells #[.slice A2_0 l2_0.length c2_0, .int .u64 a2_1, .int .u64 a2_2, .int .u64 a2_3, .int .u64 a2_4, .int .u64 a2_5, .int .u64 a2_6, .int .u64 a2_7, .int .u64 a2_8, .int .u64 a2_9, .int .u64 a2_10, .int .u64 a2_11, .int .u64 a2_12, .int .u64 a2_13, .bool a2_14, .bool a2_15, .bool a2_16, .int .u64 a2_17, .int .u64 a2_18, .int .u64 a2_19, .int .u64 a2_20, .int .u64 a2_21, .int .u64 a2_22, .int .u64 a2_23, .int .u64 a2_24, .int .u64 a2_25, .int .u64 a2_26, .int .u64 a2_27, .int .u64 a2_28, .int .u64 a2_29, .int .u64 a2_30, .int .u64 a2_31, .bool a2_32, .bool a2_33, .bool a2_34, .bool a2_35, .bool a2_36] 55 (0, 0)) (by (with_reducible repeat (first | refine blk_drewN ?_ _ | refine blk_drew ?_ | refine blk_alloc ?_ _)); exact BK159.out) hb)
                         have n10_ := Aside0.mk (below_step (by repeat (first | (with_reducible first | exact HB.out | apply below_alloc | apply pw_below_drewN | apply below_drew1 | refine below_set ?_ GE158.out | refine below_set ?_ GE159.out) | exact HB.out)) hb)
                         have n11_ := Aside0.mk (hbox)
                         have n12_ := Aside0.mk ((by rw [hg]; exact (below_size (by repeat (first | (with_reducible first | exact HB.out | apply below_alloc | apply pw_below_drewN | apply below_drew1 | refine below_set ?_ GE158.out | refine below_set ?_ GE159.out) | exact HB.out))) : w.heap.size ≤ gb209))
                         have n13_ := Aside0.mk ((by rw [hg]; exact (below_size (by repeat (first | (with_reducible first | exact HB.out | apply below_alloc | apply pw_below_drewN | apply below_drew1 | refine below_set ?_ GE158.out | refine below_set ?_ GE159.out) | exact HB.out))) : w.heap.size ≤ gb209))
                         have n14_ := Aside0.mk ((by rw [hg]; exact Nat.ne_of_lt (blk_lt (g := gb158) (o := .cells #[.int .i64 a1_0, .int .u64 a1_1, .slice A1_2 l1_2.length c1_2] 53 (0, 0)) (by (with_reducible repeat (first | refine blk_drewN ?_ _ | refine blk_drew ?_ | refine blk_alloc ?_ _)); exact BK158.out)) : gb158 ≠ gb209))
                         have n15_ := Aside0.mk ((by rw [hg]; exact Nat.ne_of_gt (blk_lt (g := gb158) (o := .cells #[.int .i64 a1_0, .int .u64 a1_1, .slice A1_2 l1_2.length c1_2] 53 (0, 0)) (by (with_reducible repeat (first | refine blk_drewN ?_ _ | refine blk_drew ?_ | refine blk_alloc ?_ _)); exact BK158.out)) : gb209 ≠ gb158))
                         have n16_ := Aside0.mk ((by rw [hg]; exact Nat.ne_of_lt (blk_lt (g := gb159) (o := .cells #[.slice A2_0 l2_0.length c2_0, .int .u64 a2_1, .int .u64 a2_2, .int .u64 a2_3, .int .u64 a2_4, .int .u64 a2_5, .int .u64 a2_6, .int .u64 a2_7, .int .u64 a2_8, .int .u64 a2_9, .int .u64 a2_10, .int .u64 a2_11, .int .u64 a2_12, .int .u64 a2_13, .bool a2_14, .bool a2_15, .bool a2_16, .int .u64 a2_17, .int .u64 a2_18, .int .u64 a2_19, .int .u64 a2_20, .int .u64 a2_21, .int .u64 a2_22, .int .u64 a2_23, .int .u64 a2_24, .int .u64 a2_25, .int .u64 a2_26, .int .u64 a2_27, .int .u64 a2_28, .int .u64 a2_29, .int .u64 a2_30, .int .u64 a2_31, .bool a2_32, .bool a2_33, .bool a2_34, .bool a2_35, .bool a2_36] 55 (0, 0)) (by (with_reducible repeat (first | refine blk_drewN ?_ _ | refine blk_drew ?_ | refine blk_alloc ?_ _)); exact BK159.out)) : gb159 ≠ gb209))
                         have n17_ := Aside0.mk ((by rw [hg]; exact Nat.ne_of_gt (blk_lt (g := gb159) (o := .cells #[.slice A2_0 l2_0.length c2_0, .int .u64 a2_1, .int .u64 a2_2, .int .u64 a2_3, .int .u64 a2_4, .int .u64 a2_5, .int .u64 a2_6, .int .u64 a2_7, .int .u64 a2_8, .int .u64 a2_9, .int .u64 a2_10, .int .u64 a2_11, .int .u64 a2_12, .int .u64 a2_13, .bool a2_14, .bool a2_15, .bool a2_16, .int .u64 a2_17, .int .u64 a2_18, .int .u64 a2_19, .int .u64 a2_20, .int .u64 a2_21, .int .u64 a2_22, .int .u64 a2_23, .int .u64 a2_24, .int .u64 a2_25, .int .u64 a2_26, .int .u64 a2_27, .int .u64 a2_28, .int .u64 a2_29, .int .u64 a2_30, .int .u64 a2_31, .bool a2_32, .bool a2_33, .bool a2_34, .bool a2_35, .bool a2_36] 55 (0, 0)) (by (with_reducible repeat (first | refine blk_drewN ?_ _ | refine blk_drew ?_ | refine blk_alloc ?_ _)); exact BK159.out)) : gb209 ≠ gb159))
                         clear HO_10
                         clear HO_12
                         clear HO_13
                         clear HO_15
                         clear HO183
                         clear HO195
                         clear HO201
                         clear HO207
                         clear BK158
                         clear BK159
                         clear HB
                         have HO_10 := n0_
                         have HO_12 := n1_
                         have HO_13 := n2_
                         have HO_15 := n3_
                         have HO183 := n4_
                         have HO195 := n5_
                         have HO201 := n6_
                         have HO207 := n7_
                         have BK158 := n8_
                         have BK159 := n9_
                         have HB := n10_
                         have BK209 := n11_
                         have GW209 := n12_
                         have GE209 := n13_
                         have NB158_209 := n14_
                         have NB209_158 := n15_
                         have NB159_209 := n16_
                         have NB209_159 := n17_
                         clear n0_ n1_ n2_ n3_ n4_ n5_ n6_ n7_ n8_ n9_ n10_ n11_ n12_ n13_ n14_ n15_ n16_ n17_
                         clear hb hbox hg
                         refine hK.out _ _ ⟨HS0_, HS1_, HS2_⟩ (fun hHeld => ?_)
                         clear hK K
                         refine norm_ (a' := ?_) ?_ ?_
                         rotate_left
                         ·show Act.put _ (some 18) _ = _
                          simp only [Act.put, List.setIfInBounds_toArray, List.set_cons_zero, List.set_cons_succ, i64_w, i32_w]
                          rfl
                         refine one_ (i := 22) (N := some 104) #[true, true, true, true, true, true, true, true, true, true, true, true, true, true, true, true, true, true, true, true, true, true, true, true, true, false, false, true, false] rfl rfl (one_of HT_.out (by kernel_rfl)) (by decide) (fun K hK => ?_)
                         refine goes_ Try.func49 (by kernel_rfl) rfl #[.slice A57 y197.length c57] (by rfl) rfl rfl (by (try simp only [List.map_toArray, List.map_cons, List.map_nil]); first | done | rfl | (simp only [List.length_drop, List.length_take]; rfl)) ?_
                         with_reducible refine (syms_number.calls kj27 _ _ y197 t202 _ ?side1 ?side2 A49.out).mono ?_
                         (case side1 => repeat (first | exact (Kd.V_reads' HO201.out).2.2 | (with_reducible refine Kd.C_alloc ?_ _) | (with_reducible refine Kd.C_drewN ?_ _) | (with_reducible refine Kd.C_drew ?_)))
                         (case side2 => exact (Kd.V_reads' HO201.out).2.1)
                         rintro e w' ⟨rfl, ⟨nd, rfl⟩⟩
                         refine ⟨_, rfl, ?_⟩
                         refine hK.out _ _ ⟨hHeld.1, hHeld.2.1, hHeld.2.2⟩ (fun hHeld => ?_)
                         clear hK K
                         refine norm_ (a' := ?_) ?_ ?_
                         rotate_left
                         ·show Act.put _ (some 104) _ = _
                          simp only [Act.put, List.setIfInBounds_toArray, List.set_cons_zero, List.set_cons_succ, i64_w, i32_w]
                          rfl
                         refine one_ (i := 25) (N := some 107) #[true, true, true, true, true, true, true, true, true, true, true, true, true, true, true, true, true, true, true, true, true, true, true, true, true, true, false, true, false] rfl rfl (one_of HT_.out (by kernel_rfl)) (by decide) (fun K hK => ?_)
                         refine goes_ Try.func49 (by kernel_rfl) rfl #[.slice A58 y203.length c58] (by rfl) rfl rfl (by (try simp only [List.map_toArray, List.map_cons, List.map_nil]); first | done | rfl | (simp only [List.length_drop, List.length_take]; rfl)) ?_
                         with_reducible refine (syms_number.calls kj27 _ _ y203 t208 _ ?side1 ?side2 A51.out).mono ?_
                         (case side1 => repeat (first | exact (Kd.V_reads' HO207.out).2.2 | (with_reducible refine Kd.C_alloc ?_ _) | (with_reducible refine Kd.C_drewN ?_ _) | (with_reducible refine Kd.C_drew ?_)))
                         (case side2 => exact (Kd.V_reads' HO207.out).2.1)
                         rintro e w' ⟨rfl, ⟨nd, rfl⟩⟩
                         refine ⟨_, rfl, ?_⟩
                         refine hK.out _ _ ⟨hHeld.1, hHeld.2.1, hHeld.2.2⟩ (fun hHeld => ?_)
                         clear hK K
                         refine norm_ (a' := ?_) ?_ ?_
                         rotate_left
                         ·show Act.put _ (some 107) _ = _
                          simp only [Act.put, List.setIfInBounds_toArray, List.set_cons_zero, List.set_cons_succ, i64_w, i32_w]
                          rfl
                         refine pure_ (i := 26) (N := some 108) (v := ?_) (a' := ?_) #[true, true, true, true, true, true, true, true, true, true, true, true, true, true, true, true, true, true, true, true, true, true, true, true, true, true, true, true, false] rfl rfl (any_of HT_.out (by kernel_rfl)) (fun _ _ _ h => h) (Or.inl ⟨by rfl, ?_⟩) ?_ ?_
                         rotate_left
                         ·intro w'
                          go_simp
                          with_reducible rfl
                         rotate_left
                         ·simp only [Act.put, List.setIfInBounds_toArray, List.set_cons_zero, List.set_cons_succ, i64_w, i32_w]
                          rfl
                         exact norm_ (by simp only [putAll, Act.put, List.setIfInBounds_toArray, List.set_cons_zero, List.set_cons_succ]) (hCont (gb209) _ ⟨hHeld, (by (with_reducible repeat (first | apply Kd.V_alloc | apply Kd.V_drewN | apply Kd.V_drew)); exact Kd.V_mono HO183.out (fun _ hk => ⟨hk.1.1, ⟨hk.1.2.1, ⟨hk.1.2.2, hk.2⟩⟩⟩)), (by (with_reducible repeat (first | apply Kd.V_alloc | apply Kd.V_drewN | apply Kd.V_drew)); exact Kd.V_mono HO195.out (fun _ hk => ⟨hk.1.1, ⟨hk.1.2.1, ⟨hk.1.2.2, hk.2⟩⟩⟩)), (by (with_reducible repeat (first | apply Kd.V_alloc | apply Kd.V_drewN | apply Kd.V_drew)); exact Kd.V_mono HO201.out (fun _ hk => ⟨hk.1.1, ⟨hk.1.2.1, ⟨hk.1.2.2, hk.2⟩⟩⟩)), (by (with_reducible repeat (first | apply Kd.V_alloc | apply Kd.V_drewN | apply Kd.V_drew)); exact Kd.V_mono HO207.out (fun _ hk => ⟨hk.1.1, ⟨hk.1.2.1, ⟨hk.1.2.2, hk.2⟩⟩⟩)), (by (with_reducible repeat (first | apply Kd.V_alloc | apply Kd.V_drewN | apply Kd.V_drew)); exact Kd.V_mono HO_10.out (fun _ hk => ⟨hk.1.1, ⟨hk.1.2.1, ⟨hk.1.2.2, hk.2⟩⟩⟩)), (by (with_reducible repeat (first | apply Kd.V_alloc | apply Kd.V_drewN | apply Kd.V_drew)); exact Kd.V_mono HO_12.out (fun _ hk => ⟨hk.1.1, ⟨hk.1.2.1, ⟨hk.1.2.2, hk.2⟩⟩⟩)), (by (with_reducible repeat (first | apply Kd.R_alloc | apply Kd.R_drewN | apply Kd.R_drew)); exact Kd.R_mono HO_13.out (fun _ hk => hk.2)), (by (with_reducible repeat (first | apply Kd.V_alloc | apply Kd.V_drewN | apply Kd.V_drew)); exact Kd.V_mono HO_15.out (fun _ hk => ⟨hk.1.1, ⟨hk.1.2.1, ⟨hk.1.2.2, hk.2⟩⟩⟩)), (by (with_reducible repeat (first | refine blk_drewN ?_ _ | refine blk_drew ?_ | refine blk_alloc ?_ _)); exact BK158.out), (by (with_reducible repeat (first | refine blk_drewN ?_ _ | refine blk_drew ?_ | refine blk_alloc ?_ _)); exact BK159.out), (by (with_reducible repeat (first | refine blk_drewN ?_ _ | refine blk_drew ?_ | refine blk_alloc ?_ _)); exact BK209.out), GW209.out, GE209.out, NB158_209.out, NB209_158.out, NB159_209.out, NB209_159.out, (by repeat (first | (with_reducible first | exact HB.out | apply below_alloc | apply pw_below_drewN | apply below_drew1 | refine below_set ?_ GE158.out | refine below_set ?_ GE159.out | refine below_set ?_ GE209.out) | exact HB.out))⟩)
                       ·skip
                        refine box_step ?hg (N := 18) ?hd (cs := #[.string (⟨#[]⟩ : ByteArray), .int .i64 0, .int .i64 0, .int .i64 0, .int .i64 0, .int .u64 0, .int .u64 0]) (t := 68) ?hr ?_; (case hd => rfl); (case hg => rfl); (case hr => first | (go_simp; done) | (go_simp; rfl))
                        intro gb209 hg w59 hbox hb
                        have HS0_ := (hb.cell (World.block_lt_of_cell? _ _ (hHeld.1))).trans (hHeld.1)
                        have HS1_ := (hb.cell (World.block_lt_of_cell? _ _ (hHeld.2.1))).trans (hHeld.2.1)
                        have HS2_ := (hb.cell (World.block_lt_of_cell? _ _ (hHeld.2.2))).trans (hHeld.2.2)
                        have n0_ := Aside0.mk (Kd.V_below (Kd.V_elderB (by (with_reducible repeat (first | apply Kd.V_alloc | apply Kd.V_drewN | apply Kd.V_drew)); exact HO_10.out) gb209 (Nat.le_of_eq hg.symm)) hb)
                        have n1_ := Aside0.mk (Kd.V_below (Kd.V_elderB (by (with_reducible repeat (first | apply Kd.V_alloc | apply Kd.V_drewN | apply Kd.V_drew)); exact HO_12.out) gb209 (Nat.le_of_eq hg.symm)) hb)
                        have n2_ := Aside0.mk (Kd.R_below (Kd.R_elderB (by (with_reducible repeat (first | apply Kd.R_alloc | apply Kd.R_drewN | apply Kd.R_drew)); exact HO_13.out) gb209 (Nat.le_of_eq hg.symm)) hb)
                        have n3_ := Aside0.mk (Kd.V_below (Kd.V_elderB (by (with_reducible repeat (first | apply Kd.V_alloc | apply Kd.V_drewN | apply Kd.V_drew)); exact HO_15.out) gb209 (Nat.le_of_eq hg.symm)) hb)
                        have n4_ := Aside0.mk (Kd.V_below (Kd.V_elderB (by (with_reducible repeat (first | apply Kd.V_alloc | apply Kd.V_drewN | apply Kd.V_drew)); exact HO183.out) gb209 (Nat.le_of_eq hg.symm)) hb)
                        have n5_ := Aside0.mk (Kd.V_below (Kd.V_elderB (by (with_reducible repeat (first | apply Kd.V_alloc | apply Kd.V_drewN | apply Kd.V_drew)); exact HO195.out) gb209 (Nat.le_of_eq hg.symm)) hb)
                        have n6_ := Aside0.mk (Kd.V_below (Kd.V_elderB (by (with_reducible repeat (first | apply Kd.V_alloc | apply Kd.V_drewN | apply Kd.V_drew)); exact HO201.out) gb209 (Nat.le_of_eq hg.symm)) hb)
                        have n7_ := Aside0.mk (Kd.V_below (Kd.V_elderB (by (with_reducible repeat (first | apply Kd.V_alloc | apply Kd.V_drewN | apply Kd.V_drew)); exact HO207.out) gb209 (Nat.le_of_eq hg.symm)) hb)
                        have n8_ := Aside0.mk (blk_below (g := gb158) (o := .cells #[.int .i64 a1_0, .int .u64 a1_1, .slice A1_2 l1_2.length c1_2] 53 (0, 0)) (by (with_reducible repeat (first | refine blk_drewN ?_ _ | refine blk_drew ?_ | refine blk_alloc ?_ _)); exact BK158.out) hb)
                        have n9_ := Aside0.mk (blk_below (g := gb159) (o := .cells #[.slice A2_0 l2_0.length c2_0, .int .u64 a2_1, .int .u64 a2_2, .int .u64 a2_3, .int .u64 a2_4, .int .u64 a2_5, .int .u64 a2_6, .int .u64 a2_7, .int .u64 a2_8, .int .u64 a2_9, .int .u64 a2_10, .int .u64 a2_11, .int .u64 a2_12, .int .u64 a2_13, .bool a2_14, .bool a2_15, .bool a2_16, .int .u64 a2_17, .int .u64 a2_18, .int .u64 a2_19, .int .u64 a2_20, .int .u64 a2_21, .int .u64 a2_22, .int .u64 a2_23, .int .u64 a2_24, .int .u64 a2_25, .int .u64 a2_26, .int .u64 a2_27, .int .u64 a2_28, .int .u64 a2_29, .int .u64 a2_30, .int .u64 a2_31, .bool a2_32, .bool a2_33, .bool a2_34, .bool a2_35, .bool a2_36] 55 (0, 0)) (by (with_reducible repeat (first | refine blk_drewN ?_ _ | refine blk_drew ?_ | refine blk_alloc ?_ _)); exact BK159.out) hb)
                        have n10_ := Aside0.mk (below_step (by repeat (first | (with_reducible first | exact HB.out | apply below_alloc | apply pw_below_drewN | apply below_drew1 | refine below_set ?_ GE158.out | refine below_set ?_ GE159.out) | exact HB.out)) hb)
                        have n11_ := Aside0.mk (hbox)
                        have n12_ := Aside0.mk ((by rw [hg]; exact (below_size (by repeat (first | (with_reducible first | exact HB.out | apply below_alloc | apply pw_below_drewN | apply below_drew1 | refine below_set ?_ GE158.out | refine below_set ?_ GE159.out) | exact HB.out))) : w.heap.size ≤ gb209))
                        have n13_ := Aside0.mk ((by rw [hg]; exact (below_size (by repeat (first | (with_reducible first | exact HB.out | apply below_alloc | apply pw_below_drewN | apply below_drew1 | refine below_set ?_ GE158.out | refine below_set ?_ GE159.out) | exact HB.out))) : w.heap.size ≤ gb209))
                        have n14_ := Aside0.mk ((by rw [hg]; exact Nat.ne_of_lt (blk_lt (g := gb158) (o := .cells #[.int .i64 a1_0, .int .u64 a1_1, .slice A1_2 l1_2.length c1_2] 53 (0, 0)) (by (with_reducible repeat (first | refine blk_drewN ?_ _ | refine blk_drew ?_ | refine blk_alloc ?_ _)); exact BK158.out)) : gb158 ≠ gb209))
                        have n15_ := Aside0.mk ((by rw [hg]; exact Nat.ne_of_gt (blk_lt (g := gb158) (o := .cells #[.int .i64 a1_0, .int .u64 a1_1, .slice A1_2 l1_2.length c1_2] 53 (0, 0)) (by (with_reducible repeat (first | refine blk_drewN ?_ _ | refine blk_drew ?_ | refine blk_alloc ?_ _)); exact BK158.out)) : gb209 ≠ gb158))
                        have n16_ := Aside0.mk ((by rw [hg]; exact Nat.ne_of_lt (blk_lt (g := gb159) (o := .cells #[.slice A2_0 l2_0.length c2_0, .int .u64 a2_1, .int .u64 a2_2, .int .u64 a2_3, .int .u64 a2_4, .int .u64 a2_5, .int .u64 a2_6, .int .u64 a2_7, .int .u64 a2_8, .int .u64 a2_9, .int .u64 a2_10, .int .u64 a2_11, .int .u64 a2_12, .int .u64 a2_13, .bool a2_14, .bool a2_15, .bool a2_16, .int .u64 a2_17, .int .u64 a2_18, .int .u64 a2_19, .int .u64 a2_20, .int .u64 a2_21, .int .u64 a2_22, .int .u64 a2_23, .int .u64 a2_24, .int .u64 a2_25, .int .u64 a2_26, .int .u64 a2_27, .int .u64 a2_28, .int .u64 a2_29, .int .u64 a2_30, .int .u64 a2_31, .bool a2_32, .bool a2_33, .bool a2_34, .bool a2_35, .bool a2_36] 55 (0, 0)) (by (with_reducible repeat (first | refine blk_drewN ?_ _ | refine blk_drew ?_ | refine blk_alloc ?_ _)); exact BK159.out)) : gb159 ≠ gb209))
                        have n17_ := Aside0.mk ((by rw [hg]; exact Nat.ne_of_gt (blk_lt (g := gb159) (o := .cells #[.slice A2_0 l2_0.length c2_0, .int .u64 a2_1, .int .u64 a2_2, .int .u64 a2_3, .int .u64 a2_4, .int .u64 a2_5, .int .u64 a2_6, .int .u64 a2_7, .int .u64 a2_8, .int .u64 a2_9, .int .u64 a2_10, .int .u64 a2_11, .int .u64 a2_12, .int .u64 a2_13, .bool a2_14, .bool a2_15, .bool a2_16, .int .u64 a2_17, .int .u64 a2_18, .int .u64 a2_19, .int .u64 a2_20, .int .u64 a2_21, .int .u64 a2_22, .int .u64 a2_23, .int .u64 a2_24, .int .u64 a2_25, .int .u64 a2_26, .int .u64 a2_27, .int .u64 a2_28, .int .u64 a2_29, .int .u64 a2_30, .int .u64 a2_31, .bool a2_32, .bool a2_33, .bool a2_34, .bool a2_35, .bool a2_36] 55 (0, 0)) (by (with_reducible repeat (first | refine blk_drewN ?_ _ | refine blk_drew ?_ | refine blk_alloc ?_ _)); exact BK159.out)) : gb209 ≠ gb159))
                        clear HO_10
                        clear HO_12
                        clear HO_13
                        clear HO_15
                        clear HO183
                        clear HO195
                        clear HO201
                        clear HO207
                        clear BK158
                        clear BK159
                        clear HB
                        have HO_10 := n0_
                        have HO_12 := n1_
                        have HO_13 := n2_
                        have HO_15 := n3_
                        have HO183 := n4_
                        have HO195 := n5_
                        have HO201 := n6_
                        have HO207 := n7_
                        have BK158 := n8_
                        have BK159 := n9_
                        have HB := n10_
                        have BK209 := n11_
                        have GW209 := n12_
                        have GE209 := n13_
                        have NB158_209 := n14_
                        have NB209_158 := n15_
                        have NB159_209 := n16_
                        have NB209_159 := n17_
                        clear n0_ n1_ n2_ n3_ n4_ n5_ n6_ n7_ n8_ n9_ n10_ n11_ n12_ n13_ n14_ n15_ n16_ n17_
                        clear hb hbox hg
                        refine hK.out _ _ ⟨HS0_, HS1_, HS2_⟩ (fun hHeld => ?_)
                        clear hK K
                        refine norm_ (a' := ?_) ?_ ?_
                        rotate_left
                        ·show Act.put _ (some 18) _ = _
                         simp only [Act.put, List.setIfInBounds_toArray, List.set_cons_zero, List.set_cons_succ, i64_w, i32_w]
                         rfl
                        refine one_ (i := 18) (N := some 100) #[true, true, true, true, true, true, true, true, true, true, true, true, true, true, true, true, true, true, true, false, true, true, false, true, true, false, false, true, false] rfl rfl (one_of HT_.out (by kernel_rfl)) (by decide) (fun K hK => ?_)
                        refine goes_ Try.func49 (by kernel_rfl) rfl #[.slice A56 y191.length c56] (by rfl) rfl rfl (by (try simp only [List.map_toArray, List.map_cons, List.map_nil]); first | done | rfl | (simp only [List.length_drop, List.length_take]; rfl)) ?_
                        with_reducible refine (syms_number.calls kj27 _ _ y191 t196 _ ?side1 ?side2 A46.out).mono ?_
                        (case side1 => repeat (first | exact (Kd.V_reads' HO195.out).2.2 | (with_reducible refine Kd.C_alloc ?_ _) | (with_reducible refine Kd.C_drewN ?_ _) | (with_reducible refine Kd.C_drew ?_)))
                        (case side2 => exact (Kd.V_reads' HO195.out).2.1)
                        rintro e w' ⟨rfl, ⟨nd, rfl⟩⟩
                        refine ⟨_, rfl, ?_⟩
                        refine hK.out _ _ ⟨hHeld.1, hHeld.2.1, hHeld.2.2⟩ (fun hHeld => ?_)
                        clear hK K
                        refine norm_ (a' := ?_) ?_ ?_
                        rotate_left
                        ·show Act.put _ (some 100) _ = _
                         simp only [Act.put, List.setIfInBounds_toArray, List.set_cons_zero, List.set_cons_succ, i64_w, i32_w]
                         rfl
                        refine pure_ (i := 19) (N := some 101) (v := ?_) (a' := ?_) #[true, true, true, true, true, true, true, true, true, true, true, true, true, true, true, true, true, true, true, true, true, true, false, true, true, false, false, true, false] rfl rfl (any_of HT_.out (by kernel_rfl)) (fun _ _ _ h => h) (Or.inl ⟨by rfl, ?_⟩) ?_ ?_
                        rotate_left
                        ·intro w'
                         go_simp
                         with_reducible rfl
                        rotate_left
                        ·simp only [Act.put, List.setIfInBounds_toArray, List.set_cons_zero, List.set_cons_succ, i64_w, i32_w]
                         rfl
                        refine one_ (i := 22) (N := some 104) #[true, true, true, true, true, true, true, true, true, true, true, true, true, true, true, true, true, true, true, true, true, true, true, true, true, false, false, true, false] rfl rfl (one_of HT_.out (by kernel_rfl)) (by decide) (fun K hK => ?_)
                        refine goes_ Try.func49 (by kernel_rfl) rfl #[.slice A57 y197.length c57] (by rfl) rfl rfl (by (try simp only [List.map_toArray, List.map_cons, List.map_nil]); first | done | rfl | (simp only [List.length_drop, List.length_take]; rfl)) ?_
                        with_reducible refine (syms_number.calls kj27 _ _ y197 t202 _ ?side1 ?side2 A49.out).mono ?_
                        (case side1 => repeat (first | exact (Kd.V_reads' HO201.out).2.2 | (with_reducible refine Kd.C_alloc ?_ _) | (with_reducible refine Kd.C_drewN ?_ _) | (with_reducible refine Kd.C_drew ?_)))
                        (case side2 => exact (Kd.V_reads' HO201.out).2.1)
                        rintro e w' ⟨rfl, ⟨nd, rfl⟩⟩
                        refine ⟨_, rfl, ?_⟩
                        refine hK.out _ _ ⟨hHeld.1, hHeld.2.1, hHeld.2.2⟩ (fun hHeld => ?_)
                        clear hK K
                        refine norm_ (a' := ?_) ?_ ?_
                        rotate_left
                        ·show Act.put _ (some 104) _ = _
                         simp only [Act.put, List.setIfInBounds_toArray, List.set_cons_zero, List.set_cons_succ, i64_w, i32_w]
                         rfl
                        refine one_ (i := 25) (N := some 107) #[true, true, true, true, true, true, true, true, true, true, true, true, true, true, true, true, true, true, true, true, true, true, true, true, true, true, false, true, false] rfl rfl (one_of HT_.out (by kernel_rfl)) (by decide) (fun K hK => ?_)
                        refine goes_ Try.func49 (by kernel_rfl) rfl #[.slice A58 y203.length c58] (by rfl) rfl rfl (by (try simp only [List.map_toArray, List.map_cons, List.map_nil]); first | done | rfl | (simp only [List.length_drop, List.length_take]; rfl)) ?_
                        with_reducible refine (syms_number.calls kj27 _ _ y203 t208 _ ?side1 ?side2 A51.out).mono ?_
                        (case side1 => repeat (first | exact (Kd.V_reads' HO207.out).2.2 | (with_reducible refine Kd.C_alloc ?_ _) | (with_reducible refine Kd.C_drewN ?_ _) | (with_reducible refine Kd.C_drew ?_)))
                        (case side2 => exact (Kd.V_reads' HO207.out).2.1)
                        rintro e w' ⟨rfl, ⟨nd, rfl⟩⟩
                        refine ⟨_, rfl, ?_⟩
                        refine hK.out _ _ ⟨hHeld.1, hHeld.2.1, hHeld.2.2⟩ (fun hHeld => ?_)
                        clear hK K
                        refine norm_ (a' := ?_) ?_ ?_
                        rotate_left
                        ·show Act.put _ (some 107) _ = _
                         simp only [Act.put, List.setIfInBounds_toArray, List.set_cons_zero, List.set_cons_succ, i64_w, i32_w]
                         rfl
                        refine pure_ (i := 26) (N := some 108) (v := ?_) (a' := ?_) #[true, true, true, true, true, true, true, true, true, true, true, true, true, true, true, true, true, true, true, true, true, true, true, true, true, true, true, true, false] rfl rfl (any_of HT_.out (by kernel_rfl)) (fun _ _ _ h => h) (Or.inl ⟨by rfl, ?_⟩) ?_ ?_
                        rotate_left
                        ·intro w'
                         go_simp
                         with_reducible rfl
                        rotate_left
                        ·simp only [Act.put, List.setIfInBounds_toArray, List.set_cons_zero, List.set_cons_succ, i64_w, i32_w]
                         rfl
                        exact norm_ (by simp only [putAll, Act.put, List.setIfInBounds_toArray, List.set_cons_zero, List.set_cons_succ]) (hCont (gb209) _ ⟨hHeld, (by (with_reducible repeat (first | apply Kd.V_alloc | apply Kd.V_drewN | apply Kd.V_drew)); exact Kd.V_mono HO183.out (fun _ hk => ⟨hk.1.1, ⟨hk.1.2.1, ⟨hk.1.2.2, hk.2⟩⟩⟩)), (by (with_reducible repeat (first | apply Kd.V_alloc | apply Kd.V_drewN | apply Kd.V_drew)); exact Kd.V_mono HO195.out (fun _ hk => ⟨hk.1.1, ⟨hk.1.2.1, ⟨hk.1.2.2, hk.2⟩⟩⟩)), (by (with_reducible repeat (first | apply Kd.V_alloc | apply Kd.V_drewN | apply Kd.V_drew)); exact Kd.V_mono HO201.out (fun _ hk => ⟨hk.1.1, ⟨hk.1.2.1, ⟨hk.1.2.2, hk.2⟩⟩⟩)), (by (with_reducible repeat (first | apply Kd.V_alloc | apply Kd.V_drewN | apply Kd.V_drew)); exact Kd.V_mono HO207.out (fun _ hk => ⟨hk.1.1, ⟨hk.1.2.1, ⟨hk.1.2.2, hk.2⟩⟩⟩)), (by (with_reducible repeat (first | apply Kd.V_alloc | apply Kd.V_drewN | apply Kd.V_drew)); exact Kd.V_mono HO_10.out (fun _ hk => ⟨hk.1.1, ⟨hk.1.2.1, ⟨hk.1.2.2, hk.2⟩⟩⟩)), (by (with_reducible repeat (first | apply Kd.V_alloc | apply Kd.V_drewN | apply Kd.V_drew)); exact Kd.V_mono HO_12.out (fun _ hk => ⟨hk.1.1, ⟨hk.1.2.1, ⟨hk.1.2.2, hk.2⟩⟩⟩)), (by (with_reducible repeat (first | apply Kd.R_alloc | apply Kd.R_drewN | apply Kd.R_drew)); exact Kd.R_mono HO_13.out (fun _ hk => hk.2)), (by (with_reducible repeat (first | apply Kd.V_alloc | apply Kd.V_drewN | apply Kd.V_drew)); exact Kd.V_mono HO_15.out (fun _ hk => ⟨hk.1.1, ⟨hk.1.2.1, ⟨hk.1.2.2, hk.2⟩⟩⟩)), (by (with_reducible repeat (first | refine blk_drewN ?_ _ | refine blk_drew ?_ | refine blk_alloc ?_ _)); exact BK158.out), (by (with_reducible repeat (first | refine blk_drewN ?_ _ | refine blk_drew ?_ | refine blk_alloc ?_ _)); exact BK159.out), (by (with_reducible repeat (first | refine blk_drewN ?_ _ | refine blk_drew ?_ | refine blk_alloc ?_ _)); exact BK209.out), GW209.out, GE209.out, NB158_209.out, NB209_158.out, NB159_209.out, NB209_159.out, (by repeat (first | (with_reducible first | exact HB.out | apply below_alloc | apply pw_below_drewN | apply below_drew1 | refine below_set ?_ GE158.out | refine below_set ?_ GE159.out | refine below_set ?_ GE209.out) | exact HB.out))⟩)
                      rintro gb209 w60 ⟨hS_, h0_, h1_, h2_, h3_, h4_, h5_, h6_, h7_, h8_, h9_, h10_, h11_, h12_, h13_, h14_, h15_, h16_, h17_⟩
                      have n0_ : Aside0 (Kd.V (Kd.int .u8) 5 w60 w.heap.size (fun k_ => some k_ ≠ (u13 : Value).ownBlock ∧ k_ ≠ gb158 ∧ k_ ≠ gb159 ∧ k_ ≠ gb209) (.slice (some ad188) y179.length c29) y179) := ⟨h0_⟩
                      have n1_ : Aside0 (Kd.V (Kd.int .u8) 5 w60 w.heap.size (fun k_ => some k_ ≠ (u13 : Value).ownBlock ∧ k_ ≠ gb158 ∧ k_ ≠ gb159 ∧ k_ ≠ gb209) (.slice A56 y191.length c56) y191) := ⟨h1_⟩
                      have n2_ : Aside0 (Kd.V (Kd.int .u8) 5 w60 w.heap.size (fun k_ => some k_ ≠ (u13 : Value).ownBlock ∧ k_ ≠ gb158 ∧ k_ ≠ gb159 ∧ k_ ≠ gb209) (.slice A57 y197.length c57) y197) := ⟨h2_⟩
                      have n3_ : Aside0 (Kd.V (Kd.int .u8) 5 w60 w.heap.size (fun k_ => some k_ ≠ (u13 : Value).ownBlock ∧ k_ ≠ gb158 ∧ k_ ≠ gb159 ∧ k_ ≠ gb209) (.slice A58 y203.length c58) y203) := ⟨h3_⟩
                      have n4_ : Aside0 (Kd.V (Kd.int .u8) 5 w60 w.heap.size (fun k_ => some k_ ≠ (u13 : Value).ownBlock ∧ k_ ≠ gb158 ∧ k_ ≠ gb159 ∧ k_ ≠ gb209) (.slice Ao54 t160.length co54) t160) := ⟨h4_⟩
                      have n5_ : Aside0 (Kd.V (Kd.int .u8) 5 w60 w.heap.size (fun k_ => some k_ ≠ (u13 : Value).ownBlock ∧ k_ ≠ gb158 ∧ k_ ≠ gb159 ∧ k_ ≠ gb209) (.slice Ao30 t165.length co30) t165) := ⟨h5_⟩
                      have n6_ : Aside0 (Kd.R k68 68 w60 w.heap.size (fun k_ => k_ ≠ gb209) u13 x13_1) := ⟨h6_⟩
                      have n7_ : Aside0 (Kd.V (Kd.int .u8) 5 w60 w.heap.size (fun k_ => some k_ ≠ (u13 : Value).ownBlock ∧ k_ ≠ gb158 ∧ k_ ≠ gb159 ∧ k_ ≠ gb209) (.slice (some ad188) y170.length c29) y170) := ⟨h7_⟩
                      have n8_ : Aside0 (w60.heap[gb158]? = some (.cells #[.int .i64 a1_0, .int .u64 a1_1, .slice A1_2 l1_2.length c1_2] 53 (0, 0))) := ⟨h8_⟩
                      have n9_ : Aside0 (w60.heap[gb159]? = some (.cells #[.slice A2_0 l2_0.length c2_0, .int .u64 a2_1, .int .u64 a2_2, .int .u64 a2_3, .int .u64 a2_4, .int .u64 a2_5, .int .u64 a2_6, .int .u64 a2_7, .int .u64 a2_8, .int .u64 a2_9, .int .u64 a2_10, .int .u64 a2_11, .int .u64 a2_12, .int .u64 a2_13, .bool a2_14, .bool a2_15, .bool a2_16, .int .u64 a2_17, .int .u64 a2_18, .int .u64 a2_19, .int .u64 a2_20, .int .u64 a2_21, .int .u64 a2_22, .int .u64 a2_23, .int .u64 a2_24, .int .u64 a2_25, .int .u64 a2_26, .int .u64 a2_27, .int .u64 a2_28, .int .u64 a2_29, .int .u64 a2_30, .int .u64 a2_31, .bool a2_32, .bool a2_33, .bool a2_34, .bool a2_35, .bool a2_36] 55 (0, 0))) := ⟨h9_⟩
                      have n10_ : Aside0 (w60.heap[gb209]? = some (.cells #[.string (⟨#[]⟩ : ByteArray), .int .i64 0, .int .i64 0, .int .i64 0, .int .i64 0, .int .u64 0, .int .u64 0] 68 (0, 0))) := ⟨h10_⟩
                      have n11_ : Aside0 (w.heap.size ≤ gb209) := ⟨h11_⟩
                      have n12_ : Aside0 (w.heap.size ≤ gb209) := ⟨h12_⟩
                      have n13_ : Aside0 (gb158 ≠ gb209) := ⟨h13_⟩
                      have n14_ : Aside0 (gb209 ≠ gb158) := ⟨h14_⟩
                      have n15_ : Aside0 (gb159 ≠ gb209) := ⟨h15_⟩
                      have n16_ : Aside0 (gb209 ≠ gb159) := ⟨h16_⟩
                      have n17_ : Aside0 (Below w.heap.size w w60) := ⟨h17_⟩
                      clear HO_10
                      clear HO_12
                      clear HO_13
                      clear HO_15
                      clear HO183
                      clear BK158
                      clear BK159
                      clear HB
                      clear h0_ h1_ h2_ h3_ h4_ h5_ h6_ h7_ h8_ h9_ h10_ h11_ h12_ h13_ h14_ h15_ h16_ h17_
                      have HO183 := n0_
                      have HO195 := n1_
                      have HO201 := n2_
                      have HO207 := n3_
                      have HO_10 := n4_
                      have HO_12 := n5_
                      have HO_13 := n6_
                      have HO_15 := n7_
                      have BK158 := n8_
                      have BK159 := n9_
                      have BK209 := n10_
                      have GW209 := n11_
                      have GE209 := n12_
                      have NB158_209 := n13_
                      have NB209_158 := n14_
                      have NB159_209 := n15_
                      have NB209_159 := n16_
                      have HB := n17_
                      clear n0_ n1_ n2_ n3_ n4_ n5_ n6_ n7_ n8_ n9_ n10_ n11_ n12_ n13_ n14_ n15_ n16_ n17_
                      have hHeld : w60.cell? ⟨ad188.block, ad188.off + 4, none⟩ = some (.int .u8 (rd y170 4)) ∧ w60.cell? ⟨ad188.block, ad188.off + 4, none⟩ = some (.int .u8 (rd y170 4)) ∧ w60.cell? ⟨ad188.block, ad188.off + 5, none⟩ = some (.int .u8 (rd y170 5)) := hS_
                      refine norm_ (a' := ?_) ?_ ?_
                      rotate_left
                      ·simp only [putAll, Act.put, List.setIfInBounds_toArray, List.set_cons_zero, List.set_cons_succ]
                       rfl
                      refine one_ (i := 28) (N := none) #[true, true, true, true, true, true, true, true, true, true, true, true, true, true, true, true, true, true, true, true, true, true, true, true, true, true, true, true, true] rfl rfl (one_of HT_.out (by kernel_rfl)) (by decide) (fun K hK => ?_)
                      have hs61 : w60.cell? ⟨gb209, 0, none⟩ = some (.string (⟨#[]⟩ : ByteArray)) := (blk_cell BK209.out 0).trans rfl
                      have hfs61 := blk_frozen BK209.out 0
                      have hns61_0 := NB158_209.out
                      have hns61_1 := NB159_209.out
                      have hms61_0 := NB209_158.out
                      have hms61_1 := NB209_159.out
                      have hs62 : w60.cell? ⟨gb209, 1, none⟩ = some (.int .i64 0) := (blk_cell BK209.out 1).trans rfl
                      have hfs62 := blk_frozen BK209.out 1
                      have hns62_0 := NB158_209.out
                      have hns62_1 := NB159_209.out
                      have hms62_0 := NB209_158.out
                      have hms62_1 := NB209_159.out
                      have hs63 : w60.cell? ⟨gb209, 2, none⟩ = some (.int .i64 0) := (blk_cell BK209.out 2).trans rfl
                      have hfs63 := blk_frozen BK209.out 2
                      have hns63_0 := NB158_209.out
                      have hns63_1 := NB159_209.out
                      have hms63_0 := NB209_158.out
                      have hms63_1 := NB209_159.out
                      have hs64 : w60.cell? ⟨gb209, 3, none⟩ = some (.int .i64 0) := (blk_cell BK209.out 3).trans rfl
                      have hfs64 := blk_frozen BK209.out 3
                      have hns64_0 := NB158_209.out
                      have hns64_1 := NB159_209.out
                      have hms64_0 := NB209_158.out
                      have hms64_1 := NB209_159.out
                      have hs65 : w60.cell? ⟨gb209, 4, none⟩ = some (.int .i64 0) := (blk_cell BK209.out 4).trans rfl
                      have hfs65 := blk_frozen BK209.out 4
                      have hns65_0 := NB158_209.out
                      have hns65_1 := NB159_209.out
                      have hms65_0 := NB209_158.out
                      have hms65_1 := NB209_159.out
                      have hs66 : w60.cell? ⟨gb209, 5, none⟩ = some (.int .u64 0) := (blk_cell BK209.out 5).trans rfl
                      have hfs66 := blk_frozen BK209.out 5
                      have hns66_0 := NB158_209.out
                      have hns66_1 := NB159_209.out
                      have hms66_0 := NB209_158.out
                      have hms66_1 := NB209_159.out
                      have hs67 : w60.cell? ⟨gb209, 6, none⟩ = some (.int .u64 0) := (blk_cell BK209.out 6).trans rfl
                      have hfs67 := blk_frozen BK209.out 6
                      have hns67_0 := NB158_209.out
                      have hns67_1 := NB159_209.out
                      have hms67_0 := NB209_158.out
                      have hms67_1 := NB209_159.out
                      refine skip_ (w1 := ?_) (by rfl) rfl ?_ ?_
                      rotate_left
                      ·go_simp
                       rfl
                      refine hK.out _ _ ⟨((cell_far (p := ⟨gb209, _, none⟩) (by first | exact Kd.V_own_int HO_15.out (of_eq_true (by assumption)) (fun _ hk => hk.2.2.2) | (rw [add_block]; exact Kd.V_own_int HO_15.out (of_eq_true (by assumption)) (fun _ hk => hk.2.2.2)) | (show (Addr.add _ _).block ≠ _; rw [add_block]; exact Kd.V_own_int HO_15.out (of_eq_true (by assumption)) (fun _ hk => hk.2.2.2)) | (dsimp only; exact Kd.V_own_int HO_15.out (of_eq_true (by assumption)) (fun _ hk => hk.2.2.2))) _).trans (((cell_far (p := ⟨gb209, _, none⟩) (by first | exact Kd.V_own_int HO_15.out (of_eq_true (by assumption)) (fun _ hk => hk.2.2.2) | (rw [add_block]; exact Kd.V_own_int HO_15.out (of_eq_true (by assumption)) (fun _ hk => hk.2.2.2)) | (show (Addr.add _ _).block ≠ _; rw [add_block]; exact Kd.V_own_int HO_15.out (of_eq_true (by assumption)) (fun _ hk => hk.2.2.2)) | (dsimp only; exact Kd.V_own_int HO_15.out (of_eq_true (by assumption)) (fun _ hk => hk.2.2.2))) _).trans (((cell_far (p := ⟨gb209, _, none⟩) (by first | exact Kd.V_own_int HO_15.out (of_eq_true (by assumption)) (fun _ hk => hk.2.2.2) | (rw [add_block]; exact Kd.V_own_int HO_15.out (of_eq_true (by assumption)) (fun _ hk => hk.2.2.2)) | (show (Addr.add _ _).block ≠ _; rw [add_block]; exact Kd.V_own_int HO_15.out (of_eq_true (by assumption)) (fun _ hk => hk.2.2.2)) | (dsimp only; exact Kd.V_own_int HO_15.out (of_eq_true (by assumption)) (fun _ hk => hk.2.2.2))) _).trans (((cell_far (p := ⟨gb209, _, none⟩) (by first | exact Kd.V_own_int HO_15.out (of_eq_true (by assumption)) (fun _ hk => hk.2.2.2) | (rw [add_block]; exact Kd.V_own_int HO_15.out (of_eq_true (by assumption)) (fun _ hk => hk.2.2.2)) | (show (Addr.add _ _).block ≠ _; rw [add_block]; exact Kd.V_own_int HO_15.out (of_eq_true (by assumption)) (fun _ hk => hk.2.2.2)) | (dsimp only; exact Kd.V_own_int HO_15.out (of_eq_true (by assumption)) (fun _ hk => hk.2.2.2))) _).trans (((cell_far (p := ⟨gb209, _, none⟩) (by first | exact Kd.V_own_int HO_15.out (of_eq_true (by assumption)) (fun _ hk => hk.2.2.2) | (rw [add_block]; exact Kd.V_own_int HO_15.out (of_eq_true (by assumption)) (fun _ hk => hk.2.2.2)) | (show (Addr.add _ _).block ≠ _; rw [add_block]; exact Kd.V_own_int HO_15.out (of_eq_true (by assumption)) (fun _ hk => hk.2.2.2)) | (dsimp only; exact Kd.V_own_int HO_15.out (of_eq_true (by assumption)) (fun _ hk => hk.2.2.2))) _).trans (((cell_far (p := ⟨gb209, _, none⟩) (by first | exact Kd.V_own_int HO_15.out (of_eq_true (by assumption)) (fun _ hk => hk.2.2.2) | (rw [add_block]; exact Kd.V_own_int HO_15.out (of_eq_true (by assumption)) (fun _ hk => hk.2.2.2)) | (show (Addr.add _ _).block ≠ _; rw [add_block]; exact Kd.V_own_int HO_15.out (of_eq_true (by assumption)) (fun _ hk => hk.2.2.2)) | (dsimp only; exact Kd.V_own_int HO_15.out (of_eq_true (by assumption)) (fun _ hk => hk.2.2.2))) _).trans (((cell_far (p := ⟨gb209, _, none⟩) (by first | exact Kd.V_own_int HO_15.out (of_eq_true (by assumption)) (fun _ hk => hk.2.2.2) | (rw [add_block]; exact Kd.V_own_int HO_15.out (of_eq_true (by assumption)) (fun _ hk => hk.2.2.2)) | (show (Addr.add _ _).block ≠ _; rw [add_block]; exact Kd.V_own_int HO_15.out (of_eq_true (by assumption)) (fun _ hk => hk.2.2.2)) | (dsimp only; exact Kd.V_own_int HO_15.out (of_eq_true (by assumption)) (fun _ hk => hk.2.2.2))) _).trans (hHeld.1)))))))))))))), ((cell_far (p := ⟨gb209, _, none⟩) (by first | exact Kd.V_own_int HO_15.out (of_eq_true (by assumption)) (fun _ hk => hk.2.2.2) | (rw [add_block]; exact Kd.V_own_int HO_15.out (of_eq_true (by assumption)) (fun _ hk => hk.2.2.2)) | (show (Addr.add _ _).block ≠ _; rw [add_block]; exact Kd.V_own_int HO_15.out (of_eq_true (by assumption)) (fun _ hk => hk.2.2.2)) | (dsimp only; exact Kd.V_own_int HO_15.out (of_eq_true (by assumption)) (fun _ hk => hk.2.2.2))) _).trans (((cell_far (p := ⟨gb209, _, none⟩) (by first | exact Kd.V_own_int HO_15.out (of_eq_true (by assumption)) (fun _ hk => hk.2.2.2) | (rw [add_block]; exact Kd.V_own_int HO_15.out (of_eq_true (by assumption)) (fun _ hk => hk.2.2.2)) | (show (Addr.add _ _).block ≠ _; rw [add_block]; exact Kd.V_own_int HO_15.out (of_eq_true (by assumption)) (fun _ hk => hk.2.2.2)) | (dsimp only; exact Kd.V_own_int HO_15.out (of_eq_true (by assumption)) (fun _ hk => hk.2.2.2))) _).trans (((cell_far (p := ⟨gb209, _, none⟩) (by first | exact Kd.V_own_int HO_15.out (of_eq_true (by assumption)) (fun _ hk => hk.2.2.2) | (rw [add_block]; exact Kd.V_own_int HO_15.out (of_eq_true (by assumption)) (fun _ hk => hk.2.2.2)) | (show (Addr.add _ _).block ≠ _; rw [add_block]; exact Kd.V_own_int HO_15.out (of_eq_true (by assumption)) (fun _ hk => hk.2.2.2)) | (dsimp only; exact Kd.V_own_int HO_15.out (of_eq_true (by assumption)) (fun _ hk => hk.2.2.2))) _).trans (((cell_far (p := ⟨gb209, _, none⟩) (by first | exact Kd.V_own_int HO_15.out (of_eq_true (by assumption)) (fun _ hk => hk.2.2.2) | (rw [add_block]; exact Kd.V_own_int HO_15.out (of_eq_true (by assumption)) (fun _ hk => hk.2.2.2)) | (show (Addr.add _ _).block ≠ _; rw [add_block]; exact Kd.V_own_int HO_15.out (of_eq_true (by assumption)) (fun _ hk => hk.2.2.2)) | (dsimp only; exact Kd.V_own_int HO_15.out (of_eq_true (by assumption)) (fun _ hk => hk.2.2.2))) _).trans (((cell_far (p := ⟨gb209, _, none⟩) (by first | exact Kd.V_own_int HO_15.out (of_eq_true (by assumption)) (fun _ hk => hk.2.2.2) | (rw [add_block]; exact Kd.V_own_int HO_15.out (of_eq_true (by assumption)) (fun _ hk => hk.2.2.2)) | (show (Addr.add _ _).block ≠ _; rw [add_block]; exact Kd.V_own_int HO_15.out (of_eq_true (by assumption)) (fun _ hk => hk.2.2.2)) | (dsimp only; exact Kd.V_own_int HO_15.out (of_eq_true (by assumption)) (fun _ hk => hk.2.2.2))) _).trans (((cell_far (p := ⟨gb209, _, none⟩) (by first | exact Kd.V_own_int HO_15.out (of_eq_true (by assumption)) (fun _ hk => hk.2.2.2) | (rw [add_block]; exact Kd.V_own_int HO_15.out (of_eq_true (by assumption)) (fun _ hk => hk.2.2.2)) | (show (Addr.add _ _).block ≠ _; rw [add_block]; exact Kd.V_own_int HO_15.out (of_eq_true (by assumption)) (fun _ hk => hk.2.2.2)) | (dsimp only; exact Kd.V_own_int HO_15.out (of_eq_true (by assumption)) (fun _ hk => hk.2.2.2))) _).trans (((cell_far (p := ⟨gb209, _, none⟩) (by first | exact Kd.V_own_int HO_15.out (of_eq_true (by assumption)) (fun _ hk => hk.2.2.2) | (rw [add_block]; exact Kd.V_own_int HO_15.out (of_eq_true (by assumption)) (fun _ hk => hk.2.2.2)) | (show (Addr.add _ _).block ≠ _; rw [add_block]; exact Kd.V_own_int HO_15.out (of_eq_true (by assumption)) (fun _ hk => hk.2.2.2)) | (dsimp only; exact Kd.V_own_int HO_15.out (of_eq_true (by assumption)) (fun _ hk => hk.2.2.2))) _).trans (hHeld.2.1)))))))))))))), ((cell_far (p := ⟨gb209, _, none⟩) (by first | exact Kd.V_own_int HO_15.out (of_eq_true (by assumption)) (fun _ hk => hk.2.2.2) | (rw [add_block]; exact Kd.V_own_int HO_15.out (of_eq_true (by assumption)) (fun _ hk => hk.2.2.2)) | (show (Addr.add _ _).block ≠ _; rw [add_block]; exact Kd.V_own_int HO_15.out (of_eq_true (by assumption)) (fun _ hk => hk.2.2.2)) | (dsimp only; exact Kd.V_own_int HO_15.out (of_eq_true (by assumption)) (fun _ hk => hk.2.2.2))) _).trans (((cell_far (p := ⟨gb209, _, none⟩) (by first | exact Kd.V_own_int HO_15.out (of_eq_true (by assumption)) (fun _ hk => hk.2.2.2) | (rw [add_block]; exact Kd.V_own_int HO_15.out (of_eq_true (by assumption)) (fun _ hk => hk.2.2.2)) | (show (Addr.add _ _).block ≠ _; rw [add_block]; exact Kd.V_own_int HO_15.out (of_eq_true (by assumption)) (fun _ hk => hk.2.2.2)) | (dsimp only; exact Kd.V_own_int HO_15.out (of_eq_true (by assumption)) (fun _ hk => hk.2.2.2))) _).trans (((cell_far (p := ⟨gb209, _, none⟩) (by first | exact Kd.V_own_int HO_15.out (of_eq_true (by assumption)) (fun _ hk => hk.2.2.2) | (rw [add_block]; exact Kd.V_own_int HO_15.out (of_eq_true (by assumption)) (fun _ hk => hk.2.2.2)) | (show (Addr.add _ _).block ≠ _; rw [add_block]; exact Kd.V_own_int HO_15.out (of_eq_true (by assumption)) (fun _ hk => hk.2.2.2)) | (dsimp only; exact Kd.V_own_int HO_15.out (of_eq_true (by assumption)) (fun _ hk => hk.2.2.2))) _).trans (((cell_far (p := ⟨gb209, _, none⟩) (by first | exact Kd.V_own_int HO_15.out (of_eq_true (by assumption)) (fun _ hk => hk.2.2.2) | (rw [add_block]; exact Kd.V_own_int HO_15.out (of_eq_true (by assumption)) (fun _ hk => hk.2.2.2)) | (show (Addr.add _ _).block ≠ _; rw [add_block]; exact Kd.V_own_int HO_15.out (of_eq_true (by assumption)) (fun _ hk => hk.2.2.2)) | (dsimp only; exact Kd.V_own_int HO_15.out (of_eq_true (by assumption)) (fun _ hk => hk.2.2.2))) _).trans (((cell_far (p := ⟨gb209, _, none⟩) (by first | exact Kd.V_own_int HO_15.out (of_eq_true (by assumption)) (fun _ hk => hk.2.2.2) | (rw [add_block]; exact Kd.V_own_int HO_15.out (of_eq_true (by assumption)) (fun _ hk => hk.2.2.2)) | (show (Addr.add _ _).block ≠ _; rw [add_block]; exact Kd.V_own_int HO_15.out (of_eq_true (by assumption)) (fun _ hk => hk.2.2.2)) | (dsimp only; exact Kd.V_own_int HO_15.out (of_eq_true (by assumption)) (fun _ hk => hk.2.2.2))) _).trans (((cell_far (p := ⟨gb209, _, none⟩) (by first | exact Kd.V_own_int HO_15.out (of_eq_true (by assumption)) (fun _ hk => hk.2.2.2) | (rw [add_block]; exact Kd.V_own_int HO_15.out (of_eq_true (by assumption)) (fun _ hk => hk.2.2.2)) | (show (Addr.add _ _).block ≠ _; rw [add_block]; exact Kd.V_own_int HO_15.out (of_eq_true (by assumption)) (fun _ hk => hk.2.2.2)) | (dsimp only; exact Kd.V_own_int HO_15.out (of_eq_true (by assumption)) (fun _ hk => hk.2.2.2))) _).trans (((cell_far (p := ⟨gb209, _, none⟩) (by first | exact Kd.V_own_int HO_15.out (of_eq_true (by assumption)) (fun _ hk => hk.2.2.2) | (rw [add_block]; exact Kd.V_own_int HO_15.out (of_eq_true (by assumption)) (fun _ hk => hk.2.2.2)) | (show (Addr.add _ _).block ≠ _; rw [add_block]; exact Kd.V_own_int HO_15.out (of_eq_true (by assumption)) (fun _ hk => hk.2.2.2)) | (dsimp only; exact Kd.V_own_int HO_15.out (of_eq_true (by assumption)) (fun _ hk => hk.2.2.2))) _).trans (hHeld.2.2))))))))))))))⟩ (fun hHeld => ?_)
                      clear hK K
                      refine done_ (done_of HT_.out (by kernel_rfl)) ?_
                      go_upto_region 22 with (fail)
                      have H := HC52.out
                      clear HC52
                      by_cases c68 : (wrap64 ((rd y170 4) / 16)) > 2
                      ·rw [if_pos c68] at H
                       have c68b0 : decide (2 < (wrap64 ((rd y170 4) / 16))) = true := decide_eq_true c68
                       clear c68
                       (first | rw [c68b0] | (simp only [i64_w, i32_w]; rw [c68b0]) | skip)
                       simp only [Option.some.injEq, Prod.mk.injEq] at H
                       obtain ⟨rfl, rfl⟩ := H
                       have hnb69 := NB209_158.out
                       have hnc69 := NB158_209.out
                       have hnb70 := NB209_159.out
                       have hnc70 := NB159_209.out
                       have hcz71_0 : w60.cell? ⟨gb209, 0, none⟩ = some (.string (⟨#[]⟩ : ByteArray)) := (blk_cell BK209.out 0).trans rfl
                       have hcz71_1 : w60.cell? ⟨gb209, 1, none⟩ = some (.int .i64 0) := (blk_cell BK209.out 1).trans rfl
                       have hcz71_2 : w60.cell? ⟨gb209, 2, none⟩ = some (.int .i64 0) := (blk_cell BK209.out 2).trans rfl
                       have hcz71_3 : w60.cell? ⟨gb209, 3, none⟩ = some (.int .i64 0) := (blk_cell BK209.out 3).trans rfl
                       have hcz71_4 : w60.cell? ⟨gb209, 4, none⟩ = some (.int .i64 0) := (blk_cell BK209.out 4).trans rfl
                       have hcz71_5 : w60.cell? ⟨gb209, 5, none⟩ = some (.int .u64 0) := (blk_cell BK209.out 5).trans rfl
                       have hcz71_6 : w60.cell? ⟨gb209, 6, none⟩ = some (.int .u64 0) := (blk_cell BK209.out 6).trans rfl
                       have hfz71_0 := blk_frozen BK209.out 0
                       have hfz71_1 := blk_frozen BK209.out 1
                       have hfz71_2 := blk_frozen BK209.out 2
                       have hfz71_3 := blk_frozen BK209.out 3
                       have hfz71_4 := blk_frozen BK209.out 4
                       have hfz71_5 := blk_frozen BK209.out 5
                       have hfz71_6 := blk_frozen BK209.out 6
                       go_wp2
                       go_ret2
                       exact ⟨_, by first | rfl | (simp [errW_none, errW_some] <;> rfl) | (simp only [← hji24]; first | rfl | (simp [errW_none, errW_some] <;> rfl)) | (simp [*, errW_none, errW_some] <;> rfl), by first | exact Kd.R_nil _ _ _ _ _ | exact Kd.N_nil _ _ _ _ _ | exact Kd.V_nil _ _ _ _ _ | exact Kd.Q_nil _ _ _ _ _ | exact Kd.S_nil _ _ _ _ _, by repeat (first | (with_reducible first | exact HB.out | apply below_alloc | apply pw_below_drewN | apply below_drew1 | refine below_set ?_ GE158.out | refine below_set ?_ GE159.out | refine below_set ?_ GE209.out) | exact HB.out)⟩
                      ·rw [if_neg c68] at H
                       have c68b0 : decide (2 < (wrap64 ((rd y170 4) / 16))) = false := decide_eq_false c68
                       clear c68
                       (first | rw [c68b0] | (simp only [i64_w, i32_w]; rw [c68b0]) | skip)
                       by_cases c72 : (wrap64 (Go.bits .and .u8 (rd y170 4) 15)) > 6
                       ·rw [if_pos c72] at H
                        have c72b0 : decide (6 < (wrap64 (Go.bits .and .u8 (rd y170 4) 15))) = true := decide_eq_true c72
                        clear c72
                        by_cases c73 : (wrap64 (Go.bits .and .u8 (rd y170 4) 15)) = 10
                        ·rw [if_pos c73] at H
                         have c73b0 : ((wrap64 (Go.bits .and .u8 (rd y170 4) 15)) == 10) = true := beq_iff_eq.mpr c73
                         have c73b1 : ((wrap64 (Go.bits .and .u8 (rd y170 4) 15)) != 10) = false := bne_eq_false_iff_eq.mpr c73
                         clear c73
                         by_cases c74 : (wrap64 (Go.bits .and .u8 (rd y170 4) 15)) = 5
                         ·rw [if_pos c74] at H
                          have c74b0 : ((wrap64 (Go.bits .and .u8 (rd y170 4) 15)) == 5) = true := beq_iff_eq.mpr c74
                          have c74b1 : ((wrap64 (Go.bits .and .u8 (rd y170 4) 15)) != 5) = false := bne_eq_false_iff_eq.mpr c74
                          clear c74
                          simp only [Option.some.injEq, Prod.mk.injEq] at H
                          obtain ⟨rfl, rfl⟩ := H
                          have hnb75 := NB209_158.out
                          have hnc75 := NB158_209.out
                          have hnb76 := NB209_159.out
                          have hnc76 := NB159_209.out
                          have hcz77_0 : w60.cell? ⟨gb209, 0, none⟩ = some (.string (⟨#[]⟩ : ByteArray)) := (blk_cell BK209.out 0).trans rfl
                          have hcz77_1 : w60.cell? ⟨gb209, 1, none⟩ = some (.int .i64 0) := (blk_cell BK209.out 1).trans rfl
                          have hcz77_2 : w60.cell? ⟨gb209, 2, none⟩ = some (.int .i64 0) := (blk_cell BK209.out 2).trans rfl
                          have hcz77_3 : w60.cell? ⟨gb209, 3, none⟩ = some (.int .i64 0) := (blk_cell BK209.out 3).trans rfl
                          have hcz77_4 : w60.cell? ⟨gb209, 4, none⟩ = some (.int .i64 0) := (blk_cell BK209.out 4).trans rfl
                          have hcz77_5 : w60.cell? ⟨gb209, 5, none⟩ = some (.int .u64 0) := (blk_cell BK209.out 5).trans rfl
                          have hcz77_6 : w60.cell? ⟨gb209, 6, none⟩ = some (.int .u64 0) := (blk_cell BK209.out 6).trans rfl
                          have hfz77_0 := blk_frozen BK209.out 0
                          have hfz77_1 := blk_frozen BK209.out 1
                          have hfz77_2 := blk_frozen BK209.out 2
                          have hfz77_3 := blk_frozen BK209.out 3
                          have hfz77_4 := blk_frozen BK209.out 4
                          have hfz77_5 := blk_frozen BK209.out 5
                          have hfz77_6 := blk_frozen BK209.out 6
                          go_wp2
                          go_ret2
                          exact ⟨_, by first | rfl | (simp [errW_none, errW_some] <;> rfl) | (simp only [← hji24]; first | rfl | (simp [errW_none, errW_some] <;> rfl)) | (simp [*, errW_none, errW_some] <;> rfl), by first | exact Kd.R_nil _ _ _ _ _ | exact Kd.N_nil _ _ _ _ _ | exact Kd.V_nil _ _ _ _ _ | exact Kd.Q_nil _ _ _ _ _ | exact Kd.S_nil _ _ _ _ _, by repeat (first | (with_reducible first | exact HB.out | apply below_alloc | apply pw_below_drewN | apply below_drew1 | refine below_set ?_ GE158.out | refine below_set ?_ GE159.out | refine below_set ?_ GE209.out) | exact HB.out)⟩
                         ·rw [if_neg c74] at H
                          have c74b0 : ((wrap64 (Go.bits .and .u8 (rd y170 4) 15)) == 5) = false := beq_eq_false_iff_ne.mpr c74
                          have c74b1 : ((wrap64 (Go.bits .and .u8 (rd y170 4) 15)) != 5) = true := bne_iff_ne.mpr c74
                          by_cases c78 : x13_1.length < 2199023255552
                          ·rw [if_pos c78] at H
                           have LMc78 := Aside0.mk c78
                           clear c78
                           obtain ⟨y210, hy210⟩ : ∃ y_ : List (S68), y_ = (x13_1 ++ [(⟨t185, wrap64 ((rd y170 4) / 16), wrap64 (Go.bits .and .u8 (rd y170 4) 15), wrap64 (Go.bits .and .u8 (rd y170 5) 3), wrap64 (t196), t202, t208⟩ : S68)]) := ⟨_, rfl⟩
                           replace H : (syms_Read.l0 kj27 t160 t165 y210 a3 (wrap64 (x52_1 + 1))) = some (r1, r2) := by first | (rw [hy210]; with_reducible exact H) | (have H2_ := (Option.bind_some _ _).symm.trans H; rw [hy210]; with_reducible exact H2_) | (have H2_ := (Option.bind_some _ _).symm.trans H; with_reducible exact H2_) | with_reducible exact H | (rw [hy210]; exact H) | exact H
                           have Ny210 := Aside0.mk hy210
                           clear hy210
                           have H' := Aside0.mk H
                           clear H
                           have hnb79 := NB209_158.out
                           have hnc79 := NB158_209.out
                           have hnb80 := NB209_159.out
                           have hnc80 := NB159_209.out
                           have hcz81_0 : w60.cell? ⟨gb209, 0, none⟩ = some (.string (⟨#[]⟩ : ByteArray)) := (blk_cell BK209.out 0).trans rfl
                           have hcz81_1 : w60.cell? ⟨gb209, 1, none⟩ = some (.int .i64 0) := (blk_cell BK209.out 1).trans rfl
                           have hcz81_2 : w60.cell? ⟨gb209, 2, none⟩ = some (.int .i64 0) := (blk_cell BK209.out 2).trans rfl
                           have hcz81_3 : w60.cell? ⟨gb209, 3, none⟩ = some (.int .i64 0) := (blk_cell BK209.out 3).trans rfl
                           have hcz81_4 : w60.cell? ⟨gb209, 4, none⟩ = some (.int .i64 0) := (blk_cell BK209.out 4).trans rfl
                           have hcz81_5 : w60.cell? ⟨gb209, 5, none⟩ = some (.int .u64 0) := (blk_cell BK209.out 5).trans rfl
                           have hcz81_6 : w60.cell? ⟨gb209, 6, none⟩ = some (.int .u64 0) := (blk_cell BK209.out 6).trans rfl
                           have hfz81_0 := blk_frozen BK209.out 0
                           have hfz81_1 := blk_frozen BK209.out 1
                           have hfz81_2 := blk_frozen BK209.out 2
                           have hfz81_3 := blk_frozen BK209.out 3
                           have hfz81_4 := blk_frozen BK209.out 4
                           have hfz81_5 := blk_frozen BK209.out 5
                           have hfz81_6 := blk_frozen BK209.out 6
                           go_wp2_with (first | ((with_reducible refine gate_ (.load 55 (.tmp 6)) rfl ?_); refine wpList_load_row rfl 55 (.tmp 6) rfl gb159 rfl 55 _ (0, 0) _ (by (with_reducible repeat (first | refine blk_drewN ?_ _ | refine blk_drew ?_ | refine blk_alloc ?_ _)); exact BK159.out) Try.underlying55 rfl (by kernel_rfl) ?_) | ((with_reducible refine gate_builtin (b := .append) (xs := #[.tmp 128, .tmp 130]) rfl ?_); (try (refine gate_guard (by rfl) ?_; dsimp only)); at_builtin; refine Kd.R_append k68 (w0 := w) w.heap.size rfl (.tmp 128) (.tmp 130) 60 68 (.agg #[(.string ⟨#[]⟩), (.int .i64 0), (.int .i64 0), (.int .i64 0), (.int .i64 0), (.int .u64 0), (.int .u64 0)]) 64 rfl Try.underlying60 info68 rfl (by decide) (by omega) u13 x13_1 (⟨t185, wrap64 ((rd y170 4) / 16), wrap64 (Go.bits .and .u8 (rd y170 4) 15), wrap64 (Go.bits .and .u8 (rd y170 5) 3), wrap64 (t196), t202, t208⟩ : S68) [.string t185, .int .i64 (wrap64 ((rd y170 4) / 16)), .int .i64 (wrap64 (Go.bits .and .u8 (rd y170 4) 15)), .int .i64 (wrap64 (Go.bits .and .u8 (rd y170 5) 3)), .int .i64 (wrap64 (t196)), .int .u64 t202, .int .u64 t208] (fun k_ => k_ ≠ gb209) (fun _ => False) rfl (by first | (go_simp; done) | (go_simp; rfl)) ?aP (fun _ hk => hk.elim) ?aF ?aO ?aB ?aS ?aL ?_; (case aP => exact k68_mkM _ _ _ (⟨t185, wrap64 ((rd y170 4) / 16), wrap64 (Go.bits .and .u8 (rd y170 4) 15), wrap64 (Go.bits .and .u8 (rd y170 5) 3), wrap64 (t196), t202, t208⟩ : S68)); (case aB => exact (by repeat (first | (with_reducible first | exact HB.out | apply below_alloc | apply pw_below_drewN | apply below_drew1 | refine below_set ?_ GE158.out | refine below_set ?_ GE159.out | refine below_set ?_ GE209.out) | exact HB.out))); (case aF => exact (fun k_ hk => Kd.freshB (g := gb209) (o := .cells #[.string t185, .int .i64 (wrap64 ((rd y170 4) / 16)), .int .i64 (wrap64 (Go.bits .and .u8 (rd y170 4) 15)), .int .i64 (wrap64 (Go.bits .and .u8 (rd y170 5) 3)), .int .i64 (wrap64 (t196)), .int .u64 t202, .int .u64 t208] 68 (0, 0)) (by (with_reducible repeat (first | refine blk_drewN ?_ _ | refine blk_drew ?_ | refine blk_alloc ?_ _)); refine blk_put (cs := #[.string t185, .int .i64 (wrap64 ((rd y170 4) / 16)), .int .i64 (wrap64 (Go.bits .and .u8 (rd y170 4) 15)), .int .i64 (wrap64 (Go.bits .and .u8 (rd y170 5) 3)), .int .i64 (wrap64 (t196)), .int .u64 t202, .int .u64 0]) ?_ 6 _ rfl; (with_reducible repeat (first | refine blk_drewN ?_ _ | refine blk_drew ?_ | refine blk_alloc ?_ _)); refine blk_put (cs := #[.string t185, .int .i64 (wrap64 ((rd y170 4) / 16)), .int .i64 (wrap64 (Go.bits .and .u8 (rd y170 4) 15)), .int .i64 (wrap64 (Go.bits .and .u8 (rd y170 5) 3)), .int .i64 (wrap64 (t196)), .int .u64 0, .int .u64 0]) ?_ 5 _ rfl; (with_reducible repeat (first | refine blk_drewN ?_ _ | refine blk_drew ?_ | refine blk_alloc ?_ _)); refine blk_put (cs := #[.string t185, .int .i64 (wrap64 ((rd y170 4) / 16)), .int .i64 (wrap64 (Go.bits .and .u8 (rd y170 4) 15)), .int .i64 (wrap64 (Go.bits .and .u8 (rd y170 5) 3)), .int .i64 0, .int .u64 0, .int .u64 0]) ?_ 4 _ rfl; (with_reducible repeat (first | refine blk_drewN ?_ _ | refine blk_drew ?_ | refine blk_alloc ?_ _)); refine blk_put (cs := #[.string t185, .int .i64 (wrap64 ((rd y170 4) / 16)), .int .i64 (wrap64 (Go.bits .and .u8 (rd y170 4) 15)), .int .i64 0, .int .i64 0, .int .u64 0, .int .u64 0]) ?_ 3 _ rfl; (with_reducible repeat (first | refine blk_drewN ?_ _ | refine blk_drew ?_ | refine blk_alloc ?_ _)); refine blk_put (cs := #[.string t185, .int .i64 (wrap64 ((rd y170 4) / 16)), .int .i64 0, .int .i64 0, .int .i64 0, .int .u64 0, .int .u64 0]) ?_ 2 _ rfl; (with_reducible repeat (first | refine blk_drewN ?_ _ | refine blk_drew ?_ | refine blk_alloc ?_ _)); refine blk_put (cs := #[.string t185, .int .i64 0, .int .i64 0, .int .i64 0, .int .i64 0, .int .u64 0, .int .u64 0]) ?_ 1 _ rfl; (with_reducible repeat (first | refine blk_drewN ?_ _ | refine blk_drew ?_ | refine blk_alloc ?_ _)); refine blk_put (cs := #[.string (⟨#[]⟩ : ByteArray), .int .i64 0, .int .i64 0, .int .i64 0, .int .i64 0, .int .u64 0, .int .u64 0]) ?_ 0 _ rfl; (with_reducible repeat (first | refine blk_drewN ?_ _ | refine blk_drew ?_ | refine blk_alloc ?_ _)); exact BK209.out) k_ hk)); (case aO => exact (by (with_reducible repeat (first | apply Kd.R_alloc | apply Kd.R_drewN | apply Kd.R_drew)); exact Kd.R_mono (Kd.R_far (p := ⟨gb209, 6, none⟩) (Kd.R_far (p := ⟨gb209, 5, none⟩) (Kd.R_far (p := ⟨gb209, 4, none⟩) (Kd.R_far (p := ⟨gb209, 3, none⟩) (Kd.R_far (p := ⟨gb209, 2, none⟩) (Kd.R_far (p := ⟨gb209, 1, none⟩) (Kd.R_far (p := ⟨gb209, 0, none⟩) (Kd.R_mono HO_13.out (fun k_ hk => (⟨hk, hk⟩ : _ ∧ k_ ≠ gb209))) (fun _ hk => hk.2) (.string t185)) (fun _ hk => hk.2) (.int .i64 (wrap64 ((rd y170 4) / 16)))) (fun _ hk => hk.2) (.int .i64 (wrap64 (Go.bits .and .u8 (rd y170 4) 15)))) (fun _ hk => hk.2) (.int .i64 (wrap64 (Go.bits .and .u8 (rd y170 5) 3)))) (fun _ hk => hk.2) (.int .i64 (wrap64 (t196)))) (fun _ hk => hk.2) (.int .u64 t202)) (fun _ hk => hk.2) (.int .u64 t208)) (fun _ hk => hk.1))); (case aS => exact (below_size (by repeat (first | (with_reducible first | exact HB.out | apply below_alloc | apply pw_below_drewN | apply below_drew1 | refine below_set ?_ GE158.out | refine below_set ?_ GE159.out | refine below_set ?_ GE209.out) | exact HB.out)))); (case aL => have := LMc78.out; omega); intro v211 w82 ho hb hg hat; rw [← Ny210.out] at ho; have n0_ := Aside0.mk (Kd.V_afterv (ok := (fun k_ => k_ ≠ gb158 ∧ k_ ≠ gb159 ∧ k_ ≠ gb209)) (by (with_reducible repeat (first | apply Kd.V_alloc | apply Kd.V_drewN | apply Kd.V_drew)); exact Kd.V_mono (Kd.V_far (p := ⟨gb209, 6, none⟩) (Kd.V_far (p := ⟨gb209, 5, none⟩) (Kd.V_far (p := ⟨gb209, 4, none⟩) (Kd.V_far (p := ⟨gb209, 3, none⟩) (Kd.V_far (p := ⟨gb209, 2, none⟩) (Kd.V_far (p := ⟨gb209, 1, none⟩) (Kd.V_far (p := ⟨gb209, 0, none⟩) (Kd.V_mono HO_10.out (fun k_ hk => (⟨hk, hk.2.2.2⟩ : _ ∧ k_ ≠ gb209))) (fun _ hk => hk.2) (.string t185)) (fun _ hk => hk.2) (.int .i64 (wrap64 ((rd y170 4) / 16)))) (fun _ hk => hk.2) (.int .i64 (wrap64 (Go.bits .and .u8 (rd y170 4) 15)))) (fun _ hk => hk.2) (.int .i64 (wrap64 (Go.bits .and .u8 (rd y170 5) 3)))) (fun _ hk => hk.2) (.int .i64 (wrap64 (t196)))) (fun _ hk => hk.2) (.int .u64 t202)) (fun _ hk => hk.2) (.int .u64 t208)) (fun _ hk => ⟨⟨hk.1.2.1, ⟨hk.1.2.2.1, hk.1.2.2.2⟩⟩, hk.1.1⟩)) hg hat); have n1_ := Aside0.mk (Kd.V_afterv (ok := (fun k_ => k_ ≠ gb158 ∧ k_ ≠ gb159 ∧ k_ ≠ gb209)) (by (with_reducible repeat (first | apply Kd.V_alloc | apply Kd.V_drewN | apply Kd.V_drew)); exact Kd.V_mono (Kd.V_far (p := ⟨gb209, 6, none⟩) (Kd.V_far (p := ⟨gb209, 5, none⟩) (Kd.V_far (p := ⟨gb209, 4, none⟩) (Kd.V_far (p := ⟨gb209, 3, none⟩) (Kd.V_far (p := ⟨gb209, 2, none⟩) (Kd.V_far (p := ⟨gb209, 1, none⟩) (Kd.V_far (p := ⟨gb209, 0, none⟩) (Kd.V_mono HO_12.out (fun k_ hk => (⟨hk, hk.2.2.2⟩ : _ ∧ k_ ≠ gb209))) (fun _ hk => hk.2) (.string t185)) (fun _ hk => hk.2) (.int .i64 (wrap64 ((rd y170 4) / 16)))) (fun _ hk => hk.2) (.int .i64 (wrap64 (Go.bits .and .u8 (rd y170 4) 15)))) (fun _ hk => hk.2) (.int .i64 (wrap64 (Go.bits .and .u8 (rd y170 5) 3)))) (fun _ hk => hk.2) (.int .i64 (wrap64 (t196)))) (fun _ hk => hk.2) (.int .u64 t202)) (fun _ hk => hk.2) (.int .u64 t208)) (fun _ hk => ⟨⟨hk.1.2.1, ⟨hk.1.2.2.1, hk.1.2.2.2⟩⟩, hk.1.1⟩)) hg hat); have n2_ := Aside0.mk (Kd.V_afterv (ok := (fun k_ => k_ ≠ gb158 ∧ k_ ≠ gb159 ∧ k_ ≠ gb209)) (by (with_reducible repeat (first | apply Kd.V_alloc | apply Kd.V_drewN | apply Kd.V_drew)); exact Kd.V_mono (Kd.V_far (p := ⟨gb209, 6, none⟩) (Kd.V_far (p := ⟨gb209, 5, none⟩) (Kd.V_far (p := ⟨gb209, 4, none⟩) (Kd.V_far (p := ⟨gb209, 3, none⟩) (Kd.V_far (p := ⟨gb209, 2, none⟩) (Kd.V_far (p := ⟨gb209, 1, none⟩) (Kd.V_far (p := ⟨gb209, 0, none⟩) (Kd.V_mono HO_15.out (fun k_ hk => (⟨hk, hk.2.2.2⟩ : _ ∧ k_ ≠ gb209))) (fun _ hk => hk.2) (.string t185)) (fun _ hk => hk.2) (.int .i64 (wrap64 ((rd y170 4) / 16)))) (fun _ hk => hk.2) (.int .i64 (wrap64 (Go.bits .and .u8 (rd y170 4) 15)))) (fun _ hk => hk.2) (.int .i64 (wrap64 (Go.bits .and .u8 (rd y170 5) 3)))) (fun _ hk => hk.2) (.int .i64 (wrap64 (t196)))) (fun _ hk => hk.2) (.int .u64 t202)) (fun _ hk => hk.2) (.int .u64 t208)) (fun _ hk => ⟨⟨hk.1.2.1, ⟨hk.1.2.2.1, hk.1.2.2.2⟩⟩, hk.1.1⟩)) hg hat); have n3_ := Aside0.mk (blk_grown (g := gb158) (o := .cells #[.int .i64 a1_0, .int .u64 a1_1, .slice A1_2 l1_2.length c1_2] 53 (0, 0)) (by (with_reducible repeat (first | refine blk_drewN ?_ _ | refine blk_drew ?_ | refine blk_alloc ?_ _)); refine blk_far ?_ NB158_209.out _; (with_reducible repeat (first | refine blk_drewN ?_ _ | refine blk_drew ?_ | refine blk_alloc ?_ _)); refine blk_far ?_ NB158_209.out _; (with_reducible repeat (first | refine blk_drewN ?_ _ | refine blk_drew ?_ | refine blk_alloc ?_ _)); refine blk_far ?_ NB158_209.out _; (with_reducible repeat (first | refine blk_drewN ?_ _ | refine blk_drew ?_ | refine blk_alloc ?_ _)); refine blk_far ?_ NB158_209.out _; (with_reducible repeat (first | refine blk_drewN ?_ _ | refine blk_drew ?_ | refine blk_alloc ?_ _)); refine blk_far ?_ NB158_209.out _; (with_reducible repeat (first | refine blk_drewN ?_ _ | refine blk_drew ?_ | refine blk_alloc ?_ _)); refine blk_far ?_ NB158_209.out _; (with_reducible repeat (first | refine blk_drewN ?_ _ | refine blk_drew ?_ | refine blk_alloc ?_ _)); refine blk_far ?_ NB158_209.out _; (with_reducible repeat (first | refine blk_drewN ?_ _ | refine blk_drew ?_ | refine blk_alloc ?_ _)); exact BK158.out) hg (Kd.R_ne HO_13.out BK158.out (by decide))); have n4_ := Aside0.mk (blk_grown (g := gb159) (o := .cells #[.slice A2_0 l2_0.length c2_0, .int .u64 a2_1, .int .u64 a2_2, .int .u64 a2_3, .int .u64 a2_4, .int .u64 a2_5, .int .u64 a2_6, .int .u64 a2_7, .int .u64 a2_8, .int .u64 a2_9, .int .u64 a2_10, .int .u64 a2_11, .int .u64 a2_12, .int .u64 a2_13, .bool a2_14, .bool a2_15, .bool a2_16, .int .u64 a2_17, .int .u64 a2_18, .int .u64 a2_19, .int .u64 a2_20, .int .u64 a2_21, .int .u64 a2_22, .int .u64 a2_23, .int .u64 a2_24, .int .u64 a2_25, .int .u64 a2_26, .int .u64 a2_27, .int .u64 a2_28, .int .u64 a2_29, .int .u64 a2_30, .int .u64 a2_31, .bool a2_32, .bool a2_33, .bool a2_34, .bool a2_35, .bool a2_36] 55 (0, 0)) (by (with_reducible repeat (first | refine blk_drewN ?_ _ | refine blk_drew ?_ | refine blk_alloc ?_ _)); refine blk_far ?_ NB159_209.out _; (with_reducible repeat (first | refine blk_drewN ?_ _ | refine blk_drew ?_ | refine blk_alloc ?_ _)); refine blk_far ?_ NB159_209.out _; (with_reducible repeat (first | refine blk_drewN ?_ _ | refine blk_drew ?_ | refine blk_alloc ?_ _)); refine blk_far ?_ NB159_209.out _; (with_reducible repeat (first | refine blk_drewN ?_ _ | refine blk_drew ?_ | refine blk_alloc ?_ _)); refine blk_far ?_ NB159_209.out _; (with_reducible repeat (first | refine blk_drewN ?_ _ | refine blk_drew ?_ | refine blk_alloc ?_ _)); refine blk_far ?_ NB159_209.out _; (with_reducible repeat (first | refine blk_drewN ?_ _ | refine blk_drew ?_ | refine blk_alloc ?_ _)); refine blk_far ?_ NB159_209.out _; (with_reducible repeat (first | refine blk_drewN ?_ _ | refine blk_drew ?_ | refine blk_alloc ?_ _)); refine blk_far ?_ NB159_209.out _; (with_reducible repeat (first | refine blk_drewN ?_ _ | refine blk_drew ?_ | refine blk_alloc ?_ _)); exact BK159.out) hg (Kd.R_ne HO_13.out BK159.out (by decide))); have n5_ := Aside0.mk (Kd.V_afterv (ok := (fun k_ => k_ ≠ gb158 ∧ k_ ≠ gb159 ∧ k_ ≠ gb209)) (by (with_reducible repeat (first | apply Kd.V_alloc | apply Kd.V_drewN | apply Kd.V_drew)); exact Kd.V_mono (Kd.V_far (p := ⟨gb209, 6, none⟩) (Kd.V_far (p := ⟨gb209, 5, none⟩) (Kd.V_far (p := ⟨gb209, 4, none⟩) (Kd.V_far (p := ⟨gb209, 3, none⟩) (Kd.V_far (p := ⟨gb209, 2, none⟩) (Kd.V_far (p := ⟨gb209, 1, none⟩) (Kd.V_far (p := ⟨gb209, 0, none⟩) (Kd.V_mono HO183.out (fun k_ hk => (⟨hk, hk.2.2.2⟩ : _ ∧ k_ ≠ gb209))) (fun _ hk => hk.2) (.string t185)) (fun _ hk => hk.2) (.int .i64 (wrap64 ((rd y170 4) / 16)))) (fun _ hk => hk.2) (.int .i64 (wrap64 (Go.bits .and .u8 (rd y170 4) 15)))) (fun _ hk => hk.2) (.int .i64 (wrap64 (Go.bits .and .u8 (rd y170 5) 3)))) (fun _ hk => hk.2) (.int .i64 (wrap64 (t196)))) (fun _ hk => hk.2) (.int .u64 t202)) (fun _ hk => hk.2) (.int .u64 t208)) (fun _ hk => ⟨⟨hk.1.2.1, ⟨hk.1.2.2.1, hk.1.2.2.2⟩⟩, hk.1.1⟩)) hg hat); have n6_ := Aside0.mk (Kd.V_afterv (ok := (fun k_ => k_ ≠ gb158 ∧ k_ ≠ gb159 ∧ k_ ≠ gb209)) (by (with_reducible repeat (first | apply Kd.V_alloc | apply Kd.V_drewN | apply Kd.V_drew)); exact Kd.V_mono (Kd.V_far (p := ⟨gb209, 6, none⟩) (Kd.V_far (p := ⟨gb209, 5, none⟩) (Kd.V_far (p := ⟨gb209, 4, none⟩) (Kd.V_far (p := ⟨gb209, 3, none⟩) (Kd.V_far (p := ⟨gb209, 2, none⟩) (Kd.V_far (p := ⟨gb209, 1, none⟩) (Kd.V_far (p := ⟨gb209, 0, none⟩) (Kd.V_mono HO195.out (fun k_ hk => (⟨hk, hk.2.2.2⟩ : _ ∧ k_ ≠ gb209))) (fun _ hk => hk.2) (.string t185)) (fun _ hk => hk.2) (.int .i64 (wrap64 ((rd y170 4) / 16)))) (fun _ hk => hk.2) (.int .i64 (wrap64 (Go.bits .and .u8 (rd y170 4) 15)))) (fun _ hk => hk.2) (.int .i64 (wrap64 (Go.bits .and .u8 (rd y170 5) 3)))) (fun _ hk => hk.2) (.int .i64 (wrap64 (t196)))) (fun _ hk => hk.2) (.int .u64 t202)) (fun _ hk => hk.2) (.int .u64 t208)) (fun _ hk => ⟨⟨hk.1.2.1, ⟨hk.1.2.2.1, hk.1.2.2.2⟩⟩, hk.1.1⟩)) hg hat); have n7_ := Aside0.mk (Kd.V_afterv (ok := (fun k_ => k_ ≠ gb158 ∧ k_ ≠ gb159 ∧ k_ ≠ gb209)) (by (with_reducible repeat (first | apply Kd.V_alloc | apply Kd.V_drewN | apply Kd.V_drew)); exact Kd.V_mono (Kd.V_far (p := ⟨gb209, 6, none⟩) (Kd.V_far (p := ⟨gb209, 5, none⟩) (Kd.V_far (p := ⟨gb209, 4, none⟩) (Kd.V_far (p := ⟨gb209, 3, none⟩) (Kd.V_far (p := ⟨gb209, 2, none⟩) (Kd.V_far (p := ⟨gb209, 1, none⟩) (Kd.V_far (p := ⟨gb209, 0, none⟩) (Kd.V_mono HO201.out (fun k_ hk => (⟨hk, hk.2.2.2⟩ : _ ∧ k_ ≠ gb209))) (fun _ hk => hk.2) (.string t185)) (fun _ hk => hk.2) (.int .i64 (wrap64 ((rd y170 4) / 16)))) (fun _ hk => hk.2) (.int .i64 (wrap64 (Go.bits .and .u8 (rd y170 4) 15)))) (fun _ hk => hk.2) (.int .i64 (wrap64 (Go.bits .and .u8 (rd y170 5) 3)))) (fun _ hk => hk.2) (.int .i64 (wrap64 (t196)))) (fun _ hk => hk.2) (.int .u64 t202)) (fun _ hk => hk.2) (.int .u64 t208)) (fun _ hk => ⟨⟨hk.1.2.1, ⟨hk.1.2.2.1, hk.1.2.2.2⟩⟩, hk.1.1⟩)) hg hat); have n8_ := Aside0.mk (Kd.V_afterv (ok := (fun k_ => k_ ≠ gb158 ∧ k_ ≠ gb159 ∧ k_ ≠ gb209)) (by (with_reducible repeat (first | apply Kd.V_alloc | apply Kd.V_drewN | apply Kd.V_drew)); exact Kd.V_mono (Kd.V_far (p := ⟨gb209, 6, none⟩) (Kd.V_far (p := ⟨gb209, 5, none⟩) (Kd.V_far (p := ⟨gb209, 4, none⟩) (Kd.V_far (p := ⟨gb209, 3, none⟩) (Kd.V_far (p := ⟨gb209, 2, none⟩) (Kd.V_far (p := ⟨gb209, 1, none⟩) (Kd.V_far (p := ⟨gb209, 0, none⟩) (Kd.V_mono HO207.out (fun k_ hk => (⟨hk, hk.2.2.2⟩ : _ ∧ k_ ≠ gb209))) (fun _ hk => hk.2) (.string t185)) (fun _ hk => hk.2) (.int .i64 (wrap64 ((rd y170 4) / 16)))) (fun _ hk => hk.2) (.int .i64 (wrap64 (Go.bits .and .u8 (rd y170 4) 15)))) (fun _ hk => hk.2) (.int .i64 (wrap64 (Go.bits .and .u8 (rd y170 5) 3)))) (fun _ hk => hk.2) (.int .i64 (wrap64 (t196)))) (fun _ hk => hk.2) (.int .u64 t202)) (fun _ hk => hk.2) (.int .u64 t208)) (fun _ hk => ⟨⟨hk.1.2.1, ⟨hk.1.2.2.1, hk.1.2.2.2⟩⟩, hk.1.1⟩)) hg hat); have n9_ := Aside0.mk (blk_grown (g := gb209) (o := .cells #[.string t185, .int .i64 (wrap64 ((rd y170 4) / 16)), .int .i64 (wrap64 (Go.bits .and .u8 (rd y170 4) 15)), .int .i64 (wrap64 (Go.bits .and .u8 (rd y170 5) 3)), .int .i64 (wrap64 (t196)), .int .u64 t202, .int .u64 t208] 68 (0, 0)) (by (with_reducible repeat (first | refine blk_drewN ?_ _ | refine blk_drew ?_ | refine blk_alloc ?_ _)); refine blk_put (cs := #[.string t185, .int .i64 (wrap64 ((rd y170 4) / 16)), .int .i64 (wrap64 (Go.bits .and .u8 (rd y170 4) 15)), .int .i64 (wrap64 (Go.bits .and .u8 (rd y170 5) 3)), .int .i64 (wrap64 (t196)), .int .u64 t202, .int .u64 0]) ?_ 6 _ rfl; (with_reducible repeat (first | refine blk_drewN ?_ _ | refine blk_drew ?_ | refine blk_alloc ?_ _)); refine blk_put (cs := #[.string t185, .int .i64 (wrap64 ((rd y170 4) / 16)), .int .i64 (wrap64 (Go.bits .and .u8 (rd y170 4) 15)), .int .i64 (wrap64 (Go.bits .and .u8 (rd y170 5) 3)), .int .i64 (wrap64 (t196)), .int .u64 0, .int .u64 0]) ?_ 5 _ rfl; (with_reducible repeat (first | refine blk_drewN ?_ _ | refine blk_drew ?_ | refine blk_alloc ?_ _)); refine blk_put (cs := #[.string t185, .int .i64 (wrap64 ((rd y170 4) / 16)), .int .i64 (wrap64 (Go.bits .and .u8 (rd y170 4) 15)), .int .i64 (wrap64 (Go.bits .and .u8 (rd y170 5) 3)), .int .i64 0, .int .u64 0, .int .u64 0]) ?_ 4 _ rfl; (with_reducible repeat (first | refine blk_drewN ?_ _ | refine blk_drew ?_ | refine blk_alloc ?_ _)); refine blk_put (cs := #[.string t185, .int .i64 (wrap64 ((rd y170 4) / 16)), .int .i64 (wrap64 (Go.bits .and .u8 (rd y170 4) 15)), .int .i64 0, .int .i64 0, .int .u64 0, .int .u64 0]) ?_ 3 _ rfl; (with_reducible repeat (first | refine blk_drewN ?_ _ | refine blk_drew ?_ | refine blk_alloc ?_ _)); refine blk_put (cs := #[.string t185, .int .i64 (wrap64 ((rd y170 4) / 16)), .int .i64 0, .int .i64 0, .int .i64 0, .int .u64 0, .int .u64 0]) ?_ 2 _ rfl; (with_reducible repeat (first | refine blk_drewN ?_ _ | refine blk_drew ?_ | refine blk_alloc ?_ _)); refine blk_put (cs := #[.string t185, .int .i64 0, .int .i64 0, .int .i64 0, .int .i64 0, .int .u64 0, .int .u64 0]) ?_ 1 _ rfl; (with_reducible repeat (first | refine blk_drewN ?_ _ | refine blk_drew ?_ | refine blk_alloc ?_ _)); refine blk_put (cs := #[.string (⟨#[]⟩ : ByteArray), .int .i64 0, .int .i64 0, .int .i64 0, .int .i64 0, .int .u64 0, .int .u64 0]) ?_ 0 _ rfl; (with_reducible repeat (first | refine blk_drewN ?_ _ | refine blk_drew ?_ | refine blk_alloc ?_ _)); exact BK209.out) hg (Kd.R_away HO_13.out (fun _ hk => hk))); have n10_ := Aside0.mk (hb); have n11_ := Aside0.mk (ho); clear HO_10; clear HO_12; clear HO_15; clear BK158; clear BK159; clear HO183; clear HO195; clear HO201; clear HO207; clear BK209; clear HB; clear HO_13; have HO_10 := n0_; have HO_12 := n1_; have HO_15 := n2_; have BK158 := n3_; have BK159 := n4_; have HO183 := n5_; have HO195 := n6_; have HO201 := n7_; have HO207 := n8_; have BK209 := n9_; have HB := n10_; have HO212 := n11_; clear n0_ n1_ n2_ n3_ n4_ n5_ n6_ n7_ n8_ n9_ n10_ n11_; clear ho hb hg hat))
                           go_roundg kj27
                           case measure => have := HK1.out; have := HJ27.out; omega
                           case rel => exact ⟨(y210), (wrap64 (x52_1 + 1)), (by first | rfl | (simp; done) | (simp [*]; done)), H', ⟨by have := HK1.out; have := HJ27.out; omega⟩, ⟨by (with_reducible repeat (first | apply Kd.V_alloc | apply Kd.V_drewN | apply Kd.V_drew)); exact Kd.V_mono HO_10.out (fun _ hk => ⟨hk.2, ⟨hk.1.1, hk.1.2.1⟩⟩)⟩, ⟨by (with_reducible repeat (first | apply Kd.V_alloc | apply Kd.V_drewN | apply Kd.V_drew)); exact Kd.V_mono HO_12.out (fun _ hk => ⟨hk.2, ⟨hk.1.1, hk.1.2.1⟩⟩)⟩, ⟨by (with_reducible repeat (first | apply Kd.R_alloc | apply Kd.R_drewN | apply Kd.R_drew)); exact Kd.R_mono HO212.out (fun _ hk => trivial)⟩, ⟨by (with_reducible repeat (first | refine blk_drewN ?_ _ | refine blk_drew ?_ | refine blk_alloc ?_ _)); exact BK158.out⟩, ⟨by (with_reducible repeat (first | refine blk_drewN ?_ _ | refine blk_drew ?_ | refine blk_alloc ?_ _)); exact BK159.out⟩, ⟨by repeat (first | (with_reducible first | exact HB.out | apply below_alloc | apply pw_below_drewN | apply below_drew1 | refine below_set ?_ GE158.out | refine below_set ?_ GE159.out | refine below_set ?_ GE209.out) | exact HB.out)⟩⟩
                          ·rw [if_neg c78] at H
                           exact absurd H (by simp)
                        ·rw [if_neg c73] at H
                         have c73b0 : ((wrap64 (Go.bits .and .u8 (rd y170 4) 15)) == 10) = false := beq_eq_false_iff_ne.mpr c73
                         have c73b1 : ((wrap64 (Go.bits .and .u8 (rd y170 4) 15)) != 10) = true := bne_iff_ne.mpr c73
                         simp only [Option.some.injEq, Prod.mk.injEq] at H
                         obtain ⟨rfl, rfl⟩ := H
                         have hnb83 := NB209_158.out
                         have hnc83 := NB158_209.out
                         have hnb84 := NB209_159.out
                         have hnc84 := NB159_209.out
                         have hcz85_0 : w60.cell? ⟨gb209, 0, none⟩ = some (.string (⟨#[]⟩ : ByteArray)) := (blk_cell BK209.out 0).trans rfl
                         have hcz85_1 : w60.cell? ⟨gb209, 1, none⟩ = some (.int .i64 0) := (blk_cell BK209.out 1).trans rfl
                         have hcz85_2 : w60.cell? ⟨gb209, 2, none⟩ = some (.int .i64 0) := (blk_cell BK209.out 2).trans rfl
                         have hcz85_3 : w60.cell? ⟨gb209, 3, none⟩ = some (.int .i64 0) := (blk_cell BK209.out 3).trans rfl
                         have hcz85_4 : w60.cell? ⟨gb209, 4, none⟩ = some (.int .i64 0) := (blk_cell BK209.out 4).trans rfl
                         have hcz85_5 : w60.cell? ⟨gb209, 5, none⟩ = some (.int .u64 0) := (blk_cell BK209.out 5).trans rfl
                         have hcz85_6 : w60.cell? ⟨gb209, 6, none⟩ = some (.int .u64 0) := (blk_cell BK209.out 6).trans rfl
                         have hfz85_0 := blk_frozen BK209.out 0
                         have hfz85_1 := blk_frozen BK209.out 1
                         have hfz85_2 := blk_frozen BK209.out 2
                         have hfz85_3 := blk_frozen BK209.out 3
                         have hfz85_4 := blk_frozen BK209.out 4
                         have hfz85_5 := blk_frozen BK209.out 5
                         have hfz85_6 := blk_frozen BK209.out 6
                         go_wp2
                         go_ret2
                         exact ⟨_, by first | rfl | (simp [errW_none, errW_some] <;> rfl) | (simp only [← hji24]; first | rfl | (simp [errW_none, errW_some] <;> rfl)) | (simp [*, errW_none, errW_some] <;> rfl), by first | exact Kd.R_nil _ _ _ _ _ | exact Kd.N_nil _ _ _ _ _ | exact Kd.V_nil _ _ _ _ _ | exact Kd.Q_nil _ _ _ _ _ | exact Kd.S_nil _ _ _ _ _, by repeat (first | (with_reducible first | exact HB.out | apply below_alloc | apply pw_below_drewN | apply below_drew1 | refine below_set ?_ GE158.out | refine below_set ?_ GE159.out | refine below_set ?_ GE209.out) | exact HB.out)⟩
                       ·rw [if_neg c72] at H
                        have c72b0 : decide (6 < (wrap64 (Go.bits .and .u8 (rd y170 4) 15))) = false := decide_eq_false c72
                        clear c72
                        by_cases c86 : (wrap64 (Go.bits .and .u8 (rd y170 4) 15)) = 5
                        ·rw [if_pos c86] at H
                         have c86b0 : ((wrap64 (Go.bits .and .u8 (rd y170 4) 15)) == 5) = true := beq_iff_eq.mpr c86
                         have c86b1 : ((wrap64 (Go.bits .and .u8 (rd y170 4) 15)) != 5) = false := bne_eq_false_iff_eq.mpr c86
                         clear c86
                         simp only [Option.some.injEq, Prod.mk.injEq] at H
                         obtain ⟨rfl, rfl⟩ := H
                         have hnb87 := NB209_158.out
                         have hnc87 := NB158_209.out
                         have hnb88 := NB209_159.out
                         have hnc88 := NB159_209.out
                         have hcz89_0 : w60.cell? ⟨gb209, 0, none⟩ = some (.string (⟨#[]⟩ : ByteArray)) := (blk_cell BK209.out 0).trans rfl
                         have hcz89_1 : w60.cell? ⟨gb209, 1, none⟩ = some (.int .i64 0) := (blk_cell BK209.out 1).trans rfl
                         have hcz89_2 : w60.cell? ⟨gb209, 2, none⟩ = some (.int .i64 0) := (blk_cell BK209.out 2).trans rfl
                         have hcz89_3 : w60.cell? ⟨gb209, 3, none⟩ = some (.int .i64 0) := (blk_cell BK209.out 3).trans rfl
                         have hcz89_4 : w60.cell? ⟨gb209, 4, none⟩ = some (.int .i64 0) := (blk_cell BK209.out 4).trans rfl
                         have hcz89_5 : w60.cell? ⟨gb209, 5, none⟩ = some (.int .u64 0) := (blk_cell BK209.out 5).trans rfl
                         have hcz89_6 : w60.cell? ⟨gb209, 6, none⟩ = some (.int .u64 0) := (blk_cell BK209.out 6).trans rfl
                         have hfz89_0 := blk_frozen BK209.out 0
                         have hfz89_1 := blk_frozen BK209.out 1
                         have hfz89_2 := blk_frozen BK209.out 2
                         have hfz89_3 := blk_frozen BK209.out 3
                         have hfz89_4 := blk_frozen BK209.out 4
                         have hfz89_5 := blk_frozen BK209.out 5
                         have hfz89_6 := blk_frozen BK209.out 6
                         go_wp2
                         go_ret2
                         exact ⟨_, by first | rfl | (simp [errW_none, errW_some] <;> rfl) | (simp only [← hji24]; first | rfl | (simp [errW_none, errW_some] <;> rfl)) | (simp [*, errW_none, errW_some] <;> rfl), by first | exact Kd.R_nil _ _ _ _ _ | exact Kd.N_nil _ _ _ _ _ | exact Kd.V_nil _ _ _ _ _ | exact Kd.Q_nil _ _ _ _ _ | exact Kd.S_nil _ _ _ _ _, by repeat (first | (with_reducible first | exact HB.out | apply below_alloc | apply pw_below_drewN | apply below_drew1 | refine below_set ?_ GE158.out | refine below_set ?_ GE159.out | refine below_set ?_ GE209.out) | exact HB.out)⟩
                        ·rw [if_neg c86] at H
                         have c86b0 : ((wrap64 (Go.bits .and .u8 (rd y170 4) 15)) == 5) = false := beq_eq_false_iff_ne.mpr c86
                         have c86b1 : ((wrap64 (Go.bits .and .u8 (rd y170 4) 15)) != 5) = true := bne_iff_ne.mpr c86
                         by_cases c90 : x13_1.length < 2199023255552
                         ·rw [if_pos c90] at H
                          have LMc90 := Aside0.mk c90
                          clear c90
                          obtain ⟨y213, hy213⟩ : ∃ y_ : List (S68), y_ = (x13_1 ++ [(⟨t185, wrap64 ((rd y170 4) / 16), wrap64 (Go.bits .and .u8 (rd y170 4) 15), wrap64 (Go.bits .and .u8 (rd y170 5) 3), wrap64 (t196), t202, t208⟩ : S68)]) := ⟨_, rfl⟩
                          replace H : (syms_Read.l0 kj27 t160 t165 y213 a3 (wrap64 (x52_1 + 1))) = some (r1, r2) := by first | (rw [hy213]; with_reducible exact H) | (have H2_ := (Option.bind_some _ _).symm.trans H; rw [hy213]; with_reducible exact H2_) | (have H2_ := (Option.bind_some _ _).symm.trans H; with_reducible exact H2_) | with_reducible exact H | (rw [hy213]; exact H) | exact H
                          have Ny213 := Aside0.mk hy213
                          clear hy213
                          have H' := Aside0.mk H
                          clear H
                          have hnb91 := NB209_158.out
                          have hnc91 := NB158_209.out
                          have hnb92 := NB209_159.out
                          have hnc92 := NB159_209.out
                          have hcz93_0 : w60.cell? ⟨gb209, 0, none⟩ = some (.string (⟨#[]⟩ : ByteArray)) := (blk_cell BK209.out 0).trans rfl
                          have hcz93_1 : w60.cell? ⟨gb209, 1, none⟩ = some (.int .i64 0) := (blk_cell BK209.out 1).trans rfl
                          have hcz93_2 : w60.cell? ⟨gb209, 2, none⟩ = some (.int .i64 0) := (blk_cell BK209.out 2).trans rfl
                          have hcz93_3 : w60.cell? ⟨gb209, 3, none⟩ = some (.int .i64 0) := (blk_cell BK209.out 3).trans rfl
                          have hcz93_4 : w60.cell? ⟨gb209, 4, none⟩ = some (.int .i64 0) := (blk_cell BK209.out 4).trans rfl
                          have hcz93_5 : w60.cell? ⟨gb209, 5, none⟩ = some (.int .u64 0) := (blk_cell BK209.out 5).trans rfl
                          have hcz93_6 : w60.cell? ⟨gb209, 6, none⟩ = some (.int .u64 0) := (blk_cell BK209.out 6).trans rfl
                          have hfz93_0 := blk_frozen BK209.out 0
                          have hfz93_1 := blk_frozen BK209.out 1
                          have hfz93_2 := blk_frozen BK209.out 2
                          have hfz93_3 := blk_frozen BK209.out 3
                          have hfz93_4 := blk_frozen BK209.out 4
                          have hfz93_5 := blk_frozen BK209.out 5
                          have hfz93_6 := blk_frozen BK209.out 6
                          go_wp2_with (first | ((with_reducible refine gate_ (.load 55 (.tmp 6)) rfl ?_); refine wpList_load_row rfl 55 (.tmp 6) rfl gb159 rfl 55 _ (0, 0) _ (by (with_reducible repeat (first | refine blk_drewN ?_ _ | refine blk_drew ?_ | refine blk_alloc ?_ _)); exact BK159.out) Try.underlying55 rfl (by kernel_rfl) ?_) | ((with_reducible refine gate_builtin (b := .append) (xs := #[.tmp 128, .tmp 130]) rfl ?_); (try (refine gate_guard (by rfl) ?_; dsimp only)); at_builtin; refine Kd.R_append k68 (w0 := w) w.heap.size rfl (.tmp 128) (.tmp 130) 60 68 (.agg #[(.string ⟨#[]⟩), (.int .i64 0), (.int .i64 0), (.int .i64 0), (.int .i64 0), (.int .u64 0), (.int .u64 0)]) 64 rfl Try.underlying60 info68 rfl (by decide) (by omega) u13 x13_1 (⟨t185, wrap64 ((rd y170 4) / 16), wrap64 (Go.bits .and .u8 (rd y170 4) 15), wrap64 (Go.bits .and .u8 (rd y170 5) 3), wrap64 (t196), t202, t208⟩ : S68) [.string t185, .int .i64 (wrap64 ((rd y170 4) / 16)), .int .i64 (wrap64 (Go.bits .and .u8 (rd y170 4) 15)), .int .i64 (wrap64 (Go.bits .and .u8 (rd y170 5) 3)), .int .i64 (wrap64 (t196)), .int .u64 t202, .int .u64 t208] (fun k_ => k_ ≠ gb209) (fun _ => False) rfl (by first | (go_simp; done) | (go_simp; rfl)) ?aP (fun _ hk => hk.elim) ?aF ?aO ?aB ?aS ?aL ?_; (case aP => exact k68_mkM _ _ _ (⟨t185, wrap64 ((rd y170 4) / 16), wrap64 (Go.bits .and .u8 (rd y170 4) 15), wrap64 (Go.bits .and .u8 (rd y170 5) 3), wrap64 (t196), t202, t208⟩ : S68)); (case aB => exact (by repeat (first | (with_reducible first | exact HB.out | apply below_alloc | apply pw_below_drewN | apply below_drew1 | refine below_set ?_ GE158.out | refine below_set ?_ GE159.out | refine below_set ?_ GE209.out) | exact HB.out))); (case aF => exact (fun k_ hk => Kd.freshB (g := gb209) (o := .cells #[.string t185, .int .i64 (wrap64 ((rd y170 4) / 16)), .int .i64 (wrap64 (Go.bits .and .u8 (rd y170 4) 15)), .int .i64 (wrap64 (Go.bits .and .u8 (rd y170 5) 3)), .int .i64 (wrap64 (t196)), .int .u64 t202, .int .u64 t208] 68 (0, 0)) (by (with_reducible repeat (first | refine blk_drewN ?_ _ | refine blk_drew ?_ | refine blk_alloc ?_ _)); refine blk_put (cs := #[.string t185, .int .i64 (wrap64 ((rd y170 4) / 16)), .int .i64 (wrap64 (Go.bits .and .u8 (rd y170 4) 15)), .int .i64 (wrap64 (Go.bits .and .u8 (rd y170 5) 3)), .int .i64 (wrap64 (t196)), .int .u64 t202, .int .u64 0]) ?_ 6 _ rfl; (with_reducible repeat (first | refine blk_drewN ?_ _ | refine blk_drew ?_ | refine blk_alloc ?_ _)); refine blk_put (cs := #[.string t185, .int .i64 (wrap64 ((rd y170 4) / 16)), .int .i64 (wrap64 (Go.bits .and .u8 (rd y170 4) 15)), .int .i64 (wrap64 (Go.bits .and .u8 (rd y170 5) 3)), .int .i64 (wrap64 (t196)), .int .u64 0, .int .u64 0]) ?_ 5 _ rfl; (with_reducible repeat (first | refine blk_drewN ?_ _ | refine blk_drew ?_ | refine blk_alloc ?_ _)); refine blk_put (cs := #[.string t185, .int .i64 (wrap64 ((rd y170 4) / 16)), .int .i64 (wrap64 (Go.bits .and .u8 (rd y170 4) 15)), .int .i64 (wrap64 (Go.bits .and .u8 (rd y170 5) 3)), .int .i64 0, .int .u64 0, .int .u64 0]) ?_ 4 _ rfl; (with_reducible repeat (first | refine blk_drewN ?_ _ | refine blk_drew ?_ | refine blk_alloc ?_ _)); refine blk_put (cs := #[.string t185, .int .i64 (wrap64 ((rd y170 4) / 16)), .int .i64 (wrap64 (Go.bits .and .u8 (rd y170 4) 15)), .int .i64 0, .int .i64 0, .int .u64 0, .int .u64 0]) ?_ 3 _ rfl; (with_reducible repeat (first | refine blk_drewN ?_ _ | refine blk_drew ?_ | refine blk_alloc ?_ _)); refine blk_put (cs := #[.string t185, .int .i64 (wrap64 ((rd y170 4) / 16)), .int .i64 0, .int .i64 0, .int .i64 0, .int .u64 0, .int .u64 0]) ?_ 2 _ rfl; (with_reducible repeat (first | refine blk_drewN ?_ _ | refine blk_drew ?_ | refine blk_alloc ?_ _)); refine blk_put (cs := #[.string t185, .int .i64 0, .int .i64 0, .int .i64 0, .int .i64 0, .int .u64 0, .int .u64 0]) ?_ 1 _ rfl; (with_reducible repeat (first | refine blk_drewN ?_ _ | refine blk_drew ?_ | refine blk_alloc ?_ _)); refine blk_put (cs := #[.string (⟨#[]⟩ : ByteArray), .int .i64 0, .int .i64 0, .int .i64 0, .int .i64 0, .int .u64 0, .int .u64 0]) ?_ 0 _ rfl; (with_reducible repeat (first | refine blk_drewN ?_ _ | refine blk_drew ?_ | refine blk_alloc ?_ _)); exact BK209.out) k_ hk)); (case aO => exact (by (with_reducible repeat (first | apply Kd.R_alloc | apply Kd.R_drewN | apply Kd.R_drew)); exact Kd.R_mono (Kd.R_far (p := ⟨gb209, 6, none⟩) (Kd.R_far (p := ⟨gb209, 5, none⟩) (Kd.R_far (p := ⟨gb209, 4, none⟩) (Kd.R_far (p := ⟨gb209, 3, none⟩) (Kd.R_far (p := ⟨gb209, 2, none⟩) (Kd.R_far (p := ⟨gb209, 1, none⟩) (Kd.R_far (p := ⟨gb209, 0, none⟩) (Kd.R_mono HO_13.out (fun k_ hk => (⟨hk, hk⟩ : _ ∧ k_ ≠ gb209))) (fun _ hk => hk.2) (.string t185)) (fun _ hk => hk.2) (.int .i64 (wrap64 ((rd y170 4) / 16)))) (fun _ hk => hk.2) (.int .i64 (wrap64 (Go.bits .and .u8 (rd y170 4) 15)))) (fun _ hk => hk.2) (.int .i64 (wrap64 (Go.bits .and .u8 (rd y170 5) 3)))) (fun _ hk => hk.2) (.int .i64 (wrap64 (t196)))) (fun _ hk => hk.2) (.int .u64 t202)) (fun _ hk => hk.2) (.int .u64 t208)) (fun _ hk => hk.1))); (case aS => exact (below_size (by repeat (first | (with_reducible first | exact HB.out | apply below_alloc | apply pw_below_drewN | apply below_drew1 | refine below_set ?_ GE158.out | refine below_set ?_ GE159.out | refine below_set ?_ GE209.out) | exact HB.out)))); (case aL => have := LMc90.out; omega); intro v214 w94 ho hb hg hat; rw [← Ny213.out] at ho; have n0_ := Aside0.mk (Kd.V_afterv (ok := (fun k_ => k_ ≠ gb158 ∧ k_ ≠ gb159 ∧ k_ ≠ gb209)) (by (with_reducible repeat (first | apply Kd.V_alloc | apply Kd.V_drewN | apply Kd.V_drew)); exact Kd.V_mono (Kd.V_far (p := ⟨gb209, 6, none⟩) (Kd.V_far (p := ⟨gb209, 5, none⟩) (Kd.V_far (p := ⟨gb209, 4, none⟩) (Kd.V_far (p := ⟨gb209, 3, none⟩) (Kd.V_far (p := ⟨gb209, 2, none⟩) (Kd.V_far (p := ⟨gb209, 1, none⟩) (Kd.V_far (p := ⟨gb209, 0, none⟩) (Kd.V_mono HO_10.out (fun k_ hk => (⟨hk, hk.2.2.2⟩ : _ ∧ k_ ≠ gb209))) (fun _ hk => hk.2) (.string t185)) (fun _ hk => hk.2) (.int .i64 (wrap64 ((rd y170 4) / 16)))) (fun _ hk => hk.2) (.int .i64 (wrap64 (Go.bits .and .u8 (rd y170 4) 15)))) (fun _ hk => hk.2) (.int .i64 (wrap64 (Go.bits .and .u8 (rd y170 5) 3)))) (fun _ hk => hk.2) (.int .i64 (wrap64 (t196)))) (fun _ hk => hk.2) (.int .u64 t202)) (fun _ hk => hk.2) (.int .u64 t208)) (fun _ hk => ⟨⟨hk.1.2.1, ⟨hk.1.2.2.1, hk.1.2.2.2⟩⟩, hk.1.1⟩)) hg hat); have n1_ := Aside0.mk (Kd.V_afterv (ok := (fun k_ => k_ ≠ gb158 ∧ k_ ≠ gb159 ∧ k_ ≠ gb209)) (by (with_reducible repeat (first | apply Kd.V_alloc | apply Kd.V_drewN | apply Kd.V_drew)); exact Kd.V_mono (Kd.V_far (p := ⟨gb209, 6, none⟩) (Kd.V_far (p := ⟨gb209, 5, none⟩) (Kd.V_far (p := ⟨gb209, 4, none⟩) (Kd.V_far (p := ⟨gb209, 3, none⟩) (Kd.V_far (p := ⟨gb209, 2, none⟩) (Kd.V_far (p := ⟨gb209, 1, none⟩) (Kd.V_far (p := ⟨gb209, 0, none⟩) (Kd.V_mono HO_12.out (fun k_ hk => (⟨hk, hk.2.2.2⟩ : _ ∧ k_ ≠ gb209))) (fun _ hk => hk.2) (.string t185)) (fun _ hk => hk.2) (.int .i64 (wrap64 ((rd y170 4) / 16)))) (fun _ hk => hk.2) (.int .i64 (wrap64 (Go.bits .and .u8 (rd y170 4) 15)))) (fun _ hk => hk.2) (.int .i64 (wrap64 (Go.bits .and .u8 (rd y170 5) 3)))) (fun _ hk => hk.2) (.int .i64 (wrap64 (t196)))) (fun _ hk => hk.2) (.int .u64 t202)) (fun _ hk => hk.2) (.int .u64 t208)) (fun _ hk => ⟨⟨hk.1.2.1, ⟨hk.1.2.2.1, hk.1.2.2.2⟩⟩, hk.1.1⟩)) hg hat); have n2_ := Aside0.mk (Kd.V_afterv (ok := (fun k_ => k_ ≠ gb158 ∧ k_ ≠ gb159 ∧ k_ ≠ gb209)) (by (with_reducible repeat (first | apply Kd.V_alloc | apply Kd.V_drewN | apply Kd.V_drew)); exact Kd.V_mono (Kd.V_far (p := ⟨gb209, 6, none⟩) (Kd.V_far (p := ⟨gb209, 5, none⟩) (Kd.V_far (p := ⟨gb209, 4, none⟩) (Kd.V_far (p := ⟨gb209, 3, none⟩) (Kd.V_far (p := ⟨gb209, 2, none⟩) (Kd.V_far (p := ⟨gb209, 1, none⟩) (Kd.V_far (p := ⟨gb209, 0, none⟩) (Kd.V_mono HO_15.out (fun k_ hk => (⟨hk, hk.2.2.2⟩ : _ ∧ k_ ≠ gb209))) (fun _ hk => hk.2) (.string t185)) (fun _ hk => hk.2) (.int .i64 (wrap64 ((rd y170 4) / 16)))) (fun _ hk => hk.2) (.int .i64 (wrap64 (Go.bits .and .u8 (rd y170 4) 15)))) (fun _ hk => hk.2) (.int .i64 (wrap64 (Go.bits .and .u8 (rd y170 5) 3)))) (fun _ hk => hk.2) (.int .i64 (wrap64 (t196)))) (fun _ hk => hk.2) (.int .u64 t202)) (fun _ hk => hk.2) (.int .u64 t208)) (fun _ hk => ⟨⟨hk.1.2.1, ⟨hk.1.2.2.1, hk.1.2.2.2⟩⟩, hk.1.1⟩)) hg hat); have n3_ := Aside0.mk (blk_grown (g := gb158) (o := .cells #[.int .i64 a1_0, .int .u64 a1_1, .slice A1_2 l1_2.length c1_2] 53 (0, 0)) (by (with_reducible repeat (first | refine blk_drewN ?_ _ | refine blk_drew ?_ | refine blk_alloc ?_ _)); refine blk_far ?_ NB158_209.out _; (with_reducible repeat (first | refine blk_drewN ?_ _ | refine blk_drew ?_ | refine blk_alloc ?_ _)); refine blk_far ?_ NB158_209.out _; (with_reducible repeat (first | refine blk_drewN ?_ _ | refine blk_drew ?_ | refine blk_alloc ?_ _)); refine blk_far ?_ NB158_209.out _; (with_reducible repeat (first | refine blk_drewN ?_ _ | refine blk_drew ?_ | refine blk_alloc ?_ _)); refine blk_far ?_ NB158_209.out _; (with_reducible repeat (first | refine blk_drewN ?_ _ | refine blk_drew ?_ | refine blk_alloc ?_ _)); refine blk_far ?_ NB158_209.out _; (with_reducible repeat (first | refine blk_drewN ?_ _ | refine blk_drew ?_ | refine blk_alloc ?_ _)); refine blk_far ?_ NB158_209.out _; (with_reducible repeat (first | refine blk_drewN ?_ _ | refine blk_drew ?_ | refine blk_alloc ?_ _)); refine blk_far ?_ NB158_209.out _; (with_reducible repeat (first | refine blk_drewN ?_ _ | refine blk_drew ?_ | refine blk_alloc ?_ _)); exact BK158.out) hg (Kd.R_ne HO_13.out BK158.out (by decide))); have n4_ := Aside0.mk (blk_grown (g := gb159) (o := .cells #[.slice A2_0 l2_0.length c2_0, .int .u64 a2_1, .int .u64 a2_2, .int .u64 a2_3, .int .u64 a2_4, .int .u64 a2_5, .int .u64 a2_6, .int .u64 a2_7, .int .u64 a2_8, .int .u64 a2_9, .int .u64 a2_10, .int .u64 a2_11, .int .u64 a2_12, .int .u64 a2_13, .bool a2_14, .bool a2_15, .bool a2_16, .int .u64 a2_17, .int .u64 a2_18, .int .u64 a2_19, .int .u64 a2_20, .int .u64 a2_21, .int .u64 a2_22, .int .u64 a2_23, .int .u64 a2_24, .int .u64 a2_25, .int .u64 a2_26, .int .u64 a2_27, .int .u64 a2_28, .int .u64 a2_29, .int .u64 a2_30, .int .u64 a2_31, .bool a2_32, .bool a2_33, .bool a2_34, .bool a2_35, .bool a2_36] 55 (0, 0)) (by (with_reducible repeat (first | refine blk_drewN ?_ _ | refine blk_drew ?_ | refine blk_alloc ?_ _)); refine blk_far ?_ NB159_209.out _; (with_reducible repeat (first | refine blk_drewN ?_ _ | refine blk_drew ?_ | refine blk_alloc ?_ _)); refine blk_far ?_ NB159_209.out _; (with_reducible repeat (first | refine blk_drewN ?_ _ | refine blk_drew ?_ | refine blk_alloc ?_ _)); refine blk_far ?_ NB159_209.out _; (with_reducible repeat (first | refine blk_drewN ?_ _ | refine blk_drew ?_ | refine blk_alloc ?_ _)); refine blk_far ?_ NB159_209.out _; (with_reducible repeat (first | refine blk_drewN ?_ _ | refine blk_drew ?_ | refine blk_alloc ?_ _)); refine blk_far ?_ NB159_209.out _; (with_reducible repeat (first | refine blk_drewN ?_ _ | refine blk_drew ?_ | refine blk_alloc ?_ _)); refine blk_far ?_ NB159_209.out _; (with_reducible repeat (first | refine blk_drewN ?_ _ | refine blk_drew ?_ | refine blk_alloc ?_ _)); refine blk_far ?_ NB159_209.out _; (with_reducible repeat (first | refine blk_drewN ?_ _ | refine blk_drew ?_ | refine blk_alloc ?_ _)); exact BK159.out) hg (Kd.R_ne HO_13.out BK159.out (by decide))); have n5_ := Aside0.mk (Kd.V_afterv (ok := (fun k_ => k_ ≠ gb158 ∧ k_ ≠ gb159 ∧ k_ ≠ gb209)) (by (with_reducible repeat (first | apply Kd.V_alloc | apply Kd.V_drewN | apply Kd.V_drew)); exact Kd.V_mono (Kd.V_far (p := ⟨gb209, 6, none⟩) (Kd.V_far (p := ⟨gb209, 5, none⟩) (Kd.V_far (p := ⟨gb209, 4, none⟩) (Kd.V_far (p := ⟨gb209, 3, none⟩) (Kd.V_far (p := ⟨gb209, 2, none⟩) (Kd.V_far (p := ⟨gb209, 1, none⟩) (Kd.V_far (p := ⟨gb209, 0, none⟩) (Kd.V_mono HO183.out (fun k_ hk => (⟨hk, hk.2.2.2⟩ : _ ∧ k_ ≠ gb209))) (fun _ hk => hk.2) (.string t185)) (fun _ hk => hk.2) (.int .i64 (wrap64 ((rd y170 4) / 16)))) (fun _ hk => hk.2) (.int .i64 (wrap64 (Go.bits .and .u8 (rd y170 4) 15)))) (fun _ hk => hk.2) (.int .i64 (wrap64 (Go.bits .and .u8 (rd y170 5) 3)))) (fun _ hk => hk.2) (.int .i64 (wrap64 (t196)))) (fun _ hk => hk.2) (.int .u64 t202)) (fun _ hk => hk.2) (.int .u64 t208)) (fun _ hk => ⟨⟨hk.1.2.1, ⟨hk.1.2.2.1, hk.1.2.2.2⟩⟩, hk.1.1⟩)) hg hat); have n6_ := Aside0.mk (Kd.V_afterv (ok := (fun k_ => k_ ≠ gb158 ∧ k_ ≠ gb159 ∧ k_ ≠ gb209)) (by (with_reducible repeat (first | apply Kd.V_alloc | apply Kd.V_drewN | apply Kd.V_drew)); exact Kd.V_mono (Kd.V_far (p := ⟨gb209, 6, none⟩) (Kd.V_far (p := ⟨gb209, 5, none⟩) (Kd.V_far (p := ⟨gb209, 4, none⟩) (Kd.V_far (p := ⟨gb209, 3, none⟩) (Kd.V_far (p := ⟨gb209, 2, none⟩) (Kd.V_far (p := ⟨gb209, 1, none⟩) (Kd.V_far (p := ⟨gb209, 0, none⟩) (Kd.V_mono HO195.out (fun k_ hk => (⟨hk, hk.2.2.2⟩ : _ ∧ k_ ≠ gb209))) (fun _ hk => hk.2) (.string t185)) (fun _ hk => hk.2) (.int .i64 (wrap64 ((rd y170 4) / 16)))) (fun _ hk => hk.2) (.int .i64 (wrap64 (Go.bits .and .u8 (rd y170 4) 15)))) (fun _ hk => hk.2) (.int .i64 (wrap64 (Go.bits .and .u8 (rd y170 5) 3)))) (fun _ hk => hk.2) (.int .i64 (wrap64 (t196)))) (fun _ hk => hk.2) (.int .u64 t202)) (fun _ hk => hk.2) (.int .u64 t208)) (fun _ hk => ⟨⟨hk.1.2.1, ⟨hk.1.2.2.1, hk.1.2.2.2⟩⟩, hk.1.1⟩)) hg hat); have n7_ := Aside0.mk (Kd.V_afterv (ok := (fun k_ => k_ ≠ gb158 ∧ k_ ≠ gb159 ∧ k_ ≠ gb209)) (by (with_reducible repeat (first | apply Kd.V_alloc | apply Kd.V_drewN | apply Kd.V_drew)); exact Kd.V_mono (Kd.V_far (p := ⟨gb209, 6, none⟩) (Kd.V_far (p := ⟨gb209, 5, none⟩) (Kd.V_far (p := ⟨gb209, 4, none⟩) (Kd.V_far (p := ⟨gb209, 3, none⟩) (Kd.V_far (p := ⟨gb209, 2, none⟩) (Kd.V_far (p := ⟨gb209, 1, none⟩) (Kd.V_far (p := ⟨gb209, 0, none⟩) (Kd.V_mono HO201.out (fun k_ hk => (⟨hk, hk.2.2.2⟩ : _ ∧ k_ ≠ gb209))) (fun _ hk => hk.2) (.string t185)) (fun _ hk => hk.2) (.int .i64 (wrap64 ((rd y170 4) / 16)))) (fun _ hk => hk.2) (.int .i64 (wrap64 (Go.bits .and .u8 (rd y170 4) 15)))) (fun _ hk => hk.2) (.int .i64 (wrap64 (Go.bits .and .u8 (rd y170 5) 3)))) (fun _ hk => hk.2) (.int .i64 (wrap64 (t196)))) (fun _ hk => hk.2) (.int .u64 t202)) (fun _ hk => hk.2) (.int .u64 t208)) (fun _ hk => ⟨⟨hk.1.2.1, ⟨hk.1.2.2.1, hk.1.2.2.2⟩⟩, hk.1.1⟩)) hg hat); have n8_ := Aside0.mk (Kd.V_afterv (ok := (fun k_ => k_ ≠ gb158 ∧ k_ ≠ gb159 ∧ k_ ≠ gb209)) (by (with_reducible repeat (first | apply Kd.V_alloc | apply Kd.V_drewN | apply Kd.V_drew)); exact Kd.V_mono (Kd.V_far (p := ⟨gb209, 6, none⟩) (Kd.V_far (p := ⟨gb209, 5, none⟩) (Kd.V_far (p := ⟨gb209, 4, none⟩) (Kd.V_far (p := ⟨gb209, 3, none⟩) (Kd.V_far (p := ⟨gb209, 2, none⟩) (Kd.V_far (p := ⟨gb209, 1, none⟩) (Kd.V_far (p := ⟨gb209, 0, none⟩) (Kd.V_mono HO207.out (fun k_ hk => (⟨hk, hk.2.2.2⟩ : _ ∧ k_ ≠ gb209))) (fun _ hk => hk.2) (.string t185)) (fun _ hk => hk.2) (.int .i64 (wrap64 ((rd y170 4) / 16)))) (fun _ hk => hk.2) (.int .i64 (wrap64 (Go.bits .and .u8 (rd y170 4) 15)))) (fun _ hk => hk.2) (.int .i64 (wrap64 (Go.bits .and .u8 (rd y170 5) 3)))) (fun _ hk => hk.2) (.int .i64 (wrap64 (t196)))) (fun _ hk => hk.2) (.int .u64 t202)) (fun _ hk => hk.2) (.int .u64 t208)) (fun _ hk => ⟨⟨hk.1.2.1, ⟨hk.1.2.2.1, hk.1.2.2.2⟩⟩, hk.1.1⟩)) hg hat); have n9_ := Aside0.mk (blk_grown (g := gb209) (o := .cells #[.string t185, .int .i64 (wrap64 ((rd y170 4) / 16)), .int .i64 (wrap64 (Go.bits .and .u8 (rd y170 4) 15)), .int .i64 (wrap64 (Go.bits .and .u8 (rd y170 5) 3)), .int .i64 (wrap64 (t196)), .int .u64 t202, .int .u64 t208] 68 (0, 0)) (by (with_reducible repeat (first | refine blk_drewN ?_ _ | refine blk_drew ?_ | refine blk_alloc ?_ _)); refine blk_put (cs := #[.string t185, .int .i64 (wrap64 ((rd y170 4) / 16)), .int .i64 (wrap64 (Go.bits .and .u8 (rd y170 4) 15)), .int .i64 (wrap64 (Go.bits .and .u8 (rd y170 5) 3)), .int .i64 (wrap64 (t196)), .int .u64 t202, .int .u64 0]) ?_ 6 _ rfl; (with_reducible repeat (first | refine blk_drewN ?_ _ | refine blk_drew ?_ | refine blk_alloc ?_ _)); refine blk_put (cs := #[.string t185, .int .i64 (wrap64 ((rd y170 4) / 16)), .int .i64 (wrap64 (Go.bits .and .u8 (rd y170 4) 15)), .int .i64 (wrap64 (Go.bits .and .u8 (rd y170 5) 3)), .int .i64 (wrap64 (t196)), .int .u64 0, .int .u64 0]) ?_ 5 _ rfl; (with_reducible repeat (first | refine blk_drewN ?_ _ | refine blk_drew ?_ | refine blk_alloc ?_ _)); refine blk_put (cs := #[.string t185, .int .i64 (wrap64 ((rd y170 4) / 16)), .int .i64 (wrap64 (Go.bits .and .u8 (rd y170 4) 15)), .int .i64 (wrap64 (Go.bits .and .u8 (rd y170 5) 3)), .int .i64 0, .int .u64 0, .int .u64 0]) ?_ 4 _ rfl; (with_reducible repeat (first | refine blk_drewN ?_ _ | refine blk_drew ?_ | refine blk_alloc ?_ _)); refine blk_put (cs := #[.string t185, .int .i64 (wrap64 ((rd y170 4) / 16)), .int .i64 (wrap64 (Go.bits .and .u8 (rd y170 4) 15)), .int .i64 0, .int .i64 0, .int .u64 0, .int .u64 0]) ?_ 3 _ rfl; (with_reducible repeat (first | refine blk_drewN ?_ _ | refine blk_drew ?_ | refine blk_alloc ?_ _)); refine blk_put (cs := #[.string t185, .int .i64 (wrap64 ((rd y170 4) / 16)), .int .i64 0, .int .i64 0, .int .i64 0, .int .u64 0, .int .u64 0]) ?_ 2 _ rfl; (with_reducible repeat (first | refine blk_drewN ?_ _ | refine blk_drew ?_ | refine blk_alloc ?_ _)); refine blk_put (cs := #[.string t185, .int .i64 0, .int .i64 0, .int .i64 0, .int .i64 0, .int .u64 0, .int .u64 0]) ?_ 1 _ rfl; (with_reducible repeat (first | refine blk_drewN ?_ _ | refine blk_drew ?_ | refine blk_alloc ?_ _)); refine blk_put (cs := #[.string (⟨#[]⟩ : ByteArray), .int .i64 0, .int .i64 0, .int .i64 0, .int .i64 0, .int .u64 0, .int .u64 0]) ?_ 0 _ rfl; (with_reducible repeat (first | refine blk_drewN ?_ _ | refine blk_drew ?_ | refine blk_alloc ?_ _)); exact BK209.out) hg (Kd.R_away HO_13.out (fun _ hk => hk))); have n10_ := Aside0.mk (hb); have n11_ := Aside0.mk (ho); clear HO_10; clear HO_12; clear HO_15; clear BK158; clear BK159; clear HO183; clear HO195; clear HO201; clear HO207; clear BK209; clear HB; clear HO_13; have HO_10 := n0_; have HO_12 := n1_; have HO_15 := n2_; have BK158 := n3_; have BK159 := n4_; have HO183 := n5_; have HO195 := n6_; have HO201 := n7_; have HO207 := n8_; have BK209 := n9_; have HB := n10_; have HO215 := n11_; clear n0_ n1_ n2_ n3_ n4_ n5_ n6_ n7_ n8_ n9_ n10_ n11_; clear ho hb hg hat))
                          go_roundg kj27
                          case measure => have := HK1.out; have := HJ27.out; omega
                          case rel => exact ⟨(y213), (wrap64 (x52_1 + 1)), (by first | rfl | (simp; done) | (simp [*]; done)), H', ⟨by have := HK1.out; have := HJ27.out; omega⟩, ⟨by (with_reducible repeat (first | apply Kd.V_alloc | apply Kd.V_drewN | apply Kd.V_drew)); exact Kd.V_mono HO_10.out (fun _ hk => ⟨hk.2, ⟨hk.1.1, hk.1.2.1⟩⟩)⟩, ⟨by (with_reducible repeat (first | apply Kd.V_alloc | apply Kd.V_drewN | apply Kd.V_drew)); exact Kd.V_mono HO_12.out (fun _ hk => ⟨hk.2, ⟨hk.1.1, hk.1.2.1⟩⟩)⟩, ⟨by (with_reducible repeat (first | apply Kd.R_alloc | apply Kd.R_drewN | apply Kd.R_drew)); exact Kd.R_mono HO215.out (fun _ hk => trivial)⟩, ⟨by (with_reducible repeat (first | refine blk_drewN ?_ _ | refine blk_drew ?_ | refine blk_alloc ?_ _)); exact BK158.out⟩, ⟨by (with_reducible repeat (first | refine blk_drewN ?_ _ | refine blk_drew ?_ | refine blk_alloc ?_ _)); exact BK159.out⟩, ⟨by repeat (first | (with_reducible first | exact HB.out | apply below_alloc | apply pw_below_drewN | apply below_drew1 | refine below_set ?_ GE158.out | refine below_set ?_ GE159.out | refine below_set ?_ GE209.out) | exact HB.out)⟩⟩
                         ·rw [if_neg c90] at H
                          exact absurd H (by simp)
                     ·rw [if_neg c48] at H
                      exact absurd H (by simp)
                    ·rw [if_neg c47] at H
                     exact absurd H (by simp)
                   ·rw [if_neg c45] at H
                    exact absurd H (by simp)
                  ·rw [if_neg c44] at H
                   exact absurd H (by simp)
                 ·rw [if_neg c43] at H
                  exact absurd H (by simp)
                ·rw [if_neg c42] at H
                 exact absurd H (by simp)
               ·have H1 : (some (([] : List (S68)), some q187)) = some (r1, r2) := by rw [if_neg (show ¬ (some q187).isNone = true by simp)] at H; exact H
                clear H
                have H := H1
                clear H1
                try simp only [errW_none, errW_some]
                simp only [Option.some.injEq, Prod.mk.injEq] at H
                obtain ⟨rfl, rfl⟩ := H
                have q95 : (4 : Int) ≤ ((y170.length : Int) : Int) := of_decide_eq_true (by assumption)
                obtain ⟨i095, hi095, _, hsz95, _⟩ := info_parts info5
                have hroom95 : y170.length ≤ c29 := (Kd.V_reads' HO_15.out).2.1
                have hC95 : Kd.F (Kd.int .u8) _ _ A29 y170.length y170 := (Kd.V_at (base := w.heap.size) HO_15.out).2.2
                have hcut95 := cut_to (P := Try.prog) 22 5 .i64 Try.underlying22 hi095 A29 y170.length c29 4 (by omega) q95 hroom95
                have hr95 := Kd.F_take (m := 4) hC95 (by omega)
                have hy95 : y179.length = (4 : Int).toNat := (by rw [Ny179.out, List.length_take]; omega)
                rw [← Ny179.out] at hr95
                rw [← hy95] at hcut95
                have HO183 := Aside0.mk (show Kd.V (Kd.int .u8) 5 _ w.heap.size _ (.slice A29 y179.length c29) y179 from Kd.V_mk (by omega) hr95)
                have HC183 := Aside0.mk (show y179.length ≤ c29 from by omega)
                clear hr95 hC95 hroom95 hi095 hsz95
                have KY95 := Aside0.mk hy95
                clear hy95
                replace q95 := eq_true q95
                go_wp2_with (first | ((with_reducible refine gate_ (.load 55 (.tmp 6)) rfl ?_); refine wpList_load_row rfl 55 (.tmp 6) rfl gb159 rfl 55 _ (0, 0) _ (by (with_reducible repeat (first | refine blk_drewN ?_ _ | refine blk_drew ?_ | refine blk_alloc ?_ _)); exact BK159.out) Try.underlying55 rfl (by kernel_rfl) ?_) | ((with_reducible refine gate_callee (f := 49) rfl ?_); refine goesL_ (some 75) rfl rfl Try.func49 (by kernel_rfl) rfl #[.slice A29 y179.length c29] rfl (by (try simp only [List.map_toArray, List.map_cons, List.map_nil]); first | done | rfl | (simp only [List.length_drop, List.length_take]; rfl)) ?_; (with_reducible refine (syms_number.calls kj27 _ _ y179 t184 _ ?side1 ?side2 A40.out).mono ?_); (case side1 => repeat (first | exact (Kd.V_reads' HO183.out).2.2 | (with_reducible refine Kd.C_alloc ?_ _) | (with_reducible refine Kd.C_drewN ?_ _) | (with_reducible refine Kd.C_drew ?_))); (case side2 => exact (Kd.V_reads' HO183.out).2.1); rintro e w' ⟨rfl, ⟨nd, rfl⟩⟩; refine ⟨_, rfl, ?_⟩; obtain ⟨Ao96, co96, eo96⟩ := Kd.V_slice HO_10.out; subst eo96) | ((with_reducible refine gate_callee (f := 14) rfl ?_); refine goesL_ (some 76) rfl rfl Try.func14 (by kernel_rfl) rfl #[.slice Ao96 t160.length co96, .int .u64 t184] rfl (by (try simp only [List.map_toArray, List.map_cons, List.map_nil]); first | done | rfl | (simp only [List.length_drop, List.length_take]; rfl)) ?_; (with_reducible refine (syms_Text.calls _ _ t160 t184 t185 (some q187) _ ?side1 ?side2 A41.out).mono ?_); (case side1 => repeat (first | exact (Kd.V_reads' HO_10.out).2.2 | (with_reducible refine Kd.C_alloc ?_ _) | (with_reducible refine Kd.C_drewN ?_ _) | (with_reducible refine Kd.C_drew ?_))); (case side2 => exact (Kd.V_reads' HO_10.out).2.1); rintro e w' ⟨rfl, ⟨nd, rfl⟩⟩; refine ⟨_, rfl, ?_⟩; (try simp only [errW_none, errW_some])))
                go_ret2
                exact ⟨_, by first | rfl | (simp [errW_none, errW_some] <;> rfl) | (simp only [← hji24]; first | rfl | (simp [errW_none, errW_some] <;> rfl)) | (simp [*, errW_none, errW_some] <;> rfl), by first | exact Kd.R_nil _ _ _ _ _ | exact Kd.N_nil _ _ _ _ _ | exact Kd.V_nil _ _ _ _ _ | exact Kd.Q_nil _ _ _ _ _ | exact Kd.S_nil _ _ _ _ _, by repeat (first | (with_reducible first | exact HB.out | apply below_alloc | apply pw_below_drewN | apply below_drew1 | refine below_set ?_ GE158.out | refine below_set ?_ GE159.out) | exact HB.out)⟩
              ·rw [if_neg c39] at H
               exact absurd H (by simp)
          ·rw [if_neg c27] at H
           exact absurd H (by simp)
         ·rw [if_neg c26] at H
          exact absurd H (by simp)
        ·rw [if_neg c25] at H
         exact absurd H (by simp)
       ·rw [if_neg c23] at H
        have c23b0 : decide (x52_1 < a3) = false := decide_eq_false c23
        clear c23
        (first | rw [c23b0] | (simp only [i64_w, i32_w]; rw [c23b0]) | skip)
        simp only [Option.some.injEq, Prod.mk.injEq] at H
        obtain ⟨rfl, rfl⟩ := H
        go_wp2
        go_ret2
        exact ⟨_, by first | rfl | (simp [errW_none, errW_some] <;> rfl) | (simp [*, errW_none, errW_some] <;> rfl), by (with_reducible repeat (first | apply Kd.R_alloc | apply Kd.R_drewN | apply Kd.R_drew)); exact HO_13.out, by repeat (first | (with_reducible first | exact HB.out | apply below_alloc | apply pw_below_drewN | apply below_drew1 | refine below_set ?_ GE158.out | refine below_set ?_ GE159.out) | exact HB.out)⟩
    ·have H1 : (some (([] : List (S68)), some q169)) = some (r1, r2) := by rw [if_neg (show ¬ (some q169).isNone = true by simp)] at H; exact H
     clear H
     have H := H1
     clear H1
     try simp only [errW_none, errW_some]
     simp only [Option.some.injEq, Prod.mk.injEq] at H
     obtain ⟨rfl, rfl⟩ := H
     go_wp2
     go_ret2
     exact ⟨_, by first | rfl | (simp [errW_none, errW_some] <;> rfl) | (simp [*, errW_none, errW_some] <;> rfl), by first | exact Kd.R_nil _ _ _ _ _ | exact Kd.N_nil _ _ _ _ _ | exact Kd.V_nil _ _ _ _ _ | exact Kd.Q_nil _ _ _ _ _ | exact Kd.S_nil _ _ _ _ _, by repeat (first | (with_reducible first | exact HB.out | apply below_alloc | apply pw_below_drewN | apply below_drew1 | refine below_set ?_ GE158.out | refine below_set ?_ GE159.out) | exact HB.out)⟩
   ·have H1 : (some (([] : List (S68)), some q164)) = some (r1, r2) := by rw [if_neg (show ¬ (some q164).isNone = true by simp)] at H; exact H
    clear H
    have H := H1
    clear H1
    try simp only [errW_none, errW_some]
    simp only [Option.some.injEq, Prod.mk.injEq] at H
    obtain ⟨rfl, rfl⟩ := H
    go_wp2
    go_ret2
    exact ⟨_, by first | rfl | (simp [errW_none, errW_some] <;> rfl) | (simp [*, errW_none, errW_some] <;> rfl), by first | exact Kd.R_nil _ _ _ _ _ | exact Kd.N_nil _ _ _ _ _ | exact Kd.V_nil _ _ _ _ _ | exact Kd.Q_nil _ _ _ _ _ | exact Kd.S_nil _ _ _ _ _, by repeat (first | (with_reducible first | exact HB.out | apply below_alloc | apply pw_below_drewN | apply below_drew1 | refine below_set ?_ GE158.out | refine below_set ?_ GE159.out) | exact HB.out)⟩

end Go.Proofs.Ytlohkhadbkahdaa.QSyms
