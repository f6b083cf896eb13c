-- Laid by wip/hook.py (this session's own program) out of the translation; with contracts that were written by hand.
import Derived.Test.YtlohkhadbkahdaaQSymsx0
import Derived.Test.YtlohkhadbkahdaaQSymsx3
namespace Go.Proofs.Ytlohkhadbkahdaa.QSyms
open Go.RowKit Go.Proofs.YtlohkhadbkahdaaW.PrintWords Go.Proofs.YtlohkhadbkahdaaW.PrintLast Go.Proofs.YtlohkhadbkahdaaW.PrintMore
attribute [local go_sem] max2_int min2_int max_two min_two max_three min_three max_four min_four   -- for this text's walks alone
set_option linter.unusedVariables false
set_option linter.unusedSimpArgs false

attribute [local go_sem] eqErr_ii neErr_ii eqErr_ni neErr_ni
/-! ### syms_Strings: function 34 -/
def syms_Strings.f (k : Nat) (l0 : List Int) (a1_0 : Int) (a1_1 : Int) (l1_2 : List (S95)) (l2_0 : List Int) (a2_1 : Int) (a2_2 : Int) (a2_3 : Int) (a2_4 : Int) (a2_5 : Int) (a2_6 : Int) (a2_7 : Int) (a2_8 : Int) (a2_9 : Int) (a2_10 : Int) (a2_11 : Int) (a2_12 : Int) (a2_13 : Int) (a2_14 : Bool) (a2_15 : Bool) (a2_16 : Bool) (a2_17 : Int) (a2_18 : Int) (a2_19 : Int) (a2_20 : Int) (a2_21 : Int) (a2_22 : Int) (a2_23 : Int) (a2_24 : Int) (a2_25 : Int) (a2_26 : Int) (a2_27 : Int) (a2_28 : Int) (a2_29 : Int) (a2_30 : Int) (a2_31 : Int) (a2_32 : Bool) (a2_33 : Bool) (a2_34 : Bool) (a2_35 : Bool) (a2_36 : Bool) : Option (List Int × Option Int) := if a2_8 > 1048576 then (some (([] : List Int), some 2)) else ((dyn_Slice.f k l0 a1_0 a1_1 l1_2 a2_4 a2_8).bind fun bt127 => (if bt127.2.isNone = true then (if (bt127.1.length : Int) = 0 then (some (([] : List Int), some 3)) else (if 0 < (bt127.1.length : Int) then (if (rd bt127.1 0) = 0 then (if 0 ≤ (wrap64 ((bt127.1.length : Int) - 1)) then (if (wrap64 ((bt127.1.length : Int) - 1)) < (bt127.1.length : Int) then (if (rd bt127.1 (wrap64 ((bt127.1.length : Int) - 1))) = 0 then (some (bt127.1, none)) else (some (([] : List Int), some 3))) else (none)) else (none)) else (some (([] : List Int), some 3))) else (none))) else (some (([] : List Int), some (bt127.2.getD 0)))))
theorem syms_Strings.mono : ∀ a0 a1 a2 a3 a4 a5 a6 a7 a8 a9 a10 a11 a12 a13 a14 a15 a16 a17 a18 a19 a20 a21 a22 a23 a24 a25 a26 a27 a28 a29 a30 a31 a32 a33 a34 a35 a36 a37 a38 a39 a40 k, LeO (syms_Strings.f k a0 a1 a2 a3 a4 a5 a6 a7 a8 a9 a10 a11 a12 a13 a14 a15 a16 a17 a18 a19 a20 a21 a22 a23 a24 a25 a26 a27 a28 a29 a30 a31 a32 a33 a34 a35 a36 a37 a38 a39 a40) (syms_Strings.f (k + 1) a0 a1 a2 a3 a4 a5 a6 a7 a8 a9 a10 a11 a12 a13 a14 a15 a16 a17 a18 a19 a20 a21 a22 a23 a24 a25 a26 a27 a28 a29 a30 a31 a32 a33 a34 a35 a36 a37 a38 a39 a40) := by
 intro a0 a1 a2 a3 a4 a5 a6 a7 a8 a9 a10 a11 a12 a13 a14 a15 a16 a17 a18 a19 a20 a21 a22 a23 a24 a25 a26 a27 a28 a29 a30 a31 a32 a33 a34 a35 a36 a37 a38 a39 a40 k
 unfold syms_Strings.f
 repeat' first
   | (with_reducible exact dyn_Slice.mono _ _ _ _ _ _ _)
   | (with_reducible exact LeO.refl _)
   | (with_reducible exact LeO.none _)
   | (with_reducible refine LeO.ite ?_ ?_)
   | (with_reducible refine LeO.bind ?_ (fun _ => ?_))
   | exact dyn_Slice.mono _ _ _ _ _ _ _
   | exact LeO.none _
   | refine LeO.ite ?_ ?_
   | refine LeO.bind ?_ (fun _ => ?_)
set_option maxHeartbeats 8000000 in
set_option maxRecDepth 100000 in
theorem syms_Strings.calls (k : Nat) (A0 : Option Addr) (c0 : Nat) (l0 : List Int) (a1_0 : Int) (a1_1 : Int) (A1_2 : Option Addr) (c1_2 : Nat) (l1_2 : List (S95)) (A2_0 : Option Addr) (c2_0 : Nat) (l2_0 : List Int) (a2_1 : Int) (a2_2 : Int) (a2_3 : Int) (a2_4 : Int) (a2_5 : Int) (a2_6 : Int) (a2_7 : Int) (a2_8 : Int) (a2_9 : Int) (a2_10 : Int) (a2_11 : Int) (a2_12 : Int) (a2_13 : Int) (a2_14 : Bool) (a2_15 : Bool) (a2_16 : Bool) (a2_17 : Int) (a2_18 : Int) (a2_19 : Int) (a2_20 : Int) (a2_21 : Int) (a2_22 : Int) (a2_23 : Int) (a2_24 : Int) (a2_25 : Int) (a2_26 : Int) (a2_27 : Int) (a2_28 : Int) (a2_29 : Int) (a2_30 : Int) (a2_31 : Int) (a2_32 : Bool) (a2_33 : Bool) (a2_34 : Bool) (a2_35 : Bool) (a2_36 : Bool) (r1 : List Int) (r2 : Option Int) (w : World) (hr0 : Kd.C (Kd.int .u8) w A0 l0.length l0) (hc0 : l0.length ≤ c0) (hr1_2 : Kd.C k95 w A1_2 l1_2.length l1_2) (hc1_2 : l1_2.length ≤ c1_2) (hr2_0 : Kd.C (Kd.int .u64) w A2_0 l2_0.length l2_0) (hc2_0 : l2_0.length ≤ c2_0) (h : syms_Strings.f k l0 a1_0 a1_1 l1_2 l2_0 a2_1 a2_2 a2_3 a2_4 a2_5 a2_6 a2_7 a2_8 a2_9 a2_10 a2_11 a2_12 a2_13 a2_14 a2_15 a2_16 a2_17 a2_18 a2_19 a2_20 a2_21 a2_22 a2_23 a2_24 a2_25 a2_26 a2_27 a2_28 a2_29 a2_30 a2_31 a2_32 a2_33 a2_34 a2_35 a2_36 = some (r1, r2)) :
  Calls Try.prog 34 #[.slice A0 l0.length c0, .agg #[.int .i64 a1_0, .int .u64 a1_1, .slice A1_2 l1_2.length c1_2], .agg #[.slice A2_0 l2_0.length c2_0, .int .u64 a2_1, .int .u64 a2_2, .int .u64 a2_3, .int .u64 a2_4, .int .u64 a2_5, .int .u64 a2_6, .int .u64 a2_7, .int .u64 a2_8, .int .u64 a2_9, .int .u64 a2_10, .int .u64 a2_11, .int .u64 a2_12, .int .u64 a2_13, .bool a2_14, .bool a2_15, .bool a2_16, .int .u64 a2_17, .int .u64 a2_18, .int .u64 a2_19, .int .u64 a2_20, .int .u64 a2_21, .int .u64 a2_22, .int .u64 a2_23, .int .u64 a2_24, .int .u64 a2_25, .int .u64 a2_26, .int .u64 a2_27, .int .u64 a2_28, .int .u64 a2_29, .int .u64 a2_30, .int .u64 a2_31, .bool a2_32, .bool a2_33, .bool a2_34, .bool a2_35, .bool a2_36]] w fun e w' => ∃ v0_ : Value, e = .returned (.tuple #[v0_, errW r2]) ∧ Kd.V (Kd.int .u8) 5 w' w.heap.size (fun k_ => (w.heap.size ≤ k_)) v0_ r1 ∧ Below w.heap.size w w' := by
 have hu53 := Try.underlying53
 have hu55 := Try.underlying55
 have hu26 := Try.underlying26
 have hu35 := Try.underlying35
 have HR0 := Aside0.mk hr0
 have HC0 := Aside0.mk hc0
 clear hr0 hc0
 have HR1_2 := Aside0.mk hr1_2
 have HC1_2 := Aside0.mk hc1_2
 clear hr1_2 hc1_2
 have HR2_0 := Aside0.mk hr2_0
 have HC2_0 := Aside0.mk hc2_0
 clear hr2_0 hc2_0
 have HB := Aside0.mk (Below.refl w.heap.size w)
 have H : (if a2_8 > 1048576 then (some (([] : List Int), some 2)) else ((dyn_Slice.f k l0 a1_0 a1_1 l1_2 a2_4 a2_8).bind fun bt127 => (if bt127.2.isNone = true then (if (bt127.1.length : Int) = 0 then (some (([] : List Int), some 3)) else (if 0 < (bt127.1.length : Int) then (if (rd bt127.1 0) = 0 then (if 0 ≤ (wrap64 ((bt127.1.length : Int) - 1)) then (if (wrap64 ((bt127.1.length : Int) - 1)) < (bt127.1.length : Int) then (if (rd bt127.1 (wrap64 ((bt127.1.length : Int) - 1))) = 0 then (some (bt127.1, none)) else (some (([] : List Int), some 3))) else (none)) else (none)) else (some (([] : List Int), some 3))) else (none))) else (some (([] : List Int), some (bt127.2.getD 0)))))) = some (r1, r2) := h
 clear h
 have HC4 := Aside0.mk H
 clear H
 go_enter Try.func34, Try.ntmps34
 go_upto_region 1 with (first | ((with_reducible refine gate_ (.load 55 (.tmp 5)) rfl ?_); refine wpList_load_row rfl 55 (.tmp 5) rfl gb126 rfl 55 _ (0, 0) _ (by (with_reducible repeat (first | refine blk_drewN ?_ _ | refine blk_drew ?_ | refine blk_alloc ?_ _)); exact BK126.out) Try.underlying55 rfl (by kernel_rfl) ?_) | ((with_reducible refine gate_dst (N := 4) rfl ?_); (try (refine gate_guard (by rfl) ?_; dsimp only)); refine box_event ?hg (N := 4) ?hd (cs := #[.int .i64 a1_0, .int .u64 a1_1, .slice A1_2 l1_2.length c1_2]) (t := 53) ?hr ?_; (case hd => rfl); (case hg => rfl); (case hr => first | (go_simp; done) | (go_simp; rfl)); intro gb125 hg w5 hbox hb; have n0_ := Aside0.mk (below_step (by repeat (first | (with_reducible first | exact HB.out | apply below_alloc | apply pw_below_drewN | apply below_drew1) | exact HB.out)) hb); have n1_ := Aside0.mk (hbox); have n2_ := Aside0.mk ((by rw [hg]; exact (below_size (by repeat (first | (with_reducible first | exact HB.out | apply below_alloc | apply pw_below_drewN | apply below_drew1) | exact HB.out))) : w.heap.size ≤ gb125)); have n3_ := Aside0.mk ((by rw [hg]; exact (below_size (by repeat (first | (with_reducible first | exact HB.out | apply below_alloc | apply pw_below_drewN | apply below_drew1) | exact HB.out))) : w.heap.size ≤ gb125)); clear HB; have HB := n0_; have BK125 := n1_; have GW125 := n2_; have GE125 := n3_; clear n0_ n1_ n2_ n3_; clear hb hbox hg) | ((with_reducible refine gate_dst (N := 5) rfl ?_); (try (refine gate_guard (by rfl) ?_; dsimp only)); refine box_event ?hg (N := 5) ?hd (cs := #[.slice A2_0 l2_0.length c2_0, .int .u64 a2_1, .int .u64 a2_2, .int .u64 a2_3, .int .u64 a2_4, .int .u64 a2_5, .int .u64 a2_6, .int .u64 a2_7, .int .u64 a2_8, .int .u64 a2_9, .int .u64 a2_10, .int .u64 a2_11, .int .u64 a2_12, .int .u64 a2_13, .bool a2_14, .bool a2_15, .bool a2_16, .int .u64 a2_17, .int .u64 a2_18, .int .u64 a2_19, .int .u64 a2_20, .int .u64 a2_21, .int .u64 a2_22, .int .u64 a2_23, .int .u64 a2_24, .int .u64 a2_25, .int .u64 a2_26, .int .u64 a2_27, .int .u64 a2_28, .int .u64 a2_29, .int .u64 a2_30, .int .u64 a2_31, .bool a2_32, .bool a2_33, .bool a2_34, .bool a2_35, .bool a2_36]) (t := 55) ?hr ?_; (case hd => rfl); (case hg => rfl); (case hr => first | (go_simp; done) | (go_simp; rfl)); intro gb126 hg w6 hbox hb; have n0_ := Aside0.mk (blk_below (g := gb125) (o := .cells #[.int .i64 a1_0, .int .u64 a1_1, .slice A1_2 l1_2.length c1_2] 53 (0, 0)) (by (with_reducible repeat (first | refine blk_drewN ?_ _ | refine blk_drew ?_ | refine blk_alloc ?_ _)); exact BK125.out) hb); have n1_ := Aside0.mk (below_step (by repeat (first | (with_reducible first | exact HB.out | apply below_alloc | apply pw_below_drewN | apply below_drew1 | refine below_set ?_ GE125.out) | exact HB.out)) hb); have n2_ := Aside0.mk (hbox); have n3_ := Aside0.mk ((by rw [hg]; exact (below_size (by repeat (first | (with_reducible first | exact HB.out | apply below_alloc | apply pw_below_drewN | apply below_drew1 | refine below_set ?_ GE125.out) | exact HB.out))) : w.heap.size ≤ gb126)); have n4_ := Aside0.mk ((by rw [hg]; exact (below_size (by repeat (first | (with_reducible first | exact HB.out | apply below_alloc | apply pw_below_drewN | apply below_drew1 | refine below_set ?_ GE125.out) | exact HB.out))) : w.heap.size ≤ gb126)); have n5_ := Aside0.mk ((by rw [hg]; exact Nat.ne_of_lt (blk_lt (g := gb125) (o := .cells #[.int .i64 a1_0, .int .u64 a1_1, .slice A1_2 l1_2.length c1_2] 53 (0, 0)) (by (with_reducible repeat (first | refine blk_drewN ?_ _ | refine blk_drew ?_ | refine blk_alloc ?_ _)); exact BK125.out)) : gb125 ≠ gb126)); have n6_ := Aside0.mk ((by rw [hg]; exact Nat.ne_of_gt (blk_lt (g := gb125) (o := .cells #[.int .i64 a1_0, .int .u64 a1_1, .slice A1_2 l1_2.length c1_2] 53 (0, 0)) (by (with_reducible repeat (first | refine blk_drewN ?_ _ | refine blk_drew ?_ | refine blk_alloc ?_ _)); exact BK125.out)) : gb126 ≠ gb125)); clear BK125; clear HB; have BK125 := n0_; have HB := n1_; have BK126 := n2_; have GW126 := n3_; have GE126 := n4_; have NB125_126 := n5_; have NB126_125 := n6_; clear n0_ n1_ n2_ n3_ n4_ n5_ n6_; clear hb hbox hg))
 (try simp only [Act.put, List.setIfInBounds_toArray, List.set_cons_zero, List.set_cons_succ])
 have H := HC4.out
 clear HC4
 by_cases c7 : a2_8 > 1048576
 ·rw [if_pos c7] at H
  have c7b0 : decide (1048576 < a2_8) = true := decide_eq_true c7
  clear c7
  (first | rw [c7b0] | (simp only [i64_w, i32_w]; rw [c7b0]) | skip)
  simp only [Option.some.injEq, Prod.mk.injEq] at H
  obtain ⟨rfl, rfl⟩ := H
  have hnb8 := NB126_125.out
  have hnc8 := NB125_126.out
  have hcz9_0 : w6.cell? ⟨gb126, 0, none⟩ = some (.slice A2_0 l2_0.length c2_0) := (blk_cell BK126.out 0).trans rfl
  have hcz9_1 : w6.cell? ⟨gb126, 1, none⟩ = some (.int .u64 a2_1) := (blk_cell BK126.out 1).trans rfl
  have hcz9_2 : w6.cell? ⟨gb126, 2, none⟩ = some (.int .u64 a2_2) := (blk_cell BK126.out 2).trans rfl
  have hcz9_3 : w6.cell? ⟨gb126, 3, none⟩ = some (.int .u64 a2_3) := (blk_cell BK126.out 3).trans rfl
  have hcz9_4 : w6.cell? ⟨gb126, 4, none⟩ = some (.int .u64 a2_4) := (blk_cell BK126.out 4).trans rfl
  have hcz9_5 : w6.cell? ⟨gb126, 5, none⟩ = some (.int .u64 a2_5) := (blk_cell BK126.out 5).trans rfl
  have hcz9_6 : w6.cell? ⟨gb126, 6, none⟩ = some (.int .u64 a2_6) := (blk_cell BK126.out 6).trans rfl
  have hcz9_7 : w6.cell? ⟨gb126, 7, none⟩ = some (.int .u64 a2_7) := (blk_cell BK126.out 7).trans rfl
  have hcz9_8 : w6.cell? ⟨gb126, 8, none⟩ = some (.int .u64 a2_8) := (blk_cell BK126.out 8).trans rfl
  have hcz9_9 : w6.cell? ⟨gb126, 9, none⟩ = some (.int .u64 a2_9) := (blk_cell BK126.out 9).trans rfl
  have hcz9_10 : w6.cell? ⟨gb126, 10, none⟩ = some (.int .u64 a2_10) := (blk_cell BK126.out 10).trans rfl
  have hcz9_11 : w6.cell? ⟨gb126, 11, none⟩ = some (.int .u64 a2_11) := (blk_cell BK126.out 11).trans rfl
  have hcz9_12 : w6.cell? ⟨gb126, 12, none⟩ = some (.int .u64 a2_12) := (blk_cell BK126.out 12).trans rfl
  have hcz9_13 : w6.cell? ⟨gb126, 13, none⟩ = some (.int .u64 a2_13) := (blk_cell BK126.out 13).trans rfl
  have hcz9_14 : w6.cell? ⟨gb126, 14, none⟩ = some (.bool a2_14) := (blk_cell BK126.out 14).trans rfl
  have hcz9_15 : w6.cell? ⟨gb126, 15, none⟩ = some (.bool a2_15) := (blk_cell BK126.out 15).trans rfl
  have hcz9_16 : w6.cell? ⟨gb126, 16, none⟩ = some (.bool a2_16) := (blk_cell BK126.out 16).trans rfl
  have hcz9_17 : w6.cell? ⟨gb126, 17, none⟩ = some (.int .u64 a2_17) := (blk_cell BK126.out 17).trans rfl
  have hcz9_18 : w6.cell? ⟨gb126, 18, none⟩ = some (.int .u64 a2_18) := (blk_cell BK126.out 18).trans rfl
  have hcz9_19 : w6.cell? ⟨gb126, 19, none⟩ = some (.int .u64 a2_19) := (blk_cell BK126.out 19).trans rfl
  have hcz9_20 : w6.cell? ⟨gb126, 20, none⟩ = some (.int .u64 a2_20) := (blk_cell BK126.out 20).trans rfl
  have hcz9_21 : w6.cell? ⟨gb126, 21, none⟩ = some (.int .u64 a2_21) := (blk_cell BK126.out 21).trans rfl
  have hcz9_22 : w6.cell? ⟨gb126, 22, none⟩ = some (.int .u64 a2_22) := (blk_cell BK126.out 22).trans rfl
  have hcz9_23 : w6.cell? ⟨gb126, 23, none⟩ = some (.int .u64 a2_23) := (blk_cell BK126.out 23).trans rfl
  have hcz9_24 : w6.cell? ⟨gb126, 24, none⟩ = some (.int .u64 a2_24) := (blk_cell BK126.out 24).trans rfl
  have hcz9_25 : w6.cell? ⟨gb126, 25, none⟩ = some (.int .u64 a2_25) := (blk_cell BK126.out 25).trans rfl
  have hcz9_26 : w6.cell? ⟨gb126, 26, none⟩ = some (.int .u64 a2_26) := (blk_cell BK126.out 26).trans rfl
  have hcz9_27 : w6.cell? ⟨gb126, 27, none⟩ = some (.int .u64 a2_27) := (blk_cell BK126.out 27).trans rfl
  have hcz9_28 : w6.cell? ⟨gb126, 28, none⟩ = some (.int .u64 a2_28) := (blk_cell BK126.out 28).trans rfl
  have hcz9_29 : w6.cell? ⟨gb126, 29, none⟩ = some (.int .u64 a2_29) := (blk_cell BK126.out 29).trans rfl
  have hcz9_30 : w6.cell? ⟨gb126, 30, none⟩ = some (.int .u64 a2_30) := (blk_cell BK126.out 30).trans rfl
  have hcz9_31 : w6.cell? ⟨gb126, 31, none⟩ = some (.int .u64 a2_31) := (blk_cell BK126.out 31).trans rfl
  have hcz9_32 : w6.cell? ⟨gb126, 32, none⟩ = some (.bool a2_32) := (blk_cell BK126.out 32).trans rfl
  have hcz9_33 : w6.cell? ⟨gb126, 33, none⟩ = some (.bool a2_33) := (blk_cell BK126.out 33).trans rfl
  have hcz9_34 : w6.cell? ⟨gb126, 34, none⟩ = some (.bool a2_34) := (blk_cell BK126.out 34).trans rfl
  have hcz9_35 : w6.cell? ⟨gb126, 35, none⟩ = some (.bool a2_35) := (blk_cell BK126.out 35).trans rfl
  have hcz9_36 : w6.cell? ⟨gb126, 36, none⟩ = some (.bool a2_36) := (blk_cell BK126.out 36).trans rfl
  have hfz9_0 := blk_frozen BK126.out 0
  have hfz9_1 := blk_frozen BK126.out 1
  have hfz9_2 := blk_frozen BK126.out 2
  have hfz9_3 := blk_frozen BK126.out 3
  have hfz9_4 := blk_frozen BK126.out 4
  have hfz9_5 := blk_frozen BK126.out 5
  have hfz9_6 := blk_frozen BK126.out 6
  have hfz9_7 := blk_frozen BK126.out 7
  have hfz9_8 := blk_frozen BK126.out 8
  have hfz9_9 := blk_frozen BK126.out 9
  have hfz9_10 := blk_frozen BK126.out 10
  have hfz9_11 := blk_frozen BK126.out 11
  have hfz9_12 := blk_frozen BK126.out 12
  have hfz9_13 := blk_frozen BK126.out 13
  have hfz9_14 := blk_frozen BK126.out 14
  have hfz9_15 := blk_frozen BK126.out 15
  have hfz9_16 := blk_frozen BK126.out 16
  have hfz9_17 := blk_frozen BK126.out 17
  have hfz9_18 := blk_frozen BK126.out 18
  have hfz9_19 := blk_frozen BK126.out 19
  have hfz9_20 := blk_frozen BK126.out 20
  have hfz9_21 := blk_frozen BK126.out 21
  have hfz9_22 := blk_frozen BK126.out 22
  have hfz9_23 := blk_frozen BK126.out 23
  have hfz9_24 := blk_frozen BK126.out 24
  have hfz9_25 := blk_frozen BK126.out 25
  have hfz9_26 := blk_frozen BK126.out 26
  have hfz9_27 := blk_frozen BK126.out 27
  have hfz9_28 := blk_frozen BK126.out 28
  have hfz9_29 := blk_frozen BK126.out 29
  have hfz9_30 := blk_frozen BK126.out 30
  have hfz9_31 := blk_frozen BK126.out 31
  have hfz9_32 := blk_frozen BK126.out 32
  have hfz9_33 := blk_frozen BK126.out 33
  have hfz9_34 := blk_frozen BK126.out 34
  have hfz9_35 := blk_frozen BK126.out 35
  have hfz9_36 := blk_frozen BK126.out 36
  go_wp2
  go_ret2
  exact ⟨_, by first | rfl | (simp [errW_none, errW_some] <;> rfl) | (simp [*, errW_none, errW_some] <;> rfl), Kd.V_nil _ _ _ _ _, by repeat (first | (with_reducible first | exact HB.out | apply below_alloc | apply pw_below_drewN | apply below_drew1 | refine below_set ?_ GE125.out | refine below_set ?_ GE126.out) | exact HB.out)⟩
 ·rw [if_neg c7] at H
  have c7b0 : decide (1048576 < a2_8) = false := decide_eq_false c7
  clear c7
  (first | rw [c7b0] | (simp only [i64_w, i32_w]; rw [c7b0]) | skip)
  replace H := Option.bind_eq_some_iff.mp H
  obtain ⟨⟨t127, t130⟩, A100, H⟩ := H
  replace H : (if t130.isNone = true then (if (t127.length : Int) = 0 then (some (([] : List Int), some 3)) else (if 0 < (t127.length : Int) then (if (rd t127 0) = 0 then (if 0 ≤ (wrap64 ((t127.length : Int) - 1)) then (if (wrap64 ((t127.length : Int) - 1)) < (t127.length : Int) then (if (rd t127 (wrap64 ((t127.length : Int) - 1))) = 0 then (some (t127, none)) else (some (([] : List Int), some 3))) else (none)) else (none)) else (some (([] : List Int), some 3))) else (none))) else (some (([] : List Int), some (t130.getD 0)))) = some (r1, r2) := H
  have A10 := Aside0.mk A100
  clear A100
  have HC11 := Aside0.mk H
  clear H
  have hnb12 := NB126_125.out
  have hnc12 := NB125_126.out
  have hcz13_0 : w6.cell? ⟨gb126, 0, none⟩ = some (.slice A2_0 l2_0.length c2_0) := (blk_cell BK126.out 0).trans rfl
  have hcz13_1 : w6.cell? ⟨gb126, 1, none⟩ = some (.int .u64 a2_1) := (blk_cell BK126.out 1).trans rfl
  have hcz13_2 : w6.cell? ⟨gb126, 2, none⟩ = some (.int .u64 a2_2) := (blk_cell BK126.out 2).trans rfl
  have hcz13_3 : w6.cell? ⟨gb126, 3, none⟩ = some (.int .u64 a2_3) := (blk_cell BK126.out 3).trans rfl
  have hcz13_4 : w6.cell? ⟨gb126, 4, none⟩ = some (.int .u64 a2_4) := (blk_cell BK126.out 4).trans rfl
  have hcz13_5 : w6.cell? ⟨gb126, 5, none⟩ = some (.int .u64 a2_5) := (blk_cell BK126.out 5).trans rfl
  have hcz13_6 : w6.cell? ⟨gb126, 6, none⟩ = some (.int .u64 a2_6) := (blk_cell BK126.out 6).trans rfl
  have hcz13_7 : w6.cell? ⟨gb126, 7, none⟩ = some (.int .u64 a2_7) := (blk_cell BK126.out 7).trans rfl
  have hcz13_8 : w6.cell? ⟨gb126, 8, none⟩ = some (.int .u64 a2_8) := (blk_cell BK126.out 8).trans rfl
  have hcz13_9 : w6.cell? ⟨gb126, 9, none⟩ = some (.int .u64 a2_9) := (blk_cell BK126.out 9).trans rfl
  have hcz13_10 : w6.cell? ⟨gb126, 10, none⟩ = some (.int .u64 a2_10) := (blk_cell BK126.out 10).trans rfl
  have hcz13_11 : w6.cell? ⟨gb126, 11, none⟩ = some (.int .u64 a2_11) := (blk_cell BK126.out 11).trans rfl
  have hcz13_12 : w6.cell? ⟨gb126, 12, none⟩ = some (.int .u64 a2_12) := (blk_cell BK126.out 12).trans rfl
  have hcz13_13 : w6.cell? ⟨gb126, 13, none⟩ = some (.int .u64 a2_13) := (blk_cell BK126.out 13).trans rfl
  have hcz13_14 : w6.cell? ⟨gb126, 14, none⟩ = some (.bool a2_14) := (blk_cell BK126.out 14).trans rfl
  have hcz13_15 : w6.cell? ⟨gb126, 15, none⟩ = some (.bool a2_15) := (blk_cell BK126.out 15).trans rfl
  have hcz13_16 : w6.cell? ⟨gb126, 16, none⟩ = some (.bool a2_16) := (blk_cell BK126.out 16).trans rfl
  have hcz13_17 : w6.cell? ⟨gb126, 17, none⟩ = some (.int .u64 a2_17) := (blk_cell BK126.out 17).trans rfl
  have hcz13_18 : w6.cell? ⟨gb126, 18, none⟩ = some (.int .u64 a2_18) := (blk_cell BK126.out 18).trans rfl
  have hcz13_19 : w6.cell? ⟨gb126, 19, none⟩ = some (.int .u64 a2_19) := (blk_cell BK126.out 19).trans rfl
  have hcz13_20 : w6.cell? ⟨gb126, 20, none⟩ = some (.int .u64 a2_20) := (blk_cell BK126.out 20).trans rfl
  have hcz13_21 : w6.cell? ⟨gb126, 21, none⟩ = some (.int .u64 a2_21) := (blk_cell BK126.out 21).trans rfl
  have hcz13_22 : w6.cell? ⟨gb126, 22, none⟩ = some (.int .u64 a2_22) := (blk_cell BK126.out 22).trans rfl
  have hcz13_23 : w6.cell? ⟨gb126, 23, none⟩ = some (.int .u64 a2_23) := (blk_cell BK126.out 23).trans rfl
  have hcz13_24 : w6.cell? ⟨gb126, 24, none⟩ = some (.int .u64 a2_24) := (blk_cell BK126.out 24).trans rfl
  have hcz13_25 : w6.cell? ⟨gb126, 25, none⟩ = some (.int .u64 a2_25) := (blk_cell BK126.out 25).trans rfl
  have hcz13_26 : w6.cell? ⟨gb126, 26, none⟩ = some (.int .u64 a2_26) := (blk_cell BK126.out 26).trans rfl
  have hcz13_27 : w6.cell? ⟨gb126, 27, none⟩ = some (.int .u64 a2_27) := (blk_cell BK126.out 27).trans rfl
  have hcz13_28 : w6.cell? ⟨gb126, 28, none⟩ = some (.int .u64 a2_28) := (blk_cell BK126.out 28).trans rfl
  have hcz13_29 : w6.cell? ⟨gb126, 29, none⟩ = some (.int .u64 a2_29) := (blk_cell BK126.out 29).trans rfl
  have hcz13_30 : w6.cell? ⟨gb126, 30, none⟩ = some (.int .u64 a2_30) := (blk_cell BK126.out 30).trans rfl
  have hcz13_31 : w6.cell? ⟨gb126, 31, none⟩ = some (.int .u64 a2_31) := (blk_cell BK126.out 31).trans rfl
  have hcz13_32 : w6.cell? ⟨gb126, 32, none⟩ = some (.bool a2_32) := (blk_cell BK126.out 32).trans rfl
  have hcz13_33 : w6.cell? ⟨gb126, 33, none⟩ = some (.bool a2_33) := (blk_cell BK126.out 33).trans rfl
  have hcz13_34 : w6.cell? ⟨gb126, 34, none⟩ = some (.bool a2_34) := (blk_cell BK126.out 34).trans rfl
  have hcz13_35 : w6.cell? ⟨gb126, 35, none⟩ = some (.bool a2_35) := (blk_cell BK126.out 35).trans rfl
  have hcz13_36 : w6.cell? ⟨gb126, 36, none⟩ = some (.bool a2_36) := (blk_cell BK126.out 36).trans rfl
  have hfz13_0 := blk_frozen BK126.out 0
  have hfz13_1 := blk_frozen BK126.out 1
  have hfz13_2 := blk_frozen BK126.out 2
  have hfz13_3 := blk_frozen BK126.out 3
  have hfz13_4 := blk_frozen BK126.out 4
  have hfz13_5 := blk_frozen BK126.out 5
  have hfz13_6 := blk_frozen BK126.out 6
  have hfz13_7 := blk_frozen BK126.out 7
  have hfz13_8 := blk_frozen BK126.out 8
  have hfz13_9 := blk_frozen BK126.out 9
  have hfz13_10 := blk_frozen BK126.out 10
  have hfz13_11 := blk_frozen BK126.out 11
  have hfz13_12 := blk_frozen BK126.out 12
  have hfz13_13 := blk_frozen BK126.out 13
  have hfz13_14 := blk_frozen BK126.out 14
  have hfz13_15 := blk_frozen BK126.out 15
  have hfz13_16 := blk_frozen BK126.out 16
  have hfz13_17 := blk_frozen BK126.out 17
  have hfz13_18 := blk_frozen BK126.out 18
  have hfz13_19 := blk_frozen BK126.out 19
  have hfz13_20 := blk_frozen BK126.out 20
  have hfz13_21 := blk_frozen BK126.out 21
  have hfz13_22 := blk_frozen BK126.out 22
  have hfz13_23 := blk_frozen BK126.out 23
  have hfz13_24 := blk_frozen BK126.out 24
  have hfz13_25 := blk_frozen BK126.out 25
  have hfz13_26 := blk_frozen BK126.out 26
  have hfz13_27 := blk_frozen BK126.out 27
  have hfz13_28 := blk_frozen BK126.out 28
  have hfz13_29 := blk_frozen BK126.out 29
  have hfz13_30 := blk_frozen BK126.out 30
  have hfz13_31 := blk_frozen BK126.out 31
  have hfz13_32 := blk_frozen BK126.out 32
  have hfz13_33 := blk_frozen BK126.out 33
  have hfz13_34 := blk_frozen BK126.out 34
  have hfz13_35 := blk_frozen BK126.out 35
  have hfz13_36 := blk_frozen BK126.out 36
  have hcz14_0 : w6.cell? ⟨gb125, 0, none⟩ = some (.int .i64 a1_0) := (blk_cell BK125.out 0).trans rfl
  have hcz14_1 : w6.cell? ⟨gb125, 1, none⟩ = some (.int .u64 a1_1) := (blk_cell BK125.out 1).trans rfl
  have hcz14_2 : w6.cell? ⟨gb125, 2, none⟩ = some (.slice A1_2 l1_2.length c1_2) := (blk_cell BK125.out 2).trans rfl
  have hfz14_0 := blk_frozen BK125.out 0
  have hfz14_1 := blk_frozen BK125.out 1
  have hfz14_2 := blk_frozen BK125.out 2
  go_upto_region 4 with (first | ((with_reducible refine gate_ (.load 55 (.tmp 5)) rfl ?_); refine wpList_load_row rfl 55 (.tmp 5) rfl gb126 rfl 55 _ (0, 0) _ (by (with_reducible repeat (first | refine blk_drewN ?_ _ | refine blk_drew ?_ | refine blk_alloc ?_ _)); exact BK126.out) Try.underlying55 rfl (by kernel_rfl) ?_) | ((with_reducible refine gate_callee (f := 46) rfl ?_); refine goesL_ (some 21) rfl rfl Try.func46 (by kernel_rfl) rfl #[.slice A0 l0.length c0, .agg #[.int .i64 a1_0, .int .u64 a1_1, .slice A1_2 l1_2.length c1_2], .int .u64 a2_4, .int .u64 a2_8] rfl (by (try simp only [List.map_toArray, List.map_cons, List.map_nil]); first | done | rfl | (simp only [List.length_drop, List.length_take]; rfl)) ?_; (with_reducible refine (dyn_Slice.calls k _ _ l0 a1_0 a1_1 _ _ l1_2 a2_4 a2_8 t127 t130 _ ?side1 ?side2 ?side3 ?side4 A10.out).mono ?_); (case side1 => repeat (first | exact (Kd.C_below HR0.out HB.out) | (with_reducible refine Kd.C_alloc ?_ _) | (with_reducible refine Kd.C_drewN ?_ _) | (with_reducible refine Kd.C_drew ?_))); (case side2 => exact HC0.out); (case side3 => repeat (first | exact (Kd.C_below HR1_2.out HB.out) | (with_reducible refine Kd.C_alloc ?_ _) | (with_reducible refine Kd.C_drewN ?_ _) | (with_reducible refine Kd.C_drew ?_))); (case side4 => exact HC1_2.out); rintro e w15 ⟨v128, rfl, ho0, hb⟩; refine ⟨_, rfl, ?_⟩; have n0_ := Aside0.mk (Kd.V_lower (Kd.V_mono (ok' := fun k_ => (w.heap.size ≤ k_) ∧ k_ ≠ gb125 ∧ k_ ≠ gb126) ho0 (fun k_ hk_ => ⟨(Nat.le_trans (below_size (by repeat (first | (with_reducible first | exact HB.out | apply below_alloc | apply pw_below_drewN | apply below_drew1 | refine below_set ?_ GE125.out | refine below_set ?_ GE126.out) | exact HB.out))) hk_), (Kd.freshB (g := gb125) (o := .cells #[.int .i64 a1_0, .int .u64 a1_1, .slice A1_2 l1_2.length c1_2] 53 (0, 0)) (by (with_reducible repeat (first | refine blk_drewN ?_ _ | refine blk_drew ?_ | refine blk_alloc ?_ _)); exact BK125.out) k_ hk_), (Kd.freshB (g := gb126) (o := .cells #[.slice A2_0 l2_0.length c2_0, .int .u64 a2_1, .int .u64 a2_2, .int .u64 a2_3, .int .u64 a2_4, .int .u64 a2_5, .int .u64 a2_6, .int .u64 a2_7, .int .u64 a2_8, .int .u64 a2_9, .int .u64 a2_10, .int .u64 a2_11, .int .u64 a2_12, .int .u64 a2_13, .bool a2_14, .bool a2_15, .bool a2_16, .int .u64 a2_17, .int .u64 a2_18, .int .u64 a2_19, .int .u64 a2_20, .int .u64 a2_21, .int .u64 a2_22, .int .u64 a2_23, .int .u64 a2_24, .int .u64 a2_25, .int .u64 a2_26, .int .u64 a2_27, .int .u64 a2_28, .int .u64 a2_29, .int .u64 a2_30, .int .u64 a2_31, .bool a2_32, .bool a2_33, .bool a2_34, .bool a2_35, .bool a2_36] 55 (0, 0)) (by (with_reducible repeat (first | refine blk_drewN ?_ _ | refine blk_drew ?_ | refine blk_alloc ?_ _)); exact BK126.out) k_ hk_)⟩)) (below_size (by repeat (first | (with_reducible first | exact HB.out | apply below_alloc | apply pw_below_drewN | apply below_drew1 | refine below_set ?_ GE125.out | refine below_set ?_ GE126.out) | exact HB.out)))); have n1_ := Aside0.mk (blk_below (g := gb125) (o := .cells #[.int .i64 a1_0, .int .u64 a1_1, .slice A1_2 l1_2.length c1_2] 53 (0, 0)) (by (with_reducible repeat (first | refine blk_drewN ?_ _ | refine blk_drew ?_ | refine blk_alloc ?_ _)); exact BK125.out) hb); have n2_ := Aside0.mk (blk_below (g := gb126) (o := .cells #[.slice A2_0 l2_0.length c2_0, .int .u64 a2_1, .int .u64 a2_2, .int .u64 a2_3, .int .u64 a2_4, .int .u64 a2_5, .int .u64 a2_6, .int .u64 a2_7, .int .u64 a2_8, .int .u64 a2_9, .int .u64 a2_10, .int .u64 a2_11, .int .u64 a2_12, .int .u64 a2_13, .bool a2_14, .bool a2_15, .bool a2_16, .int .u64 a2_17, .int .u64 a2_18, .int .u64 a2_19, .int .u64 a2_20, .int .u64 a2_21, .int .u64 a2_22, .int .u64 a2_23, .int .u64 a2_24, .int .u64 a2_25, .int .u64 a2_26, .int .u64 a2_27, .int .u64 a2_28, .int .u64 a2_29, .int .u64 a2_30, .int .u64 a2_31, .bool a2_32, .bool a2_33, .bool a2_34, .bool a2_35, .bool a2_36] 55 (0, 0)) (by (with_reducible repeat (first | refine blk_drewN ?_ _ | refine blk_drew ?_ | refine blk_alloc ?_ _)); exact BK126.out) hb); have n3_ := Aside0.mk (below_step (by repeat (first | (with_reducible first | exact HB.out | apply below_alloc | apply pw_below_drewN | apply below_drew1 | refine below_set ?_ GE125.out | refine below_set ?_ GE126.out) | exact HB.out)) hb); clear BK125; clear BK126; clear HB; have HO129 := n0_; have BK125 := n1_; have BK126 := n2_; have HB := n3_; clear n0_ n1_ n2_ n3_; (try clear hb); (try clear hb2); (try clear hk); (try clear hi); (try clear ho0); (try simp only [errW_none, errW_some])))
  (try simp only [Act.put, List.setIfInBounds_toArray, List.set_cons_zero, List.set_cons_succ])
  have H := HC11.out
  clear HC11
  rcases t130 with _ | q131
  ·have H1 : (if (t127.length : Int) = 0 then (some (([] : List Int), some 3)) else (if 0 < (t127.length : Int) then (if (rd t127 0) = 0 then (if 0 ≤ (wrap64 ((t127.length : Int) - 1)) then (if (wrap64 ((t127.length : Int) - 1)) < (t127.length : Int) then (if (rd t127 (wrap64 ((t127.length : Int) - 1))) = 0 then (some (t127, none)) else (some (([] : List Int), some 3))) else (none)) else (none)) else (some (([] : List Int), some 3))) else (none))) = some (r1, r2) := by rw [if_pos (show (none : Option Int).isNone = true by rfl)] at H; exact H
   clear H
   have H := H1
   clear H1
   try simp only [errW_none, errW_some]
   have HC16 := Aside0.mk H
   clear H
   go_upto_region 6 with (fail)
   have H := HC16.out
   clear HC16
   by_cases c17 : (t127.length : Int) = 0
   ·rw [if_pos c17] at H
    have c17b0 : ((t127.length : Int) == 0) = true := beq_iff_eq.mpr c17
    have c17b1 : ((t127.length : Int) != 0) = false := bne_eq_false_iff_eq.mpr c17
    clear c17
    (first | rw [c17b0] | (simp only [i64_w, i32_w]; rw [c17b0]) | skip)
    simp only [Option.some.injEq, Prod.mk.injEq] at H
    obtain ⟨rfl, rfl⟩ := H
    obtain ⟨Ao18, co18, eo18⟩ := Kd.V_slice HO129.out
    subst eo18
    go_wp2
    go_ret2
    exact ⟨_, by first | rfl | (simp [errW_none, errW_some] <;> rfl) | (simp [*, errW_none, errW_some] <;> rfl), Kd.V_nil _ _ _ _ _, by repeat (first | (with_reducible first | exact HB.out | apply below_alloc | apply pw_below_drewN | apply below_drew1 | refine below_set ?_ GE125.out | refine below_set ?_ GE126.out) | exact HB.out)⟩
   ·rw [if_neg c17] at H
    have c17b0 : ((t127.length : Int) == 0) = false := beq_eq_false_iff_ne.mpr c17
    have c17b1 : ((t127.length : Int) != 0) = true := bne_iff_ne.mpr c17
    have c17b2 : ¬ (t127 = []) := fun h_ => c17 (by rw [h_]; rfl)
    (first | rw [c17b0] | (simp only [i64_w, i32_w]; rw [c17b0]) | skip)
    by_cases c19 : 0 < (t127.length : Int)
    ·rw [if_pos c19] at H
     have c19b0 : decide (0 < (t127.length : Int)) = true := decide_eq_true c19
     have c19b1 : decide (0 < t127.length) = true := decide_eq_true (by omega)
     clear c19
     by_cases c20 : (rd t127 0) = 0
     ·rw [if_pos c20] at H
      have c20b0 : ((rd t127 0) == 0) = true := beq_iff_eq.mpr c20
      have c20b1 : ((rd t127 0) != 0) = false := bne_eq_false_iff_eq.mpr c20
      clear c20
      obtain ⟨ji21, hji21⟩ : ∃ j_ : Int, (wrap64 ((t127.length : Int) - 1)) = j_ := ⟨_, rfl⟩
      replace H : (if 0 ≤ (ji21) then (if (ji21) < (t127.length : Int) then (if (rd t127 (ji21)) = 0 then (some (t127, none)) else (some (([] : List Int), some 3))) else (none)) else (none)) = some (r1, r2) := by first | (rw [hji21] at H; exact H) | (simp only [hji21] at H ⊢; exact H)
      have hji21w : (IntKind.i64.wrap ((t127.length : Int) - 1)) = ji21 := (i64_w _).trans hji21
      by_cases c22 : 0 ≤ (ji21)
      ·rw [if_pos c22] at H
       have c22b0 : decide (0 ≤ (ji21)) = true := decide_eq_true c22
       clear c22
       by_cases c23 : (ji21) < (t127.length : Int)
       ·rw [if_pos c23] at H
        have c23b0 : decide ((ji21) < (t127.length : Int)) = true := decide_eq_true c23
        clear c23
        by_cases c24 : (rd t127 (ji21)) = 0
        ·rw [if_pos c24] at H
         have c24b0 : ((rd t127 (ji21)) == 0) = true := beq_iff_eq.mpr c24
         have c24b1 : ((rd t127 (ji21)) != 0) = false := bne_eq_false_iff_eq.mpr c24
         clear c24
         simp only [Option.some.injEq, Prod.mk.injEq] at H
         obtain ⟨rfl, rfl⟩ := H
         obtain ⟨Ao25, co25, eo25⟩ := Kd.V_slice HO129.out
         subst eo25
         have p132 : 0 ≤ (0 : Int) := (by omega)
         have q132 : 0 < (t127.length : Int) := of_decide_eq_true (by assumption)
         obtain ⟨ad132, e132, hx132_0⟩ := Kd.at_int (Kd.V_reads' HO129.out).2.2 0 p132 q132
         cases e132
         have qi132 : (0 < t127.length) = True := eq_true (by omega)
         (try rw [show ((0 : Int)).toNat = 0 from rfl] at hx132_0)
         (try rw [Addr.add_zero'] at hx132_0)
         replace p132 := eq_true p132
         replace q132 := eq_true q132
         have p133 : 0 ≤ ((ji21) : Int) := of_decide_eq_true (by assumption)
         have q133 : (ji21) < (t127.length : Int) := of_decide_eq_true (by assumption)
         obtain ⟨ad133, e133, hx133_0⟩ := Kd.at_int (Kd.V_reads' HO129.out).2.2 (ji21) p133 q133
         obtain rfl : ad132 = ad133 := (by injection e133)
         replace p133 := eq_true p133
         replace q133 := eq_true q133
         go_wp2
         go_ret2
         exact ⟨_, by first | rfl | (simp [errW_none, errW_some] <;> rfl) | (simp only [← hji21]; first | rfl | (simp [errW_none, errW_some] <;> rfl)) | (simp [*, errW_none, errW_some] <;> rfl), by (with_reducible repeat (first | apply Kd.V_alloc | apply Kd.V_drewN | apply Kd.V_drew)); exact Kd.V_mono HO129.out (fun _ hk => hk.1), by repeat (first | (with_reducible first | exact HB.out | apply below_alloc | apply pw_below_drewN | apply below_drew1 | refine below_set ?_ GE125.out | refine below_set ?_ GE126.out) | exact HB.out)⟩
        ·rw [if_neg c24] at H
         have c24b0 : ((rd t127 (ji21)) == 0) = false := beq_eq_false_iff_ne.mpr c24
         have c24b1 : ((rd t127 (ji21)) != 0) = true := bne_iff_ne.mpr c24
         simp only [Option.some.injEq, Prod.mk.injEq] at H
         obtain ⟨rfl, rfl⟩ := H
         obtain ⟨Ao26, co26, eo26⟩ := Kd.V_slice HO129.out
         subst eo26
         have p132 : 0 ≤ (0 : Int) := (by omega)
         have q132 : 0 < (t127.length : Int) := of_decide_eq_true (by assumption)
         obtain ⟨ad132, e132, hx132_0⟩ := Kd.at_int (Kd.V_reads' HO129.out).2.2 0 p132 q132
         cases e132
         have qi132 : (0 < t127.length) = True := eq_true (by omega)
         (try rw [show ((0 : Int)).toNat = 0 from rfl] at hx132_0)
         (try rw [Addr.add_zero'] at hx132_0)
         replace p132 := eq_true p132
         replace q132 := eq_true q132
         have p133 : 0 ≤ ((ji21) : Int) := of_decide_eq_true (by assumption)
         have q133 : (ji21) < (t127.length : Int) := of_decide_eq_true (by assumption)
         obtain ⟨ad133, e133, hx133_0⟩ := Kd.at_int (Kd.V_reads' HO129.out).2.2 (ji21) p133 q133
         obtain rfl : ad132 = ad133 := (by injection e133)
         replace p133 := eq_true p133
         replace q133 := eq_true q133
         go_wp2
         go_ret2
         exact ⟨_, by first | rfl | (simp [errW_none, errW_some] <;> rfl) | (simp only [← hji21]; first | rfl | (simp [errW_none, errW_some] <;> rfl)) | (simp [*, errW_none, errW_some] <;> rfl), Kd.V_nil _ _ _ _ _, by repeat (first | (with_reducible first | exact HB.out | apply below_alloc | apply pw_below_drewN | apply below_drew1 | refine below_set ?_ GE125.out | refine below_set ?_ GE126.out) | exact HB.out)⟩
       ·rw [if_neg c23] at H
        exact absurd H (by simp)
      ·rw [if_neg c22] at H
       exact absurd H (by simp)
     ·rw [if_neg c20] at H
      have c20b0 : ((rd t127 0) == 0) = false := beq_eq_false_iff_ne.mpr c20
      have c20b1 : ((rd t127 0) != 0) = true := bne_iff_ne.mpr c20
      simp only [Option.some.injEq, Prod.mk.injEq] at H
      obtain ⟨rfl, rfl⟩ := H
      obtain ⟨Ao27, co27, eo27⟩ := Kd.V_slice HO129.out
      subst eo27
      have p132 : 0 ≤ (0 : Int) := (by omega)
      have q132 : 0 < (t127.length : Int) := of_decide_eq_true (by assumption)
      obtain ⟨ad132, e132, hx132_0⟩ := Kd.at_int (Kd.V_reads' HO129.out).2.2 0 p132 q132
      cases e132
      have qi132 : (0 < t127.length) = True := eq_true (by omega)
      (try rw [show ((0 : Int)).toNat = 0 from rfl] at hx132_0)
      (try rw [Addr.add_zero'] at hx132_0)
      replace p132 := eq_true p132
      replace q132 := eq_true q132
      go_wp2
      go_ret2
      exact ⟨_, by first | rfl | (simp [errW_none, errW_some] <;> rfl) | (simp [*, errW_none, errW_some] <;> rfl), Kd.V_nil _ _ _ _ _, by repeat (first | (with_reducible first | exact HB.out | apply below_alloc | apply pw_below_drewN | apply below_drew1 | refine below_set ?_ GE125.out | refine below_set ?_ GE126.out) | exact HB.out)⟩
    ·rw [if_neg c19] at H
     exact absurd H (by simp)
  ·have H1 : (some (([] : List Int), some q131)) = some (r1, r2) := by rw [if_neg (show ¬ (some q131).isNone = true by simp)] at H; exact H
   clear H
   have H := H1
   clear H1
   try simp only [errW_none, errW_some]
   simp only [Option.some.injEq, Prod.mk.injEq] at H
   obtain ⟨rfl, rfl⟩ := H
   go_wp2
   go_ret2
   exact ⟨_, by first | rfl | (simp [errW_none, errW_some] <;> rfl) | (simp [*, errW_none, errW_some] <;> rfl), Kd.V_nil _ _ _ _ _, by repeat (first | (with_reducible first | exact HB.out | apply below_alloc | apply pw_below_drewN | apply below_drew1 | refine below_set ?_ GE125.out | refine below_set ?_ GE126.out) | exact HB.out)⟩

/-! ### shackleref05_Offset: function 54 -/
mutual
def shackleref05_Offset.l0 : Nat → Int → Int → Int → Int → Int → List (S95) → Option (Int × Int)
 | 0, _, _, _, _, _, _ => none
 | k + 1, x1, x2, x8, x135000, x135001, x135002 => if x8 < (x135002.length : Int) then (if 0 ≤ x8 then (if ((rd_T95 x135002 x8).f0) = 1 then (if x1 < ((rd_T95 x135002 x8).f3) then (shackleref05_Offset.j1 k x1 x2 x8 true x135000 x135001 x135002 ((rd_T95 x135002 x8).f0) ((rd_T95 x135002 x8).f1) ((rd_T95 x135002 x8).f2) ((rd_T95 x135002 x8).f3) ((rd_T95 x135002 x8).f4) ((rd_T95 x135002 x8).f5) ((rd_T95 x135002 x8).f6)) else (if (IntKind.u64.wrap (x1 - ((rd_T95 x135002 x8).f3))) > ((rd_T95 x135002 x8).f4) then (shackleref05_Offset.j1 k x1 x2 x8 true x135000 x135001 x135002 ((rd_T95 x135002 x8).f0) ((rd_T95 x135002 x8).f1) ((rd_T95 x135002 x8).f2) ((rd_T95 x135002 x8).f3) ((rd_T95 x135002 x8).f4) ((rd_T95 x135002 x8).f5) ((rd_T95 x135002 x8).f6)) else (shackleref05_Offset.j1 k x1 x2 x8 (decide (x2 > (IntKind.u64.wrap (((rd_T95 x135002 x8).f4) - (IntKind.u64.wrap (x1 - ((rd_T95 x135002 x8).f3))))))) x135000 x135001 x135002 ((rd_T95 x135002 x8).f0) ((rd_T95 x135002 x8).f1) ((rd_T95 x135002 x8).f2) ((rd_T95 x135002 x8).f3) ((rd_T95 x135002 x8).f4) ((rd_T95 x135002 x8).f5) ((rd_T95 x135002 x8).f6)))) else (shackleref05_Offset.j1 k x1 x2 x8 true x135000 x135001 x135002 ((rd_T95 x135002 x8).f0) ((rd_T95 x135002 x8).f1) ((rd_T95 x135002 x8).f2) ((rd_T95 x135002 x8).f3) ((rd_T95 x135002 x8).f4) ((rd_T95 x135002 x8).f5) ((rd_T95 x135002 x8).f6))) else (none)) else (some (0, 4))
def shackleref05_Offset.j1 : Nat → Int → Int → Int → Bool → Int → Int → List (S95) → Int → Int → Int → Int → Int → Int → Int → Option (Int × Int)
 | 0, _, _, _, _, _, _, _, _, _, _, _, _, _, _ => none
 | k + 1, x1, x2, x8, x51, x135000, x135001, x135002, x137000, x137001, x137002, x137003, x137004, x137005, x137006 => if x51 = true then (shackleref05_Offset.l0 k x1 x2 (wrap64 (x8 + 1)) x135000 x135001 x135002) else (if (IntKind.u64.wrap (x137002 + (IntKind.u64.wrap (x1 - x137003)))) < x137002 then (some (0, 4)) else (some (IntKind.u64.wrap (x137002 + (IntKind.u64.wrap (x1 - x137003))), 0)))
end
def shackleref05_Offset.f (k : Nat) (a0_0 : Int) (a0_1 : Int) (l0_2 : List (S95)) (a1 : Int) (a2 : Int) : Option (Int × Int) := shackleref05_Offset.l0 k a1 a2 0 a0_0 a0_1 l0_2
theorem shackleref05_Offset.mono_l : ∀ k, (∀ y0 y1 y2 y3 y4 y5, LeO (shackleref05_Offset.l0 k y0 y1 y2 y3 y4 y5) (shackleref05_Offset.l0 (k + 1) y0 y1 y2 y3 y4 y5)) ∧ (∀ y0 y1 y2 y3 y4 y5 y6 y7 y8 y9 y10 y11 y12 y13, LeO (shackleref05_Offset.j1 k y0 y1 y2 y3 y4 y5 y6 y7 y8 y9 y10 y11 y12 y13) (shackleref05_Offset.j1 (k + 1) y0 y1 y2 y3 y4 y5 y6 y7 y8 y9 y10 y11 y12 y13))
 | 0 => ⟨fun _ _ _ _ _ _ r h => by simp [shackleref05_Offset.l0] at h, fun _ _ _ _ _ _ _ _ _ _ _ _ _ _ r h => by simp [shackleref05_Offset.j1] at h⟩
 | k + 1 => by
  obtain ⟨ih0, ih1⟩ := shackleref05_Offset.mono_l k
  refine ⟨?_, ?_⟩
  ·intro y0 y1 y2 y3 y4 y5
   unfold shackleref05_Offset.l0
   repeat' first
   | (with_reducible exact ih0 _ _ _ _ _ _)
   | (with_reducible exact ih1 _ _ _ _ _ _ _ _ _ _ _ _ _ _)
   | (with_reducible exact LeO.refl _)
   | (with_reducible exact LeO.none _)
   | (with_reducible refine LeO.ite ?_ ?_)
   | (with_reducible refine LeO.bind ?_ (fun _ => ?_))
   | exact ih0 _ _ _ _ _ _
   | exact ih1 _ _ _ _ _ _ _ _ _ _ _ _ _ _
   | exact LeO.none _
   | refine LeO.ite ?_ ?_
   | refine LeO.bind ?_ (fun _ => ?_)
  ·intro y0 y1 y2 y3 y4 y5 y6 y7 y8 y9 y10 y11 y12 y13
   unfold shackleref05_Offset.j1
   repeat' first
   | (with_reducible exact ih0 _ _ _ _ _ _)
   | (with_reducible exact ih1 _ _ _ _ _ _ _ _ _ _ _ _ _ _)
   | (with_reducible exact LeO.refl _)
   | (with_reducible exact LeO.none _)
   | (with_reducible refine LeO.ite ?_ ?_)
   | (with_reducible refine LeO.bind ?_ (fun _ => ?_))
   | exact ih0 _ _ _ _ _ _
   | exact ih1 _ _ _ _ _ _ _ _ _ _ _ _ _ _
   | exact LeO.none _
   | refine LeO.ite ?_ ?_
   | refine LeO.bind ?_ (fun _ => ?_)
theorem shackleref05_Offset.mono : ∀ a0 a1 a2 a3 a4 k, LeO (shackleref05_Offset.f k a0 a1 a2 a3 a4) (shackleref05_Offset.f (k + 1) a0 a1 a2 a3 a4) := by
 intro a0 a1 a2 a3 a4 k
 obtain ⟨ih0, ih1⟩ := shackleref05_Offset.mono_l k
 unfold shackleref05_Offset.f
 repeat' first
   | (with_reducible exact ih0 _ _ _ _ _ _)
   | (with_reducible exact ih1 _ _ _ _ _ _ _ _ _ _ _ _ _ _)
   | (with_reducible exact LeO.refl _)
   | (with_reducible exact LeO.none _)
   | (with_reducible refine LeO.ite ?_ ?_)
   | (with_reducible refine LeO.bind ?_ (fun _ => ?_))
   | exact ih0 _ _ _ _ _ _
   | exact ih1 _ _ _ _ _ _ _ _ _ _ _ _ _ _
   | exact LeO.none _
   | refine LeO.ite ?_ ?_
   | refine LeO.bind ?_ (fun _ => ?_)
set_option maxHeartbeats 8000000 in
set_option maxRecDepth 100000 in
theorem shackleref05_Offset.calls (k : Nat) (a0_0 : Int) (a0_1 : Int) (A0_2 : Option Addr) (c0_2 : Nat) (l0_2 : List (S95)) (a1 : Int) (a2 : Int) (r1 : Int) (r2 : Int) (w : World) (hr0_2 : Kd.C k95 w A0_2 l0_2.length l0_2) (hc0_2 : l0_2.length ≤ c0_2) (h : shackleref05_Offset.f k a0_0 a0_1 l0_2 a1 a2 = some (r1, r2)) :
  Calls Try.prog 54 #[.agg #[.int .i64 a0_0, .int .u64 a0_1, .slice A0_2 l0_2.length c0_2], .int .u64 a1, .int .u64 a2] w fun e w' => e = .returned (.tuple #[.int .u64 r1, .int .i64 r2]) ∧ Below w.heap.size w w' := by
 have hu53 := Try.underlying53
 have hu95 := Try.underlying95
 have HR0_2 := Aside0.mk hr0_2
 have HC0_2 := Aside0.mk hc0_2
 clear hr0_2 hc0_2
 have HB := Aside0.mk (Below.refl w.heap.size w)
 have H : (shackleref05_Offset.l0 k a1 a2 0 a0_0 a0_1 l0_2) = some (r1, r2) := h
 clear h
 have H' := Aside0.mk H
 clear H
 go_enter Try.func54, Try.ntmps54
 go_wp2_with (first | ((with_reducible refine gate_dst (N := 3) rfl ?_); refine box_event ?hg (N := 3) ?hd (cs := #[.int .i64 a0_0, .int .u64 a0_1, .slice A0_2 l0_2.length c0_2]) (t := 53) ?hr ?_; (case hd => rfl); (case hg => rfl); (case hr => first | (go_simp; done) | (go_simp; rfl)); intro gb134 hg w4 hbox hb; have n0_ := Aside0.mk (below_step (by repeat (first | (with_reducible first | exact HB.out | apply below_alloc | apply pw_below_drewN | apply below_drew1) | exact HB.out)) hb); have n1_ := Aside0.mk (hbox); have n2_ := Aside0.mk ((by rw [hg]; exact (below_size (by repeat (first | (with_reducible first | exact HB.out | apply below_alloc | apply pw_below_drewN | apply below_drew1) | exact HB.out))) : w.heap.size ≤ gb134)); have n3_ := Aside0.mk ((by rw [hg]; exact (below_size (by repeat (first | (with_reducible first | exact HB.out | apply below_alloc | apply pw_below_drewN | apply below_drew1) | exact HB.out))) : w.heap.size ≤ gb134)); clear HB; have HB := n0_; have BK134 := n1_; have GW134 := n2_; have GE134 := n3_; clear n0_ n1_ n2_ n3_; clear hb hbox hg))
 go_loopg [8] k (fun kq v8 w' => ∃ (x8_1 : Int), v8 = .int .i64 x8_1 ∧ Aside0 (shackleref05_Offset.l0 kq a1 a2 x8_1 a0_0 a0_1 l0_2 = some (r1, r2)) ∧ Aside0 (kq ≤ k) ∧ Aside0 (w'.heap[gb134]? = some (.cells #[.int .i64 a0_0, .int .u64 a0_1, (.slice A0_2 l0_2.length c0_2)] 53 (0, 0))) ∧ Aside0 (Below w.heap.size w w'))
 case atStart => exact ⟨(0), (by first | rfl | (simp; done) | (simp [*]; done)), H', ⟨Nat.le_refl _⟩, ⟨by (with_reducible repeat (first | refine blk_drewN ?_ _ | refine blk_drew ?_ | refine blk_alloc ?_ _)); exact BK134.out⟩, ⟨by repeat (first | (with_reducible first | exact HB.out | apply below_alloc | apply pw_below_drewN | apply below_drew1 | refine below_set ?_ GE134.out) | exact HB.out)⟩⟩
 case round =>
  clear H'
  try clear p2
  obtain ⟨x8_1, rfl, HA, HK1, BK134, HB⟩ := hrel
  cases gk with
  | zero => exact absurd HA.out (by simp [shackleref05_Offset.l0])
  | succ k1 =>
   have H := HA.out
   clear HA
   simp only [shackleref05_Offset.l0] at H
   by_cases c5 : x8_1 < (l0_2.length : Int)
   ·rw [if_pos c5] at H
    have c5b0 : decide (x8_1 < (l0_2.length : Int)) = true := decide_eq_true c5
    clear c5
    by_cases c6 : 0 ≤ x8_1
    ·rw [if_pos c6] at H
     have c6b0 : decide (0 ≤ x8_1) = true := decide_eq_true c6
     clear c6
     have HC7 := Aside0.mk H
     clear H
     have hcz8_0 : wr.cell? ⟨gb134, 0, none⟩ = some (.int .i64 a0_0) := (blk_cell BK134.out 0).trans rfl
     have hcz8_1 : wr.cell? ⟨gb134, 1, none⟩ = some (.int .u64 a0_1) := (blk_cell BK134.out 1).trans rfl
     have hcz8_2 : wr.cell? ⟨gb134, 2, none⟩ = some (.slice A0_2 l0_2.length c0_2) := (blk_cell BK134.out 2).trans rfl
     have hfz8_0 := blk_frozen BK134.out 0
     have hfz8_1 := blk_frozen BK134.out 1
     have hfz8_2 := blk_frozen BK134.out 2
     have p135 : 0 ≤ (x8_1 : Int) := of_decide_eq_true (by assumption)
     have q135 : x8_1 < (l0_2.length : Int) := of_decide_eq_true (by assumption)
     obtain ⟨ad135, e135, hx135_0, hx135_1, hx135_2, hx135_3, hx135_4, hx135_5, hx135_6⟩ := at_T95 HR0_2.out x8_1 p135 q135
     cases e135
     replace hx135_0 := (HB.out.cell (World.block_lt_of_cell? w _ hx135_0)).trans hx135_0
     replace hx135_1 := (HB.out.cell (World.block_lt_of_cell? w _ hx135_1)).trans hx135_1
     replace hx135_2 := (HB.out.cell (World.block_lt_of_cell? w _ hx135_2)).trans hx135_2
     replace hx135_3 := (HB.out.cell (World.block_lt_of_cell? w _ hx135_3)).trans hx135_3
     replace hx135_4 := (HB.out.cell (World.block_lt_of_cell? w _ hx135_4)).trans hx135_4
     replace hx135_5 := (HB.out.cell (World.block_lt_of_cell? w _ hx135_5)).trans hx135_5
     replace hx135_6 := (HB.out.cell (World.block_lt_of_cell? w _ hx135_6)).trans hx135_6
     replace p135 := eq_true p135
     replace q135 := eq_true q135
     go_upto_region 5 with (first | ((with_reducible refine gate_dst (N := 9) rfl ?_); refine box_event ?hg (N := 9) ?hd (cs := #[.int .u32 0, .int .u32 0, .int .u64 0, .int .u64 0, .int .u64 0, .int .u64 0, .int .u64 0]) (t := 95) ?hr ?_; (case hd => rfl); (case hg => rfl); (case hr => first | (go_simp; done) | (go_simp; rfl)); intro gb136 hg w9 hbox hb; have n0_ := Aside0.mk (blk_below (g := gb134) (o := .cells #[.int .i64 a0_0, .int .u64 a0_1, .slice (some ad135) l0_2.length c0_2] 53 (0, 0)) (by (with_reducible repeat (first | refine blk_drewN ?_ _ | refine blk_drew ?_ | refine blk_alloc ?_ _)); exact BK134.out) hb); have n1_ := Aside0.mk (below_step (by repeat (first | (with_reducible first | exact HB.out | apply below_alloc | apply pw_below_drewN | apply below_drew1 | refine below_set ?_ GE134.out) | exact HB.out)) hb); have n2_ := Aside0.mk (hbox); have n3_ := Aside0.mk ((by rw [hg]; exact (below_size (by repeat (first | (with_reducible first | exact HB.out | apply below_alloc | apply pw_below_drewN | apply below_drew1 | refine below_set ?_ GE134.out) | exact HB.out))) : w.heap.size ≤ gb136)); have n4_ := Aside0.mk ((by rw [hg]; exact (below_size (by repeat (first | (with_reducible first | exact HB.out | apply below_alloc | apply pw_below_drewN | apply below_drew1 | refine below_set ?_ GE134.out) | exact HB.out))) : w.heap.size ≤ gb136)); have n5_ := Aside0.mk ((by rw [hg]; exact Nat.ne_of_lt (blk_lt (g := gb134) (o := .cells #[.int .i64 a0_0, .int .u64 a0_1, .slice (some ad135) l0_2.length c0_2] 53 (0, 0)) (by (with_reducible repeat (first | refine blk_drewN ?_ _ | refine blk_drew ?_ | refine blk_alloc ?_ _)); exact BK134.out)) : gb134 ≠ gb136)); have n6_ := Aside0.mk ((by rw [hg]; exact Nat.ne_of_gt (blk_lt (g := gb134) (o := .cells #[.int .i64 a0_0, .int .u64 a0_1, .slice (some ad135) l0_2.length c0_2] 53 (0, 0)) (by (with_reducible repeat (first | refine blk_drewN ?_ _ | refine blk_drew ?_ | refine blk_alloc ?_ _)); exact BK134.out)) : gb136 ≠ gb134)); clear BK134; clear HB; have BK134 := n0_; have HB := n1_; have BK136 := n2_; have GW136 := n3_; have GE136 := n4_; have NB134_136 := n5_; have NB136_134 := n6_; clear n0_ n1_ n2_ n3_ n4_ n5_ n6_; clear hb hbox hg; have hnb10 := NB136_134.out; have hnc10 := NB134_136.out; have hcz11_0 : w9.cell? ⟨gb136, 0, none⟩ = some (.int .u32 0) := (blk_cell BK136.out 0).trans rfl; have hcz11_1 : w9.cell? ⟨gb136, 1, none⟩ = some (.int .u32 0) := (blk_cell BK136.out 1).trans rfl; have hcz11_2 : w9.cell? ⟨gb136, 2, none⟩ = some (.int .u64 0) := (blk_cell BK136.out 2).trans rfl; have hcz11_3 : w9.cell? ⟨gb136, 3, none⟩ = some (.int .u64 0) := (blk_cell BK136.out 3).trans rfl; have hcz11_4 : w9.cell? ⟨gb136, 4, none⟩ = some (.int .u64 0) := (blk_cell BK136.out 4).trans rfl; have hcz11_5 : w9.cell? ⟨gb136, 5, none⟩ = some (.int .u64 0) := (blk_cell BK136.out 5).trans rfl; have hcz11_6 : w9.cell? ⟨gb136, 6, none⟩ = some (.int .u64 0) := (blk_cell BK136.out 6).trans rfl; have hfz11_0 := blk_frozen BK136.out 0; have hfz11_1 := blk_frozen BK136.out 1; have hfz11_2 := blk_frozen BK136.out 2; have hfz11_3 := blk_frozen BK136.out 3; have hfz11_4 := blk_frozen BK136.out 4; have hfz11_5 := blk_frozen BK136.out 5; have hfz11_6 := blk_frozen BK136.out 6))
     (try simp only [Act.put, List.setIfInBounds_toArray, List.set_cons_zero, List.set_cons_succ])
     go_cut [51] (fun v51 wc => ∃ (kq : Nat) (x51_6 : Bool), v51 = .bool x51_6 ∧ Aside0 (shackleref05_Offset.j1 kq a1 a2 x8_1 x51_6 a0_0 a0_1 l0_2 ((rd_T95 l0_2 x8_1).f0) ((rd_T95 l0_2 x8_1).f1) ((rd_T95 l0_2 x8_1).f2) ((rd_T95 l0_2 x8_1).f3) ((rd_T95 l0_2 x8_1).f4) ((rd_T95 l0_2 x8_1).f5) ((rd_T95 l0_2 x8_1).f6) = some (r1, r2)) ∧ Aside0 (kq ≤ k1) ∧ Aside0 (wc.heap[gb134]? = some (.cells #[.int .i64 a0_0, .int .u64 a0_1, (.slice (some ad135) l0_2.length c0_2)] 53 (0, 0))) ∧ Aside0 (wc.heap[gb136]? = some (.cells #[.int .u32 ((rd_T95 l0_2 x8_1).f0), .int .u32 ((rd_T95 l0_2 x8_1).f1), .int .u64 ((rd_T95 l0_2 x8_1).f2), .int .u64 ((rd_T95 l0_2 x8_1).f3), .int .u64 ((rd_T95 l0_2 x8_1).f4), .int .u64 ((rd_T95 l0_2 x8_1).f5), .int .u64 ((rd_T95 l0_2 x8_1).f6)] 95 (0, 0))) ∧ Aside0 (Below w.heap.size w wc))
     case first =>
      have H := HC7.out
      clear HC7
      by_cases c12 : ((rd_T95 l0_2 x8_1).f0) = 1
      ·rw [if_pos c12] at H
       have c12b0 : (((rd_T95 l0_2 x8_1).f0) == 1) = true := beq_iff_eq.mpr c12
       have c12b1 : (((rd_T95 l0_2 x8_1).f0) != 1) = false := bne_eq_false_iff_eq.mpr c12
       clear c12
       (first | rw [c12b0] | (simp only [i64_w, i32_w]; rw [c12b0]) | skip)
       by_cases c13 : a1 < ((rd_T95 l0_2 x8_1).f3)
       ·rw [if_pos c13] at H
        have c13b0 : decide (a1 < ((rd_T95 l0_2 x8_1).f3)) = true := decide_eq_true c13
        clear c13
        have H' := Aside0.mk H
        clear H
        have hnb14 := NB136_134.out
        have hnc14 := NB134_136.out
        have hcz15_0 : w9.cell? ⟨gb136, 0, none⟩ = some (.int .u32 0) := (blk_cell BK136.out 0).trans rfl
        have hcz15_1 : w9.cell? ⟨gb136, 1, none⟩ = some (.int .u32 0) := (blk_cell BK136.out 1).trans rfl
        have hcz15_2 : w9.cell? ⟨gb136, 2, none⟩ = some (.int .u64 0) := (blk_cell BK136.out 2).trans rfl
        have hcz15_3 : w9.cell? ⟨gb136, 3, none⟩ = some (.int .u64 0) := (blk_cell BK136.out 3).trans rfl
        have hcz15_4 : w9.cell? ⟨gb136, 4, none⟩ = some (.int .u64 0) := (blk_cell BK136.out 4).trans rfl
        have hcz15_5 : w9.cell? ⟨gb136, 5, none⟩ = some (.int .u64 0) := (blk_cell BK136.out 5).trans rfl
        have hcz15_6 : w9.cell? ⟨gb136, 6, none⟩ = some (.int .u64 0) := (blk_cell BK136.out 6).trans rfl
        have hfz15_0 := blk_frozen BK136.out 0
        have hfz15_1 := blk_frozen BK136.out 1
        have hfz15_2 := blk_frozen BK136.out 2
        have hfz15_3 := blk_frozen BK136.out 3
        have hfz15_4 := blk_frozen BK136.out 4
        have hfz15_5 := blk_frozen BK136.out 5
        have hfz15_6 := blk_frozen BK136.out 6
        go_wp2
        go_meet
        case rel => exact ⟨_, (true), (by first | rfl | (simp; done) | (simp [*]; done)), H', ⟨by have := HK1.out; first | omega | exact Nat.le_refl _⟩, ⟨by (with_reducible repeat (first | refine blk_drewN ?_ _ | refine blk_drew ?_ | refine blk_alloc ?_ _)); refine blk_far ?_ NB134_136.out _; (with_reducible repeat (first | refine blk_drewN ?_ _ | refine blk_drew ?_ | refine blk_alloc ?_ _)); refine blk_far ?_ NB134_136.out _; (with_reducible repeat (first | refine blk_drewN ?_ _ | refine blk_drew ?_ | refine blk_alloc ?_ _)); refine blk_far ?_ NB134_136.out _; (with_reducible repeat (first | refine blk_drewN ?_ _ | refine blk_drew ?_ | refine blk_alloc ?_ _)); refine blk_far ?_ NB134_136.out _; (with_reducible repeat (first | refine blk_drewN ?_ _ | refine blk_drew ?_ | refine blk_alloc ?_ _)); refine blk_far ?_ NB134_136.out _; (with_reducible repeat (first | refine blk_drewN ?_ _ | refine blk_drew ?_ | refine blk_alloc ?_ _)); refine blk_far ?_ NB134_136.out _; (with_reducible repeat (first | refine blk_drewN ?_ _ | refine blk_drew ?_ | refine blk_alloc ?_ _)); refine blk_far ?_ NB134_136.out _; (with_reducible repeat (first | refine blk_drewN ?_ _ | refine blk_drew ?_ | refine blk_alloc ?_ _)); exact BK134.out⟩, ⟨by (with_reducible repeat (first | refine blk_drewN ?_ _ | refine blk_drew ?_ | refine blk_alloc ?_ _)); refine blk_put (cs := #[.int .u32 ((rd_T95 l0_2 x8_1).f0), .int .u32 ((rd_T95 l0_2 x8_1).f1), .int .u64 ((rd_T95 l0_2 x8_1).f2), .int .u64 ((rd_T95 l0_2 x8_1).f3), .int .u64 ((rd_T95 l0_2 x8_1).f4), .int .u64 ((rd_T95 l0_2 x8_1).f5), .int .u64 0]) ?_ 6 _ rfl; (with_reducible repeat (first | refine blk_drewN ?_ _ | refine blk_drew ?_ | refine blk_alloc ?_ _)); refine blk_put (cs := #[.int .u32 ((rd_T95 l0_2 x8_1).f0), .int .u32 ((rd_T95 l0_2 x8_1).f1), .int .u64 ((rd_T95 l0_2 x8_1).f2), .int .u64 ((rd_T95 l0_2 x8_1).f3), .int .u64 ((rd_T95 l0_2 x8_1).f4), .int .u64 0, .int .u64 0]) ?_ 5 _ rfl; (with_reducible repeat (first | refine blk_drewN ?_ _ | refine blk_drew ?_ | refine blk_alloc ?_ _)); refine blk_put (cs := #[.int .u32 ((rd_T95 l0_2 x8_1).f0), .int .u32 ((rd_T95 l0_2 x8_1).f1), .int .u64 ((rd_T95 l0_2 x8_1).f2), .int .u64 ((rd_T95 l0_2 x8_1).f3), .int .u64 0, .int .u64 0, .int .u64 0]) ?_ 4 _ rfl; (with_reducible repeat (first | refine blk_drewN ?_ _ | refine blk_drew ?_ | refine blk_alloc ?_ _)); refine blk_put (cs := #[.int .u32 ((rd_T95 l0_2 x8_1).f0), .int .u32 ((rd_T95 l0_2 x8_1).f1), .int .u64 ((rd_T95 l0_2 x8_1).f2), .int .u64 0, .int .u64 0, .int .u64 0, .int .u64 0]) ?_ 3 _ rfl; (with_reducible repeat (first | refine blk_drewN ?_ _ | refine blk_drew ?_ | refine blk_alloc ?_ _)); refine blk_put (cs := #[.int .u32 ((rd_T95 l0_2 x8_1).f0), .int .u32 ((rd_T95 l0_2 x8_1).f1), .int .u64 0, .int .u64 0, .int .u64 0, .int .u64 0, .int .u64 0]) ?_ 2 _ rfl; (with_reducible repeat (first | refine blk_drewN ?_ _ | refine blk_drew ?_ | refine blk_alloc ?_ _)); refine blk_put (cs := #[.int .u32 ((rd_T95 l0_2 x8_1).f0), .int .u32 0, .int .u64 0, .int .u64 0, .int .u64 0, .int .u64 0, .int .u64 0]) ?_ 1 _ rfl; (with_reducible repeat (first | refine blk_drewN ?_ _ | refine blk_drew ?_ | refine blk_alloc ?_ _)); refine blk_put (cs := #[.int .u32 0, .int .u32 0, .int .u64 0, .int .u64 0, .int .u64 0, .int .u64 0, .int .u64 0]) ?_ 0 _ rfl; (with_reducible repeat (first | refine blk_drewN ?_ _ | refine blk_drew ?_ | refine blk_alloc ?_ _)); exact BK136.out⟩, ⟨by repeat (first | (with_reducible first | exact HB.out | apply below_alloc | apply pw_below_drewN | apply below_drew1 | refine below_set ?_ GE134.out | refine below_set ?_ GE136.out) | exact HB.out)⟩⟩
       ·rw [if_neg c13] at H
        have c13b0 : decide (a1 < ((rd_T95 l0_2 x8_1).f3)) = false := decide_eq_false c13
        clear c13
        by_cases c16 : (IntKind.u64.wrap (a1 - ((rd_T95 l0_2 x8_1).f3))) > ((rd_T95 l0_2 x8_1).f4)
        ·rw [if_pos c16] at H
         have c16b0 : decide (((rd_T95 l0_2 x8_1).f4) < (IntKind.u64.wrap (a1 - ((rd_T95 l0_2 x8_1).f3)))) = true := decide_eq_true c16
         clear c16
         have H' := Aside0.mk H
         clear H
         have hnb17 := NB136_134.out
         have hnc17 := NB134_136.out
         have hcz18_0 : w9.cell? ⟨gb136, 0, none⟩ = some (.int .u32 0) := (blk_cell BK136.out 0).trans rfl
         have hcz18_1 : w9.cell? ⟨gb136, 1, none⟩ = some (.int .u32 0) := (blk_cell BK136.out 1).trans rfl
         have hcz18_2 : w9.cell? ⟨gb136, 2, none⟩ = some (.int .u64 0) := (blk_cell BK136.out 2).trans rfl
         have hcz18_3 : w9.cell? ⟨gb136, 3, none⟩ = some (.int .u64 0) := (blk_cell BK136.out 3).trans rfl
         have hcz18_4 : w9.cell? ⟨gb136, 4, none⟩ = some (.int .u64 0) := (blk_cell BK136.out 4).trans rfl
         have hcz18_5 : w9.cell? ⟨gb136, 5, none⟩ = some (.int .u64 0) := (blk_cell BK136.out 5).trans rfl
         have hcz18_6 : w9.cell? ⟨gb136, 6, none⟩ = some (.int .u64 0) := (blk_cell BK136.out 6).trans rfl
         have hfz18_0 := blk_frozen BK136.out 0
         have hfz18_1 := blk_frozen BK136.out 1
         have hfz18_2 := blk_frozen BK136.out 2
         have hfz18_3 := blk_frozen BK136.out 3
         have hfz18_4 := blk_frozen BK136.out 4
         have hfz18_5 := blk_frozen BK136.out 5
         have hfz18_6 := blk_frozen BK136.out 6
         go_wp2
         go_meet
         case rel => exact ⟨_, (true), (by first | rfl | (simp; done) | (simp [*]; done)), H', ⟨by have := HK1.out; first | omega | exact Nat.le_refl _⟩, ⟨by (with_reducible repeat (first | refine blk_drewN ?_ _ | refine blk_drew ?_ | refine blk_alloc ?_ _)); refine blk_far ?_ NB134_136.out _; (with_reducible repeat (first | refine blk_drewN ?_ _ | refine blk_drew ?_ | refine blk_alloc ?_ _)); refine blk_far ?_ NB134_136.out _; (with_reducible repeat (first | refine blk_drewN ?_ _ | refine blk_drew ?_ | refine blk_alloc ?_ _)); refine blk_far ?_ NB134_136.out _; (with_reducible repeat (first | refine blk_drewN ?_ _ | refine blk_drew ?_ | refine blk_alloc ?_ _)); refine blk_far ?_ NB134_136.out _; (with_reducible repeat (first | refine blk_drewN ?_ _ | refine blk_drew ?_ | refine blk_alloc ?_ _)); refine blk_far ?_ NB134_136.out _; (with_reducible repeat (first | refine blk_drewN ?_ _ | refine blk_drew ?_ | refine blk_alloc ?_ _)); refine blk_far ?_ NB134_136.out _; (with_reducible repeat (first | refine blk_drewN ?_ _ | refine blk_drew ?_ | refine blk_alloc ?_ _)); refine blk_far ?_ NB134_136.out _; (with_reducible repeat (first | refine blk_drewN ?_ _ | refine blk_drew ?_ | refine blk_alloc ?_ _)); exact BK134.out⟩, ⟨by (with_reducible repeat (first | refine blk_drewN ?_ _ | refine blk_drew ?_ | refine blk_alloc ?_ _)); refine blk_put (cs := #[.int .u32 ((rd_T95 l0_2 x8_1).f0), .int .u32 ((rd_T95 l0_2 x8_1).f1), .int .u64 ((rd_T95 l0_2 x8_1).f2), .int .u64 ((rd_T95 l0_2 x8_1).f3), .int .u64 ((rd_T95 l0_2 x8_1).f4), .int .u64 ((rd_T95 l0_2 x8_1).f5), .int .u64 0]) ?_ 6 _ rfl; (with_reducible repeat (first | refine blk_drewN ?_ _ | refine blk_drew ?_ | refine blk_alloc ?_ _)); refine blk_put (cs := #[.int .u32 ((rd_T95 l0_2 x8_1).f0), .int .u32 ((rd_T95 l0_2 x8_1).f1), .int .u64 ((rd_T95 l0_2 x8_1).f2), .int .u64 ((rd_T95 l0_2 x8_1).f3), .int .u64 ((rd_T95 l0_2 x8_1).f4), .int .u64 0, .int .u64 0]) ?_ 5 _ rfl; (with_reducible repeat (first | refine blk_drewN ?_ _ | refine blk_drew ?_ | refine blk_alloc ?_ _)); refine blk_put (cs := #[.int .u32 ((rd_T95 l0_2 x8_1).f0), .int .u32 ((rd_T95 l0_2 x8_1).f1), .int .u64 ((rd_T95 l0_2 x8_1).f2), .int .u64 ((rd_T95 l0_2 x8_1).f3), .int .u64 0, .int .u64 0, .int .u64 0]) ?_ 4 _ rfl; (with_reducible repeat (first | refine blk_drewN ?_ _ | refine blk_drew ?_ | refine blk_alloc ?_ _)); refine blk_put (cs := #[.int .u32 ((rd_T95 l0_2 x8_1).f0), .int .u32 ((rd_T95 l0_2 x8_1).f1), .int .u64 ((rd_T95 l0_2 x8_1).f2), .int .u64 0, .int .u64 0, .int .u64 0, .int .u64 0]) ?_ 3 _ rfl; (with_reducible repeat (first | refine blk_drewN ?_ _ | refine blk_drew ?_ | refine blk_alloc ?_ _)); refine blk_put (cs := #[.int .u32 ((rd_T95 l0_2 x8_1).f0), .int .u32 ((rd_T95 l0_2 x8_1).f1), .int .u64 0, .int .u64 0, .int .u64 0, .int .u64 0, .int .u64 0]) ?_ 2 _ rfl; (with_reducible repeat (first | refine blk_drewN ?_ _ | refine blk_drew ?_ | refine blk_alloc ?_ _)); refine blk_put (cs := #[.int .u32 ((rd_T95 l0_2 x8_1).f0), .int .u32 0, .int .u64 0, .int .u64 0, .int .u64 0, .int .u64 0, .int .u64 0]) ?_ 1 _ rfl; (with_reducible repeat (first | refine blk_drewN ?_ _ | refine blk_drew ?_ | refine blk_alloc ?_ _)); refine blk_put (cs := #[.int .u32 0, .int .u32 0, .int .u64 0, .int .u64 0, .int .u64 0, .int .u64 0, .int .u64 0]) ?_ 0 _ rfl; (with_reducible repeat (first | refine blk_drewN ?_ _ | refine blk_drew ?_ | refine blk_alloc ?_ _)); exact BK136.out⟩, ⟨by repeat (first | (with_reducible first | exact HB.out | apply below_alloc | apply pw_below_drewN | apply below_drew1 | refine below_set ?_ GE134.out | refine below_set ?_ GE136.out) | exact HB.out)⟩⟩
        ·rw [if_neg c16] at H
         have c16b0 : decide (((rd_T95 l0_2 x8_1).f4) < (IntKind.u64.wrap (a1 - ((rd_T95 l0_2 x8_1).f3)))) = false := decide_eq_false c16
         clear c16
         have H' := Aside0.mk H
         clear H
         have hnb19 := NB136_134.out
         have hnc19 := NB134_136.out
         have hcz20_0 : w9.cell? ⟨gb136, 0, none⟩ = some (.int .u32 0) := (blk_cell BK136.out 0).trans rfl
         have hcz20_1 : w9.cell? ⟨gb136, 1, none⟩ = some (.int .u32 0) := (blk_cell BK136.out 1).trans rfl
         have hcz20_2 : w9.cell? ⟨gb136, 2, none⟩ = some (.int .u64 0) := (blk_cell BK136.out 2).trans rfl
         have hcz20_3 : w9.cell? ⟨gb136, 3, none⟩ = some (.int .u64 0) := (blk_cell BK136.out 3).trans rfl
         have hcz20_4 : w9.cell? ⟨gb136, 4, none⟩ = some (.int .u64 0) := (blk_cell BK136.out 4).trans rfl
         have hcz20_5 : w9.cell? ⟨gb136, 5, none⟩ = some (.int .u64 0) := (blk_cell BK136.out 5).trans rfl
         have hcz20_6 : w9.cell? ⟨gb136, 6, none⟩ = some (.int .u64 0) := (blk_cell BK136.out 6).trans rfl
         have hfz20_0 := blk_frozen BK136.out 0
         have hfz20_1 := blk_frozen BK136.out 1
         have hfz20_2 := blk_frozen BK136.out 2
         have hfz20_3 := blk_frozen BK136.out 3
         have hfz20_4 := blk_frozen BK136.out 4
         have hfz20_5 := blk_frozen BK136.out 5
         have hfz20_6 := blk_frozen BK136.out 6
         go_wp2
         go_meet
         case rel => exact ⟨_, (decide (a2 > (IntKind.u64.wrap (((rd_T95 l0_2 x8_1).f4) - (IntKind.u64.wrap (a1 - ((rd_T95 l0_2 x8_1).f3))))))), (by first | rfl | (simp; done) | (simp [*]; done)), H', ⟨by have := HK1.out; first | omega | exact Nat.le_refl _⟩, ⟨by (with_reducible repeat (first | refine blk_drewN ?_ _ | refine blk_drew ?_ | refine blk_alloc ?_ _)); refine blk_far ?_ NB134_136.out _; (with_reducible repeat (first | refine blk_drewN ?_ _ | refine blk_drew ?_ | refine blk_alloc ?_ _)); refine blk_far ?_ NB134_136.out _; (with_reducible repeat (first | refine blk_drewN ?_ _ | refine blk_drew ?_ | refine blk_alloc ?_ _)); refine blk_far ?_ NB134_136.out _; (with_reducible repeat (first | refine blk_drewN ?_ _ | refine blk_drew ?_ | refine blk_alloc ?_ _)); refine blk_far ?_ NB134_136.out _; (with_reducible repeat (first | refine blk_drewN ?_ _ | refine blk_drew ?_ | refine blk_alloc ?_ _)); refine blk_far ?_ NB134_136.out _; (with_reducible repeat (first | refine blk_drewN ?_ _ | refine blk_drew ?_ | refine blk_alloc ?_ _)); refine blk_far ?_ NB134_136.out _; (with_reducible repeat (first | refine blk_drewN ?_ _ | refine blk_drew ?_ | refine blk_alloc ?_ _)); refine blk_far ?_ NB134_136.out _; (with_reducible repeat (first | refine blk_drewN ?_ _ | refine blk_drew ?_ | refine blk_alloc ?_ _)); exact BK134.out⟩, ⟨by (with_reducible repeat (first | refine blk_drewN ?_ _ | refine blk_drew ?_ | refine blk_alloc ?_ _)); refine blk_put (cs := #[.int .u32 ((rd_T95 l0_2 x8_1).f0), .int .u32 ((rd_T95 l0_2 x8_1).f1), .int .u64 ((rd_T95 l0_2 x8_1).f2), .int .u64 ((rd_T95 l0_2 x8_1).f3), .int .u64 ((rd_T95 l0_2 x8_1).f4), .int .u64 ((rd_T95 l0_2 x8_1).f5), .int .u64 0]) ?_ 6 _ rfl; (with_reducible repeat (first | refine blk_drewN ?_ _ | refine blk_drew ?_ | refine blk_alloc ?_ _)); refine blk_put (cs := #[.int .u32 ((rd_T95 l0_2 x8_1).f0), .int .u32 ((rd_T95 l0_2 x8_1).f1), .int .u64 ((rd_T95 l0_2 x8_1).f2), .int .u64 ((rd_T95 l0_2 x8_1).f3), .int .u64 ((rd_T95 l0_2 x8_1).f4), .int .u64 0, .int .u64 0]) ?_ 5 _ rfl; (with_reducible repeat (first | refine blk_drewN ?_ _ | refine blk_drew ?_ | refine blk_alloc ?_ _)); refine blk_put (cs := #[.int .u32 ((rd_T95 l0_2 x8_1).f0), .int .u32 ((rd_T95 l0_2 x8_1).f1), .int .u64 ((rd_T95 l0_2 x8_1).f2), .int .u64 ((rd_T95 l0_2 x8_1).f3), .int .u64 0, .int .u64 0, .int .u64 0]) ?_ 4 _ rfl; (with_reducible repeat (first | refine blk_drewN ?_ _ | refine blk_drew ?_ | refine blk_alloc ?_ _)); refine blk_put (cs := #[.int .u32 ((rd_T95 l0_2 x8_1).f0), .int .u32 ((rd_T95 l0_2 x8_1).f1), .int .u64 ((rd_T95 l0_2 x8_1).f2), .int .u64 0, .int .u64 0, .int .u64 0, .int .u64 0]) ?_ 3 _ rfl; (with_reducible repeat (first | refine blk_drewN ?_ _ | refine blk_drew ?_ | refine blk_alloc ?_ _)); refine blk_put (cs := #[.int .u32 ((rd_T95 l0_2 x8_1).f0), .int .u32 ((rd_T95 l0_2 x8_1).f1), .int .u64 0, .int .u64 0, .int .u64 0, .int .u64 0, .int .u64 0]) ?_ 2 _ rfl; (with_reducible repeat (first | refine blk_drewN ?_ _ | refine blk_drew ?_ | refine blk_alloc ?_ _)); refine blk_put (cs := #[.int .u32 ((rd_T95 l0_2 x8_1).f0), .int .u32 0, .int .u64 0, .int .u64 0, .int .u64 0, .int .u64 0, .int .u64 0]) ?_ 1 _ rfl; (with_reducible repeat (first | refine blk_drewN ?_ _ | refine blk_drew ?_ | refine blk_alloc ?_ _)); refine blk_put (cs := #[.int .u32 0, .int .u32 0, .int .u64 0, .int .u64 0, .int .u64 0, .int .u64 0, .int .u64 0]) ?_ 0 _ rfl; (with_reducible repeat (first | refine blk_drewN ?_ _ | refine blk_drew ?_ | refine blk_alloc ?_ _)); exact BK136.out⟩, ⟨by repeat (first | (with_reducible first | exact HB.out | apply below_alloc | apply pw_below_drewN | apply below_drew1 | refine below_set ?_ GE134.out | refine below_set ?_ GE136.out) | exact HB.out)⟩⟩
      ·rw [if_neg c12] at H
       have c12b0 : (((rd_T95 l0_2 x8_1).f0) == 1) = false := beq_eq_false_iff_ne.mpr c12
       have c12b1 : (((rd_T95 l0_2 x8_1).f0) != 1) = true := bne_iff_ne.mpr c12
       (first | rw [c12b0] | (simp only [i64_w, i32_w]; rw [c12b0]) | skip)
       have H' := Aside0.mk H
       clear H
       have hnb21 := NB136_134.out
       have hnc21 := NB134_136.out
       have hcz22_0 : w9.cell? ⟨gb136, 0, none⟩ = some (.int .u32 0) := (blk_cell BK136.out 0).trans rfl
       have hcz22_1 : w9.cell? ⟨gb136, 1, none⟩ = some (.int .u32 0) := (blk_cell BK136.out 1).trans rfl
       have hcz22_2 : w9.cell? ⟨gb136, 2, none⟩ = some (.int .u64 0) := (blk_cell BK136.out 2).trans rfl
       have hcz22_3 : w9.cell? ⟨gb136, 3, none⟩ = some (.int .u64 0) := (blk_cell BK136.out 3).trans rfl
       have hcz22_4 : w9.cell? ⟨gb136, 4, none⟩ = some (.int .u64 0) := (blk_cell BK136.out 4).trans rfl
       have hcz22_5 : w9.cell? ⟨gb136, 5, none⟩ = some (.int .u64 0) := (blk_cell BK136.out 5).trans rfl
       have hcz22_6 : w9.cell? ⟨gb136, 6, none⟩ = some (.int .u64 0) := (blk_cell BK136.out 6).trans rfl
       have hfz22_0 := blk_frozen BK136.out 0
       have hfz22_1 := blk_frozen BK136.out 1
       have hfz22_2 := blk_frozen BK136.out 2
       have hfz22_3 := blk_frozen BK136.out 3
       have hfz22_4 := blk_frozen BK136.out 4
       have hfz22_5 := blk_frozen BK136.out 5
       have hfz22_6 := blk_frozen BK136.out 6
       go_wp2
       go_meet
       case rel => exact ⟨_, (true), (by first | rfl | (simp; done) | (simp [*]; done)), H', ⟨by have := HK1.out; first | omega | exact Nat.le_refl _⟩, ⟨by (with_reducible repeat (first | refine blk_drewN ?_ _ | refine blk_drew ?_ | refine blk_alloc ?_ _)); refine blk_far ?_ NB134_136.out _; (with_reducible repeat (first | refine blk_drewN ?_ _ | refine blk_drew ?_ | refine blk_alloc ?_ _)); refine blk_far ?_ NB134_136.out _; (with_reducible repeat (first | refine blk_drewN ?_ _ | refine blk_drew ?_ | refine blk_alloc ?_ _)); refine blk_far ?_ NB134_136.out _; (with_reducible repeat (first | refine blk_drewN ?_ _ | refine blk_drew ?_ | refine blk_alloc ?_ _)); refine blk_far ?_ NB134_136.out _; (with_reducible repeat (first | refine blk_drewN ?_ _ | refine blk_drew ?_ | refine blk_alloc ?_ _)); refine blk_far ?_ NB134_136.out _; (with_reducible repeat (first | refine blk_drewN ?_ _ | refine blk_drew ?_ | refine blk_alloc ?_ _)); refine blk_far ?_ NB134_136.out _; (with_reducible repeat (first | refine blk_drewN ?_ _ | refine blk_drew ?_ | refine blk_alloc ?_ _)); refine blk_far ?_ NB134_136.out _; (with_reducible repeat (first | refine blk_drewN ?_ _ | refine blk_drew ?_ | refine blk_alloc ?_ _)); exact BK134.out⟩, ⟨by (with_reducible repeat (first | refine blk_drewN ?_ _ | refine blk_drew ?_ | refine blk_alloc ?_ _)); refine blk_put (cs := #[.int .u32 ((rd_T95 l0_2 x8_1).f0), .int .u32 ((rd_T95 l0_2 x8_1).f1), .int .u64 ((rd_T95 l0_2 x8_1).f2), .int .u64 ((rd_T95 l0_2 x8_1).f3), .int .u64 ((rd_T95 l0_2 x8_1).f4), .int .u64 ((rd_T95 l0_2 x8_1).f5), .int .u64 0]) ?_ 6 _ rfl; (with_reducible repeat (first | refine blk_drewN ?_ _ | refine blk_drew ?_ | refine blk_alloc ?_ _)); refine blk_put (cs := #[.int .u32 ((rd_T95 l0_2 x8_1).f0), .int .u32 ((rd_T95 l0_2 x8_1).f1), .int .u64 ((rd_T95 l0_2 x8_1).f2), .int .u64 ((rd_T95 l0_2 x8_1).f3), .int .u64 ((rd_T95 l0_2 x8_1).f4), .int .u64 0, .int .u64 0]) ?_ 5 _ rfl; (with_reducible repeat (first | refine blk_drewN ?_ _ | refine blk_drew ?_ | refine blk_alloc ?_ _)); refine blk_put (cs := #[.int .u32 ((rd_T95 l0_2 x8_1).f0), .int .u32 ((rd_T95 l0_2 x8_1).f1), .int .u64 ((rd_T95 l0_2 x8_1).f2), .int .u64 ((rd_T95 l0_2 x8_1).f3), .int .u64 0, .int .u64 0, .int .u64 0]) ?_ 4 _ rfl; (with_reducible repeat (first | refine blk_drewN ?_ _ | refine blk_drew ?_ | refine blk_alloc ?_ _)); refine blk_put (cs := #[.int .u32 ((rd_T95 l0_2 x8_1).f0), .int .u32 ((rd_T95 l0_2 x8_1).f1), .int .u64 ((rd_T95 l0_2 x8_1).f2), .int .u64 0, .int .u64 0, .int .u64 0, .int .u64 0]) ?_ 3 _ rfl; (with_reducible repeat (first | refine blk_drewN ?_ _ | refine blk_drew ?_ | refine blk_alloc ?_ _)); refine blk_put (cs := #[.int .u32 ((rd_T95 l0_2 x8_1).f0), .int .u32 ((rd_T95 l0_2 x8_1).f1), .int .u64 0, .int .u64 0, .int .u64 0, .int .u64 0, .int .u64 0]) ?_ 2 _ rfl; (with_reducible repeat (first | refine blk_drewN ?_ _ | refine blk_drew ?_ | refine blk_alloc ?_ _)); refine blk_put (cs := #[.int .u32 ((rd_T95 l0_2 x8_1).f0), .int .u32 0, .int .u64 0, .int .u64 0, .int .u64 0, .int .u64 0, .int .u64 0]) ?_ 1 _ rfl; (with_reducible repeat (first | refine blk_drewN ?_ _ | refine blk_drew ?_ | refine blk_alloc ?_ _)); refine blk_put (cs := #[.int .u32 0, .int .u32 0, .int .u64 0, .int .u64 0, .int .u64 0, .int .u64 0, .int .u64 0]) ?_ 0 _ rfl; (with_reducible repeat (first | refine blk_drewN ?_ _ | refine blk_drew ?_ | refine blk_alloc ?_ _)); exact BK136.out⟩, ⟨by repeat (first | (with_reducible first | exact HB.out | apply below_alloc | apply pw_below_drewN | apply below_drew1 | refine below_set ?_ GE134.out | refine below_set ?_ GE136.out) | exact HB.out)⟩⟩
     case rest =>
      clear HC7
      try clear c1
      try clear p1
      try clear q1
      try clear hx1
      try clear c2
      try clear p2
      try clear c5
      try clear c5b0
      try clear c6
      try clear c6b0
      try clear c10
      try clear c12
      try clear c12b0
      try clear c12b1
      try clear c13
      try clear c13b0
      try clear p13
      try clear q13
      try clear hx13
      try clear c14
      try clear c16
      try clear c16b0
      try clear c17
      try clear c19
      try clear c21
      try clear hcz11_0
      try clear hcz11_1
      try clear hcz11_2
      try clear hcz11_3
      try clear hcz11_4
      try clear hcz11_5
      try clear hcz11_6
      try clear hcz15_0
      try clear hcz15_1
      try clear hcz15_2
      try clear hcz15_3
      try clear hcz15_4
      try clear hcz15_5
      try clear hcz15_6
      try clear hcz18_0
      try clear hcz18_1
      try clear hcz18_2
      try clear hcz18_3
      try clear hcz18_4
      try clear hcz18_5
      try clear hcz18_6
      try clear hcz20_0
      try clear hcz20_1
      try clear hcz20_2
      try clear hcz20_3
      try clear hcz20_4
      try clear hcz20_5
      try clear hcz20_6
      try clear hcz22_0
      try clear hcz22_1
      try clear hcz22_2
      try clear hcz22_3
      try clear hcz22_4
      try clear hcz22_5
      try clear hcz22_6
      try clear hcz8_0
      try clear hcz8_1
      try clear hcz8_2
      try clear hfz11_0
      try clear hfz11_1
      try clear hfz11_2
      try clear hfz11_3
      try clear hfz11_4
      try clear hfz11_5
      try clear hfz11_6
      try clear hfz15_0
      try clear hfz15_1
      try clear hfz15_2
      try clear hfz15_3
      try clear hfz15_4
      try clear hfz15_5
      try clear hfz15_6
      try clear hfz18_0
      try clear hfz18_1
      try clear hfz18_2
      try clear hfz18_3
      try clear hfz18_4
      try clear hfz18_5
      try clear hfz18_6
      try clear hfz20_0
      try clear hfz20_1
      try clear hfz20_2
      try clear hfz20_3
      try clear hfz20_4
      try clear hfz20_5
      try clear hfz20_6
      try clear hfz22_0
      try clear hfz22_1
      try clear hfz22_2
      try clear hfz22_3
      try clear hfz22_4
      try clear hfz22_5
      try clear hfz22_6
      try clear hfz8_0
      try clear hfz8_1
      try clear hfz8_2
      try clear hx135_0
      try clear hx135_1
      try clear hx135_2
      try clear hx135_3
      try clear hx135_4
      try clear hx135_5
      try clear hx135_6
      try clear p135
      try clear p2
      try clear q135
      obtain ⟨kq, x51_6, rfl, HA, HJ6, BK134, BK136, HB⟩ := hcut
      cases kq with
      | zero => exact absurd HA.out (by simp [shackleref05_Offset.j1])
      | succ kj6 =>
       have H := HA.out
       clear HA
       simp only [shackleref05_Offset.j1] at H
       by_cases c23 : x51_6 = true
       ·subst c23
        have H1 : (shackleref05_Offset.l0 kj6 a1 a2 (wrap64 (x8_1 + 1)) a0_0 a0_1 l0_2) = some (r1, r2) := by rw [if_pos rfl] at H; exact H
        clear H
        have H := H1
        clear H1
        have H' := Aside0.mk H
        clear H
        go_wp2
        go_roundg kj6
        case measure => have := HK1.out; have := HJ6.out; omega
        case rel => exact ⟨(wrap64 (x8_1 + 1)), (by first | rfl | (simp; done) | (simp [*]; done)), H', ⟨by have := HK1.out; have := HJ6.out; omega⟩, ⟨by (with_reducible repeat (first | refine blk_drewN ?_ _ | refine blk_drew ?_ | refine blk_alloc ?_ _)); exact BK134.out⟩, ⟨by repeat (first | (with_reducible first | exact HB.out | apply below_alloc | apply pw_below_drewN | apply below_drew1 | refine below_set ?_ GE134.out | refine below_set ?_ GE136.out) | exact HB.out)⟩⟩
       ·replace c23 := Bool.eq_false_iff.mpr c23
        subst c23
        have H1 : (if (IntKind.u64.wrap (((rd_T95 l0_2 x8_1).f2) + (IntKind.u64.wrap (a1 - ((rd_T95 l0_2 x8_1).f3))))) < ((rd_T95 l0_2 x8_1).f2) then (some (0, 4)) else (some (IntKind.u64.wrap (((rd_T95 l0_2 x8_1).f2) + (IntKind.u64.wrap (a1 - ((rd_T95 l0_2 x8_1).f3)))), 0))) = some (r1, r2) := by rw [if_neg (show ¬ (false = true) by decide)] at H; exact H
        clear H
        have H := H1
        clear H1
        by_cases c24 : (IntKind.u64.wrap (((rd_T95 l0_2 x8_1).f2) + (IntKind.u64.wrap (a1 - ((rd_T95 l0_2 x8_1).f3))))) < ((rd_T95 l0_2 x8_1).f2)
        ·rw [if_pos c24] at H
         have c24b0 : decide ((IntKind.u64.wrap (((rd_T95 l0_2 x8_1).f2) + (IntKind.u64.wrap (a1 - ((rd_T95 l0_2 x8_1).f3))))) < ((rd_T95 l0_2 x8_1).f2)) = true := decide_eq_true c24
         clear c24
         simp only [Option.some.injEq, Prod.mk.injEq] at H
         obtain ⟨rfl, rfl⟩ := H
         have hnb25 := NB136_134.out
         have hnc25 := NB134_136.out
         have hcz26_0 : wc.cell? ⟨gb136, 0, none⟩ = some (.int .u32 ((rd_T95 l0_2 x8_1).f0)) := (blk_cell BK136.out 0).trans rfl
         have hcz26_1 : wc.cell? ⟨gb136, 1, none⟩ = some (.int .u32 ((rd_T95 l0_2 x8_1).f1)) := (blk_cell BK136.out 1).trans rfl
         have hcz26_2 : wc.cell? ⟨gb136, 2, none⟩ = some (.int .u64 ((rd_T95 l0_2 x8_1).f2)) := (blk_cell BK136.out 2).trans rfl
         have hcz26_3 : wc.cell? ⟨gb136, 3, none⟩ = some (.int .u64 ((rd_T95 l0_2 x8_1).f3)) := (blk_cell BK136.out 3).trans rfl
         have hcz26_4 : wc.cell? ⟨gb136, 4, none⟩ = some (.int .u64 ((rd_T95 l0_2 x8_1).f4)) := (blk_cell BK136.out 4).trans rfl
         have hcz26_5 : wc.cell? ⟨gb136, 5, none⟩ = some (.int .u64 ((rd_T95 l0_2 x8_1).f5)) := (blk_cell BK136.out 5).trans rfl
         have hcz26_6 : wc.cell? ⟨gb136, 6, none⟩ = some (.int .u64 ((rd_T95 l0_2 x8_1).f6)) := (blk_cell BK136.out 6).trans rfl
         have hfz26_0 := blk_frozen BK136.out 0
         have hfz26_1 := blk_frozen BK136.out 1
         have hfz26_2 := blk_frozen BK136.out 2
         have hfz26_3 := blk_frozen BK136.out 3
         have hfz26_4 := blk_frozen BK136.out 4
         have hfz26_5 := blk_frozen BK136.out 5
         have hfz26_6 := blk_frozen BK136.out 6
         go_wp2
         go_ret2
         exact ⟨by first | rfl | (simp [errW_none, errW_some] <;> rfl) | (simp [*, errW_none, errW_some] <;> rfl), by repeat (first | (with_reducible first | exact HB.out | apply below_alloc | apply pw_below_drewN | apply below_drew1 | refine below_set ?_ GE134.out | refine below_set ?_ GE136.out) | exact HB.out)⟩
        ·rw [if_neg c24] at H
         have c24b0 : decide ((IntKind.u64.wrap (((rd_T95 l0_2 x8_1).f2) + (IntKind.u64.wrap (a1 - ((rd_T95 l0_2 x8_1).f3))))) < ((rd_T95 l0_2 x8_1).f2)) = false := decide_eq_false c24
         clear c24
         simp only [Option.some.injEq, Prod.mk.injEq] at H
         obtain ⟨rfl, rfl⟩ := H
         have hnb27 := NB136_134.out
         have hnc27 := NB134_136.out
         have hcz28_0 : wc.cell? ⟨gb136, 0, none⟩ = some (.int .u32 ((rd_T95 l0_2 x8_1).f0)) := (blk_cell BK136.out 0).trans rfl
         have hcz28_1 : wc.cell? ⟨gb136, 1, none⟩ = some (.int .u32 ((rd_T95 l0_2 x8_1).f1)) := (blk_cell BK136.out 1).trans rfl
         have hcz28_2 : wc.cell? ⟨gb136, 2, none⟩ = some (.int .u64 ((rd_T95 l0_2 x8_1).f2)) := (blk_cell BK136.out 2).trans rfl
         have hcz28_3 : wc.cell? ⟨gb136, 3, none⟩ = some (.int .u64 ((rd_T95 l0_2 x8_1).f3)) := (blk_cell BK136.out 3).trans rfl
         have hcz28_4 : wc.cell? ⟨gb136, 4, none⟩ = some (.int .u64 ((rd_T95 l0_2 x8_1).f4)) := (blk_cell BK136.out 4).trans rfl
         have hcz28_5 : wc.cell? ⟨gb136, 5, none⟩ = some (.int .u64 ((rd_T95 l0_2 x8_1).f5)) := (blk_cell BK136.out 5).trans rfl
         have hcz28_6 : wc.cell? ⟨gb136, 6, none⟩ = some (.int .u64 ((rd_T95 l0_2 x8_1).f6)) := (blk_cell BK136.out 6).trans rfl
         have hfz28_0 := blk_frozen BK136.out 0
         have hfz28_1 := blk_frozen BK136.out 1
         have hfz28_2 := blk_frozen BK136.out 2
         have hfz28_3 := blk_frozen BK136.out 3
         have hfz28_4 := blk_frozen BK136.out 4
         have hfz28_5 := blk_frozen BK136.out 5
         have hfz28_6 := blk_frozen BK136.out 6
         go_wp2
         go_ret2
         exact ⟨by first | rfl | (simp [errW_none, errW_some] <;> rfl) | (simp [*, errW_none, errW_some] <;> rfl), by repeat (first | (with_reducible first | exact HB.out | apply below_alloc | apply pw_below_drewN | apply below_drew1 | refine below_set ?_ GE134.out | refine below_set ?_ GE136.out) | exact HB.out)⟩
    ·rw [if_neg c6] at H
     exact absurd H (by simp)
   ·rw [if_neg c5] at H
    have c5b0 : decide (x8_1 < (l0_2.length : Int)) = false := decide_eq_false c5
    clear c5
    simp only [Option.some.injEq, Prod.mk.injEq] at H
    obtain ⟨rfl, rfl⟩ := H
    have hcz29_0 : wr.cell? ⟨gb134, 0, none⟩ = some (.int .i64 a0_0) := (blk_cell BK134.out 0).trans rfl
    have hcz29_1 : wr.cell? ⟨gb134, 1, none⟩ = some (.int .u64 a0_1) := (blk_cell BK134.out 1).trans rfl
    have hcz29_2 : wr.cell? ⟨gb134, 2, none⟩ = some (.slice A0_2 l0_2.length c0_2) := (blk_cell BK134.out 2).trans rfl
    have hfz29_0 := blk_frozen BK134.out 0
    have hfz29_1 := blk_frozen BK134.out 1
    have hfz29_2 := blk_frozen BK134.out 2
    go_wp2
    go_ret2
    exact ⟨by first | rfl | (simp [errW_none, errW_some] <;> rfl) | (simp [*, errW_none, errW_some] <;> rfl), by repeat (first | (with_reducible first | exact HB.out | apply below_alloc | apply pw_below_drewN | apply below_drew1 | refine below_set ?_ GE134.out) | exact HB.out)⟩

/-! ### shackleref05_Cut: function 55 -/
def shackleref05_Cut.f (l0 : List Int) (a1 : Int) (a2 : Int) : Option (List Int × Bool) := if a1 > (IntKind.u64.wrap ((l0.length : Int))) then (some (([] : List Int), false)) else (if a2 > (IntKind.u64.wrap ((IntKind.u64.wrap ((l0.length : Int))) - a1)) then (some (([] : List Int), false)) else (if 0 ≤ a1 then (if a1 ≤ (IntKind.u64.wrap (a1 + a2)) then (if (IntKind.u64.wrap (a1 + a2)) ≤ (l0.length : Int) then (some (((l0.take ((IntKind.u64.wrap (a1 + a2)) : Int).toNat).drop (a1 : Int).toNat), true)) else (none)) else (none)) else (none)))
set_option maxHeartbeats 8000000 in
set_option maxRecDepth 100000 in
theorem shackleref05_Cut.calls (P0_ : Nat → Prop) (A0 : Option Addr) (c0 : Nat) (l0 : List Int) (a1 : Int) (a2 : Int) (r1 : List Int) (r2 : Bool) (w : World) (hs0 : Kd.V (Kd.int .u8) 5 w w.heap.size (fun k_ => P0_ k_) (.slice A0 l0.length c0) l0) (h : shackleref05_Cut.f l0 a1 a2 = some (r1, r2)) :
  Calls Try.prog 55 #[.slice A0 l0.length c0, .int .u64 a1, .int .u64 a2] w fun e w' => ∃ v0_ : Value, e = .returned (.tuple #[v0_, .bool r2]) ∧ Kd.V (Kd.int .u8) 5 w' w.heap.size (fun k_ => (P0_ k_ ∨ w.heap.size ≤ k_)) v0_ r1 ∧ Below w.heap.size w w' := by
 have HO0 := Aside0.mk (show Kd.V (Kd.int .u8) 5 w w.heap.size (fun k_ => (P0_ k_ ∨ w.heap.size ≤ k_)) (.slice A0 l0.length c0) l0 from Kd.V_mono hs0 (fun k_ hk => .inl hk))
 have HB := Aside0.mk (Below.refl w.heap.size w)
 have H : (if a1 > (IntKind.u64.wrap ((l0.length : Int))) then (some (([] : List Int), false)) else (if a2 > (IntKind.u64.wrap ((IntKind.u64.wrap ((l0.length : Int))) - a1)) then (some (([] : List Int), false)) else (if 0 ≤ a1 then (if a1 ≤ (IntKind.u64.wrap (a1 + a2)) then (if (IntKind.u64.wrap (a1 + a2)) ≤ (l0.length : Int) then (some (((l0.take ((IntKind.u64.wrap (a1 + a2)) : Int).toNat).drop (a1 : Int).toNat), true)) else (none)) else (none)) else (none)))) = some (r1, r2) := h
 clear h
 by_cases c4 : a1 > (IntKind.u64.wrap ((l0.length : Int)))
 ·rw [if_pos c4] at H
  have c4b0 : decide ((IntKind.u64.wrap ((l0.length : Int))) < a1) = true := decide_eq_true c4
  clear c4
  simp only [Option.some.injEq, Prod.mk.injEq] at H
  obtain ⟨rfl, rfl⟩ := H
  go_enter Try.func55, Try.ntmps55
  go_wp2
  go_ret2
  exact ⟨_, by first | rfl | (simp [errW_none, errW_some] <;> rfl) | (simp [*, errW_none, errW_some] <;> rfl), Kd.V_nil _ _ _ _ _, by repeat (first | (with_reducible first | exact HB.out | apply below_alloc | apply pw_below_drewN | apply below_drew1) | exact HB.out)⟩
 ·rw [if_neg c4] at H
  have c4b0 : decide ((IntKind.u64.wrap ((l0.length : Int))) < a1) = false := decide_eq_false c4
  clear c4
  by_cases c5 : a2 > (IntKind.u64.wrap ((IntKind.u64.wrap ((l0.length : Int))) - a1))
  ·rw [if_pos c5] at H
   have c5b0 : decide ((IntKind.u64.wrap ((IntKind.u64.wrap ((l0.length : Int))) - a1)) < a2) = true := decide_eq_true c5
   clear c5
   simp only [Option.some.injEq, Prod.mk.injEq] at H
   obtain ⟨rfl, rfl⟩ := H
   go_enter Try.func55, Try.ntmps55
   go_wp2
   go_ret2
   exact ⟨_, by first | rfl | (simp [errW_none, errW_some] <;> rfl) | (simp [*, errW_none, errW_some] <;> rfl), Kd.V_nil _ _ _ _ _, by repeat (first | (with_reducible first | exact HB.out | apply below_alloc | apply pw_below_drewN | apply below_drew1) | exact HB.out)⟩
  ·rw [if_neg c5] at H
   have c5b0 : decide ((IntKind.u64.wrap ((IntKind.u64.wrap ((l0.length : Int))) - a1)) < a2) = false := decide_eq_false c5
   clear c5
   by_cases c6 : 0 ≤ a1
   ·rw [if_pos c6] at H
    have c6b0 := eq_true c6
    have c6b1 : decide (0 ≤ a1) = true := decide_eq_true c6
    clear c6
    by_cases c7 : a1 ≤ (IntKind.u64.wrap (a1 + a2))
    ·rw [if_pos c7] at H
     have c7b0 := eq_true c7
     have c7b1 : decide (a1 ≤ (IntKind.u64.wrap (a1 + a2))) = true := decide_eq_true c7
     by_cases c8 : (IntKind.u64.wrap (a1 + a2)) ≤ (l0.length : Int)
     ·rw [if_pos c8] at H
      have c8b0 := eq_true c8
      have c8b1 : decide ((IntKind.u64.wrap (a1 + a2)) ≤ (l0.length : Int)) = true := decide_eq_true c8
      obtain ⟨y137, hy137⟩ : ∃ y_ : List Int, y_ = ((l0.take ((IntKind.u64.wrap (a1 + a2)) : Int).toNat).drop (a1 : Int).toNat) := ⟨_, rfl⟩
      replace H : (some (y137, true)) = some (r1, r2) := by first | (rw [hy137]; with_reducible exact H) | (have H2_ := (Option.bind_some _ _).symm.trans H; rw [hy137]; with_reducible exact H2_) | (have H2_ := (Option.bind_some _ _).symm.trans H; with_reducible exact H2_) | with_reducible exact H | (rw [hy137]; exact H) | exact H
      have Ny137 := Aside0.mk hy137
      clear hy137
      simp only [Option.some.injEq, Prod.mk.injEq] at H
      obtain ⟨rfl, rfl⟩ := H
      have q9 : ((IntKind.u64.wrap (a1 + a2)) : Int) ≤ ((l0.length : Int) : Int) := of_decide_eq_true (by assumption)
      obtain ⟨i09, hi09, _, hsz9, _⟩ := info_parts info5
      have hroom9 : l0.length ≤ c0 := (Kd.V_reads' HO0.out).2.1
      have hC9 : Kd.F (Kd.int .u8) _ _ A0 l0.length l0 := (Kd.V_at (base := w.heap.size) HO0.out).2.2
      have ql9 : (a1 : Int) ≤ ((IntKind.u64.wrap (a1 + a2)) : Int) := of_decide_eq_true (by assumption)
      have q09 : (0 : Int) ≤ (a1 : Int) := of_decide_eq_true (by assumption)
      have hcut9 := cut_mid (P := Try.prog) 22 5 .u64 .u64 Try.underlying22 hi09 1 hsz9 A0 l0.length c0 a1 (IntKind.u64.wrap (a1 + a2)) q09 ql9 q9 hroom9
      have hr9 := Kd.F_mid (lo := (a1 : Int).toNat) (hi := ((IntKind.u64.wrap (a1 + a2)) : Int).toNat) (c := c0) hC9 (by omega) (by omega) hroom9
      obtain ⟨A9, hA9⟩ : ∃ A1, A1 = (if c0 = (a1 : Int).toNat then A0 else (A0 : Option Addr).map (·.add ((a1 : Int).toNat * 1))) := ⟨_, rfl⟩
      obtain ⟨c9, hc9⟩ : ∃ c1, c1 = c0 - (a1 : Int).toNat := ⟨_, rfl⟩
      have hy9 : y137.length = ((IntKind.u64.wrap (a1 + a2)) : Int).toNat - (a1 : Int).toNat := (by rw [Ny137.out, List.length_drop, List.length_take] <;> omega)
      rw [show ((l0).take ((IntKind.u64.wrap (a1 + a2)) : Int).toNat).drop (a1 : Int).toNat = y137 from Ny137.out.symm] at hr9
      replace hr9 : Kd.F (Kd.int .u8) _ _ A9 y137.length y137 := (by rw [hA9]; exact hr9)
      rw [← hy9, ← hA9, ← hc9] at hcut9
      have HO141 := Aside0.mk (show Kd.V (Kd.int .u8) 5 _ w.heap.size _ (.slice A9 y137.length c9) y137 from Kd.V_mk (by rw [hy9, hc9]; exact Nat.sub_le_sub_right (Nat.le_trans (by omega) hroom9) _) hr9)
      have HC141 := Aside0.mk (show y137.length ≤ c9 from by rw [hy9, hc9]; exact Nat.sub_le_sub_right (Nat.le_trans (by omega) hroom9) _)
      clear hr9 hC9 hroom9 hi09 hsz9 hc9
      have KY9 := Aside0.mk hy9
      have KA9 := Aside0.mk hA9
      clear hy9 hA9
      replace q9 := eq_true q9
      go_enter Try.func55, Try.ntmps55
      go_wp2
      go_ret2
      exact ⟨_, by first | rfl | (simp [errW_none, errW_some] <;> rfl) | (simp [*, errW_none, errW_some] <;> rfl), by (with_reducible repeat (first | apply Kd.V_alloc | apply Kd.V_drewN | apply Kd.V_drew)); exact HO141.out, by repeat (first | (with_reducible first | exact HB.out | apply below_alloc | apply pw_below_drewN | apply below_drew1) | exact HB.out)⟩
     ·rw [if_neg c8] at H
      exact absurd H (by simp)
    ·rw [if_neg c7] at H
     exact absurd H (by simp)
   ·rw [if_neg c6] at H
    exact absurd H (by simp)

end Go.Proofs.Ytlohkhadbkahdaa.QSyms
