import Derived.Test.YthopdoamajjojaaQVersx0
namespace Go.Proofs.Ythopdoamajjojaa.QVers
open Go.RowKit Go.Proofs.YthopdoamajjojaaW.PrintWords Go.Proofs.YthopdoamajjojaaW.PrintLast Go.Proofs.YthopdoamajjojaaW.PrintMore
attribute [local go_sem] max2_int min2_int max_two min_two max_three min_three max_four min_four
set_option linter.unusedVariables false
set_option linter.unusedSimpArgs false
attribute [local go_sem] eqErr_ii neErr_ii eqErr_ni neErr_ni
mutual
def dyn_Offset.l0 : Nat → Int → Int → List (S29) → Int → Int → Option (Int × Option Int)
 | 0, _, _, _, _, _ => none
 | k + 1, x1, x2, x12, x13, x14 => if x14 < x13 then (if 0 ≤ x14 then (if x14 < (x12.length : Int) then (if ((rd_T29 x12 x14).f0) = 1 then (dyn_Offset.j1 k x1 x2 x12 x13 x14 (decide (x1 < ((rd_T29 x12 x14).f3))) ((rd_T29 x12 x14).f0) ((rd_T29 x12 x14).f1) ((rd_T29 x12 x14).f2) ((rd_T29 x12 x14).f3) ((rd_T29 x12 x14).f4) ((rd_T29 x12 x14).f5) ((rd_T29 x12 x14).f6)) else (dyn_Offset.j1 k x1 x2 x12 x13 x14 true ((rd_T29 x12 x14).f0) ((rd_T29 x12 x14).f1) ((rd_T29 x12 x14).f2) ((rd_T29 x12 x14).f3) ((rd_T29 x12 x14).f4) ((rd_T29 x12 x14).f5) ((rd_T29 x12 x14).f6))) else (none)) else (none)) else (some (0, some 4))
def dyn_Offset.j1 : Nat → Int → Int → List (S29) → Int → Int → Bool → Int → Int → Int → Int → Int → Int → Int → Option (Int × Option Int)
 | 0, _, _, _, _, _, _, _, _, _, _, _, _, _ => none
 | k + 1, x1, x2, x12, x13, x14, x26, x104000, x104001, x104002, x104003, x104004, x104005, x104006 => if x26 = true then (dyn_Offset.l0 k x1 x2 x12 x13 (wrap64 (x14 + 1))) else (if (IntKind.u64.wrap (x1 - x104003)) > x104004 then (dyn_Offset.j2 k x1 x2 (IntKind.u64.wrap (x1 - x104003)) x12 x13 x14 true x104000 x104001 x104002 x104003 x104004 x104005 x104006) else (dyn_Offset.j2 k x1 x2 (IntKind.u64.wrap (x1 - x104003)) x12 x13 x14 (decide (x2 > (IntKind.u64.wrap (x104004 - (IntKind.u64.wrap (x1 - x104003)))))) x104000 x104001 x104002 x104003 x104004 x104005 x104006))
def dyn_Offset.j2 : Nat → Int → Int → Int → List (S29) → Int → Int → Bool → Int → Int → Int → Int → Int → Int → Int → Option (Int × Option Int)
 | 0, _, _, _, _, _, _, _, _, _, _, _, _, _, _ => none
 | k + 1, x1, x2, x10, x12, x13, x14, x42, x104000, x104001, x104002, x104003, x104004, x104005, x104006 => if x42 = true then (dyn_Offset.l0 k x1 x2 x12 x13 (wrap64 (x14 + 1))) else (if x104002 > (IntKind.u64.wrap (18446744073709551615 - x10)) then (some (0, some 4)) else (some (IntKind.u64.wrap (x104002 + x10), none)))
end
def dyn_Offset.f (k : Nat) (a0_0 : Int) (a0_1 : Int) (l0_2 : List (S29)) (a1 : Int) (a2 : Int) : Option (Int × Option Int) := dyn_Offset.l0 k a1 a2 l0_2 (l0_2.length : Int) 0
theorem dyn_Offset.mono_l : ∀ k, (∀ y0 y1 y2 y3 y4, LeO (dyn_Offset.l0 k y0 y1 y2 y3 y4) (dyn_Offset.l0 (k + 1) y0 y1 y2 y3 y4)) ∧ (∀ y0 y1 y2 y3 y4 y5 y6 y7 y8 y9 y10 y11 y12, LeO (dyn_Offset.j1 k y0 y1 y2 y3 y4 y5 y6 y7 y8 y9 y10 y11 y12) (dyn_Offset.j1 (k + 1) y0 y1 y2 y3 y4 y5 y6 y7 y8 y9 y10 y11 y12)) ∧ (∀ y0 y1 y2 y3 y4 y5 y6 y7 y8 y9 y10 y11 y12 y13, LeO (dyn_Offset.j2 k y0 y1 y2 y3 y4 y5 y6 y7 y8 y9 y10 y11 y12 y13) (dyn_Offset.j2 (k + 1) y0 y1 y2 y3 y4 y5 y6 y7 y8 y9 y10 y11 y12 y13))
 | 0 => ⟨fun _ _ _ _ _ r h => by simp [dyn_Offset.l0] at h, fun _ _ _ _ _ _ _ _ _ _ _ _ _ r h => by simp [dyn_Offset.j1] at h, fun _ _ _ _ _ _ _ _ _ _ _ _ _ _ r h => by simp [dyn_Offset.j2] at h⟩
 | k + 1 => by
  obtain ⟨ih0, ih1, ih2⟩ := dyn_Offset.mono_l k
  refine ⟨?_, ?_, ?_⟩
  ·intro y0 y1 y2 y3 y4
   unfold dyn_Offset.l0
   repeat' first
   | (with_reducible exact ih0 _ _ _ _ _)
   | (with_reducible exact ih1 _ _ _ _ _ _ _ _ _ _ _ _ _)
   | (with_reducible exact ih2 _ _ _ _ _ _ _ _ _ _ _ _ _ _)
   | (with_reducible exact LeO.refl _)
   | (with_reducible exact LeO.none _)
   | (with_reducible refine LeO.ite ?_ ?_)
   | (with_reducible refine LeO.bind ?_ (fun _ => ?_))
   | exact ih0 _ _ _ _ _
   | exact ih1 _ _ _ _ _ _ _ _ _ _ _ _ _
   | exact ih2 _ _ _ _ _ _ _ _ _ _ _ _ _ _
   | exact LeO.none _
   | refine LeO.ite ?_ ?_
   | refine LeO.bind ?_ (fun _ => ?_)
  ·intro y0 y1 y2 y3 y4 y5 y6 y7 y8 y9 y10 y11 y12
   unfold dyn_Offset.j1
   repeat' first
   | (with_reducible exact ih0 _ _ _ _ _)
   | (with_reducible exact ih1 _ _ _ _ _ _ _ _ _ _ _ _ _)
   | (with_reducible exact ih2 _ _ _ _ _ _ _ _ _ _ _ _ _ _)
   | (with_reducible exact LeO.refl _)
   | (with_reducible exact LeO.none _)
   | (with_reducible refine LeO.ite ?_ ?_)
   | (with_reducible refine LeO.bind ?_ (fun _ => ?_))
   | exact ih0 _ _ _ _ _
   | exact ih1 _ _ _ _ _ _ _ _ _ _ _ _ _
   | exact ih2 _ _ _ _ _ _ _ _ _ _ _ _ _ _
   | exact LeO.none _
   | refine LeO.ite ?_ ?_
   | refine LeO.bind ?_ (fun _ => ?_)
  ·intro y0 y1 y2 y3 y4 y5 y6 y7 y8 y9 y10 y11 y12 y13
   unfold dyn_Offset.j2
   repeat' first
   | (with_reducible exact ih0 _ _ _ _ _)
   | (with_reducible exact ih1 _ _ _ _ _ _ _ _ _ _ _ _ _)
   | (with_reducible exact ih2 _ _ _ _ _ _ _ _ _ _ _ _ _ _)
   | (with_reducible exact LeO.refl _)
   | (with_reducible exact LeO.none _)
   | (with_reducible refine LeO.ite ?_ ?_)
   | (with_reducible refine LeO.bind ?_ (fun _ => ?_))
   | exact ih0 _ _ _ _ _
   | exact ih1 _ _ _ _ _ _ _ _ _ _ _ _ _
   | exact ih2 _ _ _ _ _ _ _ _ _ _ _ _ _ _
   | exact LeO.none _
   | refine LeO.ite ?_ ?_
   | refine LeO.bind ?_ (fun _ => ?_)
theorem dyn_Offset.mono : ∀ a0 a1 a2 a3 a4 k, LeO (dyn_Offset.f k a0 a1 a2 a3 a4) (dyn_Offset.f (k + 1) a0 a1 a2 a3 a4) := by
 intro a0 a1 a2 a3 a4 k
 obtain ⟨ih0, ih1, ih2⟩ := dyn_Offset.mono_l k
 unfold dyn_Offset.f
 repeat' first
   | (with_reducible exact ih0 _ _ _ _ _)
   | (with_reducible exact ih1 _ _ _ _ _ _ _ _ _ _ _ _ _)
   | (with_reducible exact ih2 _ _ _ _ _ _ _ _ _ _ _ _ _ _)
   | (with_reducible exact LeO.refl _)
   | (with_reducible exact LeO.none _)
   | (with_reducible refine LeO.ite ?_ ?_)
   | (with_reducible refine LeO.bind ?_ (fun _ => ?_))
   | exact ih0 _ _ _ _ _
   | exact ih1 _ _ _ _ _ _ _ _ _ _ _ _ _
   | exact ih2 _ _ _ _ _ _ _ _ _ _ _ _ _ _
   | exact LeO.none _
   | refine LeO.ite ?_ ?_
   | refine LeO.bind ?_ (fun _ => ?_)
set_option maxHeartbeats 8000000 in
set_option maxRecDepth 100000 in
theorem dyn_Offset.calls (k : Nat) (a0_0 : Int) (a0_1 : Int) (A0_2 : Option Addr) (c0_2 : Nat) (l0_2 : List (S29)) (a1 : Int) (a2 : Int) (r1 : Int) (r2 : Option Int) (w : World) (hr0_2 : Kd.C k29 w A0_2 l0_2.length l0_2) (hc0_2 : l0_2.length ≤ c0_2) (h : dyn_Offset.f k a0_0 a0_1 l0_2 a1 a2 = some (r1, r2)) :
  Calls Try.prog 55 #[.agg #[.int .i64 a0_0, .int .u64 a0_1, .slice A0_2 l0_2.length c0_2], .int .u64 a1, .int .u64 a2] w fun e w' => e = .returned (.tuple #[.int .u64 r1, errW r2]) ∧ Below w.heap.size w w' := by
 have hu32 := Try.underlying32
 have hu29 := Try.underlying29
 have hu41 := Try.underlying41
 have hu97 := Try.underlying97
 have HR0_2 := Aside0.mk hr0_2
 have HC0_2 := Aside0.mk hc0_2
 clear hr0_2 hc0_2
 have HB := Aside0.mk (Below.refl w.heap.size w)
 have H : (dyn_Offset.l0 k a1 a2 l0_2 (l0_2.length : Int) 0) = some (r1, r2) := h
 clear h
 have H' := Aside0.mk H
 clear H
 go_enter Try.func55, Try.ntmps55
 go_wp2_with (first | ((with_reducible refine gate_dst (N := 3) rfl ?_); refine box_event ?hg (N := 3) ?hd (cs := #[.int .i64 a0_0, .int .u64 a0_1, .slice A0_2 l0_2.length c0_2]) (t := 32) ?hr ?_; (case hd => rfl); (case hg => rfl); (case hr => first | (go_simp; done) | (go_simp; rfl)); intro gb101 hg w4 hbox hb; have n0_ := Aside0.mk (below_step (by repeat (first | (with_reducible first | exact HB.out | apply below_alloc | apply pw_below_drewN | apply below_drew1) | exact HB.out)) hb); have n1_ := Aside0.mk (hbox); have n2_ := Aside0.mk ((by rw [hg]; exact (below_size (by repeat (first | (with_reducible first | exact HB.out | apply below_alloc | apply pw_below_drewN | apply below_drew1) | exact HB.out))) : w.heap.size ≤ gb101)); have n3_ := Aside0.mk ((by rw [hg]; exact (below_size (by repeat (first | (with_reducible first | exact HB.out | apply below_alloc | apply pw_below_drewN | apply below_drew1) | exact HB.out))) : w.heap.size ≤ gb101)); clear HB; have HB := n0_; have BK101 := n1_; have GW101 := n2_; have GE101 := n3_; clear n0_ n1_ n2_ n3_; clear hb hbox hg; have hcz5_0 : w4.cell? ⟨gb101, 0, none⟩ = some (.int .i64 a0_0) := (blk_cell BK101.out 0).trans rfl; have hcz5_1 : w4.cell? ⟨gb101, 1, none⟩ = some (.int .u64 a0_1) := (blk_cell BK101.out 1).trans rfl; have hcz5_2 : w4.cell? ⟨gb101, 2, none⟩ = some (.slice A0_2 l0_2.length c0_2) := (blk_cell BK101.out 2).trans rfl; have hfz5_0 := blk_frozen BK101.out 0; have hfz5_1 := blk_frozen BK101.out 1; have hfz5_2 := blk_frozen BK101.out 2))
 go_loopg [14] k (fun kq v14 w' => ∃ (x14_1 : Int), v14 = .int .i64 x14_1 ∧ Aside0 (dyn_Offset.l0 kq a1 a2 l0_2 (l0_2.length : Int) x14_1 = some (r1, r2)) ∧ Aside0 (kq ≤ k) ∧ Aside0 (w'.heap[gb101]? = some (.cells #[.int .i64 a0_0, .int .u64 a0_1, (.slice A0_2 l0_2.length c0_2)] 32 (0, 0))) ∧ Aside0 (Below w.heap.size w w'))
 case atStart => exact ⟨(0), (by first | rfl | (simp; done) | (simp [*]; done)), H', ⟨Nat.le_refl _⟩, ⟨by (with_reducible repeat (first | refine blk_drewN ?_ _ | refine blk_drew ?_ | refine blk_alloc ?_ _)); exact BK101.out⟩, ⟨by repeat (first | (with_reducible first | exact HB.out | apply below_alloc | apply pw_below_drewN | apply below_drew1 | refine below_set ?_ GE101.out) | exact HB.out)⟩⟩
 case round =>
  clear H'
  try clear p2
  try clear c5
  try clear hcz5_0
  try clear hcz5_1
  try clear hcz5_2
  try clear hfz5_0
  try clear hfz5_1
  try clear hfz5_2
  obtain ⟨x14_1, rfl, HA, HK1, BK101, HB⟩ := hrel
  cases gk with
  | zero => exact absurd HA.out (by simp [dyn_Offset.l0])
  | succ k1 =>
   have H := HA.out
   clear HA
   simp only [dyn_Offset.l0] at H
   by_cases c6 : x14_1 < (l0_2.length : Int)
   ·rw [if_pos c6] at H
    have c6b0 : decide (x14_1 < (l0_2.length : Int)) = true := decide_eq_true c6
    clear c6
    by_cases c7 : 0 ≤ x14_1
    ·rw [if_pos c7] at H
     have c7b0 : decide (0 ≤ x14_1) = true := decide_eq_true c7
     clear c7
     by_cases c8 : x14_1 < (l0_2.length : Int)
     ·rw [if_pos c8] at H
      have c8b0 : decide (x14_1 < (l0_2.length : Int)) = true := decide_eq_true c8
      clear c8
      have HC9 := Aside0.mk H
      clear H
      have p102 : 0 ≤ (x14_1 : Int) := of_decide_eq_true (by assumption)
      have q102 : x14_1 < (l0_2.length : Int) := of_decide_eq_true (by assumption)
      obtain ⟨ad102, e102, hx102_0, hx102_1, hx102_2, hx102_3, hx102_4, hx102_5, hx102_6⟩ := at_T29 HR0_2.out x14_1 p102 q102
      cases e102
      replace hx102_0 := (HB.out.cell (World.block_lt_of_cell? w _ hx102_0)).trans hx102_0
      replace hx102_1 := (HB.out.cell (World.block_lt_of_cell? w _ hx102_1)).trans hx102_1
      replace hx102_2 := (HB.out.cell (World.block_lt_of_cell? w _ hx102_2)).trans hx102_2
      replace hx102_3 := (HB.out.cell (World.block_lt_of_cell? w _ hx102_3)).trans hx102_3
      replace hx102_4 := (HB.out.cell (World.block_lt_of_cell? w _ hx102_4)).trans hx102_4
      replace hx102_5 := (HB.out.cell (World.block_lt_of_cell? w _ hx102_5)).trans hx102_5
      replace hx102_6 := (HB.out.cell (World.block_lt_of_cell? w _ hx102_6)).trans hx102_6
      replace p102 := eq_true p102
      replace q102 := eq_true q102
      go_upto_region 4 with (first | ((with_reducible refine gate_dst (N := 9) rfl ?_); refine box_event ?hg (N := 9) ?hd (cs := #[.int .u32 0, .int .u32 0, .int .u64 0, .int .u64 0, .int .u64 0, .int .u64 0, .int .u64 0]) (t := 29) ?hr ?_; (case hd => rfl); (case hg => rfl); (case hr => first | (go_simp; done) | (go_simp; rfl)); intro gb103 hg w10 hbox hb; have n0_ := Aside0.mk (blk_below (g := gb101) (o := .cells #[.int .i64 a0_0, .int .u64 a0_1, .slice (some ad102) l0_2.length c0_2] 32 (0, 0)) (by (with_reducible repeat (first | refine blk_drewN ?_ _ | refine blk_drew ?_ | refine blk_alloc ?_ _)); exact BK101.out) hb); have n1_ := Aside0.mk (below_step (by repeat (first | (with_reducible first | exact HB.out | apply below_alloc | apply pw_below_drewN | apply below_drew1 | refine below_set ?_ GE101.out) | exact HB.out)) hb); have n2_ := Aside0.mk (hbox); have n3_ := Aside0.mk ((by rw [hg]; exact (below_size (by repeat (first | (with_reducible first | exact HB.out | apply below_alloc | apply pw_below_drewN | apply below_drew1 | refine below_set ?_ GE101.out) | exact HB.out))) : w.heap.size ≤ gb103)); have n4_ := Aside0.mk ((by rw [hg]; exact (below_size (by repeat (first | (with_reducible first | exact HB.out | apply below_alloc | apply pw_below_drewN | apply below_drew1 | refine below_set ?_ GE101.out) | exact HB.out))) : w.heap.size ≤ gb103)); have n5_ := Aside0.mk ((by rw [hg]; exact Nat.ne_of_lt (blk_lt (g := gb101) (o := .cells #[.int .i64 a0_0, .int .u64 a0_1, .slice (some ad102) l0_2.length c0_2] 32 (0, 0)) (by (with_reducible repeat (first | refine blk_drewN ?_ _ | refine blk_drew ?_ | refine blk_alloc ?_ _)); exact BK101.out)) : gb101 ≠ gb103)); have n6_ := Aside0.mk ((by rw [hg]; exact Nat.ne_of_gt (blk_lt (g := gb101) (o := .cells #[.int .i64 a0_0, .int .u64 a0_1, .slice (some ad102) l0_2.length c0_2] 32 (0, 0)) (by (with_reducible repeat (first | refine blk_drewN ?_ _ | refine blk_drew ?_ | refine blk_alloc ?_ _)); exact BK101.out)) : gb103 ≠ gb101)); clear BK101; clear HB; have BK101 := n0_; have HB := n1_; have BK103 := n2_; have GW103 := n3_; have GE103 := n4_; have NB101_103 := n5_; have NB103_101 := n6_; clear n0_ n1_ n2_ n3_ n4_ n5_ n6_; clear hb hbox hg; have hnb11 := NB103_101.out; have hnc11 := NB101_103.out; have hcz12_0 : w10.cell? ⟨gb103, 0, none⟩ = some (.int .u32 0) := (blk_cell BK103.out 0).trans rfl; have hcz12_1 : w10.cell? ⟨gb103, 1, none⟩ = some (.int .u32 0) := (blk_cell BK103.out 1).trans rfl; have hcz12_2 : w10.cell? ⟨gb103, 2, none⟩ = some (.int .u64 0) := (blk_cell BK103.out 2).trans rfl; have hcz12_3 : w10.cell? ⟨gb103, 3, none⟩ = some (.int .u64 0) := (blk_cell BK103.out 3).trans rfl; have hcz12_4 : w10.cell? ⟨gb103, 4, none⟩ = some (.int .u64 0) := (blk_cell BK103.out 4).trans rfl; have hcz12_5 : w10.cell? ⟨gb103, 5, none⟩ = some (.int .u64 0) := (blk_cell BK103.out 5).trans rfl; have hcz12_6 : w10.cell? ⟨gb103, 6, none⟩ = some (.int .u64 0) := (blk_cell BK103.out 6).trans rfl; have hfz12_0 := blk_frozen BK103.out 0; have hfz12_1 := blk_frozen BK103.out 1; have hfz12_2 := blk_frozen BK103.out 2; have hfz12_3 := blk_frozen BK103.out 3; have hfz12_4 := blk_frozen BK103.out 4; have hfz12_5 := blk_frozen BK103.out 5; have hfz12_6 := blk_frozen BK103.out 6))
      (try simp only [Act.put, List.setIfInBounds_toArray, List.set_cons_zero, List.set_cons_succ])
      go_cut [26] (fun v26 wc => ∃ (kq : Nat) (x26_8 : Bool), v26 = .bool x26_8 ∧ Aside0 (dyn_Offset.j1 kq a1 a2 l0_2 (l0_2.length : Int) x14_1 x26_8 ((rd_T29 l0_2 x14_1).f0) ((rd_T29 l0_2 x14_1).f1) ((rd_T29 l0_2 x14_1).f2) ((rd_T29 l0_2 x14_1).f3) ((rd_T29 l0_2 x14_1).f4) ((rd_T29 l0_2 x14_1).f5) ((rd_T29 l0_2 x14_1).f6) = some (r1, r2)) ∧ Aside0 (kq ≤ k1) ∧ Aside0 (wc.heap[gb101]? = some (.cells #[.int .i64 a0_0, .int .u64 a0_1, (.slice (some ad102) l0_2.length c0_2)] 32 (0, 0))) ∧ Aside0 (wc.heap[gb103]? = some (.cells #[.int .u32 ((rd_T29 l0_2 x14_1).f0), .int .u32 ((rd_T29 l0_2 x14_1).f1), .int .u64 ((rd_T29 l0_2 x14_1).f2), .int .u64 ((rd_T29 l0_2 x14_1).f3), .int .u64 ((rd_T29 l0_2 x14_1).f4), .int .u64 ((rd_T29 l0_2 x14_1).f5), .int .u64 ((rd_T29 l0_2 x14_1).f6)] 29 (0, 0))) ∧ Aside0 (Below w.heap.size w wc))
      case first =>
       have H := HC9.out
       clear HC9
       by_cases c13 : ((rd_T29 l0_2 x14_1).f0) = 1
       ·rw [if_pos c13] at H
        have c13b0 : (((rd_T29 l0_2 x14_1).f0) == 1) = true := beq_iff_eq.mpr c13
        have c13b1 : (((rd_T29 l0_2 x14_1).f0) != 1) = false := bne_eq_false_iff_eq.mpr c13
        clear c13
        (first | rw [c13b0] | (simp only [i64_w, i32_w]; rw [c13b0]) | skip)
        have H' := Aside0.mk H
        clear H
        have hnb14 := NB103_101.out
        have hnc14 := NB101_103.out
        have hcz15_0 : w10.cell? ⟨gb103, 0, none⟩ = some (.int .u32 0) := (blk_cell BK103.out 0).trans rfl
        have hcz15_1 : w10.cell? ⟨gb103, 1, none⟩ = some (.int .u32 0) := (blk_cell BK103.out 1).trans rfl
        have hcz15_2 : w10.cell? ⟨gb103, 2, none⟩ = some (.int .u64 0) := (blk_cell BK103.out 2).trans rfl
        have hcz15_3 : w10.cell? ⟨gb103, 3, none⟩ = some (.int .u64 0) := (blk_cell BK103.out 3).trans rfl
        have hcz15_4 : w10.cell? ⟨gb103, 4, none⟩ = some (.int .u64 0) := (blk_cell BK103.out 4).trans rfl
        have hcz15_5 : w10.cell? ⟨gb103, 5, none⟩ = some (.int .u64 0) := (blk_cell BK103.out 5).trans rfl
        have hcz15_6 : w10.cell? ⟨gb103, 6, none⟩ = some (.int .u64 0) := (blk_cell BK103.out 6).trans rfl
        have hfz15_0 := blk_frozen BK103.out 0
        have hfz15_1 := blk_frozen BK103.out 1
        have hfz15_2 := blk_frozen BK103.out 2
        have hfz15_3 := blk_frozen BK103.out 3
        have hfz15_4 := blk_frozen BK103.out 4
        have hfz15_5 := blk_frozen BK103.out 5
        have hfz15_6 := blk_frozen BK103.out 6
        go_wp2
        go_meet
        case rel => exact ⟨_, (decide (a1 < ((rd_T29 l0_2 x14_1).f3))), (by first | rfl | (simp; done) | (simp [*]; done)), H', ⟨by have := HK1.out; first | omega | exact Nat.le_refl _⟩, ⟨by (with_reducible repeat (first | refine blk_drewN ?_ _ | refine blk_drew ?_ | refine blk_alloc ?_ _)); refine blk_far ?_ NB101_103.out _; (with_reducible repeat (first | refine blk_drewN ?_ _ | refine blk_drew ?_ | refine blk_alloc ?_ _)); refine blk_far ?_ NB101_103.out _; (with_reducible repeat (first | refine blk_drewN ?_ _ | refine blk_drew ?_ | refine blk_alloc ?_ _)); refine blk_far ?_ NB101_103.out _; (with_reducible repeat (first | refine blk_drewN ?_ _ | refine blk_drew ?_ | refine blk_alloc ?_ _)); refine blk_far ?_ NB101_103.out _; (with_reducible repeat (first | refine blk_drewN ?_ _ | refine blk_drew ?_ | refine blk_alloc ?_ _)); refine blk_far ?_ NB101_103.out _; (with_reducible repeat (first | refine blk_drewN ?_ _ | refine blk_drew ?_ | refine blk_alloc ?_ _)); refine blk_far ?_ NB101_103.out _; (with_reducible repeat (first | refine blk_drewN ?_ _ | refine blk_drew ?_ | refine blk_alloc ?_ _)); refine blk_far ?_ NB101_103.out _; (with_reducible repeat (first | refine blk_drewN ?_ _ | refine blk_drew ?_ | refine blk_alloc ?_ _)); exact BK101.out⟩, ⟨by (with_reducible repeat (first | refine blk_drewN ?_ _ | refine blk_drew ?_ | refine blk_alloc ?_ _)); refine blk_put (cs := #[.int .u32 ((rd_T29 l0_2 x14_1).f0), .int .u32 ((rd_T29 l0_2 x14_1).f1), .int .u64 ((rd_T29 l0_2 x14_1).f2), .int .u64 ((rd_T29 l0_2 x14_1).f3), .int .u64 ((rd_T29 l0_2 x14_1).f4), .int .u64 ((rd_T29 l0_2 x14_1).f5), .int .u64 0]) ?_ 6 _ rfl; (with_reducible repeat (first | refine blk_drewN ?_ _ | refine blk_drew ?_ | refine blk_alloc ?_ _)); refine blk_put (cs := #[.int .u32 ((rd_T29 l0_2 x14_1).f0), .int .u32 ((rd_T29 l0_2 x14_1).f1), .int .u64 ((rd_T29 l0_2 x14_1).f2), .int .u64 ((rd_T29 l0_2 x14_1).f3), .int .u64 ((rd_T29 l0_2 x14_1).f4), .int .u64 0, .int .u64 0]) ?_ 5 _ rfl; (with_reducible repeat (first | refine blk_drewN ?_ _ | refine blk_drew ?_ | refine blk_alloc ?_ _)); refine blk_put (cs := #[.int .u32 ((rd_T29 l0_2 x14_1).f0), .int .u32 ((rd_T29 l0_2 x14_1).f1), .int .u64 ((rd_T29 l0_2 x14_1).f2), .int .u64 ((rd_T29 l0_2 x14_1).f3), .int .u64 0, .int .u64 0, .int .u64 0]) ?_ 4 _ rfl; (with_reducible repeat (first | refine blk_drewN ?_ _ | refine blk_drew ?_ | refine blk_alloc ?_ _)); refine blk_put (cs := #[.int .u32 ((rd_T29 l0_2 x14_1).f0), .int .u32 ((rd_T29 l0_2 x14_1).f1), .int .u64 ((rd_T29 l0_2 x14_1).f2), .int .u64 0, .int .u64 0, .int .u64 0, .int .u64 0]) ?_ 3 _ rfl; (with_reducible repeat (first | refine blk_drewN ?_ _ | refine blk_drew ?_ | refine blk_alloc ?_ _)); refine blk_put (cs := #[.int .u32 ((rd_T29 l0_2 x14_1).f0), .int .u32 ((rd_T29 l0_2 x14_1).f1), .int .u64 0, .int .u64 0, .int .u64 0, .int .u64 0, .int .u64 0]) ?_ 2 _ rfl; (with_reducible repeat (first | refine blk_drewN ?_ _ | refine blk_drew ?_ | refine blk_alloc ?_ _)); refine blk_put (cs := #[.int .u32 ((rd_T29 l0_2 x14_1).f0), .int .u32 0, .int .u64 0, .int .u64 0, .int .u64 0, .int .u64 0, .int .u64 0]) ?_ 1 _ rfl; (with_reducible repeat (first | refine blk_drewN ?_ _ | refine blk_drew ?_ | refine blk_alloc ?_ _)); refine blk_put (cs := #[.int .u32 0, .int .u32 0, .int .u64 0, .int .u64 0, .int .u64 0, .int .u64 0, .int .u64 0]) ?_ 0 _ rfl; (with_reducible repeat (first | refine blk_drewN ?_ _ | refine blk_drew ?_ | refine blk_alloc ?_ _)); exact BK103.out⟩, ⟨by repeat (first | (with_reducible first | exact HB.out | apply below_alloc | apply pw_below_drewN | apply below_drew1 | refine below_set ?_ GE101.out | refine below_set ?_ GE103.out) | exact HB.out)⟩⟩
       ·rw [if_neg c13] at H
        have c13b0 : (((rd_T29 l0_2 x14_1).f0) == 1) = false := beq_eq_false_iff_ne.mpr c13
        have c13b1 : (((rd_T29 l0_2 x14_1).f0) != 1) = true := bne_iff_ne.mpr c13
        (first | rw [c13b0] | (simp only [i64_w, i32_w]; rw [c13b0]) | skip)
        have H' := Aside0.mk H
        clear H
        have hnb16 := NB103_101.out
        have hnc16 := NB101_103.out
        have hcz17_0 : w10.cell? ⟨gb103, 0, none⟩ = some (.int .u32 0) := (blk_cell BK103.out 0).trans rfl
        have hcz17_1 : w10.cell? ⟨gb103, 1, none⟩ = some (.int .u32 0) := (blk_cell BK103.out 1).trans rfl
        have hcz17_2 : w10.cell? ⟨gb103, 2, none⟩ = some (.int .u64 0) := (blk_cell BK103.out 2).trans rfl
        have hcz17_3 : w10.cell? ⟨gb103, 3, none⟩ = some (.int .u64 0) := (blk_cell BK103.out 3).trans rfl
        have hcz17_4 : w10.cell? ⟨gb103, 4, none⟩ = some (.int .u64 0) := (blk_cell BK103.out 4).trans rfl
        have hcz17_5 : w10.cell? ⟨gb103, 5, none⟩ = some (.int .u64 0) := (blk_cell BK103.out 5).trans rfl
        have hcz17_6 : w10.cell? ⟨gb103, 6, none⟩ = some (.int .u64 0) := (blk_cell BK103.out 6).trans rfl
        have hfz17_0 := blk_frozen BK103.out 0
        have hfz17_1 := blk_frozen BK103.out 1
        have hfz17_2 := blk_frozen BK103.out 2
        have hfz17_3 := blk_frozen BK103.out 3
        have hfz17_4 := blk_frozen BK103.out 4
        have hfz17_5 := blk_frozen BK103.out 5
        have hfz17_6 := blk_frozen BK103.out 6
        go_wp2
        go_meet
        case rel => exact ⟨_, (true), (by first | rfl | (simp; done) | (simp [*]; done)), H', ⟨by have := HK1.out; first | omega | exact Nat.le_refl _⟩, ⟨by (with_reducible repeat (first | refine blk_drewN ?_ _ | refine blk_drew ?_ | refine blk_alloc ?_ _)); refine blk_far ?_ NB101_103.out _; (with_reducible repeat (first | refine blk_drewN ?_ _ | refine blk_drew ?_ | refine blk_alloc ?_ _)); refine blk_far ?_ NB101_103.out _; (with_reducible repeat (first | refine blk_drewN ?_ _ | refine blk_drew ?_ | refine blk_alloc ?_ _)); refine blk_far ?_ NB101_103.out _; (with_reducible repeat (first | refine blk_drewN ?_ _ | refine blk_drew ?_ | refine blk_alloc ?_ _)); refine blk_far ?_ NB101_103.out _; (with_reducible repeat (first | refine blk_drewN ?_ _ | refine blk_drew ?_ | refine blk_alloc ?_ _)); refine blk_far ?_ NB101_103.out _; (with_reducible repeat (first | refine blk_drewN ?_ _ | refine blk_drew ?_ | refine blk_alloc ?_ _)); refine blk_far ?_ NB101_103.out _; (with_reducible repeat (first | refine blk_drewN ?_ _ | refine blk_drew ?_ | refine blk_alloc ?_ _)); refine blk_far ?_ NB101_103.out _; (with_reducible repeat (first | refine blk_drewN ?_ _ | refine blk_drew ?_ | refine blk_alloc ?_ _)); exact BK101.out⟩, ⟨by (with_reducible repeat (first | refine blk_drewN ?_ _ | refine blk_drew ?_ | refine blk_alloc ?_ _)); refine blk_put (cs := #[.int .u32 ((rd_T29 l0_2 x14_1).f0), .int .u32 ((rd_T29 l0_2 x14_1).f1), .int .u64 ((rd_T29 l0_2 x14_1).f2), .int .u64 ((rd_T29 l0_2 x14_1).f3), .int .u64 ((rd_T29 l0_2 x14_1).f4), .int .u64 ((rd_T29 l0_2 x14_1).f5), .int .u64 0]) ?_ 6 _ rfl; (with_reducible repeat (first | refine blk_drewN ?_ _ | refine blk_drew ?_ | refine blk_alloc ?_ _)); refine blk_put (cs := #[.int .u32 ((rd_T29 l0_2 x14_1).f0), .int .u32 ((rd_T29 l0_2 x14_1).f1), .int .u64 ((rd_T29 l0_2 x14_1).f2), .int .u64 ((rd_T29 l0_2 x14_1).f3), .int .u64 ((rd_T29 l0_2 x14_1).f4), .int .u64 0, .int .u64 0]) ?_ 5 _ rfl; (with_reducible repeat (first | refine blk_drewN ?_ _ | refine blk_drew ?_ | refine blk_alloc ?_ _)); refine blk_put (cs := #[.int .u32 ((rd_T29 l0_2 x14_1).f0), .int .u32 ((rd_T29 l0_2 x14_1).f1), .int .u64 ((rd_T29 l0_2 x14_1).f2), .int .u64 ((rd_T29 l0_2 x14_1).f3), .int .u64 0, .int .u64 0, .int .u64 0]) ?_ 4 _ rfl; (with_reducible repeat (first | refine blk_drewN ?_ _ | refine blk_drew ?_ | refine blk_alloc ?_ _)); refine blk_put (cs := #[.int .u32 ((rd_T29 l0_2 x14_1).f0), .int .u32 ((rd_T29 l0_2 x14_1).f1), .int .u64 ((rd_T29 l0_2 x14_1).f2), .int .u64 0, .int .u64 0, .int .u64 0, .int .u64 0]) ?_ 3 _ rfl; (with_reducible repeat (first | refine blk_drewN ?_ _ | refine blk_drew ?_ | refine blk_alloc ?_ _)); refine blk_put (cs := #[.int .u32 ((rd_T29 l0_2 x14_1).f0), .int .u32 ((rd_T29 l0_2 x14_1).f1), .int .u64 0, .int .u64 0, .int .u64 0, .int .u64 0, .int .u64 0]) ?_ 2 _ rfl; (with_reducible repeat (first | refine blk_drewN ?_ _ | refine blk_drew ?_ | refine blk_alloc ?_ _)); refine blk_put (cs := #[.int .u32 ((rd_T29 l0_2 x14_1).f0), .int .u32 0, .int .u64 0, .int .u64 0, .int .u64 0, .int .u64 0, .int .u64 0]) ?_ 1 _ rfl; (with_reducible repeat (first | refine blk_drewN ?_ _ | refine blk_drew ?_ | refine blk_alloc ?_ _)); refine blk_put (cs := #[.int .u32 0, .int .u32 0, .int .u64 0, .int .u64 0, .int .u64 0, .int .u64 0, .int .u64 0]) ?_ 0 _ rfl; (with_reducible repeat (first | refine blk_drewN ?_ _ | refine blk_drew ?_ | refine blk_alloc ?_ _)); exact BK103.out⟩, ⟨by repeat (first | (with_reducible first | exact HB.out | apply below_alloc | apply pw_below_drewN | apply below_drew1 | refine below_set ?_ GE101.out | refine below_set ?_ GE103.out) | exact HB.out)⟩⟩
      case rest =>
       clear HC9
       try clear c1
       try clear p1
       try clear q1
       try clear hx1
       try clear p2
       try clear c5
       try clear c6
       try clear c6b0
       try clear c7
       try clear c7b0
       try clear c8
       try clear c8b0
       try clear p10
       try clear q10
       try clear hx10
       try clear c11
       try clear c13
       try clear c13b0
       try clear c13b1
       try clear c14
       try clear c16
       try clear hcz12_0
       try clear hcz12_1
       try clear hcz12_2
       try clear hcz12_3
       try clear hcz12_4
       try clear hcz12_5
       try clear hcz12_6
       try clear hcz15_0
       try clear hcz15_1
       try clear hcz15_2
       try clear hcz15_3
       try clear hcz15_4
       try clear hcz15_5
       try clear hcz15_6
       try clear hcz17_0
       try clear hcz17_1
       try clear hcz17_2
       try clear hcz17_3
       try clear hcz17_4
       try clear hcz17_5
       try clear hcz17_6
       try clear hcz5_0
       try clear hcz5_1
       try clear hcz5_2
       try clear hfz12_0
       try clear hfz12_1
       try clear hfz12_2
       try clear hfz12_3
       try clear hfz12_4
       try clear hfz12_5
       try clear hfz12_6
       try clear hfz15_0
       try clear hfz15_1
       try clear hfz15_2
       try clear hfz15_3
       try clear hfz15_4
       try clear hfz15_5
       try clear hfz15_6
       try clear hfz17_0
       try clear hfz17_1
       try clear hfz17_2
       try clear hfz17_3
       try clear hfz17_4
       try clear hfz17_5
       try clear hfz17_6
       try clear hfz5_0
       try clear hfz5_1
       try clear hfz5_2
       try clear hx102_0
       try clear hx102_1
       try clear hx102_2
       try clear hx102_3
       try clear hx102_4
       try clear hx102_5
       try clear hx102_6
       try clear p102
       try clear p2
       try clear q102
       obtain ⟨kq, x26_8, rfl, HA, HJ8, BK101, BK103, HB⟩ := hcut
       cases kq with
       | zero => exact absurd HA.out (by simp [dyn_Offset.j1])
       | succ kj8 =>
        have H := HA.out
        clear HA
        simp only [dyn_Offset.j1] at H
        by_cases c18 : x26_8 = true
        ·subst c18
         have H1 : (dyn_Offset.l0 kj8 a1 a2 l0_2 (l0_2.length : Int) (wrap64 (x14_1 + 1))) = some (r1, r2) := by rw [if_pos rfl] at H; exact H
         clear H
         have H := H1
         clear H1
         have H' := Aside0.mk H
         clear H
         go_wp2
         go_roundg kj8
         case measure => have := HK1.out; have := HJ8.out; omega
         case rel => exact ⟨(wrap64 (x14_1 + 1)), (by first | rfl | (simp; done) | (simp [*]; done)), H', ⟨by have := HK1.out; have := HJ8.out; omega⟩, ⟨by (with_reducible repeat (first | refine blk_drewN ?_ _ | refine blk_drew ?_ | refine blk_alloc ?_ _)); exact BK101.out⟩, ⟨by repeat (first | (with_reducible first | exact HB.out | apply below_alloc | apply pw_below_drewN | apply below_drew1 | refine below_set ?_ GE101.out | refine below_set ?_ GE103.out) | exact HB.out)⟩⟩
        ·replace c18 := Bool.eq_false_iff.mpr c18
         subst c18
         have H1 : (if (IntKind.u64.wrap (a1 - ((rd_T29 l0_2 x14_1).f3))) > ((rd_T29 l0_2 x14_1).f4) then (dyn_Offset.j2 kj8 a1 a2 (IntKind.u64.wrap (a1 - ((rd_T29 l0_2 x14_1).f3))) l0_2 (l0_2.length : Int) x14_1 true ((rd_T29 l0_2 x14_1).f0) ((rd_T29 l0_2 x14_1).f1) ((rd_T29 l0_2 x14_1).f2) ((rd_T29 l0_2 x14_1).f3) ((rd_T29 l0_2 x14_1).f4) ((rd_T29 l0_2 x14_1).f5) ((rd_T29 l0_2 x14_1).f6)) else (dyn_Offset.j2 kj8 a1 a2 (IntKind.u64.wrap (a1 - ((rd_T29 l0_2 x14_1).f3))) l0_2 (l0_2.length : Int) x14_1 (decide (a2 > (IntKind.u64.wrap (((rd_T29 l0_2 x14_1).f4) - (IntKind.u64.wrap (a1 - ((rd_T29 l0_2 x14_1).f3))))))) ((rd_T29 l0_2 x14_1).f0) ((rd_T29 l0_2 x14_1).f1) ((rd_T29 l0_2 x14_1).f2) ((rd_T29 l0_2 x14_1).f3) ((rd_T29 l0_2 x14_1).f4) ((rd_T29 l0_2 x14_1).f5) ((rd_T29 l0_2 x14_1).f6))) = some (r1, r2) := by rw [if_neg (show ¬ (false = true) by decide)] at H; exact H
         clear H
         have H := H1
         clear H1
         have HC19 := Aside0.mk H
         clear H
         have hnb20 := NB103_101.out
         have hnc20 := NB101_103.out
         have hcz21_0 : wc.cell? ⟨gb103, 0, none⟩ = some (.int .u32 ((rd_T29 l0_2 x14_1).f0)) := (blk_cell BK103.out 0).trans rfl
         have hcz21_1 : wc.cell? ⟨gb103, 1, none⟩ = some (.int .u32 ((rd_T29 l0_2 x14_1).f1)) := (blk_cell BK103.out 1).trans rfl
         have hcz21_2 : wc.cell? ⟨gb103, 2, none⟩ = some (.int .u64 ((rd_T29 l0_2 x14_1).f2)) := (blk_cell BK103.out 2).trans rfl
         have hcz21_3 : wc.cell? ⟨gb103, 3, none⟩ = some (.int .u64 ((rd_T29 l0_2 x14_1).f3)) := (blk_cell BK103.out 3).trans rfl
         have hcz21_4 : wc.cell? ⟨gb103, 4, none⟩ = some (.int .u64 ((rd_T29 l0_2 x14_1).f4)) := (blk_cell BK103.out 4).trans rfl
         have hcz21_5 : wc.cell? ⟨gb103, 5, none⟩ = some (.int .u64 ((rd_T29 l0_2 x14_1).f5)) := (blk_cell BK103.out 5).trans rfl
         have hcz21_6 : wc.cell? ⟨gb103, 6, none⟩ = some (.int .u64 ((rd_T29 l0_2 x14_1).f6)) := (blk_cell BK103.out 6).trans rfl
         have hfz21_0 := blk_frozen BK103.out 0
         have hfz21_1 := blk_frozen BK103.out 1
         have hfz21_2 := blk_frozen BK103.out 2
         have hfz21_3 := blk_frozen BK103.out 3
         have hfz21_4 := blk_frozen BK103.out 4
         have hfz21_5 := blk_frozen BK103.out 5
         have hfz21_6 := blk_frozen BK103.out 6
         go_upto_region 6 with (fail)
         go_cut [42] (fun v42 wc => ∃ (kq : Nat) (x42_18 : Bool), v42 = .bool x42_18 ∧ Aside0 (dyn_Offset.j2 kq a1 a2 (IntKind.u64.wrap (a1 - ((rd_T29 l0_2 x14_1).f3))) l0_2 (l0_2.length : Int) x14_1 x42_18 ((rd_T29 l0_2 x14_1).f0) ((rd_T29 l0_2 x14_1).f1) ((rd_T29 l0_2 x14_1).f2) ((rd_T29 l0_2 x14_1).f3) ((rd_T29 l0_2 x14_1).f4) ((rd_T29 l0_2 x14_1).f5) ((rd_T29 l0_2 x14_1).f6) = some (r1, r2)) ∧ Aside0 (kq ≤ kj8) ∧ Aside0 (wc.heap[gb101]? = some (.cells #[.int .i64 a0_0, .int .u64 a0_1, (.slice (some ad102) l0_2.length c0_2)] 32 (0, 0))) ∧ Aside0 (wc.heap[gb103]? = some (.cells #[.int .u32 ((rd_T29 l0_2 x14_1).f0), .int .u32 ((rd_T29 l0_2 x14_1).f1), .int .u64 ((rd_T29 l0_2 x14_1).f2), .int .u64 ((rd_T29 l0_2 x14_1).f3), .int .u64 ((rd_T29 l0_2 x14_1).f4), .int .u64 ((rd_T29 l0_2 x14_1).f5), .int .u64 ((rd_T29 l0_2 x14_1).f6)] 29 (0, 0))) ∧ Aside0 (Below w.heap.size w wc))
         case first =>
          have H := HC19.out
          clear HC19
          by_cases c22 : (IntKind.u64.wrap (a1 - ((rd_T29 l0_2 x14_1).f3))) > ((rd_T29 l0_2 x14_1).f4)
          ·rw [if_pos c22] at H
           have c22b0 : decide (((rd_T29 l0_2 x14_1).f4) < (IntKind.u64.wrap (a1 - ((rd_T29 l0_2 x14_1).f3)))) = true := decide_eq_true c22
           clear c22
           (first | rw [c22b0] | (simp only [i64_w, i32_w]; rw [c22b0]) | skip)
           have H' := Aside0.mk H
           clear H
           have hnb23 := NB103_101.out
           have hnc23 := NB101_103.out
           have hcz24_0 : wc.cell? ⟨gb103, 0, none⟩ = some (.int .u32 ((rd_T29 l0_2 x14_1).f0)) := (blk_cell BK103.out 0).trans rfl
           have hcz24_1 : wc.cell? ⟨gb103, 1, none⟩ = some (.int .u32 ((rd_T29 l0_2 x14_1).f1)) := (blk_cell BK103.out 1).trans rfl
           have hcz24_2 : wc.cell? ⟨gb103, 2, none⟩ = some (.int .u64 ((rd_T29 l0_2 x14_1).f2)) := (blk_cell BK103.out 2).trans rfl
           have hcz24_3 : wc.cell? ⟨gb103, 3, none⟩ = some (.int .u64 ((rd_T29 l0_2 x14_1).f3)) := (blk_cell BK103.out 3).trans rfl
           have hcz24_4 : wc.cell? ⟨gb103, 4, none⟩ = some (.int .u64 ((rd_T29 l0_2 x14_1).f4)) := (blk_cell BK103.out 4).trans rfl
           have hcz24_5 : wc.cell? ⟨gb103, 5, none⟩ = some (.int .u64 ((rd_T29 l0_2 x14_1).f5)) := (blk_cell BK103.out 5).trans rfl
           have hcz24_6 : wc.cell? ⟨gb103, 6, none⟩ = some (.int .u64 ((rd_T29 l0_2 x14_1).f6)) := (blk_cell BK103.out 6).trans rfl
           have hfz24_0 := blk_frozen BK103.out 0
           have hfz24_1 := blk_frozen BK103.out 1
           have hfz24_2 := blk_frozen BK103.out 2
           have hfz24_3 := blk_frozen BK103.out 3
           have hfz24_4 := blk_frozen BK103.out 4
           have hfz24_5 := blk_frozen BK103.out 5
           have hfz24_6 := blk_frozen BK103.out 6
           go_wp2
           go_meet
           case rel => exact ⟨_, (true), (by first | rfl | (simp; done) | (simp [*]; done)), H', ⟨by have := HK1.out; have := HJ8.out; first | omega | exact Nat.le_refl _⟩, ⟨by (with_reducible repeat (first | refine blk_drewN ?_ _ | refine blk_drew ?_ | refine blk_alloc ?_ _)); exact BK101.out⟩, ⟨by (with_reducible repeat (first | refine blk_drewN ?_ _ | refine blk_drew ?_ | refine blk_alloc ?_ _)); exact BK103.out⟩, ⟨by repeat (first | (with_reducible first | exact HB.out | apply below_alloc | apply pw_below_drewN | apply below_drew1 | refine below_set ?_ GE101.out | refine below_set ?_ GE103.out) | exact HB.out)⟩⟩
          ·rw [if_neg c22] at H
           have c22b0 : decide (((rd_T29 l0_2 x14_1).f4) < (IntKind.u64.wrap (a1 - ((rd_T29 l0_2 x14_1).f3)))) = false := decide_eq_false c22
           clear c22
           (first | rw [c22b0] | (simp only [i64_w, i32_w]; rw [c22b0]) | skip)
           have H' := Aside0.mk H
           clear H
           have hnb25 := NB103_101.out
           have hnc25 := NB101_103.out
           have hcz26_0 : wc.cell? ⟨gb103, 0, none⟩ = some (.int .u32 ((rd_T29 l0_2 x14_1).f0)) := (blk_cell BK103.out 0).trans rfl
           have hcz26_1 : wc.cell? ⟨gb103, 1, none⟩ = some (.int .u32 ((rd_T29 l0_2 x14_1).f1)) := (blk_cell BK103.out 1).trans rfl
           have hcz26_2 : wc.cell? ⟨gb103, 2, none⟩ = some (.int .u64 ((rd_T29 l0_2 x14_1).f2)) := (blk_cell BK103.out 2).trans rfl
           have hcz26_3 : wc.cell? ⟨gb103, 3, none⟩ = some (.int .u64 ((rd_T29 l0_2 x14_1).f3)) := (blk_cell BK103.out 3).trans rfl
           have hcz26_4 : wc.cell? ⟨gb103, 4, none⟩ = some (.int .u64 ((rd_T29 l0_2 x14_1).f4)) := (blk_cell BK103.out 4).trans rfl
           have hcz26_5 : wc.cell? ⟨gb103, 5, none⟩ = some (.int .u64 ((rd_T29 l0_2 x14_1).f5)) := (blk_cell BK103.out 5).trans rfl
           have hcz26_6 : wc.cell? ⟨gb103, 6, none⟩ = some (.int .u64 ((rd_T29 l0_2 x14_1).f6)) := (blk_cell BK103.out 6).trans rfl
           have hfz26_0 := blk_frozen BK103.out 0
           have hfz26_1 := blk_frozen BK103.out 1
           have hfz26_2 := blk_frozen BK103.out 2
           have hfz26_3 := blk_frozen BK103.out 3
           have hfz26_4 := blk_frozen BK103.out 4
           have hfz26_5 := blk_frozen BK103.out 5
           have hfz26_6 := blk_frozen BK103.out 6
           go_wp2
           go_meet
           case rel => exact ⟨_, (decide (a2 > (IntKind.u64.wrap (((rd_T29 l0_2 x14_1).f4) - (IntKind.u64.wrap (a1 - ((rd_T29 l0_2 x14_1).f3))))))), (by first | rfl | (simp; done) | (simp [*]; done)), H', ⟨by have := HK1.out; have := HJ8.out; first | omega | exact Nat.le_refl _⟩, ⟨by (with_reducible repeat (first | refine blk_drewN ?_ _ | refine blk_drew ?_ | refine blk_alloc ?_ _)); exact BK101.out⟩, ⟨by (with_reducible repeat (first | refine blk_drewN ?_ _ | refine blk_drew ?_ | refine blk_alloc ?_ _)); exact BK103.out⟩, ⟨by repeat (first | (with_reducible first | exact HB.out | apply below_alloc | apply pw_below_drewN | apply below_drew1 | refine below_set ?_ GE101.out | refine below_set ?_ GE103.out) | exact HB.out)⟩⟩
         case rest =>
          clear HC19
          try clear c1
          try clear p1
          try clear q1
          try clear hx1
          try clear c2
          try clear p2
          try clear c5
          try clear c6
          try clear c6b0
          try clear p6
          try clear c7
          try clear c7b0
          try clear c8
          try clear c8b0
          try clear p10
          try clear q10
          try clear hx10
          try clear c11
          try clear c13
          try clear c13b0
          try clear c13b1
          try clear c14
          try clear c16
          try clear c18
          try clear c20
          try clear c22
          try clear c22b0
          try clear c23
          try clear c25
          try clear hcz12_0
          try clear hcz12_1
          try clear hcz12_2
          try clear hcz12_3
          try clear hcz12_4
          try clear hcz12_5
          try clear hcz12_6
          try clear hcz15_0
          try clear hcz15_1
          try clear hcz15_2
          try clear hcz15_3
          try clear hcz15_4
          try clear hcz15_5
          try clear hcz15_6
          try clear hcz17_0
          try clear hcz17_1
          try clear hcz17_2
          try clear hcz17_3
          try clear hcz17_4
          try clear hcz17_5
          try clear hcz17_6
          try clear hcz21_0
          try clear hcz21_1
          try clear hcz21_2
          try clear hcz21_3
          try clear hcz21_4
          try clear hcz21_5
          try clear hcz21_6
          try clear hcz24_0
          try clear hcz24_1
          try clear hcz24_2
          try clear hcz24_3
          try clear hcz24_4
          try clear hcz24_5
          try clear hcz24_6
          try clear hcz26_0
          try clear hcz26_1
          try clear hcz26_2
          try clear hcz26_3
          try clear hcz26_4
          try clear hcz26_5
          try clear hcz26_6
          try clear hcz5_0
          try clear hcz5_1
          try clear hcz5_2
          try clear hfz12_0
          try clear hfz12_1
          try clear hfz12_2
          try clear hfz12_3
          try clear hfz12_4
          try clear hfz12_5
          try clear hfz12_6
          try clear hfz15_0
          try clear hfz15_1
          try clear hfz15_2
          try clear hfz15_3
          try clear hfz15_4
          try clear hfz15_5
          try clear hfz15_6
          try clear hfz17_0
          try clear hfz17_1
          try clear hfz17_2
          try clear hfz17_3
          try clear hfz17_4
          try clear hfz17_5
          try clear hfz17_6
          try clear hfz21_0
          try clear hfz21_1
          try clear hfz21_2
          try clear hfz21_3
          try clear hfz21_4
          try clear hfz21_5
          try clear hfz21_6
          try clear hfz24_0
          try clear hfz24_1
          try clear hfz24_2
          try clear hfz24_3
          try clear hfz24_4
          try clear hfz24_5
          try clear hfz24_6
          try clear hfz26_0
          try clear hfz26_1
          try clear hfz26_2
          try clear hfz26_3
          try clear hfz26_4
          try clear hfz26_5
          try clear hfz26_6
          try clear hfz5_0
          try clear hfz5_1
          try clear hfz5_2
          try clear hx102_0
          try clear hx102_1
          try clear hx102_2
          try clear hx102_3
          try clear hx102_4
          try clear hx102_5
          try clear hx102_6
          try clear p1
          try clear p10
          try clear p102
          try clear p2
          try clear q1
          try clear q10
          try clear q102
          obtain ⟨kq, x42_18, rfl, HA, HJ18, BK101, BK103, HB⟩ := hcut
          cases kq with
          | zero => exact absurd HA.out (by simp [dyn_Offset.j2])
          | succ kj18 =>
           have H := HA.out
           clear HA
           simp only [dyn_Offset.j2] at H
           by_cases c27 : x42_18 = true
           ·subst c27
            have H1 : (dyn_Offset.l0 kj18 a1 a2 l0_2 (l0_2.length : Int) (wrap64 (x14_1 + 1))) = some (r1, r2) := by rw [if_pos rfl] at H; exact H
            clear H
            have H := H1
            clear H1
            have H' := Aside0.mk H
            clear H
            go_wp2
            go_roundg kj18
            case measure => have := HK1.out; have := HJ8.out; have := HJ18.out; omega
            case rel => exact ⟨(wrap64 (x14_1 + 1)), (by first | rfl | (simp; done) | (simp [*]; done)), H', ⟨by have := HK1.out; have := HJ8.out; have := HJ18.out; omega⟩, ⟨by (with_reducible repeat (first | refine blk_drewN ?_ _ | refine blk_drew ?_ | refine blk_alloc ?_ _)); exact BK101.out⟩, ⟨by repeat (first | (with_reducible first | exact HB.out | apply below_alloc | apply pw_below_drewN | apply below_drew1 | refine below_set ?_ GE101.out | refine below_set ?_ GE103.out) | exact HB.out)⟩⟩
           ·replace c27 := Bool.eq_false_iff.mpr c27
            subst c27
            have H1 : (if ((rd_T29 l0_2 x14_1).f2) > (IntKind.u64.wrap (18446744073709551615 - (IntKind.u64.wrap (a1 - ((rd_T29 l0_2 x14_1).f3))))) then (some (0, some 4)) else (some (IntKind.u64.wrap (((rd_T29 l0_2 x14_1).f2) + (IntKind.u64.wrap (a1 - ((rd_T29 l0_2 x14_1).f3)))), none))) = some (r1, r2) := by rw [if_neg (show ¬ (false = true) by decide)] at H; exact H
            clear H
            have H := H1
            clear H1
            by_cases c28 : ((rd_T29 l0_2 x14_1).f2) > (IntKind.u64.wrap (18446744073709551615 - (IntKind.u64.wrap (a1 - ((rd_T29 l0_2 x14_1).f3)))))
            ·rw [if_pos c28] at H
             have c28b0 : decide ((IntKind.u64.wrap (18446744073709551615 - (IntKind.u64.wrap (a1 - ((rd_T29 l0_2 x14_1).f3))))) < ((rd_T29 l0_2 x14_1).f2)) = true := decide_eq_true c28
             clear c28
             simp only [Option.some.injEq, Prod.mk.injEq] at H
             obtain ⟨rfl, rfl⟩ := H
             have hnb29 := NB103_101.out
             have hnc29 := NB101_103.out
             have hcz30_0 : wc.cell? ⟨gb103, 0, none⟩ = some (.int .u32 ((rd_T29 l0_2 x14_1).f0)) := (blk_cell BK103.out 0).trans rfl
             have hcz30_1 : wc.cell? ⟨gb103, 1, none⟩ = some (.int .u32 ((rd_T29 l0_2 x14_1).f1)) := (blk_cell BK103.out 1).trans rfl
             have hcz30_2 : wc.cell? ⟨gb103, 2, none⟩ = some (.int .u64 ((rd_T29 l0_2 x14_1).f2)) := (blk_cell BK103.out 2).trans rfl
             have hcz30_3 : wc.cell? ⟨gb103, 3, none⟩ = some (.int .u64 ((rd_T29 l0_2 x14_1).f3)) := (blk_cell BK103.out 3).trans rfl
             have hcz30_4 : wc.cell? ⟨gb103, 4, none⟩ = some (.int .u64 ((rd_T29 l0_2 x14_1).f4)) := (blk_cell BK103.out 4).trans rfl
             have hcz30_5 : wc.cell? ⟨gb103, 5, none⟩ = some (.int .u64 ((rd_T29 l0_2 x14_1).f5)) := (blk_cell BK103.out 5).trans rfl
             have hcz30_6 : wc.cell? ⟨gb103, 6, none⟩ = some (.int .u64 ((rd_T29 l0_2 x14_1).f6)) := (blk_cell BK103.out 6).trans rfl
             have hfz30_0 := blk_frozen BK103.out 0
             have hfz30_1 := blk_frozen BK103.out 1
             have hfz30_2 := blk_frozen BK103.out 2
             have hfz30_3 := blk_frozen BK103.out 3
             have hfz30_4 := blk_frozen BK103.out 4
             have hfz30_5 := blk_frozen BK103.out 5
             have hfz30_6 := blk_frozen BK103.out 6
             go_wp2
             go_ret2
             exact ⟨by first | rfl | (simp [errW_none, errW_some] <;> rfl) | (simp [*, errW_none, errW_some] <;> rfl), by repeat (first | (with_reducible first | exact HB.out | apply below_alloc | apply pw_below_drewN | apply below_drew1 | refine below_set ?_ GE101.out | refine below_set ?_ GE103.out) | exact HB.out)⟩
            ·rw [if_neg c28] at H
             have c28b0 : decide ((IntKind.u64.wrap (18446744073709551615 - (IntKind.u64.wrap (a1 - ((rd_T29 l0_2 x14_1).f3))))) < ((rd_T29 l0_2 x14_1).f2)) = false := decide_eq_false c28
             clear c28
             simp only [Option.some.injEq, Prod.mk.injEq] at H
             obtain ⟨rfl, rfl⟩ := H
             have hnb31 := NB103_101.out
             have hnc31 := NB101_103.out
             have hcz32_0 : wc.cell? ⟨gb103, 0, none⟩ = some (.int .u32 ((rd_T29 l0_2 x14_1).f0)) := (blk_cell BK103.out 0).trans rfl
             have hcz32_1 : wc.cell? ⟨gb103, 1, none⟩ = some (.int .u32 ((rd_T29 l0_2 x14_1).f1)) := (blk_cell BK103.out 1).trans rfl
             have hcz32_2 : wc.cell? ⟨gb103, 2, none⟩ = some (.int .u64 ((rd_T29 l0_2 x14_1).f2)) := (blk_cell BK103.out 2).trans rfl
             have hcz32_3 : wc.cell? ⟨gb103, 3, none⟩ = some (.int .u64 ((rd_T29 l0_2 x14_1).f3)) := (blk_cell BK103.out 3).trans rfl
             have hcz32_4 : wc.cell? ⟨gb103, 4, none⟩ = some (.int .u64 ((rd_T29 l0_2 x14_1).f4)) := (blk_cell BK103.out 4).trans rfl
             have hcz32_5 : wc.cell? ⟨gb103, 5, none⟩ = some (.int .u64 ((rd_T29 l0_2 x14_1).f5)) := (blk_cell BK103.out 5).trans rfl
             have hcz32_6 : wc.cell? ⟨gb103, 6, none⟩ = some (.int .u64 ((rd_T29 l0_2 x14_1).f6)) := (blk_cell BK103.out 6).trans rfl
             have hfz32_0 := blk_frozen BK103.out 0
             have hfz32_1 := blk_frozen BK103.out 1
             have hfz32_2 := blk_frozen BK103.out 2
             have hfz32_3 := blk_frozen BK103.out 3
             have hfz32_4 := blk_frozen BK103.out 4
             have hfz32_5 := blk_frozen BK103.out 5
             have hfz32_6 := blk_frozen BK103.out 6
             go_wp2
             go_ret2
             exact ⟨by first | rfl | (simp [errW_none, errW_some] <;> rfl) | (simp [*, errW_none, errW_some] <;> rfl), by repeat (first | (with_reducible first | exact HB.out | apply below_alloc | apply pw_below_drewN | apply below_drew1 | refine below_set ?_ GE101.out | refine below_set ?_ GE103.out) | exact HB.out)⟩
     ·rw [if_neg c8] at H
      exact absurd H (by simp)
    ·rw [if_neg c7] at H
     exact absurd H (by simp)
   ·rw [if_neg c6] at H
    have c6b0 : decide (x14_1 < (l0_2.length : Int)) = false := decide_eq_false c6
    clear c6
    simp only [Option.some.injEq, Prod.mk.injEq] at H
    obtain ⟨rfl, rfl⟩ := H
    go_wp2
    go_ret2
    exact ⟨by first | rfl | (simp [errW_none, errW_some] <;> rfl) | (simp [*, errW_none, errW_some] <;> rfl), by repeat (first | (with_reducible first | exact HB.out | apply below_alloc | apply pw_below_drewN | apply below_drew1 | refine below_set ?_ GE101.out) | exact HB.out)⟩
def dyn_cut.f (l0 : List Int) (a1 : Int) (a2 : Int) : Option (List Int × Option Int) := if a1 > (IntKind.u64.wrap ((l0.length : Int))) then (some (([] : List Int), some 4)) else (if a2 > (IntKind.u64.wrap ((IntKind.u64.wrap ((l0.length : Int))) - a1)) then (some (([] : List Int), some 4)) else ((some (([] : List Int) : List Int)).bind fun y104 => (if 0 ≤ a1 then (if a1 ≤ (IntKind.u64.wrap (a1 + a2)) then (if (IntKind.u64.wrap (a1 + a2)) ≤ (l0.length : Int) then (if y104.length + ((l0.take ((IntKind.u64.wrap (a1 + a2)) : Int).toNat).drop (a1 : Int).toNat).length < 140737488355328 then (some ((y104 ++ ((l0.take ((IntKind.u64.wrap (a1 + a2)) : Int).toNat).drop (a1 : Int).toNat)), none)) else (none)) else (none)) else (none)) else (none))))
set_option maxHeartbeats 8000000 in
set_option maxRecDepth 100000 in
theorem dyn_cut.calls (A0 : Option Addr) (c0 : Nat) (l0 : List Int) (a1 : Int) (a2 : Int) (r1 : List Int) (r2 : Option Int) (w : World) (hr0 : Kd.C (Kd.int .u8) w A0 l0.length l0) (hc0 : l0.length ≤ c0) (h : dyn_cut.f l0 a1 a2 = some (r1, r2)) :
  Calls Try.prog 56 #[.slice A0 l0.length c0, .int .u64 a1, .int .u64 a2] w fun e w' => ∃ v0_ : Value, e = .returned (.tuple #[v0_, errW r2]) ∧ Kd.R (Kd.int .u8) 5 w' w.heap.size (fun _ => True) v0_ r1 ∧ Below w.heap.size w w' := by
 have hu41 := Try.underlying41
 have hu97 := Try.underlying97
 have HR0 := Aside0.mk hr0
 have HC0 := Aside0.mk hc0
 clear hr0 hc0
 have HB := Aside0.mk (Below.refl w.heap.size w)
 have H : (if a1 > (IntKind.u64.wrap ((l0.length : Int))) then (some (([] : List Int), some 4)) else (if a2 > (IntKind.u64.wrap ((IntKind.u64.wrap ((l0.length : Int))) - a1)) then (some (([] : List Int), some 4)) else ((some (([] : List Int) : List Int)).bind fun y104 => (if 0 ≤ a1 then (if a1 ≤ (IntKind.u64.wrap (a1 + a2)) then (if (IntKind.u64.wrap (a1 + a2)) ≤ (l0.length : Int) then (if y104.length + ((l0.take ((IntKind.u64.wrap (a1 + a2)) : Int).toNat).drop (a1 : Int).toNat).length < 140737488355328 then (some ((y104 ++ ((l0.take ((IntKind.u64.wrap (a1 + a2)) : Int).toNat).drop (a1 : Int).toNat)), none)) else (none)) else (none)) else (none)) else (none))))) = some (r1, r2) := h
 clear h
 by_cases c4 : a1 > (IntKind.u64.wrap ((l0.length : Int)))
 ·rw [if_pos c4] at H
  have c4b0 : decide ((IntKind.u64.wrap ((l0.length : Int))) < a1) = true := decide_eq_true c4
  clear c4
  simp only [Option.some.injEq, Prod.mk.injEq] at H
  obtain ⟨rfl, rfl⟩ := H
  go_enter Try.func56, Try.ntmps56
  go_wp2
  go_ret2
  exact ⟨_, by first | rfl | (simp [errW_none, errW_some] <;> rfl) | (simp [*, errW_none, errW_some] <;> rfl), by first | exact Kd.R_nil _ _ _ _ _ | exact Kd.N_nil _ _ _ _ _ | exact Kd.V_nil _ _ _ _ _ | exact Kd.Q_nil _ _ _ _ _ | exact Kd.S_nil _ _ _ _ _, by repeat (first | (with_reducible first | exact HB.out | apply below_alloc | apply pw_below_drewN | apply below_drew1) | exact HB.out)⟩
 ·rw [if_neg c4] at H
  have c4b0 : decide ((IntKind.u64.wrap ((l0.length : Int))) < a1) = false := decide_eq_false c4
  clear c4
  by_cases c5 : a2 > (IntKind.u64.wrap ((IntKind.u64.wrap ((l0.length : Int))) - a1))
  ·rw [if_pos c5] at H
   have c5b0 : decide ((IntKind.u64.wrap ((IntKind.u64.wrap ((l0.length : Int))) - a1)) < a2) = true := decide_eq_true c5
   clear c5
   simp only [Option.some.injEq, Prod.mk.injEq] at H
   obtain ⟨rfl, rfl⟩ := H
   go_enter Try.func56, Try.ntmps56
   go_wp2
   go_ret2
   exact ⟨_, by first | rfl | (simp [errW_none, errW_some] <;> rfl) | (simp [*, errW_none, errW_some] <;> rfl), by first | exact Kd.R_nil _ _ _ _ _ | exact Kd.N_nil _ _ _ _ _ | exact Kd.V_nil _ _ _ _ _ | exact Kd.Q_nil _ _ _ _ _ | exact Kd.S_nil _ _ _ _ _, by repeat (first | (with_reducible first | exact HB.out | apply below_alloc | apply pw_below_drewN | apply below_drew1) | exact HB.out)⟩
  ·rw [if_neg c5] at H
   have c5b0 : decide ((IntKind.u64.wrap ((IntKind.u64.wrap ((l0.length : Int))) - a1)) < a2) = false := decide_eq_false c5
   clear c5
   obtain ⟨y104, hy104⟩ : ∃ y_ : List Int, y_ = (([] : List Int)) := ⟨_, rfl⟩
   replace H : (if 0 ≤ a1 then (if a1 ≤ (IntKind.u64.wrap (a1 + a2)) then (if (IntKind.u64.wrap (a1 + a2)) ≤ (l0.length : Int) then (if y104.length + ((l0.take ((IntKind.u64.wrap (a1 + a2)) : Int).toNat).drop (a1 : Int).toNat).length < 140737488355328 then (some ((y104 ++ ((l0.take ((IntKind.u64.wrap (a1 + a2)) : Int).toNat).drop (a1 : Int).toNat)), none)) else (none)) else (none)) else (none)) else (none)) = some (r1, r2) := by first | (rw [hy104]; with_reducible exact H) | (have H2_ := (Option.bind_some _ _).symm.trans H; rw [hy104]; with_reducible exact H2_) | (have H2_ := (Option.bind_some _ _).symm.trans H; with_reducible exact H2_) | with_reducible exact H | (rw [hy104]; exact H) | exact H
   have Ny104 := Aside0.mk hy104
   clear hy104
   by_cases c6 : 0 ≤ a1
   ·rw [if_pos c6] at H
    have c6b0 := eq_true c6
    have c6b1 : decide (0 ≤ a1) = true := decide_eq_true c6
    clear c6
    by_cases c7 : a1 ≤ (IntKind.u64.wrap (a1 + a2))
    ·rw [if_pos c7] at H
     have c7b0 := eq_true c7
     have c7b1 : decide (a1 ≤ (IntKind.u64.wrap (a1 + a2))) = true := decide_eq_true c7
     by_cases c8 : (IntKind.u64.wrap (a1 + a2)) ≤ (l0.length : Int)
     ·rw [if_pos c8] at H
      have c8b0 := eq_true c8
      have c8b1 : decide ((IntKind.u64.wrap (a1 + a2)) ≤ (l0.length : Int)) = true := decide_eq_true c8
      by_cases c9 : y104.length + ((l0.take ((IntKind.u64.wrap (a1 + a2)) : Int).toNat).drop (a1 : Int).toNat).length < 140737488355328
      ·rw [if_pos c9] at H
       have LMc9 := Aside0.mk c9
       clear c9
       obtain ⟨y108, hy108⟩ : ∃ y_ : List Int, y_ = (y104 ++ ((l0.take ((IntKind.u64.wrap (a1 + a2)) : Int).toNat).drop (a1 : Int).toNat)) := ⟨_, rfl⟩
       replace H : (some (y108, none)) = some (r1, r2) := by first | (rw [hy108]; with_reducible exact H) | (have H2_ := (Option.bind_some _ _).symm.trans H; rw [hy108]; with_reducible exact H2_) | (have H2_ := (Option.bind_some _ _).symm.trans H; with_reducible exact H2_) | with_reducible exact H | (rw [hy108]; exact H) | exact H
       have Ny108 := Aside0.mk hy108
       clear hy108
       simp only [Option.some.injEq, Prod.mk.injEq] at H
       obtain ⟨rfl, rfl⟩ := H
       go_enter Try.func56, Try.ntmps56
       go_wp2_with (first | ((with_reducible refine gate_dst (N := 23) rfl ?_); (try (refine gate_guard (by rfl) ?_; dsimp only)); refine Kd.R_lit (Kd.int .u8) _ 5 ?hg (N := 23) ?hd (xs := ([] : List Int)) (inner := []) (ok := fun _ => True) (okp := fun _ => True) ?hr ?hp (fun _ hk => hk) trivial (Below.refl _ _) (Nat.le_refl _) (by simp) ?_; (case hd => rfl); (case hg => rfl); (case hr => first | (go_simp; done) | (go_simp; rfl)); (case hp => exact (Reps.none _ _)); intro v105 w10 ho11 hb hg_ hnew_; clear hg_ hnew_; (first | rw [← Ny104.out] at ho11 | (simp only [Int.reduceToNat] at ho11; rw [← Ny104.out] at ho11)); have n0_ := Aside0.mk (Kd.R_lower ho11 (below_size (by repeat (first | (with_reducible first | exact HB.out | apply below_alloc | apply pw_below_drewN | apply below_drew1) | exact HB.out)))); have n1_ := Aside0.mk (below_step (by repeat (first | (with_reducible first | exact HB.out | apply below_alloc | apply pw_below_drewN | apply below_drew1) | exact HB.out)) hb); clear HB; have HO106 := n0_; have HB := n1_; clear n0_ n1_; clear hb ho11; obtain ⟨i012, hi012, _, hsz12, _⟩ := info_parts info5; obtain ⟨A12, hcut12, hA12, hC12⟩ := print_mid_of (P := Try.prog) (Value.int .u8) 0 24 5 .u64 .u64 Try.underlying24 hi012 hsz12 A0 c0 l0 a1 (IntKind.u64.wrap (a1 + a2)) (of_decide_eq_true (by assumption)) (by first | omega | exact of_decide_eq_true (by assumption)) (of_decide_eq_true (by assumption)) HC0.out; have HR107 := Aside0.mk (Kd.C_of_reads (h1 := fun _ => rfl) (hA12 _ (Kd.reads_of_C HR0.out))); have HC107 := Aside0.mk hC12; clear hA12 hC12 hi012 hsz12) | ((with_reducible refine gate_builtin (b := .append) (xs := #[.tmp 23, .tmp 29]) rfl ?_); (try (refine gate_guard (by rfl) ?_; dsimp only)); at_builtin; refine Kd.R_append_rows (Kd.int .u8) (w0 := w) w.heap.size rfl (.tmp 23) (.tmp 29) 24 5 (.int .u8 0) 1 rfl Try.underlying24 info5 rfl (by decide) (by omega) v105 y104 ((l0.take ((IntKind.u64.wrap (a1 + a2)) : Int).toNat).drop (a1 : Int).toNat) _ _ _ (fun _ => True) (fun _ => False) rfl rfl ?aO ?aR (fun _ _ h => h) (fun _ h => h.elim) ?aF ?aB ?aS ?aL ?_; (case aR => first | (rw [← show ((l0.take ((IntKind.u64.wrap (a1 + a2)) : Int).toNat).drop (a1 : Int).toNat).length = ((IntKind.u64.wrap (a1 + a2)).toNat - a1.toNat) from (by rw [List.length_drop, List.length_take]; have h_ : ((IntKind.u64.wrap (a1 + a2)) : Int) ≤ (l0.length : Int) := of_decide_eq_true (by assumption); omega)]; repeat (first | exact (Kd.C_below HR107.out HB.out) | (with_reducible refine Kd.C_alloc ?_ _) | (with_reducible refine Kd.C_drewN ?_ _) | (with_reducible refine Kd.C_drew ?_))) | (repeat (first | exact (Kd.C_below HR107.out HB.out) | (with_reducible refine Kd.C_alloc ?_ _) | (with_reducible refine Kd.C_drewN ?_ _) | (with_reducible refine Kd.C_drew ?_)))); (case aB => exact (by repeat (first | (with_reducible first | exact HB.out | apply below_alloc | apply pw_below_drewN | apply below_drew1) | exact HB.out))); (case aF => exact (fun _ _ => trivial)); (case aO => exact (by (with_reducible repeat (first | apply Kd.R_alloc | apply Kd.R_drewN | apply Kd.R_drew)); exact HO106.out)); (case aS => exact (below_size (by repeat (first | (with_reducible first | exact HB.out | apply below_alloc | apply pw_below_drewN | apply below_drew1) | exact HB.out)))); (case aL => have := LMc9.out; have hlx_ := (show ((l0.take ((IntKind.u64.wrap (a1 + a2)) : Int).toNat).drop (a1 : Int).toNat).length = ((IntKind.u64.wrap (a1 + a2)).toNat - a1.toNat) from (by rw [List.length_drop, List.length_take]; have h_ : ((IntKind.u64.wrap (a1 + a2)) : Int) ≤ (l0.length : Int) := of_decide_eq_true (by assumption); omega)); omega); intro v109 w13 ho hb hg hat; rw [← Ny108.out] at ho; have n0_ := Aside0.mk (hb); have n1_ := Aside0.mk (ho); clear HB; clear HO106; have HB := n0_; have HO110 := n1_; clear n0_ n1_; clear ho hb hg hat))
       go_ret2
       exact ⟨_, by first | rfl | (simp [errW_none, errW_some] <;> rfl) | (simp [*, errW_none, errW_some] <;> rfl), by (with_reducible repeat (first | apply Kd.R_alloc | apply Kd.R_drewN | apply Kd.R_drew)); exact HO110.out, by repeat (first | (with_reducible first | exact HB.out | apply below_alloc | apply pw_below_drewN | apply below_drew1) | exact HB.out)⟩
      ·rw [if_neg c9] at H
       exact absurd H (by simp)
     ·rw [if_neg c8] at H
      exact absurd H (by simp)
    ·rw [if_neg c7] at H
     exact absurd H (by simp)
   ·rw [if_neg c6] at H
    exact absurd H (by simp)
def dyn_Slice.f (k : Nat) (l0 : List Int) (a1_0 : Int) (a1_1 : Int) (l1_2 : List (S29)) (a2 : Int) (a3 : Int) : Option (List Int × Option Int) := (dyn_Offset.f k a1_0 a1_1 l1_2 a2 a3).bind fun bt112 => (if bt112.2.isNone = true then ((dyn_cut.f l0 bt112.1 a3).bind fun bt115 => (some (bt115.1, bt115.2))) else (some (([] : List Int), some (bt112.2.getD 0))))
theorem dyn_Slice.mono : ∀ a0 a1 a2 a3 a4 a5 k, LeO (dyn_Slice.f k a0 a1 a2 a3 a4 a5) (dyn_Slice.f (k + 1) a0 a1 a2 a3 a4 a5) := by
 intro a0 a1 a2 a3 a4 a5 k
 unfold dyn_Slice.f
 repeat' first
   | (with_reducible exact dyn_Offset.mono _ _ _ _ _ _)
   | (with_reducible exact LeO.refl _)
   | (with_reducible exact LeO.none _)
   | (with_reducible refine LeO.ite ?_ ?_)
   | (with_reducible refine LeO.bind ?_ (fun _ => ?_))
   | exact dyn_Offset.mono _ _ _ _ _ _
   | exact LeO.none _
   | refine LeO.ite ?_ ?_
   | refine LeO.bind ?_ (fun _ => ?_)
set_option maxHeartbeats 8000000 in
set_option maxRecDepth 100000 in
theorem dyn_Slice.calls (k : Nat) (A0 : Option Addr) (c0 : Nat) (l0 : List Int) (a1_0 : Int) (a1_1 : Int) (A1_2 : Option Addr) (c1_2 : Nat) (l1_2 : List (S29)) (a2 : Int) (a3 : Int) (r1 : List Int) (r2 : Option Int) (w : World) (hr0 : Kd.C (Kd.int .u8) w A0 l0.length l0) (hc0 : l0.length ≤ c0) (hr1_2 : Kd.C k29 w A1_2 l1_2.length l1_2) (hc1_2 : l1_2.length ≤ c1_2) (h : dyn_Slice.f k l0 a1_0 a1_1 l1_2 a2 a3 = some (r1, r2)) :
  Calls Try.prog 36 #[.slice A0 l0.length c0, .agg #[.int .i64 a1_0, .int .u64 a1_1, .slice A1_2 l1_2.length c1_2], .int .u64 a2, .int .u64 a3] w fun e w' => ∃ v0_ : Value, e = .returned (.tuple #[v0_, errW r2]) ∧ Kd.V (Kd.int .u8) 5 w' w.heap.size (fun k_ => (w.heap.size ≤ k_)) v0_ r1 ∧ Below w.heap.size w w' := by
 have hu32 := Try.underlying32
 have hu41 := Try.underlying41
 have hu97 := Try.underlying97
 have HR0 := Aside0.mk hr0
 have HC0 := Aside0.mk hc0
 clear hr0 hc0
 have HR1_2 := Aside0.mk hr1_2
 have HC1_2 := Aside0.mk hc1_2
 clear hr1_2 hc1_2
 have HB := Aside0.mk (Below.refl w.heap.size w)
 have H : ((dyn_Offset.f k a1_0 a1_1 l1_2 a2 a3).bind fun bt112 => (if bt112.2.isNone = true then ((dyn_cut.f l0 bt112.1 a3).bind fun bt115 => (some (bt115.1, bt115.2))) else (some (([] : List Int), some (bt112.2.getD 0))))) = some (r1, r2) := h
 clear h
 replace H := Option.bind_eq_some_iff.mp H
 obtain ⟨⟨t112, t113⟩, A50, H⟩ := H
 replace H : (if t113.isNone = true then ((dyn_cut.f l0 t112 a3).bind fun bt115 => (some (bt115.1, bt115.2))) else (some (([] : List Int), some (t113.getD 0)))) = some (r1, r2) := H
 have A5 := Aside0.mk A50
 clear A50
 rcases t113 with _ | q114
 ·have H1 : ((dyn_cut.f l0 t112 a3).bind fun bt115 => (some (bt115.1, bt115.2))) = some (r1, r2) := by rw [if_pos (show (none : Option Int).isNone = true by rfl)] at H; exact H
  clear H
  have H := H1
  clear H1
  try simp only [errW_none, errW_some]
  replace H := Option.bind_eq_some_iff.mp H
  obtain ⟨⟨t115, t116⟩, A60, H⟩ := H
  replace H : (some (t115, t116)) = some (r1, r2) := H
  have A6 := Aside0.mk A60
  clear A60
  simp only [Option.some.injEq, Prod.mk.injEq] at H
  obtain ⟨rfl, rfl⟩ := H
  go_enter Try.func36, Try.ntmps36
  go_wp2_with (first | ((with_reducible refine gate_dst (N := 5) rfl ?_); refine box_event ?hg (N := 5) ?hd (cs := #[.int .i64 a1_0, .int .u64 a1_1, .slice A1_2 l1_2.length c1_2]) (t := 32) ?hr ?_; (case hd => rfl); (case hg => rfl); (case hr => first | (go_simp; done) | (go_simp; rfl)); intro gb111 hg w7 hbox hb; have n0_ := Aside0.mk (below_step (by repeat (first | (with_reducible first | exact HB.out | apply below_alloc | apply pw_below_drewN | apply below_drew1) | exact HB.out)) hb); have n1_ := Aside0.mk (hbox); have n2_ := Aside0.mk ((by rw [hg]; exact (below_size (by repeat (first | (with_reducible first | exact HB.out | apply below_alloc | apply pw_below_drewN | apply below_drew1) | exact HB.out))) : w.heap.size ≤ gb111)); have n3_ := Aside0.mk ((by rw [hg]; exact (below_size (by repeat (first | (with_reducible first | exact HB.out | apply below_alloc | apply pw_below_drewN | apply below_drew1) | exact HB.out))) : w.heap.size ≤ gb111)); clear HB; have HB := n0_; have BK111 := n1_; have GW111 := n2_; have GE111 := n3_; clear n0_ n1_ n2_ n3_; clear hb hbox hg; have hcz8_0 : w7.cell? ⟨gb111, 0, none⟩ = some (.int .i64 a1_0) := (blk_cell BK111.out 0).trans rfl; have hcz8_1 : w7.cell? ⟨gb111, 1, none⟩ = some (.int .u64 a1_1) := (blk_cell BK111.out 1).trans rfl; have hcz8_2 : w7.cell? ⟨gb111, 2, none⟩ = some (.slice A1_2 l1_2.length c1_2) := (blk_cell BK111.out 2).trans rfl; have hfz8_0 := blk_frozen BK111.out 0; have hfz8_1 := blk_frozen BK111.out 1; have hfz8_2 := blk_frozen BK111.out 2) | ((with_reducible refine gate_callee (f := 55) rfl ?_); refine goesL_ (some 16) rfl rfl Try.func55 (by kernel_rfl) rfl #[.agg #[.int .i64 a1_0, .int .u64 a1_1, .slice A1_2 l1_2.length c1_2], .int .u64 a2, .int .u64 a3] rfl (by (try simp only [List.map_toArray, List.map_cons, List.map_nil]); first | done | rfl | (simp only [List.length_drop, List.length_take]; rfl)) ?_; (with_reducible refine (dyn_Offset.calls k a1_0 a1_1 _ _ l1_2 a2 a3 t112 none _ ?side1 ?side2 A5.out).mono ?_); (case side1 => repeat (first | exact (Kd.C_below HR1_2.out HB.out) | (with_reducible refine Kd.C_alloc ?_ _) | (with_reducible refine Kd.C_drewN ?_ _) | (with_reducible refine Kd.C_drew ?_))); (case side2 => exact HC1_2.out); rintro e w9 ⟨rfl, hb⟩; refine ⟨_, rfl, ?_⟩; have n0_ := Aside0.mk (blk_below (g := gb111) (o := .cells #[.int .i64 a1_0, .int .u64 a1_1, .slice A1_2 l1_2.length c1_2] 32 (0, 0)) (by (with_reducible repeat (first | refine blk_drewN ?_ _ | refine blk_drew ?_ | refine blk_alloc ?_ _)); exact BK111.out) hb); have n1_ := Aside0.mk (below_step (by repeat (first | (with_reducible first | exact HB.out | apply below_alloc | apply pw_below_drewN | apply below_drew1 | refine below_set ?_ GE111.out) | exact HB.out)) hb); clear BK111; clear HB; have BK111 := n0_; have HB := n1_; clear n0_ n1_; (try clear hb); (try clear hb2); (try clear hk); (try clear hi); (try simp only [errW_none, errW_some])) | ((with_reducible refine gate_callee (f := 56) rfl ?_); refine goesL_ (some 25) rfl rfl Try.func56 (by kernel_rfl) rfl #[.slice A0 l0.length c0, .int .u64 t112, .int .u64 a3] rfl (by (try simp only [List.map_toArray, List.map_cons, List.map_nil]); first | done | rfl | (simp only [List.length_drop, List.length_take]; rfl)) ?_; (with_reducible refine (dyn_cut.calls _ _ l0 t112 a3 t115 t116 _ ?side1 ?side2 A6.out).mono ?_); (case side1 => repeat (first | exact (Kd.C_below HR0.out HB.out) | (with_reducible refine Kd.C_alloc ?_ _) | (with_reducible refine Kd.C_drewN ?_ _) | (with_reducible refine Kd.C_drew ?_))); (case side2 => exact HC0.out); rintro e w10 ⟨v117, rfl, ho0, hb⟩; refine ⟨_, rfl, ?_⟩; have n0_ := Aside0.mk (Kd.R_lower (Kd.R_newM (M := fun k_ => (w.heap.size ≤ k_)) ho0 (below_size (by repeat (first | (with_reducible first | exact HB.out | apply below_alloc | apply pw_below_drewN | apply below_drew1 | refine below_set ?_ GE111.out) | exact HB.out))) (fun k_ h_ => h_)) (below_size (by repeat (first | (with_reducible first | exact HB.out | apply below_alloc | apply pw_below_drewN | apply below_drew1 | refine below_set ?_ GE111.out) | exact HB.out)))); have n1_ := Aside0.mk (blk_below (g := gb111) (o := .cells #[.int .i64 a1_0, .int .u64 a1_1, .slice A1_2 l1_2.length c1_2] 32 (0, 0)) (by (with_reducible repeat (first | refine blk_drewN ?_ _ | refine blk_drew ?_ | refine blk_alloc ?_ _)); exact BK111.out) hb); have n2_ := Aside0.mk (below_step (by repeat (first | (with_reducible first | exact HB.out | apply below_alloc | apply pw_below_drewN | apply below_drew1 | refine below_set ?_ GE111.out) | exact HB.out)) hb); clear BK111; clear HB; have HO118 := n0_; have BK111 := n1_; have HB := n2_; clear n0_ n1_ n2_; (try clear hb); (try clear hb2); (try clear hk); (try clear hi); (try clear ho0); (try simp only [errW_none, errW_some])))
  go_ret2
  exact ⟨_, by first | rfl | (simp [errW_none, errW_some] <;> rfl) | (simp [*, errW_none, errW_some] <;> rfl), Kd.R_V (by (with_reducible repeat (first | apply Kd.R_alloc | apply Kd.R_drewN | apply Kd.R_drew)); exact Kd.R_mono HO118.out (fun _ hk => hk.1)), by repeat (first | (with_reducible first | exact HB.out | apply below_alloc | apply pw_below_drewN | apply below_drew1 | refine below_set ?_ GE111.out) | exact HB.out)⟩
 ·have H1 : (some (([] : List Int), some q114)) = some (r1, r2) := by rw [if_neg (show ¬ (some q114).isNone = true by simp)] at H; exact H
  clear H
  have H := H1
  clear H1
  try simp only [errW_none, errW_some]
  simp only [Option.some.injEq, Prod.mk.injEq] at H
  obtain ⟨rfl, rfl⟩ := H
  go_enter Try.func36, Try.ntmps36
  go_wp2_with (first | ((with_reducible refine gate_dst (N := 5) rfl ?_); refine box_event ?hg (N := 5) ?hd (cs := #[.int .i64 a1_0, .int .u64 a1_1, .slice A1_2 l1_2.length c1_2]) (t := 32) ?hr ?_; (case hd => rfl); (case hg => rfl); (case hr => first | (go_simp; done) | (go_simp; rfl)); intro gb111 hg w11 hbox hb; have n0_ := Aside0.mk (below_step (by repeat (first | (with_reducible first | exact HB.out | apply below_alloc | apply pw_below_drewN | apply below_drew1) | exact HB.out)) hb); have n1_ := Aside0.mk (hbox); have n2_ := Aside0.mk ((by rw [hg]; exact (below_size (by repeat (first | (with_reducible first | exact HB.out | apply below_alloc | apply pw_below_drewN | apply below_drew1) | exact HB.out))) : w.heap.size ≤ gb111)); have n3_ := Aside0.mk ((by rw [hg]; exact (below_size (by repeat (first | (with_reducible first | exact HB.out | apply below_alloc | apply pw_below_drewN | apply below_drew1) | exact HB.out))) : w.heap.size ≤ gb111)); clear HB; have HB := n0_; have BK111 := n1_; have GW111 := n2_; have GE111 := n3_; clear n0_ n1_ n2_ n3_; clear hb hbox hg; have hcz12_0 : w11.cell? ⟨gb111, 0, none⟩ = some (.int .i64 a1_0) := (blk_cell BK111.out 0).trans rfl; have hcz12_1 : w11.cell? ⟨gb111, 1, none⟩ = some (.int .u64 a1_1) := (blk_cell BK111.out 1).trans rfl; have hcz12_2 : w11.cell? ⟨gb111, 2, none⟩ = some (.slice A1_2 l1_2.length c1_2) := (blk_cell BK111.out 2).trans rfl; have hfz12_0 := blk_frozen BK111.out 0; have hfz12_1 := blk_frozen BK111.out 1; have hfz12_2 := blk_frozen BK111.out 2) | ((with_reducible refine gate_callee (f := 55) rfl ?_); refine goesL_ (some 16) rfl rfl Try.func55 (by kernel_rfl) rfl #[.agg #[.int .i64 a1_0, .int .u64 a1_1, .slice A1_2 l1_2.length c1_2], .int .u64 a2, .int .u64 a3] rfl (by (try simp only [List.map_toArray, List.map_cons, List.map_nil]); first | done | rfl | (simp only [List.length_drop, List.length_take]; rfl)) ?_; (with_reducible refine (dyn_Offset.calls k a1_0 a1_1 _ _ l1_2 a2 a3 t112 (some q114) _ ?side1 ?side2 A5.out).mono ?_); (case side1 => repeat (first | exact (Kd.C_below HR1_2.out HB.out) | (with_reducible refine Kd.C_alloc ?_ _) | (with_reducible refine Kd.C_drewN ?_ _) | (with_reducible refine Kd.C_drew ?_))); (case side2 => exact HC1_2.out); rintro e w13 ⟨rfl, hb⟩; refine ⟨_, rfl, ?_⟩; have n0_ := Aside0.mk (blk_below (g := gb111) (o := .cells #[.int .i64 a1_0, .int .u64 a1_1, .slice A1_2 l1_2.length c1_2] 32 (0, 0)) (by (with_reducible repeat (first | refine blk_drewN ?_ _ | refine blk_drew ?_ | refine blk_alloc ?_ _)); exact BK111.out) hb); have n1_ := Aside0.mk (below_step (by repeat (first | (with_reducible first | exact HB.out | apply below_alloc | apply pw_below_drewN | apply below_drew1 | refine below_set ?_ GE111.out) | exact HB.out)) hb); clear BK111; clear HB; have BK111 := n0_; have HB := n1_; clear n0_ n1_; (try clear hb); (try clear hb2); (try clear hk); (try clear hi); (try simp only [errW_none, errW_some])))
  go_ret2
  exact ⟨_, by first | rfl | (simp [errW_none, errW_some] <;> rfl) | (simp [*, errW_none, errW_some] <;> rfl), Kd.V_nil _ _ _ _ _, by repeat (first | (with_reducible first | exact HB.out | apply below_alloc | apply pw_below_drewN | apply below_drew1 | refine below_set ?_ GE111.out) | exact HB.out)⟩
def syms_Strings.f (k : Nat) (l0 : List Int) (a1_0 : Int) (a1_1 : Int) (l1_2 : List (S29)) (l2_0 : List Int) (a2_1 : Int) (a2_2 : Int) (a2_3 : Int) (a2_4 : Int) (a2_5 : Int) (a2_6 : Int) (a2_7 : Int) (a2_8 : Int) (a2_9 : Int) (a2_10 : Int) (a2_11 : Int) (a2_12 : Int) (a2_13 : Int) (a2_14 : Bool) (a2_15 : Bool) (a2_16 : Bool) (a2_17 : Int) (a2_18 : Int) (a2_19 : Int) (a2_20 : Int) (a2_21 : Int) (a2_22 : Int) (a2_23 : Int) (a2_24 : Int) (a2_25 : Int) (a2_26 : Int) (a2_27 : Int) (a2_28 : Int) (a2_29 : Int) (a2_30 : Int) (a2_31 : Int) (a2_32 : Bool) (a2_33 : Bool) (a2_34 : Bool) (a2_35 : Bool) (a2_36 : Bool) : Option (List Int × Option Int) := if a2_8 > 1048576 then (some (([] : List Int), some 2)) else ((dyn_Slice.f k l0 a1_0 a1_1 l1_2 a2_4 a2_8).bind fun bt121 => (if bt121.2.isNone = true then (if (bt121.1.length : Int) = 0 then (some (([] : List Int), some 3)) else (if 0 < (bt121.1.length : Int) then (if (rd bt121.1 0) = 0 then (if 0 ≤ (wrap64 ((bt121.1.length : Int) - 1)) then (if (wrap64 ((bt121.1.length : Int) - 1)) < (bt121.1.length : Int) then (if (rd bt121.1 (wrap64 ((bt121.1.length : Int) - 1))) = 0 then (some (bt121.1, none)) else (some (([] : List Int), some 3))) else (none)) else (none)) else (some (([] : List Int), some 3))) else (none))) else (some (([] : List Int), some (bt121.2.getD 0)))))
theorem syms_Strings.mono : ∀ a0 a1 a2 a3 a4 a5 a6 a7 a8 a9 a10 a11 a12 a13 a14 a15 a16 a17 a18 a19 a20 a21 a22 a23 a24 a25 a26 a27 a28 a29 a30 a31 a32 a33 a34 a35 a36 a37 a38 a39 a40 k, LeO (syms_Strings.f k a0 a1 a2 a3 a4 a5 a6 a7 a8 a9 a10 a11 a12 a13 a14 a15 a16 a17 a18 a19 a20 a21 a22 a23 a24 a25 a26 a27 a28 a29 a30 a31 a32 a33 a34 a35 a36 a37 a38 a39 a40) (syms_Strings.f (k + 1) a0 a1 a2 a3 a4 a5 a6 a7 a8 a9 a10 a11 a12 a13 a14 a15 a16 a17 a18 a19 a20 a21 a22 a23 a24 a25 a26 a27 a28 a29 a30 a31 a32 a33 a34 a35 a36 a37 a38 a39 a40) := by
 intro a0 a1 a2 a3 a4 a5 a6 a7 a8 a9 a10 a11 a12 a13 a14 a15 a16 a17 a18 a19 a20 a21 a22 a23 a24 a25 a26 a27 a28 a29 a30 a31 a32 a33 a34 a35 a36 a37 a38 a39 a40 k
 unfold syms_Strings.f
 repeat' first
   | (with_reducible exact dyn_Slice.mono _ _ _ _ _ _ _)
   | (with_reducible exact LeO.refl _)
   | (with_reducible exact LeO.none _)
   | (with_reducible refine LeO.ite ?_ ?_)
   | (with_reducible refine LeO.bind ?_ (fun _ => ?_))
   | exact dyn_Slice.mono _ _ _ _ _ _ _
   | exact LeO.none _
   | refine LeO.ite ?_ ?_
   | refine LeO.bind ?_ (fun _ => ?_)
set_option maxHeartbeats 8000000 in
set_option maxRecDepth 100000 in
theorem syms_Strings.calls (k : Nat) (A0 : Option Addr) (c0 : Nat) (l0 : List Int) (a1_0 : Int) (a1_1 : Int) (A1_2 : Option Addr) (c1_2 : Nat) (l1_2 : List (S29)) (A2_0 : Option Addr) (c2_0 : Nat) (l2_0 : List Int) (a2_1 : Int) (a2_2 : Int) (a2_3 : Int) (a2_4 : Int) (a2_5 : Int) (a2_6 : Int) (a2_7 : Int) (a2_8 : Int) (a2_9 : Int) (a2_10 : Int) (a2_11 : Int) (a2_12 : Int) (a2_13 : Int) (a2_14 : Bool) (a2_15 : Bool) (a2_16 : Bool) (a2_17 : Int) (a2_18 : Int) (a2_19 : Int) (a2_20 : Int) (a2_21 : Int) (a2_22 : Int) (a2_23 : Int) (a2_24 : Int) (a2_25 : Int) (a2_26 : Int) (a2_27 : Int) (a2_28 : Int) (a2_29 : Int) (a2_30 : Int) (a2_31 : Int) (a2_32 : Bool) (a2_33 : Bool) (a2_34 : Bool) (a2_35 : Bool) (a2_36 : Bool) (r1 : List Int) (r2 : Option Int) (w : World) (hr0 : Kd.C (Kd.int .u8) w A0 l0.length l0) (hc0 : l0.length ≤ c0) (hr1_2 : Kd.C k29 w A1_2 l1_2.length l1_2) (hc1_2 : l1_2.length ≤ c1_2) (hr2_0 : Kd.C (Kd.int .u64) w A2_0 l2_0.length l2_0) (hc2_0 : l2_0.length ≤ c2_0) (h : syms_Strings.f k l0 a1_0 a1_1 l1_2 l2_0 a2_1 a2_2 a2_3 a2_4 a2_5 a2_6 a2_7 a2_8 a2_9 a2_10 a2_11 a2_12 a2_13 a2_14 a2_15 a2_16 a2_17 a2_18 a2_19 a2_20 a2_21 a2_22 a2_23 a2_24 a2_25 a2_26 a2_27 a2_28 a2_29 a2_30 a2_31 a2_32 a2_33 a2_34 a2_35 a2_36 = some (r1, r2)) :
  Calls Try.prog 35 #[.slice A0 l0.length c0, .agg #[.int .i64 a1_0, .int .u64 a1_1, .slice A1_2 l1_2.length c1_2], .agg #[.slice A2_0 l2_0.length c2_0, .int .u64 a2_1, .int .u64 a2_2, .int .u64 a2_3, .int .u64 a2_4, .int .u64 a2_5, .int .u64 a2_6, .int .u64 a2_7, .int .u64 a2_8, .int .u64 a2_9, .int .u64 a2_10, .int .u64 a2_11, .int .u64 a2_12, .int .u64 a2_13, .bool a2_14, .bool a2_15, .bool a2_16, .int .u64 a2_17, .int .u64 a2_18, .int .u64 a2_19, .int .u64 a2_20, .int .u64 a2_21, .int .u64 a2_22, .int .u64 a2_23, .int .u64 a2_24, .int .u64 a2_25, .int .u64 a2_26, .int .u64 a2_27, .int .u64 a2_28, .int .u64 a2_29, .int .u64 a2_30, .int .u64 a2_31, .bool a2_32, .bool a2_33, .bool a2_34, .bool a2_35, .bool a2_36]] w fun e w' => ∃ v0_ : Value, e = .returned (.tuple #[v0_, errW r2]) ∧ Kd.V (Kd.int .u8) 5 w' w.heap.size (fun k_ => (w.heap.size ≤ k_)) v0_ r1 ∧ Below w.heap.size w w' := by
 have hu32 := Try.underlying32
 have hu35 := Try.underlying35
 have hu41 := Try.underlying41
 have hu97 := Try.underlying97
 have HR0 := Aside0.mk hr0
 have HC0 := Aside0.mk hc0
 clear hr0 hc0
 have HR1_2 := Aside0.mk hr1_2
 have HC1_2 := Aside0.mk hc1_2
 clear hr1_2 hc1_2
 have HR2_0 := Aside0.mk hr2_0
 have HC2_0 := Aside0.mk hc2_0
 clear hr2_0 hc2_0
 have HB := Aside0.mk (Below.refl w.heap.size w)
 have H : (if a2_8 > 1048576 then (some (([] : List Int), some 2)) else ((dyn_Slice.f k l0 a1_0 a1_1 l1_2 a2_4 a2_8).bind fun bt121 => (if bt121.2.isNone = true then (if (bt121.1.length : Int) = 0 then (some (([] : List Int), some 3)) else (if 0 < (bt121.1.length : Int) then (if (rd bt121.1 0) = 0 then (if 0 ≤ (wrap64 ((bt121.1.length : Int) - 1)) then (if (wrap64 ((bt121.1.length : Int) - 1)) < (bt121.1.length : Int) then (if (rd bt121.1 (wrap64 ((bt121.1.length : Int) - 1))) = 0 then (some (bt121.1, none)) else (some (([] : List Int), some 3))) else (none)) else (none)) else (some (([] : List Int), some 3))) else (none))) else (some (([] : List Int), some (bt121.2.getD 0)))))) = some (r1, r2) := h
 clear h
 by_cases c4 : a2_8 > 1048576
 ·rw [if_pos c4] at H
  have c4b0 : decide (1048576 < a2_8) = true := decide_eq_true c4
  clear c4
  simp only [Option.some.injEq, Prod.mk.injEq] at H
  obtain ⟨rfl, rfl⟩ := H
  go_enter Try.func35, Try.ntmps35
  go_wp2_with (first | ((with_reducible refine gate_ (.load 35 (.tmp 5)) rfl ?_); refine wpList_load_row rfl 35 (.tmp 5) rfl gb120 rfl 35 _ (0, 0) _ (by (with_reducible repeat (first | refine blk_drewN ?_ _ | refine blk_drew ?_ | refine blk_alloc ?_ _)); exact BK120.out) Try.underlying35 rfl (by kernel_rfl) ?_) | ((with_reducible refine gate_dst (N := 4) rfl ?_); (try (refine gate_guard (by rfl) ?_; dsimp only)); refine box_event ?hg (N := 4) ?hd (cs := #[.int .i64 a1_0, .int .u64 a1_1, .slice A1_2 l1_2.length c1_2]) (t := 32) ?hr ?_; (case hd => rfl); (case hg => rfl); (case hr => first | (go_simp; done) | (go_simp; rfl)); intro gb119 hg w5 hbox hb; have n0_ := Aside0.mk (below_step (by repeat (first | (with_reducible first | exact HB.out | apply below_alloc | apply pw_below_drewN | apply below_drew1) | exact HB.out)) hb); have n1_ := Aside0.mk (hbox); have n2_ := Aside0.mk ((by rw [hg]; exact (below_size (by repeat (first | (with_reducible first | exact HB.out | apply below_alloc | apply pw_below_drewN | apply below_drew1) | exact HB.out))) : w.heap.size ≤ gb119)); have n3_ := Aside0.mk ((by rw [hg]; exact (below_size (by repeat (first | (with_reducible first | exact HB.out | apply below_alloc | apply pw_below_drewN | apply below_drew1) | exact HB.out))) : w.heap.size ≤ gb119)); clear HB; have HB := n0_; have BK119 := n1_; have GW119 := n2_; have GE119 := n3_; clear n0_ n1_ n2_ n3_; clear hb hbox hg) | ((with_reducible refine gate_dst (N := 5) rfl ?_); (try (refine gate_guard (by rfl) ?_; dsimp only)); refine box_event ?hg (N := 5) ?hd (cs := #[.slice A2_0 l2_0.length c2_0, .int .u64 a2_1, .int .u64 a2_2, .int .u64 a2_3, .int .u64 a2_4, .int .u64 a2_5, .int .u64 a2_6, .int .u64 a2_7, .int .u64 a2_8, .int .u64 a2_9, .int .u64 a2_10, .int .u64 a2_11, .int .u64 a2_12, .int .u64 a2_13, .bool a2_14, .bool a2_15, .bool a2_16, .int .u64 a2_17, .int .u64 a2_18, .int .u64 a2_19, .int .u64 a2_20, .int .u64 a2_21, .int .u64 a2_22, .int .u64 a2_23, .int .u64 a2_24, .int .u64 a2_25, .int .u64 a2_26, .int .u64 a2_27, .int .u64 a2_28, .int .u64 a2_29, .int .u64 a2_30, .int .u64 a2_31, .bool a2_32, .bool a2_33, .bool a2_34, .bool a2_35, .bool a2_36]) (t := 35) ?hr ?_; (case hd => rfl); (case hg => rfl); (case hr => first | (go_simp; done) | (go_simp; rfl)); intro gb120 hg w6 hbox hb; have n0_ := Aside0.mk (blk_below (g := gb119) (o := .cells #[.int .i64 a1_0, .int .u64 a1_1, .slice A1_2 l1_2.length c1_2] 32 (0, 0)) (by (with_reducible repeat (first | refine blk_drewN ?_ _ | refine blk_drew ?_ | refine blk_alloc ?_ _)); exact BK119.out) hb); have n1_ := Aside0.mk (below_step (by repeat (first | (with_reducible first | exact HB.out | apply below_alloc | apply pw_below_drewN | apply below_drew1 | refine below_set ?_ GE119.out) | exact HB.out)) hb); have n2_ := Aside0.mk (hbox); have n3_ := Aside0.mk ((by rw [hg]; exact (below_size (by repeat (first | (with_reducible first | exact HB.out | apply below_alloc | apply pw_below_drewN | apply below_drew1 | refine below_set ?_ GE119.out) | exact HB.out))) : w.heap.size ≤ gb120)); have n4_ := Aside0.mk ((by rw [hg]; exact (below_size (by repeat (first | (with_reducible first | exact HB.out | apply below_alloc | apply pw_below_drewN | apply below_drew1 | refine below_set ?_ GE119.out) | exact HB.out))) : w.heap.size ≤ gb120)); have n5_ := Aside0.mk ((by rw [hg]; exact Nat.ne_of_lt (blk_lt (g := gb119) (o := .cells #[.int .i64 a1_0, .int .u64 a1_1, .slice A1_2 l1_2.length c1_2] 32 (0, 0)) (by (with_reducible repeat (first | refine blk_drewN ?_ _ | refine blk_drew ?_ | refine blk_alloc ?_ _)); exact BK119.out)) : gb119 ≠ gb120)); have n6_ := Aside0.mk ((by rw [hg]; exact Nat.ne_of_gt (blk_lt (g := gb119) (o := .cells #[.int .i64 a1_0, .int .u64 a1_1, .slice A1_2 l1_2.length c1_2] 32 (0, 0)) (by (with_reducible repeat (first | refine blk_drewN ?_ _ | refine blk_drew ?_ | refine blk_alloc ?_ _)); exact BK119.out)) : gb120 ≠ gb119)); clear BK119; clear HB; have BK119 := n0_; have HB := n1_; have BK120 := n2_; have GW120 := n3_; have GE120 := n4_; have NB119_120 := n5_; have NB120_119 := n6_; clear n0_ n1_ n2_ n3_ n4_ n5_ n6_; clear hb hbox hg; have hnb7 := NB120_119.out; have hnc7 := NB119_120.out; have hcz8_0 : w6.cell? ⟨gb120, 0, none⟩ = some (.slice A2_0 l2_0.length c2_0) := (blk_cell BK120.out 0).trans rfl; have hcz8_1 : w6.cell? ⟨gb120, 1, none⟩ = some (.int .u64 a2_1) := (blk_cell BK120.out 1).trans rfl; have hcz8_2 : w6.cell? ⟨gb120, 2, none⟩ = some (.int .u64 a2_2) := (blk_cell BK120.out 2).trans rfl; have hcz8_3 : w6.cell? ⟨gb120, 3, none⟩ = some (.int .u64 a2_3) := (blk_cell BK120.out 3).trans rfl; have hcz8_4 : w6.cell? ⟨gb120, 4, none⟩ = some (.int .u64 a2_4) := (blk_cell BK120.out 4).trans rfl; have hcz8_5 : w6.cell? ⟨gb120, 5, none⟩ = some (.int .u64 a2_5) := (blk_cell BK120.out 5).trans rfl; have hcz8_6 : w6.cell? ⟨gb120, 6, none⟩ = some (.int .u64 a2_6) := (blk_cell BK120.out 6).trans rfl; have hcz8_7 : w6.cell? ⟨gb120, 7, none⟩ = some (.int .u64 a2_7) := (blk_cell BK120.out 7).trans rfl; have hcz8_8 : w6.cell? ⟨gb120, 8, none⟩ = some (.int .u64 a2_8) := (blk_cell BK120.out 8).trans rfl; have hcz8_9 : w6.cell? ⟨gb120, 9, none⟩ = some (.int .u64 a2_9) := (blk_cell BK120.out 9).trans rfl; have hcz8_10 : w6.cell? ⟨gb120, 10, none⟩ = some (.int .u64 a2_10) := (blk_cell BK120.out 10).trans rfl; have hcz8_11 : w6.cell? ⟨gb120, 11, none⟩ = some (.int .u64 a2_11) := (blk_cell BK120.out 11).trans rfl; have hcz8_12 : w6.cell? ⟨gb120, 12, none⟩ = some (.int .u64 a2_12) := (blk_cell BK120.out 12).trans rfl; have hcz8_13 : w6.cell? ⟨gb120, 13, none⟩ = some (.int .u64 a2_13) := (blk_cell BK120.out 13).trans rfl; have hcz8_14 : w6.cell? ⟨gb120, 14, none⟩ = some (.bool a2_14) := (blk_cell BK120.out 14).trans rfl; have hcz8_15 : w6.cell? ⟨gb120, 15, none⟩ = some (.bool a2_15) := (blk_cell BK120.out 15).trans rfl; have hcz8_16 : w6.cell? ⟨gb120, 16, none⟩ = some (.bool a2_16) := (blk_cell BK120.out 16).trans rfl; have hcz8_17 : w6.cell? ⟨gb120, 17, none⟩ = some (.int .u64 a2_17) := (blk_cell BK120.out 17).trans rfl; have hcz8_18 : w6.cell? ⟨gb120, 18, none⟩ = some (.int .u64 a2_18) := (blk_cell BK120.out 18).trans rfl; have hcz8_19 : w6.cell? ⟨gb120, 19, none⟩ = some (.int .u64 a2_19) := (blk_cell BK120.out 19).trans rfl; have hcz8_20 : w6.cell? ⟨gb120, 20, none⟩ = some (.int .u64 a2_20) := (blk_cell BK120.out 20).trans rfl; have hcz8_21 : w6.cell? ⟨gb120, 21, none⟩ = some (.int .u64 a2_21) := (blk_cell BK120.out 21).trans rfl; have hcz8_22 : w6.cell? ⟨gb120, 22, none⟩ = some (.int .u64 a2_22) := (blk_cell BK120.out 22).trans rfl; have hcz8_23 : w6.cell? ⟨gb120, 23, none⟩ = some (.int .u64 a2_23) := (blk_cell BK120.out 23).trans rfl; have hcz8_24 : w6.cell? ⟨gb120, 24, none⟩ = some (.int .u64 a2_24) := (blk_cell BK120.out 24).trans rfl; have hcz8_25 : w6.cell? ⟨gb120, 25, none⟩ = some (.int .u64 a2_25) := (blk_cell BK120.out 25).trans rfl; have hcz8_26 : w6.cell? ⟨gb120, 26, none⟩ = some (.int .u64 a2_26) := (blk_cell BK120.out 26).trans rfl; have hcz8_27 : w6.cell? ⟨gb120, 27, none⟩ = some (.int .u64 a2_27) := (blk_cell BK120.out 27).trans rfl; have hcz8_28 : w6.cell? ⟨gb120, 28, none⟩ = some (.int .u64 a2_28) := (blk_cell BK120.out 28).trans rfl; have hcz8_29 : w6.cell? ⟨gb120, 29, none⟩ = some (.int .u64 a2_29) := (blk_cell BK120.out 29).trans rfl; have hcz8_30 : w6.cell? ⟨gb120, 30, none⟩ = some (.int .u64 a2_30) := (blk_cell BK120.out 30).trans rfl; have hcz8_31 : w6.cell? ⟨gb120, 31, none⟩ = some (.int .u64 a2_31) := (blk_cell BK120.out 31).trans rfl; have hcz8_32 : w6.cell? ⟨gb120, 32, none⟩ = some (.bool a2_32) := (blk_cell BK120.out 32).trans rfl; have hcz8_33 : w6.cell? ⟨gb120, 33, none⟩ = some (.bool a2_33) := (blk_cell BK120.out 33).trans rfl; have hcz8_34 : w6.cell? ⟨gb120, 34, none⟩ = some (.bool a2_34) := (blk_cell BK120.out 34).trans rfl; have hcz8_35 : w6.cell? ⟨gb120, 35, none⟩ = some (.bool a2_35) := (blk_cell BK120.out 35).trans rfl; have hcz8_36 : w6.cell? ⟨gb120, 36, none⟩ = some (.bool a2_36) := (blk_cell BK120.out 36).trans rfl; have hfz8_0 := blk_frozen BK120.out 0; have hfz8_1 := blk_frozen BK120.out 1; have hfz8_2 := blk_frozen BK120.out 2; have hfz8_3 := blk_frozen BK120.out 3; have hfz8_4 := blk_frozen BK120.out 4; have hfz8_5 := blk_frozen BK120.out 5; have hfz8_6 := blk_frozen BK120.out 6; have hfz8_7 := blk_frozen BK120.out 7; have hfz8_8 := blk_frozen BK120.out 8; have hfz8_9 := blk_frozen BK120.out 9; have hfz8_10 := blk_frozen BK120.out 10; have hfz8_11 := blk_frozen BK120.out 11; have hfz8_12 := blk_frozen BK120.out 12; have hfz8_13 := blk_frozen BK120.out 13; have hfz8_14 := blk_frozen BK120.out 14; have hfz8_15 := blk_frozen BK120.out 15; have hfz8_16 := blk_frozen BK120.out 16; have hfz8_17 := blk_frozen BK120.out 17; have hfz8_18 := blk_frozen BK120.out 18; have hfz8_19 := blk_frozen BK120.out 19; have hfz8_20 := blk_frozen BK120.out 20; have hfz8_21 := blk_frozen BK120.out 21; have hfz8_22 := blk_frozen BK120.out 22; have hfz8_23 := blk_frozen BK120.out 23; have hfz8_24 := blk_frozen BK120.out 24; have hfz8_25 := blk_frozen BK120.out 25; have hfz8_26 := blk_frozen BK120.out 26; have hfz8_27 := blk_frozen BK120.out 27; have hfz8_28 := blk_frozen BK120.out 28; have hfz8_29 := blk_frozen BK120.out 29; have hfz8_30 := blk_frozen BK120.out 30; have hfz8_31 := blk_frozen BK120.out 31; have hfz8_32 := blk_frozen BK120.out 32; have hfz8_33 := blk_frozen BK120.out 33; have hfz8_34 := blk_frozen BK120.out 34; have hfz8_35 := blk_frozen BK120.out 35; have hfz8_36 := blk_frozen BK120.out 36))
  go_ret2
  exact ⟨_, by first | rfl | (simp [errW_none, errW_some] <;> rfl) | (simp [*, errW_none, errW_some] <;> rfl), Kd.V_nil _ _ _ _ _, by repeat (first | (with_reducible first | exact HB.out | apply below_alloc | apply pw_below_drewN | apply below_drew1 | refine below_set ?_ GE119.out | refine below_set ?_ GE120.out) | exact HB.out)⟩
 ·rw [if_neg c4] at H
  have c4b0 : decide (1048576 < a2_8) = false := decide_eq_false c4
  clear c4
  replace H := Option.bind_eq_some_iff.mp H
  obtain ⟨⟨t121, t124⟩, A90, H⟩ := H
  replace H : (if t124.isNone = true then (if (t121.length : Int) = 0 then (some (([] : List Int), some 3)) else (if 0 < (t121.length : Int) then (if (rd t121 0) = 0 then (if 0 ≤ (wrap64 ((t121.length : Int) - 1)) then (if (wrap64 ((t121.length : Int) - 1)) < (t121.length : Int) then (if (rd t121 (wrap64 ((t121.length : Int) - 1))) = 0 then (some (t121, none)) else (some (([] : List Int), some 3))) else (none)) else (none)) else (some (([] : List Int), some 3))) else (none))) else (some (([] : List Int), some (t124.getD 0)))) = some (r1, r2) := H
  have A9 := Aside0.mk A90
  clear A90
  rcases t124 with _ | q125
  ·have H1 : (if (t121.length : Int) = 0 then (some (([] : List Int), some 3)) else (if 0 < (t121.length : Int) then (if (rd t121 0) = 0 then (if 0 ≤ (wrap64 ((t121.length : Int) - 1)) then (if (wrap64 ((t121.length : Int) - 1)) < (t121.length : Int) then (if (rd t121 (wrap64 ((t121.length : Int) - 1))) = 0 then (some (t121, none)) else (some (([] : List Int), some 3))) else (none)) else (none)) else (some (([] : List Int), some 3))) else (none))) = some (r1, r2) := by rw [if_pos (show (none : Option Int).isNone = true by rfl)] at H; exact H
   clear H
   have H := H1
   clear H1
   try simp only [errW_none, errW_some]
   by_cases c10 : (t121.length : Int) = 0
   ·rw [if_pos c10] at H
    have c10b0 : ((t121.length : Int) == 0) = true := beq_iff_eq.mpr c10
    have c10b1 : ((t121.length : Int) != 0) = false := bne_eq_false_iff_eq.mpr c10
    clear c10
    simp only [Option.some.injEq, Prod.mk.injEq] at H
    obtain ⟨rfl, rfl⟩ := H
    go_enter Try.func35, Try.ntmps35
    go_wp2_with (first | ((with_reducible refine gate_ (.load 35 (.tmp 5)) rfl ?_); refine wpList_load_row rfl 35 (.tmp 5) rfl gb120 rfl 35 _ (0, 0) _ (by (with_reducible repeat (first | refine blk_drewN ?_ _ | refine blk_drew ?_ | refine blk_alloc ?_ _)); exact BK120.out) Try.underlying35 rfl (by kernel_rfl) ?_) | ((with_reducible refine gate_dst (N := 4) rfl ?_); (try (refine gate_guard (by rfl) ?_; dsimp only)); refine box_event ?hg (N := 4) ?hd (cs := #[.int .i64 a1_0, .int .u64 a1_1, .slice A1_2 l1_2.length c1_2]) (t := 32) ?hr ?_; (case hd => rfl); (case hg => rfl); (case hr => first | (go_simp; done) | (go_simp; rfl)); intro gb119 hg w11 hbox hb; have n0_ := Aside0.mk (below_step (by repeat (first | (with_reducible first | exact HB.out | apply below_alloc | apply pw_below_drewN | apply below_drew1) | exact HB.out)) hb); have n1_ := Aside0.mk (hbox); have n2_ := Aside0.mk ((by rw [hg]; exact (below_size (by repeat (first | (with_reducible first | exact HB.out | apply below_alloc | apply pw_below_drewN | apply below_drew1) | exact HB.out))) : w.heap.size ≤ gb119)); have n3_ := Aside0.mk ((by rw [hg]; exact (below_size (by repeat (first | (with_reducible first | exact HB.out | apply below_alloc | apply pw_below_drewN | apply below_drew1) | exact HB.out))) : w.heap.size ≤ gb119)); clear HB; have HB := n0_; have BK119 := n1_; have GW119 := n2_; have GE119 := n3_; clear n0_ n1_ n2_ n3_; clear hb hbox hg) | ((with_reducible refine gate_dst (N := 5) rfl ?_); (try (refine gate_guard (by rfl) ?_; dsimp only)); refine box_event ?hg (N := 5) ?hd (cs := #[.slice A2_0 l2_0.length c2_0, .int .u64 a2_1, .int .u64 a2_2, .int .u64 a2_3, .int .u64 a2_4, .int .u64 a2_5, .int .u64 a2_6, .int .u64 a2_7, .int .u64 a2_8, .int .u64 a2_9, .int .u64 a2_10, .int .u64 a2_11, .int .u64 a2_12, .int .u64 a2_13, .bool a2_14, .bool a2_15, .bool a2_16, .int .u64 a2_17, .int .u64 a2_18, .int .u64 a2_19, .int .u64 a2_20, .int .u64 a2_21, .int .u64 a2_22, .int .u64 a2_23, .int .u64 a2_24, .int .u64 a2_25, .int .u64 a2_26, .int .u64 a2_27, .int .u64 a2_28, .int .u64 a2_29, .int .u64 a2_30, .int .u64 a2_31, .bool a2_32, .bool a2_33, .bool a2_34, .bool a2_35, .bool a2_36]) (t := 35) ?hr ?_; (case hd => rfl); (case hg => rfl); (case hr => first | (go_simp; done) | (go_simp; rfl)); intro gb120 hg w12 hbox hb; have n0_ := Aside0.mk (blk_below (g := gb119) (o := .cells #[.int .i64 a1_0, .int .u64 a1_1, .slice A1_2 l1_2.length c1_2] 32 (0, 0)) (by (with_reducible repeat (first | refine blk_drewN ?_ _ | refine blk_drew ?_ | refine blk_alloc ?_ _)); exact BK119.out) hb); have n1_ := Aside0.mk (below_step (by repeat (first | (with_reducible first | exact HB.out | apply below_alloc | apply pw_below_drewN | apply below_drew1 | refine below_set ?_ GE119.out) | exact HB.out)) hb); have n2_ := Aside0.mk (hbox); have n3_ := Aside0.mk ((by rw [hg]; exact (below_size (by repeat (first | (with_reducible first | exact HB.out | apply below_alloc | apply pw_below_drewN | apply below_drew1 | refine below_set ?_ GE119.out) | exact HB.out))) : w.heap.size ≤ gb120)); have n4_ := Aside0.mk ((by rw [hg]; exact (below_size (by repeat (first | (with_reducible first | exact HB.out | apply below_alloc | apply pw_below_drewN | apply below_drew1 | refine below_set ?_ GE119.out) | exact HB.out))) : w.heap.size ≤ gb120)); have n5_ := Aside0.mk ((by rw [hg]; exact Nat.ne_of_lt (blk_lt (g := gb119) (o := .cells #[.int .i64 a1_0, .int .u64 a1_1, .slice A1_2 l1_2.length c1_2] 32 (0, 0)) (by (with_reducible repeat (first | refine blk_drewN ?_ _ | refine blk_drew ?_ | refine blk_alloc ?_ _)); exact BK119.out)) : gb119 ≠ gb120)); have n6_ := Aside0.mk ((by rw [hg]; exact Nat.ne_of_gt (blk_lt (g := gb119) (o := .cells #[.int .i64 a1_0, .int .u64 a1_1, .slice A1_2 l1_2.length c1_2] 32 (0, 0)) (by (with_reducible repeat (first | refine blk_drewN ?_ _ | refine blk_drew ?_ | refine blk_alloc ?_ _)); exact BK119.out)) : gb120 ≠ gb119)); clear BK119; clear HB; have BK119 := n0_; have HB := n1_; have BK120 := n2_; have GW120 := n3_; have GE120 := n4_; have NB119_120 := n5_; have NB120_119 := n6_; clear n0_ n1_ n2_ n3_ n4_ n5_ n6_; clear hb hbox hg; have hnb13 := NB120_119.out; have hnc13 := NB119_120.out; have hcz14_0 : w12.cell? ⟨gb120, 0, none⟩ = some (.slice A2_0 l2_0.length c2_0) := (blk_cell BK120.out 0).trans rfl; have hcz14_1 : w12.cell? ⟨gb120, 1, none⟩ = some (.int .u64 a2_1) := (blk_cell BK120.out 1).trans rfl; have hcz14_2 : w12.cell? ⟨gb120, 2, none⟩ = some (.int .u64 a2_2) := (blk_cell BK120.out 2).trans rfl; have hcz14_3 : w12.cell? ⟨gb120, 3, none⟩ = some (.int .u64 a2_3) := (blk_cell BK120.out 3).trans rfl; have hcz14_4 : w12.cell? ⟨gb120, 4, none⟩ = some (.int .u64 a2_4) := (blk_cell BK120.out 4).trans rfl; have hcz14_5 : w12.cell? ⟨gb120, 5, none⟩ = some (.int .u64 a2_5) := (blk_cell BK120.out 5).trans rfl; have hcz14_6 : w12.cell? ⟨gb120, 6, none⟩ = some (.int .u64 a2_6) := (blk_cell BK120.out 6).trans rfl; have hcz14_7 : w12.cell? ⟨gb120, 7, none⟩ = some (.int .u64 a2_7) := (blk_cell BK120.out 7).trans rfl; have hcz14_8 : w12.cell? ⟨gb120, 8, none⟩ = some (.int .u64 a2_8) := (blk_cell BK120.out 8).trans rfl; have hcz14_9 : w12.cell? ⟨gb120, 9, none⟩ = some (.int .u64 a2_9) := (blk_cell BK120.out 9).trans rfl; have hcz14_10 : w12.cell? ⟨gb120, 10, none⟩ = some (.int .u64 a2_10) := (blk_cell BK120.out 10).trans rfl; have hcz14_11 : w12.cell? ⟨gb120, 11, none⟩ = some (.int .u64 a2_11) := (blk_cell BK120.out 11).trans rfl; have hcz14_12 : w12.cell? ⟨gb120, 12, none⟩ = some (.int .u64 a2_12) := (blk_cell BK120.out 12).trans rfl; have hcz14_13 : w12.cell? ⟨gb120, 13, none⟩ = some (.int .u64 a2_13) := (blk_cell BK120.out 13).trans rfl; have hcz14_14 : w12.cell? ⟨gb120, 14, none⟩ = some (.bool a2_14) := (blk_cell BK120.out 14).trans rfl; have hcz14_15 : w12.cell? ⟨gb120, 15, none⟩ = some (.bool a2_15) := (blk_cell BK120.out 15).trans rfl; have hcz14_16 : w12.cell? ⟨gb120, 16, none⟩ = some (.bool a2_16) := (blk_cell BK120.out 16).trans rfl; have hcz14_17 : w12.cell? ⟨gb120, 17, none⟩ = some (.int .u64 a2_17) := (blk_cell BK120.out 17).trans rfl; have hcz14_18 : w12.cell? ⟨gb120, 18, none⟩ = some (.int .u64 a2_18) := (blk_cell BK120.out 18).trans rfl; have hcz14_19 : w12.cell? ⟨gb120, 19, none⟩ = some (.int .u64 a2_19) := (blk_cell BK120.out 19).trans rfl; have hcz14_20 : w12.cell? ⟨gb120, 20, none⟩ = some (.int .u64 a2_20) := (blk_cell BK120.out 20).trans rfl; have hcz14_21 : w12.cell? ⟨gb120, 21, none⟩ = some (.int .u64 a2_21) := (blk_cell BK120.out 21).trans rfl; have hcz14_22 : w12.cell? ⟨gb120, 22, none⟩ = some (.int .u64 a2_22) := (blk_cell BK120.out 22).trans rfl; have hcz14_23 : w12.cell? ⟨gb120, 23, none⟩ = some (.int .u64 a2_23) := (blk_cell BK120.out 23).trans rfl; have hcz14_24 : w12.cell? ⟨gb120, 24, none⟩ = some (.int .u64 a2_24) := (blk_cell BK120.out 24).trans rfl; have hcz14_25 : w12.cell? ⟨gb120, 25, none⟩ = some (.int .u64 a2_25) := (blk_cell BK120.out 25).trans rfl; have hcz14_26 : w12.cell? ⟨gb120, 26, none⟩ = some (.int .u64 a2_26) := (blk_cell BK120.out 26).trans rfl; have hcz14_27 : w12.cell? ⟨gb120, 27, none⟩ = some (.int .u64 a2_27) := (blk_cell BK120.out 27).trans rfl; have hcz14_28 : w12.cell? ⟨gb120, 28, none⟩ = some (.int .u64 a2_28) := (blk_cell BK120.out 28).trans rfl; have hcz14_29 : w12.cell? ⟨gb120, 29, none⟩ = some (.int .u64 a2_29) := (blk_cell BK120.out 29).trans rfl; have hcz14_30 : w12.cell? ⟨gb120, 30, none⟩ = some (.int .u64 a2_30) := (blk_cell BK120.out 30).trans rfl; have hcz14_31 : w12.cell? ⟨gb120, 31, none⟩ = some (.int .u64 a2_31) := (blk_cell BK120.out 31).trans rfl; have hcz14_32 : w12.cell? ⟨gb120, 32, none⟩ = some (.bool a2_32) := (blk_cell BK120.out 32).trans rfl; have hcz14_33 : w12.cell? ⟨gb120, 33, none⟩ = some (.bool a2_33) := (blk_cell BK120.out 33).trans rfl; have hcz14_34 : w12.cell? ⟨gb120, 34, none⟩ = some (.bool a2_34) := (blk_cell BK120.out 34).trans rfl; have hcz14_35 : w12.cell? ⟨gb120, 35, none⟩ = some (.bool a2_35) := (blk_cell BK120.out 35).trans rfl; have hcz14_36 : w12.cell? ⟨gb120, 36, none⟩ = some (.bool a2_36) := (blk_cell BK120.out 36).trans rfl; have hfz14_0 := blk_frozen BK120.out 0; have hfz14_1 := blk_frozen BK120.out 1; have hfz14_2 := blk_frozen BK120.out 2; have hfz14_3 := blk_frozen BK120.out 3; have hfz14_4 := blk_frozen BK120.out 4; have hfz14_5 := blk_frozen BK120.out 5; have hfz14_6 := blk_frozen BK120.out 6; have hfz14_7 := blk_frozen BK120.out 7; have hfz14_8 := blk_frozen BK120.out 8; have hfz14_9 := blk_frozen BK120.out 9; have hfz14_10 := blk_frozen BK120.out 10; have hfz14_11 := blk_frozen BK120.out 11; have hfz14_12 := blk_frozen BK120.out 12; have hfz14_13 := blk_frozen BK120.out 13; have hfz14_14 := blk_frozen BK120.out 14; have hfz14_15 := blk_frozen BK120.out 15; have hfz14_16 := blk_frozen BK120.out 16; have hfz14_17 := blk_frozen BK120.out 17; have hfz14_18 := blk_frozen BK120.out 18; have hfz14_19 := blk_frozen BK120.out 19; have hfz14_20 := blk_frozen BK120.out 20; have hfz14_21 := blk_frozen BK120.out 21; have hfz14_22 := blk_frozen BK120.out 22; have hfz14_23 := blk_frozen BK120.out 23; have hfz14_24 := blk_frozen BK120.out 24; have hfz14_25 := blk_frozen BK120.out 25; have hfz14_26 := blk_frozen BK120.out 26; have hfz14_27 := blk_frozen BK120.out 27; have hfz14_28 := blk_frozen BK120.out 28; have hfz14_29 := blk_frozen BK120.out 29; have hfz14_30 := blk_frozen BK120.out 30; have hfz14_31 := blk_frozen BK120.out 31; have hfz14_32 := blk_frozen BK120.out 32; have hfz14_33 := blk_frozen BK120.out 33; have hfz14_34 := blk_frozen BK120.out 34; have hfz14_35 := blk_frozen BK120.out 35; have hfz14_36 := blk_frozen BK120.out 36; have hcz15_0 : w12.cell? ⟨gb119, 0, none⟩ = some (.int .i64 a1_0) := (blk_cell BK119.out 0).trans rfl; have hcz15_1 : w12.cell? ⟨gb119, 1, none⟩ = some (.int .u64 a1_1) := (blk_cell BK119.out 1).trans rfl; have hcz15_2 : w12.cell? ⟨gb119, 2, none⟩ = some (.slice A1_2 l1_2.length c1_2) := (blk_cell BK119.out 2).trans rfl; have hfz15_0 := blk_frozen BK119.out 0; have hfz15_1 := blk_frozen BK119.out 1; have hfz15_2 := blk_frozen BK119.out 2) | ((with_reducible refine gate_callee (f := 36) rfl ?_); refine goesL_ (some 21) rfl rfl Try.func36 (by kernel_rfl) rfl #[.slice A0 l0.length c0, .agg #[.int .i64 a1_0, .int .u64 a1_1, .slice A1_2 l1_2.length c1_2], .int .u64 a2_4, .int .u64 a2_8] rfl (by (try simp only [List.map_toArray, List.map_cons, List.map_nil]); first | done | rfl | (simp only [List.length_drop, List.length_take]; rfl)) ?_; (with_reducible refine (dyn_Slice.calls k _ _ l0 a1_0 a1_1 _ _ l1_2 a2_4 a2_8 t121 none _ ?side1 ?side2 ?side3 ?side4 A9.out).mono ?_); (case side1 => repeat (first | exact (Kd.C_below HR0.out HB.out) | (with_reducible refine Kd.C_alloc ?_ _) | (with_reducible refine Kd.C_drewN ?_ _) | (with_reducible refine Kd.C_drew ?_))); (case side2 => exact HC0.out); (case side3 => repeat (first | exact (Kd.C_below HR1_2.out HB.out) | (with_reducible refine Kd.C_alloc ?_ _) | (with_reducible refine Kd.C_drewN ?_ _) | (with_reducible refine Kd.C_drew ?_))); (case side4 => exact HC1_2.out); rintro e w16 ⟨v122, rfl, ho0, hb⟩; refine ⟨_, rfl, ?_⟩; have n0_ := Aside0.mk (Kd.V_lower (Kd.V_mono (ok' := fun k_ => (w.heap.size ≤ k_) ∧ k_ ≠ gb119 ∧ k_ ≠ gb120) ho0 (fun k_ hk_ => ⟨(Nat.le_trans (below_size (by repeat (first | (with_reducible first | exact HB.out | apply below_alloc | apply pw_below_drewN | apply below_drew1 | refine below_set ?_ GE119.out | refine below_set ?_ GE120.out) | exact HB.out))) hk_), (Kd.freshB (g := gb119) (o := .cells #[.int .i64 a1_0, .int .u64 a1_1, .slice A1_2 l1_2.length c1_2] 32 (0, 0)) (by (with_reducible repeat (first | refine blk_drewN ?_ _ | refine blk_drew ?_ | refine blk_alloc ?_ _)); exact BK119.out) k_ hk_), (Kd.freshB (g := gb120) (o := .cells #[.slice A2_0 l2_0.length c2_0, .int .u64 a2_1, .int .u64 a2_2, .int .u64 a2_3, .int .u64 a2_4, .int .u64 a2_5, .int .u64 a2_6, .int .u64 a2_7, .int .u64 a2_8, .int .u64 a2_9, .int .u64 a2_10, .int .u64 a2_11, .int .u64 a2_12, .int .u64 a2_13, .bool a2_14, .bool a2_15, .bool a2_16, .int .u64 a2_17, .int .u64 a2_18, .int .u64 a2_19, .int .u64 a2_20, .int .u64 a2_21, .int .u64 a2_22, .int .u64 a2_23, .int .u64 a2_24, .int .u64 a2_25, .int .u64 a2_26, .int .u64 a2_27, .int .u64 a2_28, .int .u64 a2_29, .int .u64 a2_30, .int .u64 a2_31, .bool a2_32, .bool a2_33, .bool a2_34, .bool a2_35, .bool a2_36] 35 (0, 0)) (by (with_reducible repeat (first | refine blk_drewN ?_ _ | refine blk_drew ?_ | refine blk_alloc ?_ _)); exact BK120.out) k_ hk_)⟩)) (below_size (by repeat (first | (with_reducible first | exact HB.out | apply below_alloc | apply pw_below_drewN | apply below_drew1 | refine below_set ?_ GE119.out | refine below_set ?_ GE120.out) | exact HB.out)))); have n1_ := Aside0.mk (blk_below (g := gb119) (o := .cells #[.int .i64 a1_0, .int .u64 a1_1, .slice A1_2 l1_2.length c1_2] 32 (0, 0)) (by (with_reducible repeat (first | refine blk_drewN ?_ _ | refine blk_drew ?_ | refine blk_alloc ?_ _)); exact BK119.out) hb); have n2_ := Aside0.mk (blk_below (g := gb120) (o := .cells #[.slice A2_0 l2_0.length c2_0, .int .u64 a2_1, .int .u64 a2_2, .int .u64 a2_3, .int .u64 a2_4, .int .u64 a2_5, .int .u64 a2_6, .int .u64 a2_7, .int .u64 a2_8, .int .u64 a2_9, .int .u64 a2_10, .int .u64 a2_11, .int .u64 a2_12, .int .u64 a2_13, .bool a2_14, .bool a2_15, .bool a2_16, .int .u64 a2_17, .int .u64 a2_18, .int .u64 a2_19, .int .u64 a2_20, .int .u64 a2_21, .int .u64 a2_22, .int .u64 a2_23, .int .u64 a2_24, .int .u64 a2_25, .int .u64 a2_26, .int .u64 a2_27, .int .u64 a2_28, .int .u64 a2_29, .int .u64 a2_30, .int .u64 a2_31, .bool a2_32, .bool a2_33, .bool a2_34, .bool a2_35, .bool a2_36] 35 (0, 0)) (by (with_reducible repeat (first | refine blk_drewN ?_ _ | refine blk_drew ?_ | refine blk_alloc ?_ _)); exact BK120.out) hb); have n3_ := Aside0.mk (below_step (by repeat (first | (with_reducible first | exact HB.out | apply below_alloc | apply pw_below_drewN | apply below_drew1 | refine below_set ?_ GE119.out | refine below_set ?_ GE120.out) | exact HB.out)) hb); clear BK119; clear BK120; clear HB; have HO123 := n0_; have BK119 := n1_; have BK120 := n2_; have HB := n3_; clear n0_ n1_ n2_ n3_; (try clear hb); (try clear hb2); (try clear hk); (try clear hi); (try clear ho0); (try simp only [errW_none, errW_some]); obtain ⟨Ao17, co17, eo17⟩ := Kd.V_slice HO123.out; subst eo17))
    go_ret2
    exact ⟨_, by first | rfl | (simp [errW_none, errW_some] <;> rfl) | (simp [*, errW_none, errW_some] <;> rfl), Kd.V_nil _ _ _ _ _, by repeat (first | (with_reducible first | exact HB.out | apply below_alloc | apply pw_below_drewN | apply below_drew1 | refine below_set ?_ GE119.out | refine below_set ?_ GE120.out) | exact HB.out)⟩
   ·rw [if_neg c10] at H
    have c10b0 : ((t121.length : Int) == 0) = false := beq_eq_false_iff_ne.mpr c10
    have c10b1 : ((t121.length : Int) != 0) = true := bne_iff_ne.mpr c10
    have c10b2 : ¬ (t121 = []) := fun h_ => c10 (by rw [h_]; rfl)
    by_cases c18 : 0 < (t121.length : Int)
    ·rw [if_pos c18] at H
     have c18b0 : decide (0 < (t121.length : Int)) = true := decide_eq_true c18
     have c18b1 : decide (0 < t121.length) = true := decide_eq_true (by omega)
     clear c18
     by_cases c19 : (rd t121 0) = 0
     ·rw [if_pos c19] at H
      have c19b0 : ((rd t121 0) == 0) = true := beq_iff_eq.mpr c19
      have c19b1 : ((rd t121 0) != 0) = false := bne_eq_false_iff_eq.mpr c19
      clear c19
      obtain ⟨ji20, hji20⟩ : ∃ j_ : Int, (wrap64 ((t121.length : Int) - 1)) = j_ := ⟨_, rfl⟩
      replace H : (if 0 ≤ (ji20) then (if (ji20) < (t121.length : Int) then (if (rd t121 (ji20)) = 0 then (some (t121, none)) else (some (([] : List Int), some 3))) else (none)) else (none)) = some (r1, r2) := by first | (rw [hji20] at H; exact H) | (simp only [hji20] at H ⊢; exact H)
      (try rw [hji20] at A9)
      have hji20w : (IntKind.i64.wrap ((t121.length : Int) - 1)) = ji20 := (i64_w _).trans hji20
      by_cases c21 : 0 ≤ (ji20)
      ·rw [if_pos c21] at H
       have c21b0 : decide (0 ≤ (ji20)) = true := decide_eq_true c21
       clear c21
       by_cases c22 : (ji20) < (t121.length : Int)
       ·rw [if_pos c22] at H
        have c22b0 : decide ((ji20) < (t121.length : Int)) = true := decide_eq_true c22
        clear c22
        by_cases c23 : (rd t121 (ji20)) = 0
        ·rw [if_pos c23] at H
         have c23b0 : ((rd t121 (ji20)) == 0) = true := beq_iff_eq.mpr c23
         have c23b1 : ((rd t121 (ji20)) != 0) = false := bne_eq_false_iff_eq.mpr c23
         clear c23
         simp only [Option.some.injEq, Prod.mk.injEq] at H
         obtain ⟨rfl, rfl⟩ := H
         go_enter Try.func35, Try.ntmps35
         go_wp2_with (first | ((with_reducible refine gate_ (.load 35 (.tmp 5)) rfl ?_); refine wpList_load_row rfl 35 (.tmp 5) rfl gb120 rfl 35 _ (0, 0) _ (by (with_reducible repeat (first | refine blk_drewN ?_ _ | refine blk_drew ?_ | refine blk_alloc ?_ _)); exact BK120.out) Try.underlying35 rfl (by kernel_rfl) ?_) | ((with_reducible refine gate_dst (N := 4) rfl ?_); (try (refine gate_guard (by rfl) ?_; dsimp only)); refine box_event ?hg (N := 4) ?hd (cs := #[.int .i64 a1_0, .int .u64 a1_1, .slice A1_2 l1_2.length c1_2]) (t := 32) ?hr ?_; (case hd => rfl); (case hg => rfl); (case hr => first | (go_simp; done) | (go_simp; rfl)); intro gb119 hg w24 hbox hb; have n0_ := Aside0.mk (below_step (by repeat (first | (with_reducible first | exact HB.out | apply below_alloc | apply pw_below_drewN | apply below_drew1) | exact HB.out)) hb); have n1_ := Aside0.mk (hbox); have n2_ := Aside0.mk ((by rw [hg]; exact (below_size (by repeat (first | (with_reducible first | exact HB.out | apply below_alloc | apply pw_below_drewN | apply below_drew1) | exact HB.out))) : w.heap.size ≤ gb119)); have n3_ := Aside0.mk ((by rw [hg]; exact (below_size (by repeat (first | (with_reducible first | exact HB.out | apply below_alloc | apply pw_below_drewN | apply below_drew1) | exact HB.out))) : w.heap.size ≤ gb119)); clear HB; have HB := n0_; have BK119 := n1_; have GW119 := n2_; have GE119 := n3_; clear n0_ n1_ n2_ n3_; clear hb hbox hg) | ((with_reducible refine gate_dst (N := 5) rfl ?_); (try (refine gate_guard (by rfl) ?_; dsimp only)); refine box_event ?hg (N := 5) ?hd (cs := #[.slice A2_0 l2_0.length c2_0, .int .u64 a2_1, .int .u64 a2_2, .int .u64 a2_3, .int .u64 a2_4, .int .u64 a2_5, .int .u64 a2_6, .int .u64 a2_7, .int .u64 a2_8, .int .u64 a2_9, .int .u64 a2_10, .int .u64 a2_11, .int .u64 a2_12, .int .u64 a2_13, .bool a2_14, .bool a2_15, .bool a2_16, .int .u64 a2_17, .int .u64 a2_18, .int .u64 a2_19, .int .u64 a2_20, .int .u64 a2_21, .int .u64 a2_22, .int .u64 a2_23, .int .u64 a2_24, .int .u64 a2_25, .int .u64 a2_26, .int .u64 a2_27, .int .u64 a2_28, .int .u64 a2_29, .int .u64 a2_30, .int .u64 a2_31, .bool a2_32, .bool a2_33, .bool a2_34, .bool a2_35, .bool a2_36]) (t := 35) ?hr ?_; (case hd => rfl); (case hg => rfl); (case hr => first | (go_simp; done) | (go_simp; rfl)); intro gb120 hg w25 hbox hb; have n0_ := Aside0.mk (blk_below (g := gb119) (o := .cells #[.int .i64 a1_0, .int .u64 a1_1, .slice A1_2 l1_2.length c1_2] 32 (0, 0)) (by (with_reducible repeat (first | refine blk_drewN ?_ _ | refine blk_drew ?_ | refine blk_alloc ?_ _)); exact BK119.out) hb); have n1_ := Aside0.mk (below_step (by repeat (first | (with_reducible first | exact HB.out | apply below_alloc | apply pw_below_drewN | apply below_drew1 | refine below_set ?_ GE119.out) | exact HB.out)) hb); have n2_ := Aside0.mk (hbox); have n3_ := Aside0.mk ((by rw [hg]; exact (below_size (by repeat (first | (with_reducible first | exact HB.out | apply below_alloc | apply pw_below_drewN | apply below_drew1 | refine below_set ?_ GE119.out) | exact HB.out))) : w.heap.size ≤ gb120)); have n4_ := Aside0.mk ((by rw [hg]; exact (below_size (by repeat (first | (with_reducible first | exact HB.out | apply below_alloc | apply pw_below_drewN | apply below_drew1 | refine below_set ?_ GE119.out) | exact HB.out))) : w.heap.size ≤ gb120)); have n5_ := Aside0.mk ((by rw [hg]; exact Nat.ne_of_lt (blk_lt (g := gb119) (o := .cells #[.int .i64 a1_0, .int .u64 a1_1, .slice A1_2 l1_2.length c1_2] 32 (0, 0)) (by (with_reducible repeat (first | refine blk_drewN ?_ _ | refine blk_drew ?_ | refine blk_alloc ?_ _)); exact BK119.out)) : gb119 ≠ gb120)); have n6_ := Aside0.mk ((by rw [hg]; exact Nat.ne_of_gt (blk_lt (g := gb119) (o := .cells #[.int .i64 a1_0, .int .u64 a1_1, .slice A1_2 l1_2.length c1_2] 32 (0, 0)) (by (with_reducible repeat (first | refine blk_drewN ?_ _ | refine blk_drew ?_ | refine blk_alloc ?_ _)); exact BK119.out)) : gb120 ≠ gb119)); clear BK119; clear HB; have BK119 := n0_; have HB := n1_; have BK120 := n2_; have GW120 := n3_; have GE120 := n4_; have NB119_120 := n5_; have NB120_119 := n6_; clear n0_ n1_ n2_ n3_ n4_ n5_ n6_; clear hb hbox hg; have hnb26 := NB120_119.out; have hnc26 := NB119_120.out; have hcz27_0 : w25.cell? ⟨gb120, 0, none⟩ = some (.slice A2_0 l2_0.length c2_0) := (blk_cell BK120.out 0).trans rfl; have hcz27_1 : w25.cell? ⟨gb120, 1, none⟩ = some (.int .u64 a2_1) := (blk_cell BK120.out 1).trans rfl; have hcz27_2 : w25.cell? ⟨gb120, 2, none⟩ = some (.int .u64 a2_2) := (blk_cell BK120.out 2).trans rfl; have hcz27_3 : w25.cell? ⟨gb120, 3, none⟩ = some (.int .u64 a2_3) := (blk_cell BK120.out 3).trans rfl; have hcz27_4 : w25.cell? ⟨gb120, 4, none⟩ = some (.int .u64 a2_4) := (blk_cell BK120.out 4).trans rfl; have hcz27_5 : w25.cell? ⟨gb120, 5, none⟩ = some (.int .u64 a2_5) := (blk_cell BK120.out 5).trans rfl; have hcz27_6 : w25.cell? ⟨gb120, 6, none⟩ = some (.int .u64 a2_6) := (blk_cell BK120.out 6).trans rfl; have hcz27_7 : w25.cell? ⟨gb120, 7, none⟩ = some (.int .u64 a2_7) := (blk_cell BK120.out 7).trans rfl; have hcz27_8 : w25.cell? ⟨gb120, 8, none⟩ = some (.int .u64 a2_8) := (blk_cell BK120.out 8).trans rfl; have hcz27_9 : w25.cell? ⟨gb120, 9, none⟩ = some (.int .u64 a2_9) := (blk_cell BK120.out 9).trans rfl; have hcz27_10 : w25.cell? ⟨gb120, 10, none⟩ = some (.int .u64 a2_10) := (blk_cell BK120.out 10).trans rfl; have hcz27_11 : w25.cell? ⟨gb120, 11, none⟩ = some (.int .u64 a2_11) := (blk_cell BK120.out 11).trans rfl; have hcz27_12 : w25.cell? ⟨gb120, 12, none⟩ = some (.int .u64 a2_12) := (blk_cell BK120.out 12).trans rfl; have hcz27_13 : w25.cell? ⟨gb120, 13, none⟩ = some (.int .u64 a2_13) := (blk_cell BK120.out 13).trans rfl; have hcz27_14 : w25.cell? ⟨gb120, 14, none⟩ = some (.bool a2_14) := (blk_cell BK120.out 14).trans rfl; have hcz27_15 : w25.cell? ⟨gb120, 15, none⟩ = some (.bool a2_15) := (blk_cell BK120.out 15).trans rfl; have hcz27_16 : w25.cell? ⟨gb120, 16, none⟩ = some (.bool a2_16) := (blk_cell BK120.out 16).trans rfl; have hcz27_17 : w25.cell? ⟨gb120, 17, none⟩ = some (.int .u64 a2_17) := (blk_cell BK120.out 17).trans rfl; have hcz27_18 : w25.cell? ⟨gb120, 18, none⟩ = some (.int .u64 a2_18) := (blk_cell BK120.out 18).trans rfl; have hcz27_19 : w25.cell? ⟨gb120, 19, none⟩ = some (.int .u64 a2_19) := (blk_cell BK120.out 19).trans rfl; have hcz27_20 : w25.cell? ⟨gb120, 20, none⟩ = some (.int .u64 a2_20) := (blk_cell BK120.out 20).trans rfl; have hcz27_21 : w25.cell? ⟨gb120, 21, none⟩ = some (.int .u64 a2_21) := (blk_cell BK120.out 21).trans rfl; have hcz27_22 : w25.cell? ⟨gb120, 22, none⟩ = some (.int .u64 a2_22) := (blk_cell BK120.out 22).trans rfl; have hcz27_23 : w25.cell? ⟨gb120, 23, none⟩ = some (.int .u64 a2_23) := (blk_cell BK120.out 23).trans rfl; have hcz27_24 : w25.cell? ⟨gb120, 24, none⟩ = some (.int .u64 a2_24) := (blk_cell BK120.out 24).trans rfl; have hcz27_25 : w25.cell? ⟨gb120, 25, none⟩ = some (.int .u64 a2_25) := (blk_cell BK120.out 25).trans rfl; have hcz27_26 : w25.cell? ⟨gb120, 26, none⟩ = some (.int .u64 a2_26) := (blk_cell BK120.out 26).trans rfl; have hcz27_27 : w25.cell? ⟨gb120, 27, none⟩ = some (.int .u64 a2_27) := (blk_cell BK120.out 27).trans rfl; have hcz27_28 : w25.cell? ⟨gb120, 28, none⟩ = some (.int .u64 a2_28) := (blk_cell BK120.out 28).trans rfl; have hcz27_29 : w25.cell? ⟨gb120, 29, none⟩ = some (.int .u64 a2_29) := (blk_cell BK120.out 29).trans rfl; have hcz27_30 : w25.cell? ⟨gb120, 30, none⟩ = some (.int .u64 a2_30) := (blk_cell BK120.out 30).trans rfl; have hcz27_31 : w25.cell? ⟨gb120, 31, none⟩ = some (.int .u64 a2_31) := (blk_cell BK120.out 31).trans rfl; have hcz27_32 : w25.cell? ⟨gb120, 32, none⟩ = some (.bool a2_32) := (blk_cell BK120.out 32).trans rfl; have hcz27_33 : w25.cell? ⟨gb120, 33, none⟩ = some (.bool a2_33) := (blk_cell BK120.out 33).trans rfl; have hcz27_34 : w25.cell? ⟨gb120, 34, none⟩ = some (.bool a2_34) := (blk_cell BK120.out 34).trans rfl; have hcz27_35 : w25.cell? ⟨gb120, 35, none⟩ = some (.bool a2_35) := (blk_cell BK120.out 35).trans rfl; have hcz27_36 : w25.cell? ⟨gb120, 36, none⟩ = some (.bool a2_36) := (blk_cell BK120.out 36).trans rfl; have hfz27_0 := blk_frozen BK120.out 0; have hfz27_1 := blk_frozen BK120.out 1; have hfz27_2 := blk_frozen BK120.out 2; have hfz27_3 := blk_frozen BK120.out 3; have hfz27_4 := blk_frozen BK120.out 4; have hfz27_5 := blk_frozen BK120.out 5; have hfz27_6 := blk_frozen BK120.out 6; have hfz27_7 := blk_frozen BK120.out 7; have hfz27_8 := blk_frozen BK120.out 8; have hfz27_9 := blk_frozen BK120.out 9; have hfz27_10 := blk_frozen BK120.out 10; have hfz27_11 := blk_frozen BK120.out 11; have hfz27_12 := blk_frozen BK120.out 12; have hfz27_13 := blk_frozen BK120.out 13; have hfz27_14 := blk_frozen BK120.out 14; have hfz27_15 := blk_frozen BK120.out 15; have hfz27_16 := blk_frozen BK120.out 16; have hfz27_17 := blk_frozen BK120.out 17; have hfz27_18 := blk_frozen BK120.out 18; have hfz27_19 := blk_frozen BK120.out 19; have hfz27_20 := blk_frozen BK120.out 20; have hfz27_21 := blk_frozen BK120.out 21; have hfz27_22 := blk_frozen BK120.out 22; have hfz27_23 := blk_frozen BK120.out 23; have hfz27_24 := blk_frozen BK120.out 24; have hfz27_25 := blk_frozen BK120.out 25; have hfz27_26 := blk_frozen BK120.out 26; have hfz27_27 := blk_frozen BK120.out 27; have hfz27_28 := blk_frozen BK120.out 28; have hfz27_29 := blk_frozen BK120.out 29; have hfz27_30 := blk_frozen BK120.out 30; have hfz27_31 := blk_frozen BK120.out 31; have hfz27_32 := blk_frozen BK120.out 32; have hfz27_33 := blk_frozen BK120.out 33; have hfz27_34 := blk_frozen BK120.out 34; have hfz27_35 := blk_frozen BK120.out 35; have hfz27_36 := blk_frozen BK120.out 36; have hcz28_0 : w25.cell? ⟨gb119, 0, none⟩ = some (.int .i64 a1_0) := (blk_cell BK119.out 0).trans rfl; have hcz28_1 : w25.cell? ⟨gb119, 1, none⟩ = some (.int .u64 a1_1) := (blk_cell BK119.out 1).trans rfl; have hcz28_2 : w25.cell? ⟨gb119, 2, none⟩ = some (.slice A1_2 l1_2.length c1_2) := (blk_cell BK119.out 2).trans rfl; have hfz28_0 := blk_frozen BK119.out 0; have hfz28_1 := blk_frozen BK119.out 1; have hfz28_2 := blk_frozen BK119.out 2) | ((with_reducible refine gate_callee (f := 36) rfl ?_); refine goesL_ (some 21) rfl rfl Try.func36 (by kernel_rfl) rfl #[.slice A0 l0.length c0, .agg #[.int .i64 a1_0, .int .u64 a1_1, .slice A1_2 l1_2.length c1_2], .int .u64 a2_4, .int .u64 a2_8] rfl (by (try simp only [List.map_toArray, List.map_cons, List.map_nil]); first | done | rfl | (simp only [List.length_drop, List.length_take]; rfl)) ?_; (with_reducible refine (dyn_Slice.calls k _ _ l0 a1_0 a1_1 _ _ l1_2 a2_4 a2_8 t121 none _ ?side1 ?side2 ?side3 ?side4 A9.out).mono ?_); (case side1 => repeat (first | exact (Kd.C_below HR0.out HB.out) | (with_reducible refine Kd.C_alloc ?_ _) | (with_reducible refine Kd.C_drewN ?_ _) | (with_reducible refine Kd.C_drew ?_))); (case side2 => exact HC0.out); (case side3 => repeat (first | exact (Kd.C_below HR1_2.out HB.out) | (with_reducible refine Kd.C_alloc ?_ _) | (with_reducible refine Kd.C_drewN ?_ _) | (with_reducible refine Kd.C_drew ?_))); (case side4 => exact HC1_2.out); rintro e w29 ⟨v122, rfl, ho0, hb⟩; refine ⟨_, rfl, ?_⟩; have n0_ := Aside0.mk (Kd.V_lower (Kd.V_mono (ok' := fun k_ => (w.heap.size ≤ k_) ∧ k_ ≠ gb119 ∧ k_ ≠ gb120) ho0 (fun k_ hk_ => ⟨(Nat.le_trans (below_size (by repeat (first | (with_reducible first | exact HB.out | apply below_alloc | apply pw_below_drewN | apply below_drew1 | refine below_set ?_ GE119.out | refine below_set ?_ GE120.out) | exact HB.out))) hk_), (Kd.freshB (g := gb119) (o := .cells #[.int .i64 a1_0, .int .u64 a1_1, .slice A1_2 l1_2.length c1_2] 32 (0, 0)) (by (with_reducible repeat (first | refine blk_drewN ?_ _ | refine blk_drew ?_ | refine blk_alloc ?_ _)); exact BK119.out) k_ hk_), (Kd.freshB (g := gb120) (o := .cells #[.slice A2_0 l2_0.length c2_0, .int .u64 a2_1, .int .u64 a2_2, .int .u64 a2_3, .int .u64 a2_4, .int .u64 a2_5, .int .u64 a2_6, .int .u64 a2_7, .int .u64 a2_8, .int .u64 a2_9, .int .u64 a2_10, .int .u64 a2_11, .int .u64 a2_12, .int .u64 a2_13, .bool a2_14, .bool a2_15, .bool a2_16, .int .u64 a2_17, .int .u64 a2_18, .int .u64 a2_19, .int .u64 a2_20, .int .u64 a2_21, .int .u64 a2_22, .int .u64 a2_23, .int .u64 a2_24, .int .u64 a2_25, .int .u64 a2_26, .int .u64 a2_27, .int .u64 a2_28, .int .u64 a2_29, .int .u64 a2_30, .int .u64 a2_31, .bool a2_32, .bool a2_33, .bool a2_34, .bool a2_35, .bool a2_36] 35 (0, 0)) (by (with_reducible repeat (first | refine blk_drewN ?_ _ | refine blk_drew ?_ | refine blk_alloc ?_ _)); exact BK120.out) k_ hk_)⟩)) (below_size (by repeat (first | (with_reducible first | exact HB.out | apply below_alloc | apply pw_below_drewN | apply below_drew1 | refine below_set ?_ GE119.out | refine below_set ?_ GE120.out) | exact HB.out)))); have n1_ := Aside0.mk (blk_below (g := gb119) (o := .cells #[.int .i64 a1_0, .int .u64 a1_1, .slice A1_2 l1_2.length c1_2] 32 (0, 0)) (by (with_reducible repeat (first | refine blk_drewN ?_ _ | refine blk_drew ?_ | refine blk_alloc ?_ _)); exact BK119.out) hb); have n2_ := Aside0.mk (blk_below (g := gb120) (o := .cells #[.slice A2_0 l2_0.length c2_0, .int .u64 a2_1, .int .u64 a2_2, .int .u64 a2_3, .int .u64 a2_4, .int .u64 a2_5, .int .u64 a2_6, .int .u64 a2_7, .int .u64 a2_8, .int .u64 a2_9, .int .u64 a2_10, .int .u64 a2_11, .int .u64 a2_12, .int .u64 a2_13, .bool a2_14, .bool a2_15, .bool a2_16, .int .u64 a2_17, .int .u64 a2_18, .int .u64 a2_19, .int .u64 a2_20, .int .u64 a2_21, .int .u64 a2_22, .int .u64 a2_23, .int .u64 a2_24, .int .u64 a2_25, .int .u64 a2_26, .int .u64 a2_27, .int .u64 a2_28, .int .u64 a2_29, .int .u64 a2_30, .int .u64 a2_31, .bool a2_32, .bool a2_33, .bool a2_34, .bool a2_35, .bool a2_36] 35 (0, 0)) (by (with_reducible repeat (first | refine blk_drewN ?_ _ | refine blk_drew ?_ | refine blk_alloc ?_ _)); exact BK120.out) hb); have n3_ := Aside0.mk (below_step (by repeat (first | (with_reducible first | exact HB.out | apply below_alloc | apply pw_below_drewN | apply below_drew1 | refine below_set ?_ GE119.out | refine below_set ?_ GE120.out) | exact HB.out)) hb); clear BK119; clear BK120; clear HB; have HO123 := n0_; have BK119 := n1_; have BK120 := n2_; have HB := n3_; clear n0_ n1_ n2_ n3_; (try clear hb); (try clear hb2); (try clear hk); (try clear hi); (try clear ho0); (try simp only [errW_none, errW_some]); obtain ⟨Ao30, co30, eo30⟩ := Kd.V_slice HO123.out; subst eo30; have p126 : 0 ≤ (0 : Int) := (by omega); have q126 : 0 < (t121.length : Int) := of_decide_eq_true (by assumption); obtain ⟨ad126, e126, hx126_0⟩ := Kd.at_int (Kd.V_reads' HO123.out).2.2 0 p126 q126; cases e126; have qi126 : (0 < t121.length) = True := eq_true (by omega); (try rw [show ((0 : Int)).toNat = 0 from rfl] at hx126_0); (try rw [Addr.add_zero'] at hx126_0); replace p126 := eq_true p126; replace q126 := eq_true q126; have p127 : 0 ≤ ((ji20) : Int) := of_decide_eq_true (by assumption); have q127 : (ji20) < (t121.length : Int) := of_decide_eq_true (by assumption); obtain ⟨ad127, e127, hx127_0⟩ := Kd.at_int (Kd.V_reads' HO123.out).2.2 (ji20) p127 q127; obtain rfl : ad126 = ad127 := (by injection e127); replace p127 := eq_true p127; replace q127 := eq_true q127))
         go_ret2
         exact ⟨_, by first | rfl | (simp [errW_none, errW_some] <;> rfl) | (simp only [← hji20]; first | rfl | (simp [errW_none, errW_some] <;> rfl)) | (simp [*, errW_none, errW_some] <;> rfl), by (with_reducible repeat (first | apply Kd.V_alloc | apply Kd.V_drewN | apply Kd.V_drew)); exact Kd.V_mono HO123.out (fun _ hk => hk.1), by repeat (first | (with_reducible first | exact HB.out | apply below_alloc | apply pw_below_drewN | apply below_drew1 | refine below_set ?_ GE119.out | refine below_set ?_ GE120.out) | exact HB.out)⟩
        ·rw [if_neg c23] at H
         have c23b0 : ((rd t121 (ji20)) == 0) = false := beq_eq_false_iff_ne.mpr c23
         have c23b1 : ((rd t121 (ji20)) != 0) = true := bne_iff_ne.mpr c23
         simp only [Option.some.injEq, Prod.mk.injEq] at H
         obtain ⟨rfl, rfl⟩ := H
         go_enter Try.func35, Try.ntmps35
         go_wp2_with (first | ((with_reducible refine gate_ (.load 35 (.tmp 5)) rfl ?_); refine wpList_load_row rfl 35 (.tmp 5) rfl gb120 rfl 35 _ (0, 0) _ (by (with_reducible repeat (first | refine blk_drewN ?_ _ | refine blk_drew ?_ | refine blk_alloc ?_ _)); exact BK120.out) Try.underlying35 rfl (by kernel_rfl) ?_) | ((with_reducible refine gate_dst (N := 4) rfl ?_); (try (refine gate_guard (by rfl) ?_; dsimp only)); refine box_event ?hg (N := 4) ?hd (cs := #[.int .i64 a1_0, .int .u64 a1_1, .slice A1_2 l1_2.length c1_2]) (t := 32) ?hr ?_; (case hd => rfl); (case hg => rfl); (case hr => first | (go_simp; done) | (go_simp; rfl)); intro gb119 hg w31 hbox hb; have n0_ := Aside0.mk (below_step (by repeat (first | (with_reducible first | exact HB.out | apply below_alloc | apply pw_below_drewN | apply below_drew1) | exact HB.out)) hb); have n1_ := Aside0.mk (hbox); have n2_ := Aside0.mk ((by rw [hg]; exact (below_size (by repeat (first | (with_reducible first | exact HB.out | apply below_alloc | apply pw_below_drewN | apply below_drew1) | exact HB.out))) : w.heap.size ≤ gb119)); have n3_ := Aside0.mk ((by rw [hg]; exact (below_size (by repeat (first | (with_reducible first | exact HB.out | apply below_alloc | apply pw_below_drewN | apply below_drew1) | exact HB.out))) : w.heap.size ≤ gb119)); clear HB; have HB := n0_; have BK119 := n1_; have GW119 := n2_; have GE119 := n3_; clear n0_ n1_ n2_ n3_; clear hb hbox hg) | ((with_reducible refine gate_dst (N := 5) rfl ?_); (try (refine gate_guard (by rfl) ?_; dsimp only)); refine box_event ?hg (N := 5) ?hd (cs := #[.slice A2_0 l2_0.length c2_0, .int .u64 a2_1, .int .u64 a2_2, .int .u64 a2_3, .int .u64 a2_4, .int .u64 a2_5, .int .u64 a2_6, .int .u64 a2_7, .int .u64 a2_8, .int .u64 a2_9, .int .u64 a2_10, .int .u64 a2_11, .int .u64 a2_12, .int .u64 a2_13, .bool a2_14, .bool a2_15, .bool a2_16, .int .u64 a2_17, .int .u64 a2_18, .int .u64 a2_19, .int .u64 a2_20, .int .u64 a2_21, .int .u64 a2_22, .int .u64 a2_23, .int .u64 a2_24, .int .u64 a2_25, .int .u64 a2_26, .int .u64 a2_27, .int .u64 a2_28, .int .u64 a2_29, .int .u64 a2_30, .int .u64 a2_31, .bool a2_32, .bool a2_33, .bool a2_34, .bool a2_35, .bool a2_36]) (t := 35) ?hr ?_; (case hd => rfl); (case hg => rfl); (case hr => first | (go_simp; done) | (go_simp; rfl)); intro gb120 hg w32 hbox hb; have n0_ := Aside0.mk (blk_below (g := gb119) (o := .cells #[.int .i64 a1_0, .int .u64 a1_1, .slice A1_2 l1_2.length c1_2] 32 (0, 0)) (by (with_reducible repeat (first | refine blk_drewN ?_ _ | refine blk_drew ?_ | refine blk_alloc ?_ _)); exact BK119.out) hb); have n1_ := Aside0.mk (below_step (by repeat (first | (with_reducible first | exact HB.out | apply below_alloc | apply pw_below_drewN | apply below_drew1 | refine below_set ?_ GE119.out) | exact HB.out)) hb); have n2_ := Aside0.mk (hbox); have n3_ := Aside0.mk ((by rw [hg]; exact (below_size (by repeat (first | (with_reducible first | exact HB.out | apply below_alloc | apply pw_below_drewN | apply below_drew1 | refine below_set ?_ GE119.out) | exact HB.out))) : w.heap.size ≤ gb120)); have n4_ := Aside0.mk ((by rw [hg]; exact (below_size (by repeat (first | (with_reducible first | exact HB.out | apply below_alloc | apply pw_below_drewN | apply below_drew1 | refine below_set ?_ GE119.out) | exact HB.out))) : w.heap.size ≤ gb120)); have n5_ := Aside0.mk ((by rw [hg]; exact Nat.ne_of_lt (blk_lt (g := gb119) (o := .cells #[.int .i64 a1_0, .int .u64 a1_1, .slice A1_2 l1_2.length c1_2] 32 (0, 0)) (by (with_reducible repeat (first | refine blk_drewN ?_ _ | refine blk_drew ?_ | refine blk_alloc ?_ _)); exact BK119.out)) : gb119 ≠ gb120)); have n6_ := Aside0.mk ((by rw [hg]; exact Nat.ne_of_gt (blk_lt (g := gb119) (o := .cells #[.int .i64 a1_0, .int .u64 a1_1, .slice A1_2 l1_2.length c1_2] 32 (0, 0)) (by (with_reducible repeat (first | refine blk_drewN ?_ _ | refine blk_drew ?_ | refine blk_alloc ?_ _)); exact BK119.out)) : gb120 ≠ gb119)); clear BK119; clear HB; have BK119 := n0_; have HB := n1_; have BK120 := n2_; have GW120 := n3_; have GE120 := n4_; have NB119_120 := n5_; have NB120_119 := n6_; clear n0_ n1_ n2_ n3_ n4_ n5_ n6_; clear hb hbox hg; have hnb33 := NB120_119.out; have hnc33 := NB119_120.out; have hcz34_0 : w32.cell? ⟨gb120, 0, none⟩ = some (.slice A2_0 l2_0.length c2_0) := (blk_cell BK120.out 0).trans rfl; have hcz34_1 : w32.cell? ⟨gb120, 1, none⟩ = some (.int .u64 a2_1) := (blk_cell BK120.out 1).trans rfl; have hcz34_2 : w32.cell? ⟨gb120, 2, none⟩ = some (.int .u64 a2_2) := (blk_cell BK120.out 2).trans rfl; have hcz34_3 : w32.cell? ⟨gb120, 3, none⟩ = some (.int .u64 a2_3) := (blk_cell BK120.out 3).trans rfl; have hcz34_4 : w32.cell? ⟨gb120, 4, none⟩ = some (.int .u64 a2_4) := (blk_cell BK120.out 4).trans rfl; have hcz34_5 : w32.cell? ⟨gb120, 5, none⟩ = some (.int .u64 a2_5) := (blk_cell BK120.out 5).trans rfl; have hcz34_6 : w32.cell? ⟨gb120, 6, none⟩ = some (.int .u64 a2_6) := (blk_cell BK120.out 6).trans rfl; have hcz34_7 : w32.cell? ⟨gb120, 7, none⟩ = some (.int .u64 a2_7) := (blk_cell BK120.out 7).trans rfl; have hcz34_8 : w32.cell? ⟨gb120, 8, none⟩ = some (.int .u64 a2_8) := (blk_cell BK120.out 8).trans rfl; have hcz34_9 : w32.cell? ⟨gb120, 9, none⟩ = some (.int .u64 a2_9) := (blk_cell BK120.out 9).trans rfl; have hcz34_10 : w32.cell? ⟨gb120, 10, none⟩ = some (.int .u64 a2_10) := (blk_cell BK120.out 10).trans rfl; have hcz34_11 : w32.cell? ⟨gb120, 11, none⟩ = some (.int .u64 a2_11) := (blk_cell BK120.out 11).trans rfl; have hcz34_12 : w32.cell? ⟨gb120, 12, none⟩ = some (.int .u64 a2_12) := (blk_cell BK120.out 12).trans rfl; have hcz34_13 : w32.cell? ⟨gb120, 13, none⟩ = some (.int .u64 a2_13) := (blk_cell BK120.out 13).trans rfl; have hcz34_14 : w32.cell? ⟨gb120, 14, none⟩ = some (.bool a2_14) := (blk_cell BK120.out 14).trans rfl; have hcz34_15 : w32.cell? ⟨gb120, 15, none⟩ = some (.bool a2_15) := (blk_cell BK120.out 15).trans rfl; have hcz34_16 : w32.cell? ⟨gb120, 16, none⟩ = some (.bool a2_16) := (blk_cell BK120.out 16).trans rfl; have hcz34_17 : w32.cell? ⟨gb120, 17, none⟩ = some (.int .u64 a2_17) := (blk_cell BK120.out 17).trans rfl; have hcz34_18 : w32.cell? ⟨gb120, 18, none⟩ = some (.int .u64 a2_18) := (blk_cell BK120.out 18).trans rfl; have hcz34_19 : w32.cell? ⟨gb120, 19, none⟩ = some (.int .u64 a2_19) := (blk_cell BK120.out 19).trans rfl; have hcz34_20 : w32.cell? ⟨gb120, 20, none⟩ = some (.int .u64 a2_20) := (blk_cell BK120.out 20).trans rfl; have hcz34_21 : w32.cell? ⟨gb120, 21, none⟩ = some (.int .u64 a2_21) := (blk_cell BK120.out 21).trans rfl; have hcz34_22 : w32.cell? ⟨gb120, 22, none⟩ = some (.int .u64 a2_22) := (blk_cell BK120.out 22).trans rfl; have hcz34_23 : w32.cell? ⟨gb120, 23, none⟩ = some (.int .u64 a2_23) := (blk_cell BK120.out 23).trans rfl; have hcz34_24 : w32.cell? ⟨gb120, 24, none⟩ = some (.int .u64 a2_24) := (blk_cell BK120.out 24).trans rfl; have hcz34_25 : w32.cell? ⟨gb120, 25, none⟩ = some (.int .u64 a2_25) := (blk_cell BK120.out 25).trans rfl; have hcz34_26 : w32.cell? ⟨gb120, 26, none⟩ = some (.int .u64 a2_26) := (blk_cell BK120.out 26).trans rfl; have hcz34_27 : w32.cell? ⟨gb120, 27, none⟩ = some (.int .u64 a2_27) := (blk_cell BK120.out 27).trans rfl; have hcz34_28 : w32.cell? ⟨gb120, 28, none⟩ = some (.int .u64 a2_28) := (blk_cell BK120.out 28).trans rfl; have hcz34_29 : w32.cell? ⟨gb120, 29, none⟩ = some (.int .u64 a2_29) := (blk_cell BK120.out 29).trans rfl; have hcz34_30 : w32.cell? ⟨gb120, 30, none⟩ = some (.int .u64 a2_30) := (blk_cell BK120.out 30).trans rfl; have hcz34_31 : w32.cell? ⟨gb120, 31, none⟩ = some (.int .u64 a2_31) := (blk_cell BK120.out 31).trans rfl; have hcz34_32 : w32.cell? ⟨gb120, 32, none⟩ = some (.bool a2_32) := (blk_cell BK120.out 32).trans rfl; have hcz34_33 : w32.cell? ⟨gb120, 33, none⟩ = some (.bool a2_33) := (blk_cell BK120.out 33).trans rfl; have hcz34_34 : w32.cell? ⟨gb120, 34, none⟩ = some (.bool a2_34) := (blk_cell BK120.out 34).trans rfl; have hcz34_35 : w32.cell? ⟨gb120, 35, none⟩ = some (.bool a2_35) := (blk_cell BK120.out 35).trans rfl; have hcz34_36 : w32.cell? ⟨gb120, 36, none⟩ = some (.bool a2_36) := (blk_cell BK120.out 36).trans rfl; have hfz34_0 := blk_frozen BK120.out 0; have hfz34_1 := blk_frozen BK120.out 1; have hfz34_2 := blk_frozen BK120.out 2; have hfz34_3 := blk_frozen BK120.out 3; have hfz34_4 := blk_frozen BK120.out 4; have hfz34_5 := blk_frozen BK120.out 5; have hfz34_6 := blk_frozen BK120.out 6; have hfz34_7 := blk_frozen BK120.out 7; have hfz34_8 := blk_frozen BK120.out 8; have hfz34_9 := blk_frozen BK120.out 9; have hfz34_10 := blk_frozen BK120.out 10; have hfz34_11 := blk_frozen BK120.out 11; have hfz34_12 := blk_frozen BK120.out 12; have hfz34_13 := blk_frozen BK120.out 13; have hfz34_14 := blk_frozen BK120.out 14; have hfz34_15 := blk_frozen BK120.out 15; have hfz34_16 := blk_frozen BK120.out 16; have hfz34_17 := blk_frozen BK120.out 17; have hfz34_18 := blk_frozen BK120.out 18; have hfz34_19 := blk_frozen BK120.out 19; have hfz34_20 := blk_frozen BK120.out 20; have hfz34_21 := blk_frozen BK120.out 21; have hfz34_22 := blk_frozen BK120.out 22; have hfz34_23 := blk_frozen BK120.out 23; have hfz34_24 := blk_frozen BK120.out 24; have hfz34_25 := blk_frozen BK120.out 25; have hfz34_26 := blk_frozen BK120.out 26; have hfz34_27 := blk_frozen BK120.out 27; have hfz34_28 := blk_frozen BK120.out 28; have hfz34_29 := blk_frozen BK120.out 29; have hfz34_30 := blk_frozen BK120.out 30; have hfz34_31 := blk_frozen BK120.out 31; have hfz34_32 := blk_frozen BK120.out 32; have hfz34_33 := blk_frozen BK120.out 33; have hfz34_34 := blk_frozen BK120.out 34; have hfz34_35 := blk_frozen BK120.out 35; have hfz34_36 := blk_frozen BK120.out 36; have hcz35_0 : w32.cell? ⟨gb119, 0, none⟩ = some (.int .i64 a1_0) := (blk_cell BK119.out 0).trans rfl; have hcz35_1 : w32.cell? ⟨gb119, 1, none⟩ = some (.int .u64 a1_1) := (blk_cell BK119.out 1).trans rfl; have hcz35_2 : w32.cell? ⟨gb119, 2, none⟩ = some (.slice A1_2 l1_2.length c1_2) := (blk_cell BK119.out 2).trans rfl; have hfz35_0 := blk_frozen BK119.out 0; have hfz35_1 := blk_frozen BK119.out 1; have hfz35_2 := blk_frozen BK119.out 2) | ((with_reducible refine gate_callee (f := 36) rfl ?_); refine goesL_ (some 21) rfl rfl Try.func36 (by kernel_rfl) rfl #[.slice A0 l0.length c0, .agg #[.int .i64 a1_0, .int .u64 a1_1, .slice A1_2 l1_2.length c1_2], .int .u64 a2_4, .int .u64 a2_8] rfl (by (try simp only [List.map_toArray, List.map_cons, List.map_nil]); first | done | rfl | (simp only [List.length_drop, List.length_take]; rfl)) ?_; (with_reducible refine (dyn_Slice.calls k _ _ l0 a1_0 a1_1 _ _ l1_2 a2_4 a2_8 t121 none _ ?side1 ?side2 ?side3 ?side4 A9.out).mono ?_); (case side1 => repeat (first | exact (Kd.C_below HR0.out HB.out) | (with_reducible refine Kd.C_alloc ?_ _) | (with_reducible refine Kd.C_drewN ?_ _) | (with_reducible refine Kd.C_drew ?_))); (case side2 => exact HC0.out); (case side3 => repeat (first | exact (Kd.C_below HR1_2.out HB.out) | (with_reducible refine Kd.C_alloc ?_ _) | (with_reducible refine Kd.C_drewN ?_ _) | (with_reducible refine Kd.C_drew ?_))); (case side4 => exact HC1_2.out); rintro e w36 ⟨v122, rfl, ho0, hb⟩; refine ⟨_, rfl, ?_⟩; have n0_ := Aside0.mk (Kd.V_lower (Kd.V_mono (ok' := fun k_ => (w.heap.size ≤ k_) ∧ k_ ≠ gb119 ∧ k_ ≠ gb120) ho0 (fun k_ hk_ => ⟨(Nat.le_trans (below_size (by repeat (first | (with_reducible first | exact HB.out | apply below_alloc | apply pw_below_drewN | apply below_drew1 | refine below_set ?_ GE119.out | refine below_set ?_ GE120.out) | exact HB.out))) hk_), (Kd.freshB (g := gb119) (o := .cells #[.int .i64 a1_0, .int .u64 a1_1, .slice A1_2 l1_2.length c1_2] 32 (0, 0)) (by (with_reducible repeat (first | refine blk_drewN ?_ _ | refine blk_drew ?_ | refine blk_alloc ?_ _)); exact BK119.out) k_ hk_), (Kd.freshB (g := gb120) (o := .cells #[.slice A2_0 l2_0.length c2_0, .int .u64 a2_1, .int .u64 a2_2, .int .u64 a2_3, .int .u64 a2_4, .int .u64 a2_5, .int .u64 a2_6, .int .u64 a2_7, .int .u64 a2_8, .int .u64 a2_9, .int .u64 a2_10, .int .u64 a2_11, .int .u64 a2_12, .int .u64 a2_13, .bool a2_14, .bool a2_15, .bool a2_16, .int .u64 a2_17, .int .u64 a2_18, .int .u64 a2_19, .int .u64 a2_20, .int .u64 a2_21, .int .u64 a2_22, .int .u64 a2_23, .int .u64 a2_24, .int .u64 a2_25, .int .u64 a2_26, .int .u64 a2_27, .int .u64 a2_28, .int .u64 a2_29, .int .u64 a2_30, .int .u64 a2_31, .bool a2_32, .bool a2_33, .bool a2_34, .bool a2_35, .bool a2_36] 35 (0, 0)) (by (with_reducible repeat (first | refine blk_drewN ?_ _ | refine blk_drew ?_ | refine blk_alloc ?_ _)); exact BK120.out) k_ hk_)⟩)) (below_size (by repeat (first | (with_reducible first | exact HB.out | apply below_alloc | apply pw_below_drewN | apply below_drew1 | refine below_set ?_ GE119.out | refine below_set ?_ GE120.out) | exact HB.out)))); have n1_ := Aside0.mk (blk_below (g := gb119) (o := .cells #[.int .i64 a1_0, .int .u64 a1_1, .slice A1_2 l1_2.length c1_2] 32 (0, 0)) (by (with_reducible repeat (first | refine blk_drewN ?_ _ | refine blk_drew ?_ | refine blk_alloc ?_ _)); exact BK119.out) hb); have n2_ := Aside0.mk (blk_below (g := gb120) (o := .cells #[.slice A2_0 l2_0.length c2_0, .int .u64 a2_1, .int .u64 a2_2, .int .u64 a2_3, .int .u64 a2_4, .int .u64 a2_5, .int .u64 a2_6, .int .u64 a2_7, .int .u64 a2_8, .int .u64 a2_9, .int .u64 a2_10, .int .u64 a2_11, .int .u64 a2_12, .int .u64 a2_13, .bool a2_14, .bool a2_15, .bool a2_16, .int .u64 a2_17, .int .u64 a2_18, .int .u64 a2_19, .int .u64 a2_20, .int .u64 a2_21, .int .u64 a2_22, .int .u64 a2_23, .int .u64 a2_24, .int .u64 a2_25, .int .u64 a2_26, .int .u64 a2_27, .int .u64 a2_28, .int .u64 a2_29, .int .u64 a2_30, .int .u64 a2_31, .bool a2_32, .bool a2_33, .bool a2_34, .bool a2_35, .bool a2_36] 35 (0, 0)) (by (with_reducible repeat (first | refine blk_drewN ?_ _ | refine blk_drew ?_ | refine blk_alloc ?_ _)); exact BK120.out) hb); have n3_ := Aside0.mk (below_step (by repeat (first | (with_reducible first | exact HB.out | apply below_alloc | apply pw_below_drewN | apply below_drew1 | refine below_set ?_ GE119.out | refine below_set ?_ GE120.out) | exact HB.out)) hb); clear BK119; clear BK120; clear HB; have HO123 := n0_; have BK119 := n1_; have BK120 := n2_; have HB := n3_; clear n0_ n1_ n2_ n3_; (try clear hb); (try clear hb2); (try clear hk); (try clear hi); (try clear ho0); (try simp only [errW_none, errW_some]); obtain ⟨Ao37, co37, eo37⟩ := Kd.V_slice HO123.out; subst eo37; have p126 : 0 ≤ (0 : Int) := (by omega); have q126 : 0 < (t121.length : Int) := of_decide_eq_true (by assumption); obtain ⟨ad126, e126, hx126_0⟩ := Kd.at_int (Kd.V_reads' HO123.out).2.2 0 p126 q126; cases e126; have qi126 : (0 < t121.length) = True := eq_true (by omega); (try rw [show ((0 : Int)).toNat = 0 from rfl] at hx126_0); (try rw [Addr.add_zero'] at hx126_0); replace p126 := eq_true p126; replace q126 := eq_true q126; have p127 : 0 ≤ ((ji20) : Int) := of_decide_eq_true (by assumption); have q127 : (ji20) < (t121.length : Int) := of_decide_eq_true (by assumption); obtain ⟨ad127, e127, hx127_0⟩ := Kd.at_int (Kd.V_reads' HO123.out).2.2 (ji20) p127 q127; obtain rfl : ad126 = ad127 := (by injection e127); replace p127 := eq_true p127; replace q127 := eq_true q127))
         go_ret2
         exact ⟨_, by first | rfl | (simp [errW_none, errW_some] <;> rfl) | (simp only [← hji20]; first | rfl | (simp [errW_none, errW_some] <;> rfl)) | (simp [*, errW_none, errW_some] <;> rfl), Kd.V_nil _ _ _ _ _, by repeat (first | (with_reducible first | exact HB.out | apply below_alloc | apply pw_below_drewN | apply below_drew1 | refine below_set ?_ GE119.out | refine below_set ?_ GE120.out) | exact HB.out)⟩
       ·rw [if_neg c22] at H
        exact absurd H (by simp)
      ·rw [if_neg c21] at H
       exact absurd H (by simp)
     ·rw [if_neg c19] at H
      have c19b0 : ((rd t121 0) == 0) = false := beq_eq_false_iff_ne.mpr c19
      have c19b1 : ((rd t121 0) != 0) = true := bne_iff_ne.mpr c19
      simp only [Option.some.injEq, Prod.mk.injEq] at H
      obtain ⟨rfl, rfl⟩ := H
      go_enter Try.func35, Try.ntmps35
      go_wp2_with (first | ((with_reducible refine gate_ (.load 35 (.tmp 5)) rfl ?_); refine wpList_load_row rfl 35 (.tmp 5) rfl gb120 rfl 35 _ (0, 0) _ (by (with_reducible repeat (first | refine blk_drewN ?_ _ | refine blk_drew ?_ | refine blk_alloc ?_ _)); exact BK120.out) Try.underlying35 rfl (by kernel_rfl) ?_) | ((with_reducible refine gate_dst (N := 4) rfl ?_); (try (refine gate_guard (by rfl) ?_; dsimp only)); refine box_event ?hg (N := 4) ?hd (cs := #[.int .i64 a1_0, .int .u64 a1_1, .slice A1_2 l1_2.length c1_2]) (t := 32) ?hr ?_; (case hd => rfl); (case hg => rfl); (case hr => first | (go_simp; done) | (go_simp; rfl)); intro gb119 hg w38 hbox hb; have n0_ := Aside0.mk (below_step (by repeat (first | (with_reducible first | exact HB.out | apply below_alloc | apply pw_below_drewN | apply below_drew1) | exact HB.out)) hb); have n1_ := Aside0.mk (hbox); have n2_ := Aside0.mk ((by rw [hg]; exact (below_size (by repeat (first | (with_reducible first | exact HB.out | apply below_alloc | apply pw_below_drewN | apply below_drew1) | exact HB.out))) : w.heap.size ≤ gb119)); have n3_ := Aside0.mk ((by rw [hg]; exact (below_size (by repeat (first | (with_reducible first | exact HB.out | apply below_alloc | apply pw_below_drewN | apply below_drew1) | exact HB.out))) : w.heap.size ≤ gb119)); clear HB; have HB := n0_; have BK119 := n1_; have GW119 := n2_; have GE119 := n3_; clear n0_ n1_ n2_ n3_; clear hb hbox hg) | ((with_reducible refine gate_dst (N := 5) rfl ?_); (try (refine gate_guard (by rfl) ?_; dsimp only)); refine box_event ?hg (N := 5) ?hd (cs := #[.slice A2_0 l2_0.length c2_0, .int .u64 a2_1, .int .u64 a2_2, .int .u64 a2_3, .int .u64 a2_4, .int .u64 a2_5, .int .u64 a2_6, .int .u64 a2_7, .int .u64 a2_8, .int .u64 a2_9, .int .u64 a2_10, .int .u64 a2_11, .int .u64 a2_12, .int .u64 a2_13, .bool a2_14, .bool a2_15, .bool a2_16, .int .u64 a2_17, .int .u64 a2_18, .int .u64 a2_19, .int .u64 a2_20, .int .u64 a2_21, .int .u64 a2_22, .int .u64 a2_23, .int .u64 a2_24, .int .u64 a2_25, .int .u64 a2_26, .int .u64 a2_27, .int .u64 a2_28, .int .u64 a2_29, .int .u64 a2_30, .int .u64 a2_31, .bool a2_32, .bool a2_33, .bool a2_34, .bool a2_35, .bool a2_36]) (t := 35) ?hr ?_; (case hd => rfl); (case hg => rfl); (case hr => first | (go_simp; done) | (go_simp; rfl)); intro gb120 hg w39 hbox hb; have n0_ := Aside0.mk (blk_below (g := gb119) (o := .cells #[.int .i64 a1_0, .int .u64 a1_1, .slice A1_2 l1_2.length c1_2] 32 (0, 0)) (by (with_reducible repeat (first | refine blk_drewN ?_ _ | refine blk_drew ?_ | refine blk_alloc ?_ _)); exact BK119.out) hb); have n1_ := Aside0.mk (below_step (by repeat (first | (with_reducible first | exact HB.out | apply below_alloc | apply pw_below_drewN | apply below_drew1 | refine below_set ?_ GE119.out) | exact HB.out)) hb); have n2_ := Aside0.mk (hbox); have n3_ := Aside0.mk ((by rw [hg]; exact (below_size (by repeat (first | (with_reducible first | exact HB.out | apply below_alloc | apply pw_below_drewN | apply below_drew1 | refine below_set ?_ GE119.out) | exact HB.out))) : w.heap.size ≤ gb120)); have n4_ := Aside0.mk ((by rw [hg]; exact (below_size (by repeat (first | (with_reducible first | exact HB.out | apply below_alloc | apply pw_below_drewN | apply below_drew1 | refine below_set ?_ GE119.out) | exact HB.out))) : w.heap.size ≤ gb120)); have n5_ := Aside0.mk ((by rw [hg]; exact Nat.ne_of_lt (blk_lt (g := gb119) (o := .cells #[.int .i64 a1_0, .int .u64 a1_1, .slice A1_2 l1_2.length c1_2] 32 (0, 0)) (by (with_reducible repeat (first | refine blk_drewN ?_ _ | refine blk_drew ?_ | refine blk_alloc ?_ _)); exact BK119.out)) : gb119 ≠ gb120)); have n6_ := Aside0.mk ((by rw [hg]; exact Nat.ne_of_gt (blk_lt (g := gb119) (o := .cells #[.int .i64 a1_0, .int .u64 a1_1, .slice A1_2 l1_2.length c1_2] 32 (0, 0)) (by (with_reducible repeat (first | refine blk_drewN ?_ _ | refine blk_drew ?_ | refine blk_alloc ?_ _)); exact BK119.out)) : gb120 ≠ gb119)); clear BK119; clear HB; have BK119 := n0_; have HB := n1_; have BK120 := n2_; have GW120 := n3_; have GE120 := n4_; have NB119_120 := n5_; have NB120_119 := n6_; clear n0_ n1_ n2_ n3_ n4_ n5_ n6_; clear hb hbox hg; have hnb40 := NB120_119.out; have hnc40 := NB119_120.out; have hcz41_0 : w39.cell? ⟨gb120, 0, none⟩ = some (.slice A2_0 l2_0.length c2_0) := (blk_cell BK120.out 0).trans rfl; have hcz41_1 : w39.cell? ⟨gb120, 1, none⟩ = some (.int .u64 a2_1) := (blk_cell BK120.out 1).trans rfl; have hcz41_2 : w39.cell? ⟨gb120, 2, none⟩ = some (.int .u64 a2_2) := (blk_cell BK120.out 2).trans rfl; have hcz41_3 : w39.cell? ⟨gb120, 3, none⟩ = some (.int .u64 a2_3) := (blk_cell BK120.out 3).trans rfl; have hcz41_4 : w39.cell? ⟨gb120, 4, none⟩ = some (.int .u64 a2_4) := (blk_cell BK120.out 4).trans rfl; have hcz41_5 : w39.cell? ⟨gb120, 5, none⟩ = some (.int .u64 a2_5) := (blk_cell BK120.out 5).trans rfl; have hcz41_6 : w39.cell? ⟨gb120, 6, none⟩ = some (.int .u64 a2_6) := (blk_cell BK120.out 6).trans rfl; have hcz41_7 : w39.cell? ⟨gb120, 7, none⟩ = some (.int .u64 a2_7) := (blk_cell BK120.out 7).trans rfl; have hcz41_8 : w39.cell? ⟨gb120, 8, none⟩ = some (.int .u64 a2_8) := (blk_cell BK120.out 8).trans rfl; have hcz41_9 : w39.cell? ⟨gb120, 9, none⟩ = some (.int .u64 a2_9) := (blk_cell BK120.out 9).trans rfl; have hcz41_10 : w39.cell? ⟨gb120, 10, none⟩ = some (.int .u64 a2_10) := (blk_cell BK120.out 10).trans rfl; have hcz41_11 : w39.cell? ⟨gb120, 11, none⟩ = some (.int .u64 a2_11) := (blk_cell BK120.out 11).trans rfl; have hcz41_12 : w39.cell? ⟨gb120, 12, none⟩ = some (.int .u64 a2_12) := (blk_cell BK120.out 12).trans rfl; have hcz41_13 : w39.cell? ⟨gb120, 13, none⟩ = some (.int .u64 a2_13) := (blk_cell BK120.out 13).trans rfl; have hcz41_14 : w39.cell? ⟨gb120, 14, none⟩ = some (.bool a2_14) := (blk_cell BK120.out 14).trans rfl; have hcz41_15 : w39.cell? ⟨gb120, 15, none⟩ = some (.bool a2_15) := (blk_cell BK120.out 15).trans rfl; have hcz41_16 : w39.cell? ⟨gb120, 16, none⟩ = some (.bool a2_16) := (blk_cell BK120.out 16).trans rfl; have hcz41_17 : w39.cell? ⟨gb120, 17, none⟩ = some (.int .u64 a2_17) := (blk_cell BK120.out 17).trans rfl; have hcz41_18 : w39.cell? ⟨gb120, 18, none⟩ = some (.int .u64 a2_18) := (blk_cell BK120.out 18).trans rfl; have hcz41_19 : w39.cell? ⟨gb120, 19, none⟩ = some (.int .u64 a2_19) := (blk_cell BK120.out 19).trans rfl; have hcz41_20 : w39.cell? ⟨gb120, 20, none⟩ = some (.int .u64 a2_20) := (blk_cell BK120.out 20).trans rfl; have hcz41_21 : w39.cell? ⟨gb120, 21, none⟩ = some (.int .u64 a2_21) := (blk_cell BK120.out 21).trans rfl; have hcz41_22 : w39.cell? ⟨gb120, 22, none⟩ = some (.int .u64 a2_22) := (blk_cell BK120.out 22).trans rfl; have hcz41_23 : w39.cell? ⟨gb120, 23, none⟩ = some (.int .u64 a2_23) := (blk_cell BK120.out 23).trans rfl; have hcz41_24 : w39.cell? ⟨gb120, 24, none⟩ = some (.int .u64 a2_24) := (blk_cell BK120.out 24).trans rfl; have hcz41_25 : w39.cell? ⟨gb120, 25, none⟩ = some (.int .u64 a2_25) := (blk_cell BK120.out 25).trans rfl; have hcz41_26 : w39.cell? ⟨gb120, 26, none⟩ = some (.int .u64 a2_26) := (blk_cell BK120.out 26).trans rfl; have hcz41_27 : w39.cell? ⟨gb120, 27, none⟩ = some (.int .u64 a2_27) := (blk_cell BK120.out 27).trans rfl; have hcz41_28 : w39.cell? ⟨gb120, 28, none⟩ = some (.int .u64 a2_28) := (blk_cell BK120.out 28).trans rfl; have hcz41_29 : w39.cell? ⟨gb120, 29, none⟩ = some (.int .u64 a2_29) := (blk_cell BK120.out 29).trans rfl; have hcz41_30 : w39.cell? ⟨gb120, 30, none⟩ = some (.int .u64 a2_30) := (blk_cell BK120.out 30).trans rfl; have hcz41_31 : w39.cell? ⟨gb120, 31, none⟩ = some (.int .u64 a2_31) := (blk_cell BK120.out 31).trans rfl; have hcz41_32 : w39.cell? ⟨gb120, 32, none⟩ = some (.bool a2_32) := (blk_cell BK120.out 32).trans rfl; have hcz41_33 : w39.cell? ⟨gb120, 33, none⟩ = some (.bool a2_33) := (blk_cell BK120.out 33).trans rfl; have hcz41_34 : w39.cell? ⟨gb120, 34, none⟩ = some (.bool a2_34) := (blk_cell BK120.out 34).trans rfl; have hcz41_35 : w39.cell? ⟨gb120, 35, none⟩ = some (.bool a2_35) := (blk_cell BK120.out 35).trans rfl; have hcz41_36 : w39.cell? ⟨gb120, 36, none⟩ = some (.bool a2_36) := (blk_cell BK120.out 36).trans rfl; have hfz41_0 := blk_frozen BK120.out 0; have hfz41_1 := blk_frozen BK120.out 1; have hfz41_2 := blk_frozen BK120.out 2; have hfz41_3 := blk_frozen BK120.out 3; have hfz41_4 := blk_frozen BK120.out 4; have hfz41_5 := blk_frozen BK120.out 5; have hfz41_6 := blk_frozen BK120.out 6; have hfz41_7 := blk_frozen BK120.out 7; have hfz41_8 := blk_frozen BK120.out 8; have hfz41_9 := blk_frozen BK120.out 9; have hfz41_10 := blk_frozen BK120.out 10; have hfz41_11 := blk_frozen BK120.out 11; have hfz41_12 := blk_frozen BK120.out 12; have hfz41_13 := blk_frozen BK120.out 13; have hfz41_14 := blk_frozen BK120.out 14; have hfz41_15 := blk_frozen BK120.out 15; have hfz41_16 := blk_frozen BK120.out 16; have hfz41_17 := blk_frozen BK120.out 17; have hfz41_18 := blk_frozen BK120.out 18; have hfz41_19 := blk_frozen BK120.out 19; have hfz41_20 := blk_frozen BK120.out 20; have hfz41_21 := blk_frozen BK120.out 21; have hfz41_22 := blk_frozen BK120.out 22; have hfz41_23 := blk_frozen BK120.out 23; have hfz41_24 := blk_frozen BK120.out 24; have hfz41_25 := blk_frozen BK120.out 25; have hfz41_26 := blk_frozen BK120.out 26; have hfz41_27 := blk_frozen BK120.out 27; have hfz41_28 := blk_frozen BK120.out 28; have hfz41_29 := blk_frozen BK120.out 29; have hfz41_30 := blk_frozen BK120.out 30; have hfz41_31 := blk_frozen BK120.out 31; have hfz41_32 := blk_frozen BK120.out 32; have hfz41_33 := blk_frozen BK120.out 33; have hfz41_34 := blk_frozen BK120.out 34; have hfz41_35 := blk_frozen BK120.out 35; have hfz41_36 := blk_frozen BK120.out 36; have hcz42_0 : w39.cell? ⟨gb119, 0, none⟩ = some (.int .i64 a1_0) := (blk_cell BK119.out 0).trans rfl; have hcz42_1 : w39.cell? ⟨gb119, 1, none⟩ = some (.int .u64 a1_1) := (blk_cell BK119.out 1).trans rfl; have hcz42_2 : w39.cell? ⟨gb119, 2, none⟩ = some (.slice A1_2 l1_2.length c1_2) := (blk_cell BK119.out 2).trans rfl; have hfz42_0 := blk_frozen BK119.out 0; have hfz42_1 := blk_frozen BK119.out 1; have hfz42_2 := blk_frozen BK119.out 2) | ((with_reducible refine gate_callee (f := 36) rfl ?_); refine goesL_ (some 21) rfl rfl Try.func36 (by kernel_rfl) rfl #[.slice A0 l0.length c0, .agg #[.int .i64 a1_0, .int .u64 a1_1, .slice A1_2 l1_2.length c1_2], .int .u64 a2_4, .int .u64 a2_8] rfl (by (try simp only [List.map_toArray, List.map_cons, List.map_nil]); first | done | rfl | (simp only [List.length_drop, List.length_take]; rfl)) ?_; (with_reducible refine (dyn_Slice.calls k _ _ l0 a1_0 a1_1 _ _ l1_2 a2_4 a2_8 t121 none _ ?side1 ?side2 ?side3 ?side4 A9.out).mono ?_); (case side1 => repeat (first | exact (Kd.C_below HR0.out HB.out) | (with_reducible refine Kd.C_alloc ?_ _) | (with_reducible refine Kd.C_drewN ?_ _) | (with_reducible refine Kd.C_drew ?_))); (case side2 => exact HC0.out); (case side3 => repeat (first | exact (Kd.C_below HR1_2.out HB.out) | (with_reducible refine Kd.C_alloc ?_ _) | (with_reducible refine Kd.C_drewN ?_ _) | (with_reducible refine Kd.C_drew ?_))); (case side4 => exact HC1_2.out); rintro e w43 ⟨v122, rfl, ho0, hb⟩; refine ⟨_, rfl, ?_⟩; have n0_ := Aside0.mk (Kd.V_lower (Kd.V_mono (ok' := fun k_ => (w.heap.size ≤ k_) ∧ k_ ≠ gb119 ∧ k_ ≠ gb120) ho0 (fun k_ hk_ => ⟨(Nat.le_trans (below_size (by repeat (first | (with_reducible first | exact HB.out | apply below_alloc | apply pw_below_drewN | apply below_drew1 | refine below_set ?_ GE119.out | refine below_set ?_ GE120.out) | exact HB.out))) hk_), (Kd.freshB (g := gb119) (o := .cells #[.int .i64 a1_0, .int .u64 a1_1, .slice A1_2 l1_2.length c1_2] 32 (0, 0)) (by (with_reducible repeat (first | refine blk_drewN ?_ _ | refine blk_drew ?_ | refine blk_alloc ?_ _)); exact BK119.out) k_ hk_), (Kd.freshB (g := gb120) (o := .cells #[.slice A2_0 l2_0.length c2_0, .int .u64 a2_1, .int .u64 a2_2, .int .u64 a2_3, .int .u64 a2_4, .int .u64 a2_5, .int .u64 a2_6, .int .u64 a2_7, .int .u64 a2_8, .int .u64 a2_9, .int .u64 a2_10, .int .u64 a2_11, .int .u64 a2_12, .int .u64 a2_13, .bool a2_14, .bool a2_15, .bool a2_16, .int .u64 a2_17, .int .u64 a2_18, .int .u64 a2_19, .int .u64 a2_20, .int .u64 a2_21, .int .u64 a2_22, .int .u64 a2_23, .int .u64 a2_24, .int .u64 a2_25, .int .u64 a2_26, .int .u64 a2_27, .int .u64 a2_28, .int .u64 a2_29, .int .u64 a2_30, .int .u64 a2_31, .bool a2_32, .bool a2_33, .bool a2_34, .bool a2_35, .bool a2_36] 35 (0, 0)) (by (with_reducible repeat (first | refine blk_drewN ?_ _ | refine blk_drew ?_ | refine blk_alloc ?_ _)); exact BK120.out) k_ hk_)⟩)) (below_size (by repeat (first | (with_reducible first | exact HB.out | apply below_alloc | apply pw_below_drewN | apply below_drew1 | refine below_set ?_ GE119.out | refine below_set ?_ GE120.out) | exact HB.out)))); have n1_ := Aside0.mk (blk_below (g := gb119) (o := .cells #[.int .i64 a1_0, .int .u64 a1_1, .slice A1_2 l1_2.length c1_2] 32 (0, 0)) (by (with_reducible repeat (first | refine blk_drewN ?_ _ | refine blk_drew ?_ | refine blk_alloc ?_ _)); exact BK119.out) hb); have n2_ := Aside0.mk (blk_below (g := gb120) (o := .cells #[.slice A2_0 l2_0.length c2_0, .int .u64 a2_1, .int .u64 a2_2, .int .u64 a2_3, .int .u64 a2_4, .int .u64 a2_5, .int .u64 a2_6, .int .u64 a2_7, .int .u64 a2_8, .int .u64 a2_9, .int .u64 a2_10, .int .u64 a2_11, .int .u64 a2_12, .int .u64 a2_13, .bool a2_14, .bool a2_15, .bool a2_16, .int .u64 a2_17, .int .u64 a2_18, .int .u64 a2_19, .int .u64 a2_20, .int .u64 a2_21, .int .u64 a2_22, .int .u64 a2_23, .int .u64 a2_24, .int .u64 a2_25, .int .u64 a2_26, .int .u64 a2_27, .int .u64 a2_28, .int .u64 a2_29, .int .u64 a2_30, .int .u64 a2_31, .bool a2_32, .bool a2_33, .bool a2_34, .bool a2_35, .bool a2_36] 35 (0, 0)) (by (with_reducible repeat (first | refine blk_drewN ?_ _ | refine blk_drew ?_ | refine blk_alloc ?_ _)); exact BK120.out) hb); have n3_ := Aside0.mk (below_step (by repeat (first | (with_reducible first | exact HB.out | apply below_alloc | apply pw_below_drewN | apply below_drew1 | refine below_set ?_ GE119.out | refine below_set ?_ GE120.out) | exact HB.out)) hb); clear BK119; clear BK120; clear HB; have HO123 := n0_; have BK119 := n1_; have BK120 := n2_; have HB := n3_; clear n0_ n1_ n2_ n3_; (try clear hb); (try clear hb2); (try clear hk); (try clear hi); (try clear ho0); (try simp only [errW_none, errW_some]); obtain ⟨Ao44, co44, eo44⟩ := Kd.V_slice HO123.out; subst eo44; have p126 : 0 ≤ (0 : Int) := (by omega); have q126 : 0 < (t121.length : Int) := of_decide_eq_true (by assumption); obtain ⟨ad126, e126, hx126_0⟩ := Kd.at_int (Kd.V_reads' HO123.out).2.2 0 p126 q126; cases e126; have qi126 : (0 < t121.length) = True := eq_true (by omega); (try rw [show ((0 : Int)).toNat = 0 from rfl] at hx126_0); (try rw [Addr.add_zero'] at hx126_0); replace p126 := eq_true p126; replace q126 := eq_true q126))
      go_ret2
      exact ⟨_, by first | rfl | (simp [errW_none, errW_some] <;> rfl) | (simp [*, errW_none, errW_some] <;> rfl), Kd.V_nil _ _ _ _ _, by repeat (first | (with_reducible first | exact HB.out | apply below_alloc | apply pw_below_drewN | apply below_drew1 | refine below_set ?_ GE119.out | refine below_set ?_ GE120.out) | exact HB.out)⟩
    ·rw [if_neg c18] at H
     exact absurd H (by simp)
  ·have H1 : (some (([] : List Int), some q125)) = some (r1, r2) := by rw [if_neg (show ¬ (some q125).isNone = true by simp)] at H; exact H
   clear H
   have H := H1
   clear H1
   try simp only [errW_none, errW_some]
   simp only [Option.some.injEq, Prod.mk.injEq] at H
   obtain ⟨rfl, rfl⟩ := H
   go_enter Try.func35, Try.ntmps35
   go_wp2_with (first | ((with_reducible refine gate_ (.load 35 (.tmp 5)) rfl ?_); refine wpList_load_row rfl 35 (.tmp 5) rfl gb120 rfl 35 _ (0, 0) _ (by (with_reducible repeat (first | refine blk_drewN ?_ _ | refine blk_drew ?_ | refine blk_alloc ?_ _)); exact BK120.out) Try.underlying35 rfl (by kernel_rfl) ?_) | ((with_reducible refine gate_dst (N := 4) rfl ?_); (try (refine gate_guard (by rfl) ?_; dsimp only)); refine box_event ?hg (N := 4) ?hd (cs := #[.int .i64 a1_0, .int .u64 a1_1, .slice A1_2 l1_2.length c1_2]) (t := 32) ?hr ?_; (case hd => rfl); (case hg => rfl); (case hr => first | (go_simp; done) | (go_simp; rfl)); intro gb119 hg w45 hbox hb; have n0_ := Aside0.mk (below_step (by repeat (first | (with_reducible first | exact HB.out | apply below_alloc | apply pw_below_drewN | apply below_drew1) | exact HB.out)) hb); have n1_ := Aside0.mk (hbox); have n2_ := Aside0.mk ((by rw [hg]; exact (below_size (by repeat (first | (with_reducible first | exact HB.out | apply below_alloc | apply pw_below_drewN | apply below_drew1) | exact HB.out))) : w.heap.size ≤ gb119)); have n3_ := Aside0.mk ((by rw [hg]; exact (below_size (by repeat (first | (with_reducible first | exact HB.out | apply below_alloc | apply pw_below_drewN | apply below_drew1) | exact HB.out))) : w.heap.size ≤ gb119)); clear HB; have HB := n0_; have BK119 := n1_; have GW119 := n2_; have GE119 := n3_; clear n0_ n1_ n2_ n3_; clear hb hbox hg) | ((with_reducible refine gate_dst (N := 5) rfl ?_); (try (refine gate_guard (by rfl) ?_; dsimp only)); refine box_event ?hg (N := 5) ?hd (cs := #[.slice A2_0 l2_0.length c2_0, .int .u64 a2_1, .int .u64 a2_2, .int .u64 a2_3, .int .u64 a2_4, .int .u64 a2_5, .int .u64 a2_6, .int .u64 a2_7, .int .u64 a2_8, .int .u64 a2_9, .int .u64 a2_10, .int .u64 a2_11, .int .u64 a2_12, .int .u64 a2_13, .bool a2_14, .bool a2_15, .bool a2_16, .int .u64 a2_17, .int .u64 a2_18, .int .u64 a2_19, .int .u64 a2_20, .int .u64 a2_21, .int .u64 a2_22, .int .u64 a2_23, .int .u64 a2_24, .int .u64 a2_25, .int .u64 a2_26, .int .u64 a2_27, .int .u64 a2_28, .int .u64 a2_29, .int .u64 a2_30, .int .u64 a2_31, .bool a2_32, .bool a2_33, .bool a2_34, .bool a2_35, .bool a2_36]) (t := 35) ?hr ?_; (case hd => rfl); (case hg => rfl); (case hr => first | (go_simp; done) | (go_simp; rfl)); intro gb120 hg w46 hbox hb; have n0_ := Aside0.mk (blk_below (g := gb119) (o := .cells #[.int .i64 a1_0, .int .u64 a1_1, .slice A1_2 l1_2.length c1_2] 32 (0, 0)) (by (with_reducible repeat (first | refine blk_drewN ?_ _ | refine blk_drew ?_ | refine blk_alloc ?_ _)); exact BK119.out) hb); have n1_ := Aside0.mk (below_step (by repeat (first | (with_reducible first | exact HB.out | apply below_alloc | apply pw_below_drewN | apply below_drew1 | refine below_set ?_ GE119.out) | exact HB.out)) hb); have n2_ := Aside0.mk (hbox); have n3_ := Aside0.mk ((by rw [hg]; exact (below_size (by repeat (first | (with_reducible first | exact HB.out | apply below_alloc | apply pw_below_drewN | apply below_drew1 | refine below_set ?_ GE119.out) | exact HB.out))) : w.heap.size ≤ gb120)); have n4_ := Aside0.mk ((by rw [hg]; exact (below_size (by repeat (first | (with_reducible first | exact HB.out | apply below_alloc | apply pw_below_drewN | apply below_drew1 | refine below_set ?_ GE119.out) | exact HB.out))) : w.heap.size ≤ gb120)); have n5_ := Aside0.mk ((by rw [hg]; exact Nat.ne_of_lt (blk_lt (g := gb119) (o := .cells #[.int .i64 a1_0, .int .u64 a1_1, .slice A1_2 l1_2.length c1_2] 32 (0, 0)) (by (with_reducible repeat (first | refine blk_drewN ?_ _ | refine blk_drew ?_ | refine blk_alloc ?_ _)); exact BK119.out)) : gb119 ≠ gb120)); have n6_ := Aside0.mk ((by rw [hg]; exact Nat.ne_of_gt (blk_lt (g := gb119) (o := .cells #[.int .i64 a1_0, .int .u64 a1_1, .slice A1_2 l1_2.length c1_2] 32 (0, 0)) (by (with_reducible repeat (first | refine blk_drewN ?_ _ | refine blk_drew ?_ | refine blk_alloc ?_ _)); exact BK119.out)) : gb120 ≠ gb119)); clear BK119; clear HB; have BK119 := n0_; have HB := n1_; have BK120 := n2_; have GW120 := n3_; have GE120 := n4_; have NB119_120 := n5_; have NB120_119 := n6_; clear n0_ n1_ n2_ n3_ n4_ n5_ n6_; clear hb hbox hg; have hnb47 := NB120_119.out; have hnc47 := NB119_120.out; have hcz48_0 : w46.cell? ⟨gb120, 0, none⟩ = some (.slice A2_0 l2_0.length c2_0) := (blk_cell BK120.out 0).trans rfl; have hcz48_1 : w46.cell? ⟨gb120, 1, none⟩ = some (.int .u64 a2_1) := (blk_cell BK120.out 1).trans rfl; have hcz48_2 : w46.cell? ⟨gb120, 2, none⟩ = some (.int .u64 a2_2) := (blk_cell BK120.out 2).trans rfl; have hcz48_3 : w46.cell? ⟨gb120, 3, none⟩ = some (.int .u64 a2_3) := (blk_cell BK120.out 3).trans rfl; have hcz48_4 : w46.cell? ⟨gb120, 4, none⟩ = some (.int .u64 a2_4) := (blk_cell BK120.out 4).trans rfl; have hcz48_5 : w46.cell? ⟨gb120, 5, none⟩ = some (.int .u64 a2_5) := (blk_cell BK120.out 5).trans rfl; have hcz48_6 : w46.cell? ⟨gb120, 6, none⟩ = some (.int .u64 a2_6) := (blk_cell BK120.out 6).trans rfl; have hcz48_7 : w46.cell? ⟨gb120, 7, none⟩ = some (.int .u64 a2_7) := (blk_cell BK120.out 7).trans rfl; have hcz48_8 : w46.cell? ⟨gb120, 8, none⟩ = some (.int .u64 a2_8) := (blk_cell BK120.out 8).trans rfl; have hcz48_9 : w46.cell? ⟨gb120, 9, none⟩ = some (.int .u64 a2_9) := (blk_cell BK120.out 9).trans rfl; have hcz48_10 : w46.cell? ⟨gb120, 10, none⟩ = some (.int .u64 a2_10) := (blk_cell BK120.out 10).trans rfl; have hcz48_11 : w46.cell? ⟨gb120, 11, none⟩ = some (.int .u64 a2_11) := (blk_cell BK120.out 11).trans rfl; have hcz48_12 : w46.cell? ⟨gb120, 12, none⟩ = some (.int .u64 a2_12) := (blk_cell BK120.out 12).trans rfl; have hcz48_13 : w46.cell? ⟨gb120, 13, none⟩ = some (.int .u64 a2_13) := (blk_cell BK120.out 13).trans rfl; have hcz48_14 : w46.cell? ⟨gb120, 14, none⟩ = some (.bool a2_14) := (blk_cell BK120.out 14).trans rfl; have hcz48_15 : w46.cell? ⟨gb120, 15, none⟩ = some (.bool a2_15) := (blk_cell BK120.out 15).trans rfl; have hcz48_16 : w46.cell? ⟨gb120, 16, none⟩ = some (.bool a2_16) := (blk_cell BK120.out 16).trans rfl; have hcz48_17 : w46.cell? ⟨gb120, 17, none⟩ = some (.int .u64 a2_17) := (blk_cell BK120.out 17).trans rfl; have hcz48_18 : w46.cell? ⟨gb120, 18, none⟩ = some (.int .u64 a2_18) := (blk_cell BK120.out 18).trans rfl; have hcz48_19 : w46.cell? ⟨gb120, 19, none⟩ = some (.int .u64 a2_19) := (blk_cell BK120.out 19).trans rfl; have hcz48_20 : w46.cell? ⟨gb120, 20, none⟩ = some (.int .u64 a2_20) := (blk_cell BK120.out 20).trans rfl; have hcz48_21 : w46.cell? ⟨gb120, 21, none⟩ = some (.int .u64 a2_21) := (blk_cell BK120.out 21).trans rfl; have hcz48_22 : w46.cell? ⟨gb120, 22, none⟩ = some (.int .u64 a2_22) := (blk_cell BK120.out 22).trans rfl; have hcz48_23 : w46.cell? ⟨gb120, 23, none⟩ = some (.int .u64 a2_23) := (blk_cell BK120.out 23).trans rfl; have hcz48_24 : w46.cell? ⟨gb120, 24, none⟩ = some (.int .u64 a2_24) := (blk_cell BK120.out 24).trans rfl; have hcz48_25 : w46.cell? ⟨gb120, 25, none⟩ = some (.int .u64 a2_25) := (blk_cell BK120.out 25).trans rfl; have hcz48_26 : w46.cell? ⟨gb120, 26, none⟩ = some (.int .u64 a2_26) := (blk_cell BK120.out 26).trans rfl; have hcz48_27 : w46.cell? ⟨gb120, 27, none⟩ = some (.int .u64 a2_27) := (blk_cell BK120.out 27).trans rfl; have hcz48_28 : w46.cell? ⟨gb120, 28, none⟩ = some (.int .u64 a2_28) := (blk_cell BK120.out 28).trans rfl; have hcz48_29 : w46.cell? ⟨gb120, 29, none⟩ = some (.int .u64 a2_29) := (blk_cell BK120.out 29).trans rfl; have hcz48_30 : w46.cell? ⟨gb120, 30, none⟩ = some (.int .u64 a2_30) := (blk_cell BK120.out 30).trans rfl; have hcz48_31 : w46.cell? ⟨gb120, 31, none⟩ = some (.int .u64 a2_31) := (blk_cell BK120.out 31).trans rfl; have hcz48_32 : w46.cell? ⟨gb120, 32, none⟩ = some (.bool a2_32) := (blk_cell BK120.out 32).trans rfl; have hcz48_33 : w46.cell? ⟨gb120, 33, none⟩ = some (.bool a2_33) := (blk_cell BK120.out 33).trans rfl; have hcz48_34 : w46.cell? ⟨gb120, 34, none⟩ = some (.bool a2_34) := (blk_cell BK120.out 34).trans rfl; have hcz48_35 : w46.cell? ⟨gb120, 35, none⟩ = some (.bool a2_35) := (blk_cell BK120.out 35).trans rfl; have hcz48_36 : w46.cell? ⟨gb120, 36, none⟩ = some (.bool a2_36) := (blk_cell BK120.out 36).trans rfl; have hfz48_0 := blk_frozen BK120.out 0; have hfz48_1 := blk_frozen BK120.out 1; have hfz48_2 := blk_frozen BK120.out 2; have hfz48_3 := blk_frozen BK120.out 3; have hfz48_4 := blk_frozen BK120.out 4; have hfz48_5 := blk_frozen BK120.out 5; have hfz48_6 := blk_frozen BK120.out 6; have hfz48_7 := blk_frozen BK120.out 7; have hfz48_8 := blk_frozen BK120.out 8; have hfz48_9 := blk_frozen BK120.out 9; have hfz48_10 := blk_frozen BK120.out 10; have hfz48_11 := blk_frozen BK120.out 11; have hfz48_12 := blk_frozen BK120.out 12; have hfz48_13 := blk_frozen BK120.out 13; have hfz48_14 := blk_frozen BK120.out 14; have hfz48_15 := blk_frozen BK120.out 15; have hfz48_16 := blk_frozen BK120.out 16; have hfz48_17 := blk_frozen BK120.out 17; have hfz48_18 := blk_frozen BK120.out 18; have hfz48_19 := blk_frozen BK120.out 19; have hfz48_20 := blk_frozen BK120.out 20; have hfz48_21 := blk_frozen BK120.out 21; have hfz48_22 := blk_frozen BK120.out 22; have hfz48_23 := blk_frozen BK120.out 23; have hfz48_24 := blk_frozen BK120.out 24; have hfz48_25 := blk_frozen BK120.out 25; have hfz48_26 := blk_frozen BK120.out 26; have hfz48_27 := blk_frozen BK120.out 27; have hfz48_28 := blk_frozen BK120.out 28; have hfz48_29 := blk_frozen BK120.out 29; have hfz48_30 := blk_frozen BK120.out 30; have hfz48_31 := blk_frozen BK120.out 31; have hfz48_32 := blk_frozen BK120.out 32; have hfz48_33 := blk_frozen BK120.out 33; have hfz48_34 := blk_frozen BK120.out 34; have hfz48_35 := blk_frozen BK120.out 35; have hfz48_36 := blk_frozen BK120.out 36; have hcz49_0 : w46.cell? ⟨gb119, 0, none⟩ = some (.int .i64 a1_0) := (blk_cell BK119.out 0).trans rfl; have hcz49_1 : w46.cell? ⟨gb119, 1, none⟩ = some (.int .u64 a1_1) := (blk_cell BK119.out 1).trans rfl; have hcz49_2 : w46.cell? ⟨gb119, 2, none⟩ = some (.slice A1_2 l1_2.length c1_2) := (blk_cell BK119.out 2).trans rfl; have hfz49_0 := blk_frozen BK119.out 0; have hfz49_1 := blk_frozen BK119.out 1; have hfz49_2 := blk_frozen BK119.out 2) | ((with_reducible refine gate_callee (f := 36) rfl ?_); refine goesL_ (some 21) rfl rfl Try.func36 (by kernel_rfl) rfl #[.slice A0 l0.length c0, .agg #[.int .i64 a1_0, .int .u64 a1_1, .slice A1_2 l1_2.length c1_2], .int .u64 a2_4, .int .u64 a2_8] rfl (by (try simp only [List.map_toArray, List.map_cons, List.map_nil]); first | done | rfl | (simp only [List.length_drop, List.length_take]; rfl)) ?_; (with_reducible refine (dyn_Slice.calls k _ _ l0 a1_0 a1_1 _ _ l1_2 a2_4 a2_8 t121 (some q125) _ ?side1 ?side2 ?side3 ?side4 A9.out).mono ?_); (case side1 => repeat (first | exact (Kd.C_below HR0.out HB.out) | (with_reducible refine Kd.C_alloc ?_ _) | (with_reducible refine Kd.C_drewN ?_ _) | (with_reducible refine Kd.C_drew ?_))); (case side2 => exact HC0.out); (case side3 => repeat (first | exact (Kd.C_below HR1_2.out HB.out) | (with_reducible refine Kd.C_alloc ?_ _) | (with_reducible refine Kd.C_drewN ?_ _) | (with_reducible refine Kd.C_drew ?_))); (case side4 => exact HC1_2.out); rintro e w50 ⟨v122, rfl, ho0, hb⟩; refine ⟨_, rfl, ?_⟩; have n0_ := Aside0.mk (Kd.V_lower (Kd.V_mono (ok' := fun k_ => (w.heap.size ≤ k_) ∧ k_ ≠ gb119 ∧ k_ ≠ gb120) ho0 (fun k_ hk_ => ⟨(Nat.le_trans (below_size (by repeat (first | (with_reducible first | exact HB.out | apply below_alloc | apply pw_below_drewN | apply below_drew1 | refine below_set ?_ GE119.out | refine below_set ?_ GE120.out) | exact HB.out))) hk_), (Kd.freshB (g := gb119) (o := .cells #[.int .i64 a1_0, .int .u64 a1_1, .slice A1_2 l1_2.length c1_2] 32 (0, 0)) (by (with_reducible repeat (first | refine blk_drewN ?_ _ | refine blk_drew ?_ | refine blk_alloc ?_ _)); exact BK119.out) k_ hk_), (Kd.freshB (g := gb120) (o := .cells #[.slice A2_0 l2_0.length c2_0, .int .u64 a2_1, .int .u64 a2_2, .int .u64 a2_3, .int .u64 a2_4, .int .u64 a2_5, .int .u64 a2_6, .int .u64 a2_7, .int .u64 a2_8, .int .u64 a2_9, .int .u64 a2_10, .int .u64 a2_11, .int .u64 a2_12, .int .u64 a2_13, .bool a2_14, .bool a2_15, .bool a2_16, .int .u64 a2_17, .int .u64 a2_18, .int .u64 a2_19, .int .u64 a2_20, .int .u64 a2_21, .int .u64 a2_22, .int .u64 a2_23, .int .u64 a2_24, .int .u64 a2_25, .int .u64 a2_26, .int .u64 a2_27, .int .u64 a2_28, .int .u64 a2_29, .int .u64 a2_30, .int .u64 a2_31, .bool a2_32, .bool a2_33, .bool a2_34, .bool a2_35, .bool a2_36] 35 (0, 0)) (by (with_reducible repeat (first | refine blk_drewN ?_ _ | refine blk_drew ?_ | refine blk_alloc ?_ _)); exact BK120.out) k_ hk_)⟩)) (below_size (by repeat (first | (with_reducible first | exact HB.out | apply below_alloc | apply pw_below_drewN | apply below_drew1 | refine below_set ?_ GE119.out | refine below_set ?_ GE120.out) | exact HB.out)))); have n1_ := Aside0.mk (blk_below (g := gb119) (o := .cells #[.int .i64 a1_0, .int .u64 a1_1, .slice A1_2 l1_2.length c1_2] 32 (0, 0)) (by (with_reducible repeat (first | refine blk_drewN ?_ _ | refine blk_drew ?_ | refine blk_alloc ?_ _)); exact BK119.out) hb); have n2_ := Aside0.mk (blk_below (g := gb120) (o := .cells #[.slice A2_0 l2_0.length c2_0, .int .u64 a2_1, .int .u64 a2_2, .int .u64 a2_3, .int .u64 a2_4, .int .u64 a2_5, .int .u64 a2_6, .int .u64 a2_7, .int .u64 a2_8, .int .u64 a2_9, .int .u64 a2_10, .int .u64 a2_11, .int .u64 a2_12, .int .u64 a2_13, .bool a2_14, .bool a2_15, .bool a2_16, .int .u64 a2_17, .int .u64 a2_18, .int .u64 a2_19, .int .u64 a2_20, .int .u64 a2_21, .int .u64 a2_22, .int .u64 a2_23, .int .u64 a2_24, .int .u64 a2_25, .int .u64 a2_26, .int .u64 a2_27, .int .u64 a2_28, .int .u64 a2_29, .int .u64 a2_30, .int .u64 a2_31, .bool a2_32, .bool a2_33, .bool a2_34, .bool a2_35, .bool a2_36] 35 (0, 0)) (by (with_reducible repeat (first | refine blk_drewN ?_ _ | refine blk_drew ?_ | refine blk_alloc ?_ _)); exact BK120.out) hb); have n3_ := Aside0.mk (below_step (by repeat (first | (with_reducible first | exact HB.out | apply below_alloc | apply pw_below_drewN | apply below_drew1 | refine below_set ?_ GE119.out | refine below_set ?_ GE120.out) | exact HB.out)) hb); clear BK119; clear BK120; clear HB; have HO123 := n0_; have BK119 := n1_; have BK120 := n2_; have HB := n3_; clear n0_ n1_ n2_ n3_; (try clear hb); (try clear hb2); (try clear hk); (try clear hi); (try clear ho0); (try simp only [errW_none, errW_some])))
   go_ret2
   exact ⟨_, by first | rfl | (simp [errW_none, errW_some] <;> rfl) | (simp [*, errW_none, errW_some] <;> rfl), Kd.V_nil _ _ _ _ _, by repeat (first | (with_reducible first | exact HB.out | apply below_alloc | apply pw_below_drewN | apply below_drew1 | refine below_set ?_ GE119.out | refine below_set ?_ GE120.out) | exact HB.out)⟩
end Go.Proofs.Ythopdoamajjojaa.QVers
