import Derived.Test.YthopdoamajjojaaQBindFx0
namespace Go.Proofs.Ythopdoamajjojaa.QBindF
open Go.RowKit Go.Proofs.YthopdoamajjojaaW.PrintWords Go.Proofs.YthopdoamajjojaaW.PrintLast Go.Proofs.YthopdoamajjojaaW.PrintMore
attribute [local go_sem] max2_int min2_int max_two min_two max_three min_three max_four min_four
set_option linter.unusedVariables false
set_option linter.unusedSimpArgs false
attribute [local go_sem] eqErr_ii neErr_ii eqErr_ni neErr_ni
mutual
def dyn_Offset.l0 : Nat → Int → Int → List (S29) → Int → Int → Option (Int × Option Int)
 | 0, _, _, _, _, _ => none
 | k + 1, x1, x2, x12, x13, x14 => if x14 < x13 then (if 0 ≤ x14 then (if x14 < (x12.length : Int) then (if ((rd_T29 x12 x14).f0) = 1 then (dyn_Offset.j1 k x1 x2 x12 x13 x14 (decide (x1 < ((rd_T29 x12 x14).f3))) ((rd_T29 x12 x14).f0) ((rd_T29 x12 x14).f1) ((rd_T29 x12 x14).f2) ((rd_T29 x12 x14).f3) ((rd_T29 x12 x14).f4) ((rd_T29 x12 x14).f5) ((rd_T29 x12 x14).f6)) else (dyn_Offset.j1 k x1 x2 x12 x13 x14 true ((rd_T29 x12 x14).f0) ((rd_T29 x12 x14).f1) ((rd_T29 x12 x14).f2) ((rd_T29 x12 x14).f3) ((rd_T29 x12 x14).f4) ((rd_T29 x12 x14).f5) ((rd_T29 x12 x14).f6))) else (none)) else (none)) else (some (0, some 4))
def dyn_Offset.j1 : Nat → Int → Int → List (S29) → Int → Int → Bool → Int → Int → Int → Int → Int → Int → Int → Option (Int × Option Int)
 | 0, _, _, _, _, _, _, _, _, _, _, _, _, _ => none
 | k + 1, x1, x2, x12, x13, x14, x26, x107000, x107001, x107002, x107003, x107004, x107005, x107006 => if x26 = true then (dyn_Offset.l0 k x1 x2 x12 x13 (wrap64 (x14 + 1))) else (if (IntKind.u64.wrap (x1 - x107003)) > x107004 then (dyn_Offset.j2 k x1 x2 (IntKind.u64.wrap (x1 - x107003)) x12 x13 x14 true x107000 x107001 x107002 x107003 x107004 x107005 x107006) else (dyn_Offset.j2 k x1 x2 (IntKind.u64.wrap (x1 - x107003)) x12 x13 x14 (decide (x2 > (IntKind.u64.wrap (x107004 - (IntKind.u64.wrap (x1 - x107003)))))) x107000 x107001 x107002 x107003 x107004 x107005 x107006))
def dyn_Offset.j2 : Nat → Int → Int → Int → List (S29) → Int → Int → Bool → Int → Int → Int → Int → Int → Int → Int → Option (Int × Option Int)
 | 0, _, _, _, _, _, _, _, _, _, _, _, _, _, _ => none
 | k + 1, x1, x2, x10, x12, x13, x14, x42, x107000, x107001, x107002, x107003, x107004, x107005, x107006 => if x42 = true then (dyn_Offset.l0 k x1 x2 x12 x13 (wrap64 (x14 + 1))) else (if x107002 > (IntKind.u64.wrap (18446744073709551615 - x10)) then (some (0, some 4)) else (some (IntKind.u64.wrap (x107002 + x10), none)))
end
def dyn_Offset.f (k : Nat) (a0_0 : Int) (a0_1 : Int) (l0_2 : List (S29)) (a1 : Int) (a2 : Int) : Option (Int × Option Int) := dyn_Offset.l0 k a1 a2 l0_2 (l0_2.length : Int) 0
theorem dyn_Offset.mono_l : ∀ k, (∀ y0 y1 y2 y3 y4, LeO (dyn_Offset.l0 k y0 y1 y2 y3 y4) (dyn_Offset.l0 (k + 1) y0 y1 y2 y3 y4)) ∧ (∀ y0 y1 y2 y3 y4 y5 y6 y7 y8 y9 y10 y11 y12, LeO (dyn_Offset.j1 k y0 y1 y2 y3 y4 y5 y6 y7 y8 y9 y10 y11 y12) (dyn_Offset.j1 (k + 1) y0 y1 y2 y3 y4 y5 y6 y7 y8 y9 y10 y11 y12)) ∧ (∀ y0 y1 y2 y3 y4 y5 y6 y7 y8 y9 y10 y11 y12 y13, LeO (dyn_Offset.j2 k y0 y1 y2 y3 y4 y5 y6 y7 y8 y9 y10 y11 y12 y13) (dyn_Offset.j2 (k + 1) y0 y1 y2 y3 y4 y5 y6 y7 y8 y9 y10 y11 y12 y13))
 | 0 => ⟨fun _ _ _ _ _ r h => by simp [dyn_Offset.l0] at h, fun _ _ _ _ _ _ _ _ _ _ _ _ _ r h => by simp [dyn_Offset.j1] at h, fun _ _ _ _ _ _ _ _ _ _ _ _ _ _ r h => by simp [dyn_Offset.j2] at h⟩
 | k + 1 => by
  obtain ⟨ih0, ih1, ih2⟩ := dyn_Offset.mono_l k
  refine ⟨?_, ?_, ?_⟩
  ·intro y0 y1 y2 y3 y4
   unfold dyn_Offset.l0
   repeat' first
   | (with_reducible exact ih0 _ _ _ _ _)
   | (with_reducible exact ih1 _ _ _ _ _ _ _ _ _ _ _ _ _)
   | (with_reducible exact ih2 _ _ _ _ _ _ _ _ _ _ _ _ _ _)
   | (with_reducible exact LeO.refl _)
   | (with_reducible exact LeO.none _)
   | (with_reducible refine LeO.ite ?_ ?_)
   | (with_reducible refine LeO.bind ?_ (fun _ => ?_))
   | exact ih0 _ _ _ _ _
   | exact ih1 _ _ _ _ _ _ _ _ _ _ _ _ _
   | exact ih2 _ _ _ _ _ _ _ _ _ _ _ _ _ _
   | exact LeO.none _
   | refine LeO.ite ?_ ?_
   | refine LeO.bind ?_ (fun _ => ?_)
  ·intro y0 y1 y2 y3 y4 y5 y6 y7 y8 y9 y10 y11 y12
   unfold dyn_Offset.j1
   repeat' first
   | (with_reducible exact ih0 _ _ _ _ _)
   | (with_reducible exact ih1 _ _ _ _ _ _ _ _ _ _ _ _ _)
   | (with_reducible exact ih2 _ _ _ _ _ _ _ _ _ _ _ _ _ _)
   | (with_reducible exact LeO.refl _)
   | (with_reducible exact LeO.none _)
   | (with_reducible refine LeO.ite ?_ ?_)
   | (with_reducible refine LeO.bind ?_ (fun _ => ?_))
   | exact ih0 _ _ _ _ _
   | exact ih1 _ _ _ _ _ _ _ _ _ _ _ _ _
   | exact ih2 _ _ _ _ _ _ _ _ _ _ _ _ _ _
   | exact LeO.none _
   | refine LeO.ite ?_ ?_
   | refine LeO.bind ?_ (fun _ => ?_)
  ·intro y0 y1 y2 y3 y4 y5 y6 y7 y8 y9 y10 y11 y12 y13
   unfold dyn_Offset.j2
   repeat' first
   | (with_reducible exact ih0 _ _ _ _ _)
   | (with_reducible exact ih1 _ _ _ _ _ _ _ _ _ _ _ _ _)
   | (with_reducible exact ih2 _ _ _ _ _ _ _ _ _ _ _ _ _ _)
   | (with_reducible exact LeO.refl _)
   | (with_reducible exact LeO.none _)
   | (with_reducible refine LeO.ite ?_ ?_)
   | (with_reducible refine LeO.bind ?_ (fun _ => ?_))
   | exact ih0 _ _ _ _ _
   | exact ih1 _ _ _ _ _ _ _ _ _ _ _ _ _
   | exact ih2 _ _ _ _ _ _ _ _ _ _ _ _ _ _
   | exact LeO.none _
   | refine LeO.ite ?_ ?_
   | refine LeO.bind ?_ (fun _ => ?_)
theorem dyn_Offset.mono : ∀ a0 a1 a2 a3 a4 k, LeO (dyn_Offset.f k a0 a1 a2 a3 a4) (dyn_Offset.f (k + 1) a0 a1 a2 a3 a4) := by
 intro a0 a1 a2 a3 a4 k
 obtain ⟨ih0, ih1, ih2⟩ := dyn_Offset.mono_l k
 unfold dyn_Offset.f
 repeat' first
   | (with_reducible exact ih0 _ _ _ _ _)
   | (with_reducible exact ih1 _ _ _ _ _ _ _ _ _ _ _ _ _)
   | (with_reducible exact ih2 _ _ _ _ _ _ _ _ _ _ _ _ _ _)
   | (with_reducible exact LeO.refl _)
   | (with_reducible exact LeO.none _)
   | (with_reducible refine LeO.ite ?_ ?_)
   | (with_reducible refine LeO.bind ?_ (fun _ => ?_))
   | exact ih0 _ _ _ _ _
   | exact ih1 _ _ _ _ _ _ _ _ _ _ _ _ _
   | exact ih2 _ _ _ _ _ _ _ _ _ _ _ _ _ _
   | exact LeO.none _
   | refine LeO.ite ?_ ?_
   | refine LeO.bind ?_ (fun _ => ?_)
set_option maxHeartbeats 8000000 in
set_option maxRecDepth 100000 in
theorem dyn_Offset.calls (k : Nat) (a0_0 : Int) (a0_1 : Int) (A0_2 : Option Addr) (c0_2 : Nat) (l0_2 : List (S29)) (a1 : Int) (a2 : Int) (r1 : Int) (r2 : Option Int) (w : World) (hr0_2 : Kd.C k29 w A0_2 l0_2.length l0_2) (hc0_2 : l0_2.length ≤ c0_2) (h : dyn_Offset.f k a0_0 a0_1 l0_2 a1 a2 = some (r1, r2)) :
  Calls Try.prog 55 #[.agg #[.int .i64 a0_0, .int .u64 a0_1, .slice A0_2 l0_2.length c0_2], .int .u64 a1, .int .u64 a2] w fun e w' => e = .returned (.tuple #[.int .u64 r1, errW r2]) ∧ Below w.heap.size w w' := by
 have hu32 := Try.underlying32
 have hu29 := Try.underlying29
 have hu41 := Try.underlying41
 have hu97 := Try.underlying97
 have HR0_2 := Aside0.mk hr0_2
 have HC0_2 := Aside0.mk hc0_2
 clear hr0_2 hc0_2
 have HB := Aside0.mk (Below.refl w.heap.size w)
 have H : (dyn_Offset.l0 k a1 a2 l0_2 (l0_2.length : Int) 0) = some (r1, r2) := h
 clear h
 have H' := Aside0.mk H
 clear H
 go_enter Try.func55, Try.ntmps55
 go_wp2_with (first | ((with_reducible refine gate_dst (N := 3) rfl ?_); refine box_event ?hg (N := 3) ?hd (cs := #[.int .i64 a0_0, .int .u64 a0_1, .slice A0_2 l0_2.length c0_2]) (t := 32) ?hr ?_; (case hd => rfl); (case hg => rfl); (case hr => first | (go_simp; done) | (go_simp; rfl)); intro gb104 hg w4 hbox hb; have n0_ := Aside0.mk (below_step (by repeat (first | (with_reducible first | exact HB.out | apply below_alloc | apply pw_below_drewN | apply below_drew1) | exact HB.out)) hb); have n1_ := Aside0.mk (hbox); have n2_ := Aside0.mk ((by rw [hg]; exact (below_size (by repeat (first | (with_reducible first | exact HB.out | apply below_alloc | apply pw_below_drewN | apply below_drew1) | exact HB.out))) : w.heap.size ≤ gb104)); have n3_ := Aside0.mk ((by rw [hg]; exact (below_size (by repeat (first | (with_reducible first | exact HB.out | apply below_alloc | apply pw_below_drewN | apply below_drew1) | exact HB.out))) : w.heap.size ≤ gb104)); clear HB; have HB := n0_; have BK104 := n1_; have GW104 := n2_; have GE104 := n3_; clear n0_ n1_ n2_ n3_; clear hb hbox hg; have hcz5_0 : w4.cell? ⟨gb104, 0, none⟩ = some (.int .i64 a0_0) := (blk_cell BK104.out 0).trans rfl; have hcz5_1 : w4.cell? ⟨gb104, 1, none⟩ = some (.int .u64 a0_1) := (blk_cell BK104.out 1).trans rfl; have hcz5_2 : w4.cell? ⟨gb104, 2, none⟩ = some (.slice A0_2 l0_2.length c0_2) := (blk_cell BK104.out 2).trans rfl; have hfz5_0 := blk_frozen BK104.out 0; have hfz5_1 := blk_frozen BK104.out 1; have hfz5_2 := blk_frozen BK104.out 2))
 go_loopg [14] k (fun kq v14 w' => ∃ (x14_1 : Int), v14 = .int .i64 x14_1 ∧ Aside0 (dyn_Offset.l0 kq a1 a2 l0_2 (l0_2.length : Int) x14_1 = some (r1, r2)) ∧ Aside0 (kq ≤ k) ∧ Aside0 (w'.heap[gb104]? = some (.cells #[.int .i64 a0_0, .int .u64 a0_1, (.slice A0_2 l0_2.length c0_2)] 32 (0, 0))) ∧ Aside0 (Below w.heap.size w w'))
 case atStart => exact ⟨(0), (by first | rfl | (simp; done) | (simp [*]; done)), H', ⟨Nat.le_refl _⟩, ⟨by (with_reducible repeat (first | refine blk_drewN ?_ _ | refine blk_drew ?_ | refine blk_alloc ?_ _)); exact BK104.out⟩, ⟨by repeat (first | (with_reducible first | exact HB.out | apply below_alloc | apply pw_below_drewN | apply below_drew1 | refine below_set ?_ GE104.out) | exact HB.out)⟩⟩
 case round =>
  clear H'
  try clear p2
  try clear c5
  try clear hcz5_0
  try clear hcz5_1
  try clear hcz5_2
  try clear hfz5_0
  try clear hfz5_1
  try clear hfz5_2
  obtain ⟨x14_1, rfl, HA, HK1, BK104, HB⟩ := hrel
  cases gk with
  | zero => exact absurd HA.out (by simp [dyn_Offset.l0])
  | succ k1 =>
   have H := HA.out
   clear HA
   simp only [dyn_Offset.l0] at H
   by_cases c6 : x14_1 < (l0_2.length : Int)
   ·rw [if_pos c6] at H
    have c6b0 : decide (x14_1 < (l0_2.length : Int)) = true := decide_eq_true c6
    clear c6
    by_cases c7 : 0 ≤ x14_1
    ·rw [if_pos c7] at H
     have c7b0 : decide (0 ≤ x14_1) = true := decide_eq_true c7
     clear c7
     by_cases c8 : x14_1 < (l0_2.length : Int)
     ·rw [if_pos c8] at H
      have c8b0 : decide (x14_1 < (l0_2.length : Int)) = true := decide_eq_true c8
      clear c8
      have HC9 := Aside0.mk H
      clear H
      have p105 : 0 ≤ (x14_1 : Int) := of_decide_eq_true (by assumption)
      have q105 : x14_1 < (l0_2.length : Int) := of_decide_eq_true (by assumption)
      obtain ⟨ad105, e105, hx105_0, hx105_1, hx105_2, hx105_3, hx105_4, hx105_5, hx105_6⟩ := at_T29 HR0_2.out x14_1 p105 q105
      cases e105
      replace hx105_0 := (HB.out.cell (World.block_lt_of_cell? w _ hx105_0)).trans hx105_0
      replace hx105_1 := (HB.out.cell (World.block_lt_of_cell? w _ hx105_1)).trans hx105_1
      replace hx105_2 := (HB.out.cell (World.block_lt_of_cell? w _ hx105_2)).trans hx105_2
      replace hx105_3 := (HB.out.cell (World.block_lt_of_cell? w _ hx105_3)).trans hx105_3
      replace hx105_4 := (HB.out.cell (World.block_lt_of_cell? w _ hx105_4)).trans hx105_4
      replace hx105_5 := (HB.out.cell (World.block_lt_of_cell? w _ hx105_5)).trans hx105_5
      replace hx105_6 := (HB.out.cell (World.block_lt_of_cell? w _ hx105_6)).trans hx105_6
      replace p105 := eq_true p105
      replace q105 := eq_true q105
      go_upto_region 4 with (first | ((with_reducible refine gate_dst (N := 9) rfl ?_); refine box_event ?hg (N := 9) ?hd (cs := #[.int .u32 0, .int .u32 0, .int .u64 0, .int .u64 0, .int .u64 0, .int .u64 0, .int .u64 0]) (t := 29) ?hr ?_; (case hd => rfl); (case hg => rfl); (case hr => first | (go_simp; done) | (go_simp; rfl)); intro gb106 hg w10 hbox hb; have n0_ := Aside0.mk (blk_below (g := gb104) (o := .cells #[.int .i64 a0_0, .int .u64 a0_1, .slice (some ad105) l0_2.length c0_2] 32 (0, 0)) (by (with_reducible repeat (first | refine blk_drewN ?_ _ | refine blk_drew ?_ | refine blk_alloc ?_ _)); exact BK104.out) hb); have n1_ := Aside0.mk (below_step (by repeat (first | (with_reducible first | exact HB.out | apply below_alloc | apply pw_below_drewN | apply below_drew1 | refine below_set ?_ GE104.out) | exact HB.out)) hb); have n2_ := Aside0.mk (hbox); have n3_ := Aside0.mk ((by rw [hg]; exact (below_size (by repeat (first | (with_reducible first | exact HB.out | apply below_alloc | apply pw_below_drewN | apply below_drew1 | refine below_set ?_ GE104.out) | exact HB.out))) : w.heap.size ≤ gb106)); have n4_ := Aside0.mk ((by rw [hg]; exact (below_size (by repeat (first | (with_reducible first | exact HB.out | apply below_alloc | apply pw_below_drewN | apply below_drew1 | refine below_set ?_ GE104.out) | exact HB.out))) : w.heap.size ≤ gb106)); have n5_ := Aside0.mk ((by rw [hg]; exact Nat.ne_of_lt (blk_lt (g := gb104) (o := .cells #[.int .i64 a0_0, .int .u64 a0_1, .slice (some ad105) l0_2.length c0_2] 32 (0, 0)) (by (with_reducible repeat (first | refine blk_drewN ?_ _ | refine blk_drew ?_ | refine blk_alloc ?_ _)); exact BK104.out)) : gb104 ≠ gb106)); have n6_ := Aside0.mk ((by rw [hg]; exact Nat.ne_of_gt (blk_lt (g := gb104) (o := .cells #[.int .i64 a0_0, .int .u64 a0_1, .slice (some ad105) l0_2.length c0_2] 32 (0, 0)) (by (with_reducible repeat (first | refine blk_drewN ?_ _ | refine blk_drew ?_ | refine blk_alloc ?_ _)); exact BK104.out)) : gb106 ≠ gb104)); clear BK104; clear HB; have BK104 := n0_; have HB := n1_; have BK106 := n2_; have GW106 := n3_; have GE106 := n4_; have NB104_106 := n5_; have NB106_104 := n6_; clear n0_ n1_ n2_ n3_ n4_ n5_ n6_; clear hb hbox hg; have hnb11 := NB106_104.out; have hnc11 := NB104_106.out; have hcz12_0 : w10.cell? ⟨gb106, 0, none⟩ = some (.int .u32 0) := (blk_cell BK106.out 0).trans rfl; have hcz12_1 : w10.cell? ⟨gb106, 1, none⟩ = some (.int .u32 0) := (blk_cell BK106.out 1).trans rfl; have hcz12_2 : w10.cell? ⟨gb106, 2, none⟩ = some (.int .u64 0) := (blk_cell BK106.out 2).trans rfl; have hcz12_3 : w10.cell? ⟨gb106, 3, none⟩ = some (.int .u64 0) := (blk_cell BK106.out 3).trans rfl; have hcz12_4 : w10.cell? ⟨gb106, 4, none⟩ = some (.int .u64 0) := (blk_cell BK106.out 4).trans rfl; have hcz12_5 : w10.cell? ⟨gb106, 5, none⟩ = some (.int .u64 0) := (blk_cell BK106.out 5).trans rfl; have hcz12_6 : w10.cell? ⟨gb106, 6, none⟩ = some (.int .u64 0) := (blk_cell BK106.out 6).trans rfl; have hfz12_0 := blk_frozen BK106.out 0; have hfz12_1 := blk_frozen BK106.out 1; have hfz12_2 := blk_frozen BK106.out 2; have hfz12_3 := blk_frozen BK106.out 3; have hfz12_4 := blk_frozen BK106.out 4; have hfz12_5 := blk_frozen BK106.out 5; have hfz12_6 := blk_frozen BK106.out 6))
      (try simp only [Act.put, List.setIfInBounds_toArray, List.set_cons_zero, List.set_cons_succ])
      go_cut [26] (fun v26 wc => ∃ (kq : Nat) (x26_8 : Bool), v26 = .bool x26_8 ∧ Aside0 (dyn_Offset.j1 kq a1 a2 l0_2 (l0_2.length : Int) x14_1 x26_8 ((rd_T29 l0_2 x14_1).f0) ((rd_T29 l0_2 x14_1).f1) ((rd_T29 l0_2 x14_1).f2) ((rd_T29 l0_2 x14_1).f3) ((rd_T29 l0_2 x14_1).f4) ((rd_T29 l0_2 x14_1).f5) ((rd_T29 l0_2 x14_1).f6) = some (r1, r2)) ∧ Aside0 (kq ≤ k1) ∧ Aside0 (wc.heap[gb104]? = some (.cells #[.int .i64 a0_0, .int .u64 a0_1, (.slice (some ad105) l0_2.length c0_2)] 32 (0, 0))) ∧ Aside0 (wc.heap[gb106]? = some (.cells #[.int .u32 ((rd_T29 l0_2 x14_1).f0), .int .u32 ((rd_T29 l0_2 x14_1).f1), .int .u64 ((rd_T29 l0_2 x14_1).f2), .int .u64 ((rd_T29 l0_2 x14_1).f3), .int .u64 ((rd_T29 l0_2 x14_1).f4), .int .u64 ((rd_T29 l0_2 x14_1).f5), .int .u64 ((rd_T29 l0_2 x14_1).f6)] 29 (0, 0))) ∧ Aside0 (Below w.heap.size w wc))
      case first =>
       have H := HC9.out
       clear HC9
       by_cases c13 : ((rd_T29 l0_2 x14_1).f0) = 1
       ·rw [if_pos c13] at H
        have c13b0 : (((rd_T29 l0_2 x14_1).f0) == 1) = true := beq_iff_eq.mpr c13
        have c13b1 : (((rd_T29 l0_2 x14_1).f0) != 1) = false := bne_eq_false_iff_eq.mpr c13
        clear c13
        (first | rw [c13b0] | (simp only [i64_w, i32_w]; rw [c13b0]) | skip)
        have H' := Aside0.mk H
        clear H
        have hnb14 := NB106_104.out
        have hnc14 := NB104_106.out
        have hcz15_0 : w10.cell? ⟨gb106, 0, none⟩ = some (.int .u32 0) := (blk_cell BK106.out 0).trans rfl
        have hcz15_1 : w10.cell? ⟨gb106, 1, none⟩ = some (.int .u32 0) := (blk_cell BK106.out 1).trans rfl
        have hcz15_2 : w10.cell? ⟨gb106, 2, none⟩ = some (.int .u64 0) := (blk_cell BK106.out 2).trans rfl
        have hcz15_3 : w10.cell? ⟨gb106, 3, none⟩ = some (.int .u64 0) := (blk_cell BK106.out 3).trans rfl
        have hcz15_4 : w10.cell? ⟨gb106, 4, none⟩ = some (.int .u64 0) := (blk_cell BK106.out 4).trans rfl
        have hcz15_5 : w10.cell? ⟨gb106, 5, none⟩ = some (.int .u64 0) := (blk_cell BK106.out 5).trans rfl
        have hcz15_6 : w10.cell? ⟨gb106, 6, none⟩ = some (.int .u64 0) := (blk_cell BK106.out 6).trans rfl
        have hfz15_0 := blk_frozen BK106.out 0
        have hfz15_1 := blk_frozen BK106.out 1
        have hfz15_2 := blk_frozen BK106.out 2
        have hfz15_3 := blk_frozen BK106.out 3
        have hfz15_4 := blk_frozen BK106.out 4
        have hfz15_5 := blk_frozen BK106.out 5
        have hfz15_6 := blk_frozen BK106.out 6
        go_wp2
        go_meet
        case rel => exact ⟨_, (decide (a1 < ((rd_T29 l0_2 x14_1).f3))), (by first | rfl | (simp; done) | (simp [*]; done)), H', ⟨by have := HK1.out; first | omega | exact Nat.le_refl _⟩, ⟨by (with_reducible repeat (first | refine blk_drewN ?_ _ | refine blk_drew ?_ | refine blk_alloc ?_ _)); refine blk_far ?_ NB104_106.out _; (with_reducible repeat (first | refine blk_drewN ?_ _ | refine blk_drew ?_ | refine blk_alloc ?_ _)); refine blk_far ?_ NB104_106.out _; (with_reducible repeat (first | refine blk_drewN ?_ _ | refine blk_drew ?_ | refine blk_alloc ?_ _)); refine blk_far ?_ NB104_106.out _; (with_reducible repeat (first | refine blk_drewN ?_ _ | refine blk_drew ?_ | refine blk_alloc ?_ _)); refine blk_far ?_ NB104_106.out _; (with_reducible repeat (first | refine blk_drewN ?_ _ | refine blk_drew ?_ | refine blk_alloc ?_ _)); refine blk_far ?_ NB104_106.out _; (with_reducible repeat (first | refine blk_drewN ?_ _ | refine blk_drew ?_ | refine blk_alloc ?_ _)); refine blk_far ?_ NB104_106.out _; (with_reducible repeat (first | refine blk_drewN ?_ _ | refine blk_drew ?_ | refine blk_alloc ?_ _)); refine blk_far ?_ NB104_106.out _; (with_reducible repeat (first | refine blk_drewN ?_ _ | refine blk_drew ?_ | refine blk_alloc ?_ _)); exact BK104.out⟩, ⟨by (with_reducible repeat (first | refine blk_drewN ?_ _ | refine blk_drew ?_ | refine blk_alloc ?_ _)); refine blk_put (cs := #[.int .u32 ((rd_T29 l0_2 x14_1).f0), .int .u32 ((rd_T29 l0_2 x14_1).f1), .int .u64 ((rd_T29 l0_2 x14_1).f2), .int .u64 ((rd_T29 l0_2 x14_1).f3), .int .u64 ((rd_T29 l0_2 x14_1).f4), .int .u64 ((rd_T29 l0_2 x14_1).f5), .int .u64 0]) ?_ 6 _ rfl; (with_reducible repeat (first | refine blk_drewN ?_ _ | refine blk_drew ?_ | refine blk_alloc ?_ _)); refine blk_put (cs := #[.int .u32 ((rd_T29 l0_2 x14_1).f0), .int .u32 ((rd_T29 l0_2 x14_1).f1), .int .u64 ((rd_T29 l0_2 x14_1).f2), .int .u64 ((rd_T29 l0_2 x14_1).f3), .int .u64 ((rd_T29 l0_2 x14_1).f4), .int .u64 0, .int .u64 0]) ?_ 5 _ rfl; (with_reducible repeat (first | refine blk_drewN ?_ _ | refine blk_drew ?_ | refine blk_alloc ?_ _)); refine blk_put (cs := #[.int .u32 ((rd_T29 l0_2 x14_1).f0), .int .u32 ((rd_T29 l0_2 x14_1).f1), .int .u64 ((rd_T29 l0_2 x14_1).f2), .int .u64 ((rd_T29 l0_2 x14_1).f3), .int .u64 0, .int .u64 0, .int .u64 0]) ?_ 4 _ rfl; (with_reducible repeat (first | refine blk_drewN ?_ _ | refine blk_drew ?_ | refine blk_alloc ?_ _)); refine blk_put (cs := #[.int .u32 ((rd_T29 l0_2 x14_1).f0), .int .u32 ((rd_T29 l0_2 x14_1).f1), .int .u64 ((rd_T29 l0_2 x14_1).f2), .int .u64 0, .int .u64 0, .int .u64 0, .int .u64 0]) ?_ 3 _ rfl; (with_reducible repeat (first | refine blk_drewN ?_ _ | refine blk_drew ?_ | refine blk_alloc ?_ _)); refine blk_put (cs := #[.int .u32 ((rd_T29 l0_2 x14_1).f0), .int .u32 ((rd_T29 l0_2 x14_1).f1), .int .u64 0, .int .u64 0, .int .u64 0, .int .u64 0, .int .u64 0]) ?_ 2 _ rfl; (with_reducible repeat (first | refine blk_drewN ?_ _ | refine blk_drew ?_ | refine blk_alloc ?_ _)); refine blk_put (cs := #[.int .u32 ((rd_T29 l0_2 x14_1).f0), .int .u32 0, .int .u64 0, .int .u64 0, .int .u64 0, .int .u64 0, .int .u64 0]) ?_ 1 _ rfl; (with_reducible repeat (first | refine blk_drewN ?_ _ | refine blk_drew ?_ | refine blk_alloc ?_ _)); refine blk_put (cs := #[.int .u32 0, .int .u32 0, .int .u64 0, .int .u64 0, .int .u64 0, .int .u64 0, .int .u64 0]) ?_ 0 _ rfl; (with_reducible repeat (first | refine blk_drewN ?_ _ | refine blk_drew ?_ | refine blk_alloc ?_ _)); exact BK106.out⟩, ⟨by repeat (first | (with_reducible first | exact HB.out | apply below_alloc | apply pw_below_drewN | apply below_drew1 | refine below_set ?_ GE104.out | refine below_set ?_ GE106.out) | exact HB.out)⟩⟩
       ·rw [if_neg c13] at H
        have c13b0 : (((rd_T29 l0_2 x14_1).f0) == 1) = false := beq_eq_false_iff_ne.mpr c13
        have c13b1 : (((rd_T29 l0_2 x14_1).f0) != 1) = true := bne_iff_ne.mpr c13
        (first | rw [c13b0] | (simp only [i64_w, i32_w]; rw [c13b0]) | skip)
        have H' := Aside0.mk H
        clear H
        have hnb16 := NB106_104.out
        have hnc16 := NB104_106.out
        have hcz17_0 : w10.cell? ⟨gb106, 0, none⟩ = some (.int .u32 0) := (blk_cell BK106.out 0).trans rfl
        have hcz17_1 : w10.cell? ⟨gb106, 1, none⟩ = some (.int .u32 0) := (blk_cell BK106.out 1).trans rfl
        have hcz17_2 : w10.cell? ⟨gb106, 2, none⟩ = some (.int .u64 0) := (blk_cell BK106.out 2).trans rfl
        have hcz17_3 : w10.cell? ⟨gb106, 3, none⟩ = some (.int .u64 0) := (blk_cell BK106.out 3).trans rfl
        have hcz17_4 : w10.cell? ⟨gb106, 4, none⟩ = some (.int .u64 0) := (blk_cell BK106.out 4).trans rfl
        have hcz17_5 : w10.cell? ⟨gb106, 5, none⟩ = some (.int .u64 0) := (blk_cell BK106.out 5).trans rfl
        have hcz17_6 : w10.cell? ⟨gb106, 6, none⟩ = some (.int .u64 0) := (blk_cell BK106.out 6).trans rfl
        have hfz17_0 := blk_frozen BK106.out 0
        have hfz17_1 := blk_frozen BK106.out 1
        have hfz17_2 := blk_frozen BK106.out 2
        have hfz17_3 := blk_frozen BK106.out 3
        have hfz17_4 := blk_frozen BK106.out 4
        have hfz17_5 := blk_frozen BK106.out 5
        have hfz17_6 := blk_frozen BK106.out 6
        go_wp2
        go_meet
        case rel => exact ⟨_, (true), (by first | rfl | (simp; done) | (simp [*]; done)), H', ⟨by have := HK1.out; first | omega | exact Nat.le_refl _⟩, ⟨by (with_reducible repeat (first | refine blk_drewN ?_ _ | refine blk_drew ?_ | refine blk_alloc ?_ _)); refine blk_far ?_ NB104_106.out _; (with_reducible repeat (first | refine blk_drewN ?_ _ | refine blk_drew ?_ | refine blk_alloc ?_ _)); refine blk_far ?_ NB104_106.out _; (with_reducible repeat (first | refine blk_drewN ?_ _ | refine blk_drew ?_ | refine blk_alloc ?_ _)); refine blk_far ?_ NB104_106.out _; (with_reducible repeat (first | refine blk_drewN ?_ _ | refine blk_drew ?_ | refine blk_alloc ?_ _)); refine blk_far ?_ NB104_106.out _; (with_reducible repeat (first | refine blk_drewN ?_ _ | refine blk_drew ?_ | refine blk_alloc ?_ _)); refine blk_far ?_ NB104_106.out _; (with_reducible repeat (first | refine blk_drewN ?_ _ | refine blk_drew ?_ | refine blk_alloc ?_ _)); refine blk_far ?_ NB104_106.out _; (with_reducible repeat (first | refine blk_drewN ?_ _ | refine blk_drew ?_ | refine blk_alloc ?_ _)); refine blk_far ?_ NB104_106.out _; (with_reducible repeat (first | refine blk_drewN ?_ _ | refine blk_drew ?_ | refine blk_alloc ?_ _)); exact BK104.out⟩, ⟨by (with_reducible repeat (first | refine blk_drewN ?_ _ | refine blk_drew ?_ | refine blk_alloc ?_ _)); refine blk_put (cs := #[.int .u32 ((rd_T29 l0_2 x14_1).f0), .int .u32 ((rd_T29 l0_2 x14_1).f1), .int .u64 ((rd_T29 l0_2 x14_1).f2), .int .u64 ((rd_T29 l0_2 x14_1).f3), .int .u64 ((rd_T29 l0_2 x14_1).f4), .int .u64 ((rd_T29 l0_2 x14_1).f5), .int .u64 0]) ?_ 6 _ rfl; (with_reducible repeat (first | refine blk_drewN ?_ _ | refine blk_drew ?_ | refine blk_alloc ?_ _)); refine blk_put (cs := #[.int .u32 ((rd_T29 l0_2 x14_1).f0), .int .u32 ((rd_T29 l0_2 x14_1).f1), .int .u64 ((rd_T29 l0_2 x14_1).f2), .int .u64 ((rd_T29 l0_2 x14_1).f3), .int .u64 ((rd_T29 l0_2 x14_1).f4), .int .u64 0, .int .u64 0]) ?_ 5 _ rfl; (with_reducible repeat (first | refine blk_drewN ?_ _ | refine blk_drew ?_ | refine blk_alloc ?_ _)); refine blk_put (cs := #[.int .u32 ((rd_T29 l0_2 x14_1).f0), .int .u32 ((rd_T29 l0_2 x14_1).f1), .int .u64 ((rd_T29 l0_2 x14_1).f2), .int .u64 ((rd_T29 l0_2 x14_1).f3), .int .u64 0, .int .u64 0, .int .u64 0]) ?_ 4 _ rfl; (with_reducible repeat (first | refine blk_drewN ?_ _ | refine blk_drew ?_ | refine blk_alloc ?_ _)); refine blk_put (cs := #[.int .u32 ((rd_T29 l0_2 x14_1).f0), .int .u32 ((rd_T29 l0_2 x14_1).f1), .int .u64 ((rd_T29 l0_2 x14_1).f2), .int .u64 0, .int .u64 0, .int .u64 0, .int .u64 0]) ?_ 3 _ rfl; (with_reducible repeat (first | refine blk_drewN ?_ _ | refine blk_drew ?_ | refine blk_alloc ?_ _)); refine blk_put (cs := #[.int .u32 ((rd_T29 l0_2 x14_1).f0), .int .u32 ((rd_T29 l0_2 x14_1).f1), .int .u64 0, .int .u64 0, .int .u64 0, .int .u64 0, .int .u64 0]) ?_ 2 _ rfl; (with_reducible repeat (first | refine blk_drewN ?_ _ | refine blk_drew ?_ | refine blk_alloc ?_ _)); refine blk_put (cs := #[.int .u32 ((rd_T29 l0_2 x14_1).f0), .int .u32 0, .int .u64 0, .int .u64 0, .int .u64 0, .int .u64 0, .int .u64 0]) ?_ 1 _ rfl; (with_reducible repeat (first | refine blk_drewN ?_ _ | refine blk_drew ?_ | refine blk_alloc ?_ _)); refine blk_put (cs := #[.int .u32 0, .int .u32 0, .int .u64 0, .int .u64 0, .int .u64 0, .int .u64 0, .int .u64 0]) ?_ 0 _ rfl; (with_reducible repeat (first | refine blk_drewN ?_ _ | refine blk_drew ?_ | refine blk_alloc ?_ _)); exact BK106.out⟩, ⟨by repeat (first | (with_reducible first | exact HB.out | apply below_alloc | apply pw_below_drewN | apply below_drew1 | refine below_set ?_ GE104.out | refine below_set ?_ GE106.out) | exact HB.out)⟩⟩
      case rest =>
       clear HC9
       try clear c1
       try clear p1
       try clear q1
       try clear hx1
       try clear p2
       try clear c5
       try clear c6
       try clear c6b0
       try clear c7
       try clear c7b0
       try clear c8
       try clear c8b0
       try clear p10
       try clear q10
       try clear hx10
       try clear c11
       try clear c13
       try clear c13b0
       try clear c13b1
       try clear c14
       try clear c16
       try clear hcz12_0
       try clear hcz12_1
       try clear hcz12_2
       try clear hcz12_3
       try clear hcz12_4
       try clear hcz12_5
       try clear hcz12_6
       try clear hcz15_0
       try clear hcz15_1
       try clear hcz15_2
       try clear hcz15_3
       try clear hcz15_4
       try clear hcz15_5
       try clear hcz15_6
       try clear hcz17_0
       try clear hcz17_1
       try clear hcz17_2
       try clear hcz17_3
       try clear hcz17_4
       try clear hcz17_5
       try clear hcz17_6
       try clear hcz5_0
       try clear hcz5_1
       try clear hcz5_2
       try clear hfz12_0
       try clear hfz12_1
       try clear hfz12_2
       try clear hfz12_3
       try clear hfz12_4
       try clear hfz12_5
       try clear hfz12_6
       try clear hfz15_0
       try clear hfz15_1
       try clear hfz15_2
       try clear hfz15_3
       try clear hfz15_4
       try clear hfz15_5
       try clear hfz15_6
       try clear hfz17_0
       try clear hfz17_1
       try clear hfz17_2
       try clear hfz17_3
       try clear hfz17_4
       try clear hfz17_5
       try clear hfz17_6
       try clear hfz5_0
       try clear hfz5_1
       try clear hfz5_2
       try clear hx105_0
       try clear hx105_1
       try clear hx105_2
       try clear hx105_3
       try clear hx105_4
       try clear hx105_5
       try clear hx105_6
       try clear p105
       try clear p2
       try clear q105
       obtain ⟨kq, x26_8, rfl, HA, HJ8, BK104, BK106, HB⟩ := hcut
       cases kq with
       | zero => exact absurd HA.out (by simp [dyn_Offset.j1])
       | succ kj8 =>
        have H := HA.out
        clear HA
        simp only [dyn_Offset.j1] at H
        by_cases c18 : x26_8 = true
        ·subst c18
         have H1 : (dyn_Offset.l0 kj8 a1 a2 l0_2 (l0_2.length : Int) (wrap64 (x14_1 + 1))) = some (r1, r2) := by rw [if_pos rfl] at H; exact H
         clear H
         have H := H1
         clear H1
         have H' := Aside0.mk H
         clear H
         go_wp2
         go_roundg kj8
         case measure => have := HK1.out; have := HJ8.out; omega
         case rel => exact ⟨(wrap64 (x14_1 + 1)), (by first | rfl | (simp; done) | (simp [*]; done)), H', ⟨by have := HK1.out; have := HJ8.out; omega⟩, ⟨by (with_reducible repeat (first | refine blk_drewN ?_ _ | refine blk_drew ?_ | refine blk_alloc ?_ _)); exact BK104.out⟩, ⟨by repeat (first | (with_reducible first | exact HB.out | apply below_alloc | apply pw_below_drewN | apply below_drew1 | refine below_set ?_ GE104.out | refine below_set ?_ GE106.out) | exact HB.out)⟩⟩
        ·replace c18 := Bool.eq_false_iff.mpr c18
         subst c18
         have H1 : (if (IntKind.u64.wrap (a1 - ((rd_T29 l0_2 x14_1).f3))) > ((rd_T29 l0_2 x14_1).f4) then (dyn_Offset.j2 kj8 a1 a2 (IntKind.u64.wrap (a1 - ((rd_T29 l0_2 x14_1).f3))) l0_2 (l0_2.length : Int) x14_1 true ((rd_T29 l0_2 x14_1).f0) ((rd_T29 l0_2 x14_1).f1) ((rd_T29 l0_2 x14_1).f2) ((rd_T29 l0_2 x14_1).f3) ((rd_T29 l0_2 x14_1).f4) ((rd_T29 l0_2 x14_1).f5) ((rd_T29 l0_2 x14_1).f6)) else (dyn_Offset.j2 kj8 a1 a2 (IntKind.u64.wrap (a1 - ((rd_T29 l0_2 x14_1).f3))) l0_2 (l0_2.length : Int) x14_1 (decide (a2 > (IntKind.u64.wrap (((rd_T29 l0_2 x14_1).f4) - (IntKind.u64.wrap (a1 - ((rd_T29 l0_2 x14_1).f3))))))) ((rd_T29 l0_2 x14_1).f0) ((rd_T29 l0_2 x14_1).f1) ((rd_T29 l0_2 x14_1).f2) ((rd_T29 l0_2 x14_1).f3) ((rd_T29 l0_2 x14_1).f4) ((rd_T29 l0_2 x14_1).f5) ((rd_T29 l0_2 x14_1).f6))) = some (r1, r2) := by rw [if_neg (show ¬ (false = true) by decide)] at H; exact H
         clear H
         have H := H1
         clear H1
         have HC19 := Aside0.mk H
         clear H
         have hnb20 := NB106_104.out
         have hnc20 := NB104_106.out
         have hcz21_0 : wc.cell? ⟨gb106, 0, none⟩ = some (.int .u32 ((rd_T29 l0_2 x14_1).f0)) := (blk_cell BK106.out 0).trans rfl
         have hcz21_1 : wc.cell? ⟨gb106, 1, none⟩ = some (.int .u32 ((rd_T29 l0_2 x14_1).f1)) := (blk_cell BK106.out 1).trans rfl
         have hcz21_2 : wc.cell? ⟨gb106, 2, none⟩ = some (.int .u64 ((rd_T29 l0_2 x14_1).f2)) := (blk_cell BK106.out 2).trans rfl
         have hcz21_3 : wc.cell? ⟨gb106, 3, none⟩ = some (.int .u64 ((rd_T29 l0_2 x14_1).f3)) := (blk_cell BK106.out 3).trans rfl
         have hcz21_4 : wc.cell? ⟨gb106, 4, none⟩ = some (.int .u64 ((rd_T29 l0_2 x14_1).f4)) := (blk_cell BK106.out 4).trans rfl
         have hcz21_5 : wc.cell? ⟨gb106, 5, none⟩ = some (.int .u64 ((rd_T29 l0_2 x14_1).f5)) := (blk_cell BK106.out 5).trans rfl
         have hcz21_6 : wc.cell? ⟨gb106, 6, none⟩ = some (.int .u64 ((rd_T29 l0_2 x14_1).f6)) := (blk_cell BK106.out 6).trans rfl
         have hfz21_0 := blk_frozen BK106.out 0
         have hfz21_1 := blk_frozen BK106.out 1
         have hfz21_2 := blk_frozen BK106.out 2
         have hfz21_3 := blk_frozen BK106.out 3
         have hfz21_4 := blk_frozen BK106.out 4
         have hfz21_5 := blk_frozen BK106.out 5
         have hfz21_6 := blk_frozen BK106.out 6
         go_upto_region 6 with (fail)
         go_cut [42] (fun v42 wc => ∃ (kq : Nat) (x42_18 : Bool), v42 = .bool x42_18 ∧ Aside0 (dyn_Offset.j2 kq a1 a2 (IntKind.u64.wrap (a1 - ((rd_T29 l0_2 x14_1).f3))) l0_2 (l0_2.length : Int) x14_1 x42_18 ((rd_T29 l0_2 x14_1).f0) ((rd_T29 l0_2 x14_1).f1) ((rd_T29 l0_2 x14_1).f2) ((rd_T29 l0_2 x14_1).f3) ((rd_T29 l0_2 x14_1).f4) ((rd_T29 l0_2 x14_1).f5) ((rd_T29 l0_2 x14_1).f6) = some (r1, r2)) ∧ Aside0 (kq ≤ kj8) ∧ Aside0 (wc.heap[gb104]? = some (.cells #[.int .i64 a0_0, .int .u64 a0_1, (.slice (some ad105) l0_2.length c0_2)] 32 (0, 0))) ∧ Aside0 (wc.heap[gb106]? = some (.cells #[.int .u32 ((rd_T29 l0_2 x14_1).f0), .int .u32 ((rd_T29 l0_2 x14_1).f1), .int .u64 ((rd_T29 l0_2 x14_1).f2), .int .u64 ((rd_T29 l0_2 x14_1).f3), .int .u64 ((rd_T29 l0_2 x14_1).f4), .int .u64 ((rd_T29 l0_2 x14_1).f5), .int .u64 ((rd_T29 l0_2 x14_1).f6)] 29 (0, 0))) ∧ Aside0 (Below w.heap.size w wc))
         case first =>
          have H := HC19.out
          clear HC19
          by_cases c22 : (IntKind.u64.wrap (a1 - ((rd_T29 l0_2 x14_1).f3))) > ((rd_T29 l0_2 x14_1).f4)
          ·rw [if_pos c22] at H
           have c22b0 : decide (((rd_T29 l0_2 x14_1).f4) < (IntKind.u64.wrap (a1 - ((rd_T29 l0_2 x14_1).f3)))) = true := decide_eq_true c22
           clear c22
           (first | rw [c22b0] | (simp only [i64_w, i32_w]; rw [c22b0]) | skip)
           have H' := Aside0.mk H
           clear H
           have hnb23 := NB106_104.out
           have hnc23 := NB104_106.out
           have hcz24_0 : wc.cell? ⟨gb106, 0, none⟩ = some (.int .u32 ((rd_T29 l0_2 x14_1).f0)) := (blk_cell BK106.out 0).trans rfl
           have hcz24_1 : wc.cell? ⟨gb106, 1, none⟩ = some (.int .u32 ((rd_T29 l0_2 x14_1).f1)) := (blk_cell BK106.out 1).trans rfl
           have hcz24_2 : wc.cell? ⟨gb106, 2, none⟩ = some (.int .u64 ((rd_T29 l0_2 x14_1).f2)) := (blk_cell BK106.out 2).trans rfl
           have hcz24_3 : wc.cell? ⟨gb106, 3, none⟩ = some (.int .u64 ((rd_T29 l0_2 x14_1).f3)) := (blk_cell BK106.out 3).trans rfl
           have hcz24_4 : wc.cell? ⟨gb106, 4, none⟩ = some (.int .u64 ((rd_T29 l0_2 x14_1).f4)) := (blk_cell BK106.out 4).trans rfl
           have hcz24_5 : wc.cell? ⟨gb106, 5, none⟩ = some (.int .u64 ((rd_T29 l0_2 x14_1).f5)) := (blk_cell BK106.out 5).trans rfl
           have hcz24_6 : wc.cell? ⟨gb106, 6, none⟩ = some (.int .u64 ((rd_T29 l0_2 x14_1).f6)) := (blk_cell BK106.out 6).trans rfl
           have hfz24_0 := blk_frozen BK106.out 0
           have hfz24_1 := blk_frozen BK106.out 1
           have hfz24_2 := blk_frozen BK106.out 2
           have hfz24_3 := blk_frozen BK106.out 3
           have hfz24_4 := blk_frozen BK106.out 4
           have hfz24_5 := blk_frozen BK106.out 5
           have hfz24_6 := blk_frozen BK106.out 6
           go_wp2
           go_meet
           case rel => exact ⟨_, (true), (by first | rfl | (simp; done) | (simp [*]; done)), H', ⟨by have := HK1.out; have := HJ8.out; first | omega | exact Nat.le_refl _⟩, ⟨by (with_reducible repeat (first | refine blk_drewN ?_ _ | refine blk_drew ?_ | refine blk_alloc ?_ _)); exact BK104.out⟩, ⟨by (with_reducible repeat (first | refine blk_drewN ?_ _ | refine blk_drew ?_ | refine blk_alloc ?_ _)); exact BK106.out⟩, ⟨by repeat (first | (with_reducible first | exact HB.out | apply below_alloc | apply pw_below_drewN | apply below_drew1 | refine below_set ?_ GE104.out | refine below_set ?_ GE106.out) | exact HB.out)⟩⟩
          ·rw [if_neg c22] at H
           have c22b0 : decide (((rd_T29 l0_2 x14_1).f4) < (IntKind.u64.wrap (a1 - ((rd_T29 l0_2 x14_1).f3)))) = false := decide_eq_false c22
           clear c22
           (first | rw [c22b0] | (simp only [i64_w, i32_w]; rw [c22b0]) | skip)
           have H' := Aside0.mk H
           clear H
           have hnb25 := NB106_104.out
           have hnc25 := NB104_106.out
           have hcz26_0 : wc.cell? ⟨gb106, 0, none⟩ = some (.int .u32 ((rd_T29 l0_2 x14_1).f0)) := (blk_cell BK106.out 0).trans rfl
           have hcz26_1 : wc.cell? ⟨gb106, 1, none⟩ = some (.int .u32 ((rd_T29 l0_2 x14_1).f1)) := (blk_cell BK106.out 1).trans rfl
           have hcz26_2 : wc.cell? ⟨gb106, 2, none⟩ = some (.int .u64 ((rd_T29 l0_2 x14_1).f2)) := (blk_cell BK106.out 2).trans rfl
           have hcz26_3 : wc.cell? ⟨gb106, 3, none⟩ = some (.int .u64 ((rd_T29 l0_2 x14_1).f3)) := (blk_cell BK106.out 3).trans rfl
           have hcz26_4 : wc.cell? ⟨gb106, 4, none⟩ = some (.int .u64 ((rd_T29 l0_2 x14_1).f4)) := (blk_cell BK106.out 4).trans rfl
           have hcz26_5 : wc.cell? ⟨gb106, 5, none⟩ = some (.int .u64 ((rd_T29 l0_2 x14_1).f5)) := (blk_cell BK106.out 5).trans rfl
           have hcz26_6 : wc.cell? ⟨gb106, 6, none⟩ = some (.int .u64 ((rd_T29 l0_2 x14_1).f6)) := (blk_cell BK106.out 6).trans rfl
           have hfz26_0 := blk_frozen BK106.out 0
           have hfz26_1 := blk_frozen BK106.out 1
           have hfz26_2 := blk_frozen BK106.out 2
           have hfz26_3 := blk_frozen BK106.out 3
           have hfz26_4 := blk_frozen BK106.out 4
           have hfz26_5 := blk_frozen BK106.out 5
           have hfz26_6 := blk_frozen BK106.out 6
           go_wp2
           go_meet
           case rel => exact ⟨_, (decide (a2 > (IntKind.u64.wrap (((rd_T29 l0_2 x14_1).f4) - (IntKind.u64.wrap (a1 - ((rd_T29 l0_2 x14_1).f3))))))), (by first | rfl | (simp; done) | (simp [*]; done)), H', ⟨by have := HK1.out; have := HJ8.out; first | omega | exact Nat.le_refl _⟩, ⟨by (with_reducible repeat (first | refine blk_drewN ?_ _ | refine blk_drew ?_ | refine blk_alloc ?_ _)); exact BK104.out⟩, ⟨by (with_reducible repeat (first | refine blk_drewN ?_ _ | refine blk_drew ?_ | refine blk_alloc ?_ _)); exact BK106.out⟩, ⟨by repeat (first | (with_reducible first | exact HB.out | apply below_alloc | apply pw_below_drewN | apply below_drew1 | refine below_set ?_ GE104.out | refine below_set ?_ GE106.out) | exact HB.out)⟩⟩
         case rest =>
          clear HC19
          try clear c1
          try clear p1
          try clear q1
          try clear hx1
          try clear c2
          try clear p2
          try clear c5
          try clear c6
          try clear c6b0
          try clear p6
          try clear c7
          try clear c7b0
          try clear c8
          try clear c8b0
          try clear p10
          try clear q10
          try clear hx10
          try clear c11
          try clear c13
          try clear c13b0
          try clear c13b1
          try clear c14
          try clear c16
          try clear c18
          try clear c20
          try clear c22
          try clear c22b0
          try clear c23
          try clear c25
          try clear hcz12_0
          try clear hcz12_1
          try clear hcz12_2
          try clear hcz12_3
          try clear hcz12_4
          try clear hcz12_5
          try clear hcz12_6
          try clear hcz15_0
          try clear hcz15_1
          try clear hcz15_2
          try clear hcz15_3
          try clear hcz15_4
          try clear hcz15_5
          try clear hcz15_6
          try clear hcz17_0
          try clear hcz17_1
          try clear hcz17_2
          try clear hcz17_3
          try clear hcz17_4
          try clear hcz17_5
          try clear hcz17_6
          try clear hcz21_0
          try clear hcz21_1
          try clear hcz21_2
          try clear hcz21_3
          try clear hcz21_4
          try clear hcz21_5
          try clear hcz21_6
          try clear hcz24_0
          try clear hcz24_1
          try clear hcz24_2
          try clear hcz24_3
          try clear hcz24_4
          try clear hcz24_5
          try clear hcz24_6
          try clear hcz26_0
          try clear hcz26_1
          try clear hcz26_2
          try clear hcz26_3
          try clear hcz26_4
          try clear hcz26_5
          try clear hcz26_6
          try clear hcz5_0
          try clear hcz5_1
          try clear hcz5_2
          try clear hfz12_0
          try clear hfz12_1
          try clear hfz12_2
          try clear hfz12_3
          try clear hfz12_4
          try clear hfz12_5
          try clear hfz12_6
          try clear hfz15_0
          try clear hfz15_1
          try clear hfz15_2
          try clear hfz15_3
          try clear hfz15_4
          try clear hfz15_5
          try clear hfz15_6
          try clear hfz17_0
          try clear hfz17_1
          try clear hfz17_2
          try clear hfz17_3
          try clear hfz17_4
          try clear hfz17_5
          try clear hfz17_6
          try clear hfz21_0
          try clear hfz21_1
          try clear hfz21_2
          try clear hfz21_3
          try clear hfz21_4
          try clear hfz21_5
          try clear hfz21_6
          try clear hfz24_0
          try clear hfz24_1
          try clear hfz24_2
          try clear hfz24_3
          try clear hfz24_4
          try clear hfz24_5
          try clear hfz24_6
          try clear hfz26_0
          try clear hfz26_1
          try clear hfz26_2
          try clear hfz26_3
          try clear hfz26_4
          try clear hfz26_5
          try clear hfz26_6
          try clear hfz5_0
          try clear hfz5_1
          try clear hfz5_2
          try clear hx105_0
          try clear hx105_1
          try clear hx105_2
          try clear hx105_3
          try clear hx105_4
          try clear hx105_5
          try clear hx105_6
          try clear p1
          try clear p10
          try clear p105
          try clear p2
          try clear q1
          try clear q10
          try clear q105
          obtain ⟨kq, x42_18, rfl, HA, HJ18, BK104, BK106, HB⟩ := hcut
          cases kq with
          | zero => exact absurd HA.out (by simp [dyn_Offset.j2])
          | succ kj18 =>
           have H := HA.out
           clear HA
           simp only [dyn_Offset.j2] at H
           by_cases c27 : x42_18 = true
           ·subst c27
            have H1 : (dyn_Offset.l0 kj18 a1 a2 l0_2 (l0_2.length : Int) (wrap64 (x14_1 + 1))) = some (r1, r2) := by rw [if_pos rfl] at H; exact H
            clear H
            have H := H1
            clear H1
            have H' := Aside0.mk H
            clear H
            go_wp2
            go_roundg kj18
            case measure => have := HK1.out; have := HJ8.out; have := HJ18.out; omega
            case rel => exact ⟨(wrap64 (x14_1 + 1)), (by first | rfl | (simp; done) | (simp [*]; done)), H', ⟨by have := HK1.out; have := HJ8.out; have := HJ18.out; omega⟩, ⟨by (with_reducible repeat (first | refine blk_drewN ?_ _ | refine blk_drew ?_ | refine blk_alloc ?_ _)); exact BK104.out⟩, ⟨by repeat (first | (with_reducible first | exact HB.out | apply below_alloc | apply pw_below_drewN | apply below_drew1 | refine below_set ?_ GE104.out | refine below_set ?_ GE106.out) | exact HB.out)⟩⟩
           ·replace c27 := Bool.eq_false_iff.mpr c27
            subst c27
            have H1 : (if ((rd_T29 l0_2 x14_1).f2) > (IntKind.u64.wrap (18446744073709551615 - (IntKind.u64.wrap (a1 - ((rd_T29 l0_2 x14_1).f3))))) then (some (0, some 4)) else (some (IntKind.u64.wrap (((rd_T29 l0_2 x14_1).f2) + (IntKind.u64.wrap (a1 - ((rd_T29 l0_2 x14_1).f3)))), none))) = some (r1, r2) := by rw [if_neg (show ¬ (false = true) by decide)] at H; exact H
            clear H
            have H := H1
            clear H1
            by_cases c28 : ((rd_T29 l0_2 x14_1).f2) > (IntKind.u64.wrap (18446744073709551615 - (IntKind.u64.wrap (a1 - ((rd_T29 l0_2 x14_1).f3)))))
            ·rw [if_pos c28] at H
             have c28b0 : decide ((IntKind.u64.wrap (18446744073709551615 - (IntKind.u64.wrap (a1 - ((rd_T29 l0_2 x14_1).f3))))) < ((rd_T29 l0_2 x14_1).f2)) = true := decide_eq_true c28
             clear c28
             simp only [Option.some.injEq, Prod.mk.injEq] at H
             obtain ⟨rfl, rfl⟩ := H
             have hnb29 := NB106_104.out
             have hnc29 := NB104_106.out
             have hcz30_0 : wc.cell? ⟨gb106, 0, none⟩ = some (.int .u32 ((rd_T29 l0_2 x14_1).f0)) := (blk_cell BK106.out 0).trans rfl
             have hcz30_1 : wc.cell? ⟨gb106, 1, none⟩ = some (.int .u32 ((rd_T29 l0_2 x14_1).f1)) := (blk_cell BK106.out 1).trans rfl
             have hcz30_2 : wc.cell? ⟨gb106, 2, none⟩ = some (.int .u64 ((rd_T29 l0_2 x14_1).f2)) := (blk_cell BK106.out 2).trans rfl
             have hcz30_3 : wc.cell? ⟨gb106, 3, none⟩ = some (.int .u64 ((rd_T29 l0_2 x14_1).f3)) := (blk_cell BK106.out 3).trans rfl
             have hcz30_4 : wc.cell? ⟨gb106, 4, none⟩ = some (.int .u64 ((rd_T29 l0_2 x14_1).f4)) := (blk_cell BK106.out 4).trans rfl
             have hcz30_5 : wc.cell? ⟨gb106, 5, none⟩ = some (.int .u64 ((rd_T29 l0_2 x14_1).f5)) := (blk_cell BK106.out 5).trans rfl
             have hcz30_6 : wc.cell? ⟨gb106, 6, none⟩ = some (.int .u64 ((rd_T29 l0_2 x14_1).f6)) := (blk_cell BK106.out 6).trans rfl
             have hfz30_0 := blk_frozen BK106.out 0
             have hfz30_1 := blk_frozen BK106.out 1
             have hfz30_2 := blk_frozen BK106.out 2
             have hfz30_3 := blk_frozen BK106.out 3
             have hfz30_4 := blk_frozen BK106.out 4
             have hfz30_5 := blk_frozen BK106.out 5
             have hfz30_6 := blk_frozen BK106.out 6
             go_wp2
             go_ret2
             exact ⟨by first | rfl | (simp [errW_none, errW_some] <;> rfl) | (simp [*, errW_none, errW_some] <;> rfl), by repeat (first | (with_reducible first | exact HB.out | apply below_alloc | apply pw_below_drewN | apply below_drew1 | refine below_set ?_ GE104.out | refine below_set ?_ GE106.out) | exact HB.out)⟩
            ·rw [if_neg c28] at H
             have c28b0 : decide ((IntKind.u64.wrap (18446744073709551615 - (IntKind.u64.wrap (a1 - ((rd_T29 l0_2 x14_1).f3))))) < ((rd_T29 l0_2 x14_1).f2)) = false := decide_eq_false c28
             clear c28
             simp only [Option.some.injEq, Prod.mk.injEq] at H
             obtain ⟨rfl, rfl⟩ := H
             have hnb31 := NB106_104.out
             have hnc31 := NB104_106.out
             have hcz32_0 : wc.cell? ⟨gb106, 0, none⟩ = some (.int .u32 ((rd_T29 l0_2 x14_1).f0)) := (blk_cell BK106.out 0).trans rfl
             have hcz32_1 : wc.cell? ⟨gb106, 1, none⟩ = some (.int .u32 ((rd_T29 l0_2 x14_1).f1)) := (blk_cell BK106.out 1).trans rfl
             have hcz32_2 : wc.cell? ⟨gb106, 2, none⟩ = some (.int .u64 ((rd_T29 l0_2 x14_1).f2)) := (blk_cell BK106.out 2).trans rfl
             have hcz32_3 : wc.cell? ⟨gb106, 3, none⟩ = some (.int .u64 ((rd_T29 l0_2 x14_1).f3)) := (blk_cell BK106.out 3).trans rfl
             have hcz32_4 : wc.cell? ⟨gb106, 4, none⟩ = some (.int .u64 ((rd_T29 l0_2 x14_1).f4)) := (blk_cell BK106.out 4).trans rfl
             have hcz32_5 : wc.cell? ⟨gb106, 5, none⟩ = some (.int .u64 ((rd_T29 l0_2 x14_1).f5)) := (blk_cell BK106.out 5).trans rfl
             have hcz32_6 : wc.cell? ⟨gb106, 6, none⟩ = some (.int .u64 ((rd_T29 l0_2 x14_1).f6)) := (blk_cell BK106.out 6).trans rfl
             have hfz32_0 := blk_frozen BK106.out 0
             have hfz32_1 := blk_frozen BK106.out 1
             have hfz32_2 := blk_frozen BK106.out 2
             have hfz32_3 := blk_frozen BK106.out 3
             have hfz32_4 := blk_frozen BK106.out 4
             have hfz32_5 := blk_frozen BK106.out 5
             have hfz32_6 := blk_frozen BK106.out 6
             go_wp2
             go_ret2
             exact ⟨by first | rfl | (simp [errW_none, errW_some] <;> rfl) | (simp [*, errW_none, errW_some] <;> rfl), by repeat (first | (with_reducible first | exact HB.out | apply below_alloc | apply pw_below_drewN | apply below_drew1 | refine below_set ?_ GE104.out | refine below_set ?_ GE106.out) | exact HB.out)⟩
     ·rw [if_neg c8] at H
      exact absurd H (by simp)
    ·rw [if_neg c7] at H
     exact absurd H (by simp)
   ·rw [if_neg c6] at H
    have c6b0 : decide (x14_1 < (l0_2.length : Int)) = false := decide_eq_false c6
    clear c6
    simp only [Option.some.injEq, Prod.mk.injEq] at H
    obtain ⟨rfl, rfl⟩ := H
    go_wp2
    go_ret2
    exact ⟨by first | rfl | (simp [errW_none, errW_some] <;> rfl) | (simp [*, errW_none, errW_some] <;> rfl), by repeat (first | (with_reducible first | exact HB.out | apply below_alloc | apply pw_below_drewN | apply below_drew1 | refine below_set ?_ GE104.out) | exact HB.out)⟩
def dyn_cut.f (l0 : List Int) (a1 : Int) (a2 : Int) : Option (List Int × Option Int) := if a1 > (IntKind.u64.wrap ((l0.length : Int))) then (some (([] : List Int), some 4)) else (if a2 > (IntKind.u64.wrap ((IntKind.u64.wrap ((l0.length : Int))) - a1)) then (some (([] : List Int), some 4)) else ((some (([] : List Int) : List Int)).bind fun y107 => (if 0 ≤ a1 then (if a1 ≤ (IntKind.u64.wrap (a1 + a2)) then (if (IntKind.u64.wrap (a1 + a2)) ≤ (l0.length : Int) then (if y107.length + ((l0.take ((IntKind.u64.wrap (a1 + a2)) : Int).toNat).drop (a1 : Int).toNat).length < 140737488355328 then (some ((y107 ++ ((l0.take ((IntKind.u64.wrap (a1 + a2)) : Int).toNat).drop (a1 : Int).toNat)), none)) else (none)) else (none)) else (none)) else (none))))
set_option maxHeartbeats 8000000 in
set_option maxRecDepth 100000 in
theorem dyn_cut.calls (A0 : Option Addr) (c0 : Nat) (l0 : List Int) (a1 : Int) (a2 : Int) (r1 : List Int) (r2 : Option Int) (w : World) (hr0 : Kd.C (Kd.int .u8) w A0 l0.length l0) (hc0 : l0.length ≤ c0) (h : dyn_cut.f l0 a1 a2 = some (r1, r2)) :
  Calls Try.prog 56 #[.slice A0 l0.length c0, .int .u64 a1, .int .u64 a2] w fun e w' => ∃ v0_ : Value, e = .returned (.tuple #[v0_, errW r2]) ∧ Kd.R (Kd.int .u8) 5 w' w.heap.size (fun _ => True) v0_ r1 ∧ Below w.heap.size w w' := by
 have hu41 := Try.underlying41
 have hu97 := Try.underlying97
 have HR0 := Aside0.mk hr0
 have HC0 := Aside0.mk hc0
 clear hr0 hc0
 have HB := Aside0.mk (Below.refl w.heap.size w)
 have H : (if a1 > (IntKind.u64.wrap ((l0.length : Int))) then (some (([] : List Int), some 4)) else (if a2 > (IntKind.u64.wrap ((IntKind.u64.wrap ((l0.length : Int))) - a1)) then (some (([] : List Int), some 4)) else ((some (([] : List Int) : List Int)).bind fun y107 => (if 0 ≤ a1 then (if a1 ≤ (IntKind.u64.wrap (a1 + a2)) then (if (IntKind.u64.wrap (a1 + a2)) ≤ (l0.length : Int) then (if y107.length + ((l0.take ((IntKind.u64.wrap (a1 + a2)) : Int).toNat).drop (a1 : Int).toNat).length < 140737488355328 then (some ((y107 ++ ((l0.take ((IntKind.u64.wrap (a1 + a2)) : Int).toNat).drop (a1 : Int).toNat)), none)) else (none)) else (none)) else (none)) else (none))))) = some (r1, r2) := h
 clear h
 by_cases c4 : a1 > (IntKind.u64.wrap ((l0.length : Int)))
 ·rw [if_pos c4] at H
  have c4b0 : decide ((IntKind.u64.wrap ((l0.length : Int))) < a1) = true := decide_eq_true c4
  clear c4
  simp only [Option.some.injEq, Prod.mk.injEq] at H
  obtain ⟨rfl, rfl⟩ := H
  go_enter Try.func56, Try.ntmps56
  go_wp2
  go_ret2
  exact ⟨_, by first | rfl | (simp [errW_none, errW_some] <;> rfl) | (simp [*, errW_none, errW_some] <;> rfl), by first | exact Kd.R_nil _ _ _ _ _ | exact Kd.N_nil _ _ _ _ _ | exact Kd.V_nil _ _ _ _ _ | exact Kd.Q_nil _ _ _ _ _ | exact Kd.S_nil _ _ _ _ _, by repeat (first | (with_reducible first | exact HB.out | apply below_alloc | apply pw_below_drewN | apply below_drew1) | exact HB.out)⟩
 ·rw [if_neg c4] at H
  have c4b0 : decide ((IntKind.u64.wrap ((l0.length : Int))) < a1) = false := decide_eq_false c4
  clear c4
  by_cases c5 : a2 > (IntKind.u64.wrap ((IntKind.u64.wrap ((l0.length : Int))) - a1))
  ·rw [if_pos c5] at H
   have c5b0 : decide ((IntKind.u64.wrap ((IntKind.u64.wrap ((l0.length : Int))) - a1)) < a2) = true := decide_eq_true c5
   clear c5
   simp only [Option.some.injEq, Prod.mk.injEq] at H
   obtain ⟨rfl, rfl⟩ := H
   go_enter Try.func56, Try.ntmps56
   go_wp2
   go_ret2
   exact ⟨_, by first | rfl | (simp [errW_none, errW_some] <;> rfl) | (simp [*, errW_none, errW_some] <;> rfl), by first | exact Kd.R_nil _ _ _ _ _ | exact Kd.N_nil _ _ _ _ _ | exact Kd.V_nil _ _ _ _ _ | exact Kd.Q_nil _ _ _ _ _ | exact Kd.S_nil _ _ _ _ _, by repeat (first | (with_reducible first | exact HB.out | apply below_alloc | apply pw_below_drewN | apply below_drew1) | exact HB.out)⟩
  ·rw [if_neg c5] at H
   have c5b0 : decide ((IntKind.u64.wrap ((IntKind.u64.wrap ((l0.length : Int))) - a1)) < a2) = false := decide_eq_false c5
   clear c5
   obtain ⟨y107, hy107⟩ : ∃ y_ : List Int, y_ = (([] : List Int)) := ⟨_, rfl⟩
   replace H : (if 0 ≤ a1 then (if a1 ≤ (IntKind.u64.wrap (a1 + a2)) then (if (IntKind.u64.wrap (a1 + a2)) ≤ (l0.length : Int) then (if y107.length + ((l0.take ((IntKind.u64.wrap (a1 + a2)) : Int).toNat).drop (a1 : Int).toNat).length < 140737488355328 then (some ((y107 ++ ((l0.take ((IntKind.u64.wrap (a1 + a2)) : Int).toNat).drop (a1 : Int).toNat)), none)) else (none)) else (none)) else (none)) else (none)) = some (r1, r2) := by first | (rw [hy107]; with_reducible exact H) | (have H2_ := (Option.bind_some _ _).symm.trans H; rw [hy107]; with_reducible exact H2_) | (have H2_ := (Option.bind_some _ _).symm.trans H; with_reducible exact H2_) | with_reducible exact H | (rw [hy107]; exact H) | exact H
   have Ny107 := Aside0.mk hy107
   clear hy107
   by_cases c6 : 0 ≤ a1
   ·rw [if_pos c6] at H
    have c6b0 := eq_true c6
    have c6b1 : decide (0 ≤ a1) = true := decide_eq_true c6
    clear c6
    by_cases c7 : a1 ≤ (IntKind.u64.wrap (a1 + a2))
    ·rw [if_pos c7] at H
     have c7b0 := eq_true c7
     have c7b1 : decide (a1 ≤ (IntKind.u64.wrap (a1 + a2))) = true := decide_eq_true c7
     by_cases c8 : (IntKind.u64.wrap (a1 + a2)) ≤ (l0.length : Int)
     ·rw [if_pos c8] at H
      have c8b0 := eq_true c8
      have c8b1 : decide ((IntKind.u64.wrap (a1 + a2)) ≤ (l0.length : Int)) = true := decide_eq_true c8
      by_cases c9 : y107.length + ((l0.take ((IntKind.u64.wrap (a1 + a2)) : Int).toNat).drop (a1 : Int).toNat).length < 140737488355328
      ·rw [if_pos c9] at H
       have LMc9 := Aside0.mk c9
       clear c9
       obtain ⟨y111, hy111⟩ : ∃ y_ : List Int, y_ = (y107 ++ ((l0.take ((IntKind.u64.wrap (a1 + a2)) : Int).toNat).drop (a1 : Int).toNat)) := ⟨_, rfl⟩
       replace H : (some (y111, none)) = some (r1, r2) := by first | (rw [hy111]; with_reducible exact H) | (have H2_ := (Option.bind_some _ _).symm.trans H; rw [hy111]; with_reducible exact H2_) | (have H2_ := (Option.bind_some _ _).symm.trans H; with_reducible exact H2_) | with_reducible exact H | (rw [hy111]; exact H) | exact H
       have Ny111 := Aside0.mk hy111
       clear hy111
       simp only [Option.some.injEq, Prod.mk.injEq] at H
       obtain ⟨rfl, rfl⟩ := H
       go_enter Try.func56, Try.ntmps56
       go_wp2_with (first | ((with_reducible refine gate_dst (N := 23) rfl ?_); (try (refine gate_guard (by rfl) ?_; dsimp only)); refine Kd.R_lit (Kd.int .u8) _ 5 ?hg (N := 23) ?hd (xs := ([] : List Int)) (inner := []) (ok := fun _ => True) (okp := fun _ => True) ?hr ?hp (fun _ hk => hk) trivial (Below.refl _ _) (Nat.le_refl _) (by simp) ?_; (case hd => rfl); (case hg => rfl); (case hr => first | (go_simp; done) | (go_simp; rfl)); (case hp => exact (Reps.none _ _)); intro v108 w10 ho11 hb hg_ hnew_; clear hg_ hnew_; (first | rw [← Ny107.out] at ho11 | (simp only [Int.reduceToNat] at ho11; rw [← Ny107.out] at ho11)); have n0_ := Aside0.mk (Kd.R_lower ho11 (below_size (by repeat (first | (with_reducible first | exact HB.out | apply below_alloc | apply pw_below_drewN | apply below_drew1) | exact HB.out)))); have n1_ := Aside0.mk (below_step (by repeat (first | (with_reducible first | exact HB.out | apply below_alloc | apply pw_below_drewN | apply below_drew1) | exact HB.out)) hb); clear HB; have HO109 := n0_; have HB := n1_; clear n0_ n1_; clear hb ho11; obtain ⟨i012, hi012, _, hsz12, _⟩ := info_parts info5; obtain ⟨A12, hcut12, hA12, hC12⟩ := print_mid_of (P := Try.prog) (Value.int .u8) 0 24 5 .u64 .u64 Try.underlying24 hi012 hsz12 A0 c0 l0 a1 (IntKind.u64.wrap (a1 + a2)) (of_decide_eq_true (by assumption)) (by first | omega | exact of_decide_eq_true (by assumption)) (of_decide_eq_true (by assumption)) HC0.out; have HR110 := Aside0.mk (Kd.C_of_reads (h1 := fun _ => rfl) (hA12 _ (Kd.reads_of_C HR0.out))); have HC110 := Aside0.mk hC12; clear hA12 hC12 hi012 hsz12) | ((with_reducible refine gate_builtin (b := .append) (xs := #[.tmp 23, .tmp 29]) rfl ?_); (try (refine gate_guard (by rfl) ?_; dsimp only)); at_builtin; refine Kd.R_append_rows (Kd.int .u8) (w0 := w) w.heap.size rfl (.tmp 23) (.tmp 29) 24 5 (.int .u8 0) 1 rfl Try.underlying24 info5 rfl (by decide) (by omega) v108 y107 ((l0.take ((IntKind.u64.wrap (a1 + a2)) : Int).toNat).drop (a1 : Int).toNat) _ _ _ (fun _ => True) (fun _ => False) rfl rfl ?aO ?aR (fun _ _ h => h) (fun _ h => h.elim) ?aF ?aB ?aS ?aL ?_; (case aR => first | (rw [← show ((l0.take ((IntKind.u64.wrap (a1 + a2)) : Int).toNat).drop (a1 : Int).toNat).length = ((IntKind.u64.wrap (a1 + a2)).toNat - a1.toNat) from (by rw [List.length_drop, List.length_take]; have h_ : ((IntKind.u64.wrap (a1 + a2)) : Int) ≤ (l0.length : Int) := of_decide_eq_true (by assumption); omega)]; repeat (first | exact (Kd.C_below HR110.out HB.out) | (with_reducible refine Kd.C_alloc ?_ _) | (with_reducible refine Kd.C_drewN ?_ _) | (with_reducible refine Kd.C_drew ?_))) | (repeat (first | exact (Kd.C_below HR110.out HB.out) | (with_reducible refine Kd.C_alloc ?_ _) | (with_reducible refine Kd.C_drewN ?_ _) | (with_reducible refine Kd.C_drew ?_)))); (case aB => exact (by repeat (first | (with_reducible first | exact HB.out | apply below_alloc | apply pw_below_drewN | apply below_drew1) | exact HB.out))); (case aF => exact (fun _ _ => trivial)); (case aO => exact (by (with_reducible repeat (first | apply Kd.R_alloc | apply Kd.R_drewN | apply Kd.R_drew)); exact HO109.out)); (case aS => exact (below_size (by repeat (first | (with_reducible first | exact HB.out | apply below_alloc | apply pw_below_drewN | apply below_drew1) | exact HB.out)))); (case aL => have := LMc9.out; have hlx_ := (show ((l0.take ((IntKind.u64.wrap (a1 + a2)) : Int).toNat).drop (a1 : Int).toNat).length = ((IntKind.u64.wrap (a1 + a2)).toNat - a1.toNat) from (by rw [List.length_drop, List.length_take]; have h_ : ((IntKind.u64.wrap (a1 + a2)) : Int) ≤ (l0.length : Int) := of_decide_eq_true (by assumption); omega)); omega); intro v112 w13 ho hb hg hat; rw [← Ny111.out] at ho; have n0_ := Aside0.mk (hb); have n1_ := Aside0.mk (ho); clear HB; clear HO109; have HB := n0_; have HO113 := n1_; clear n0_ n1_; clear ho hb hg hat))
       go_ret2
       exact ⟨_, by first | rfl | (simp [errW_none, errW_some] <;> rfl) | (simp [*, errW_none, errW_some] <;> rfl), by (with_reducible repeat (first | apply Kd.R_alloc | apply Kd.R_drewN | apply Kd.R_drew)); exact HO113.out, by repeat (first | (with_reducible first | exact HB.out | apply below_alloc | apply pw_below_drewN | apply below_drew1) | exact HB.out)⟩
      ·rw [if_neg c9] at H
       exact absurd H (by simp)
     ·rw [if_neg c8] at H
      exact absurd H (by simp)
    ·rw [if_neg c7] at H
     exact absurd H (by simp)
   ·rw [if_neg c6] at H
    exact absurd H (by simp)
def dyn_Slice.f (k : Nat) (l0 : List Int) (a1_0 : Int) (a1_1 : Int) (l1_2 : List (S29)) (a2 : Int) (a3 : Int) : Option (List Int × Option Int) := (dyn_Offset.f k a1_0 a1_1 l1_2 a2 a3).bind fun bt115 => (if bt115.2.isNone = true then ((dyn_cut.f l0 bt115.1 a3).bind fun bt118 => (some (bt118.1, bt118.2))) else (some (([] : List Int), some (bt115.2.getD 0))))
theorem dyn_Slice.mono : ∀ a0 a1 a2 a3 a4 a5 k, LeO (dyn_Slice.f k a0 a1 a2 a3 a4 a5) (dyn_Slice.f (k + 1) a0 a1 a2 a3 a4 a5) := by
 intro a0 a1 a2 a3 a4 a5 k
 unfold dyn_Slice.f
 repeat' first
   | (with_reducible exact dyn_Offset.mono _ _ _ _ _ _)
   | (with_reducible exact LeO.refl _)
   | (with_reducible exact LeO.none _)
   | (with_reducible refine LeO.ite ?_ ?_)
   | (with_reducible refine LeO.bind ?_ (fun _ => ?_))
   | exact dyn_Offset.mono _ _ _ _ _ _
   | exact LeO.none _
   | refine LeO.ite ?_ ?_
   | refine LeO.bind ?_ (fun _ => ?_)
set_option maxHeartbeats 8000000 in
set_option maxRecDepth 100000 in
theorem dyn_Slice.calls (k : Nat) (A0 : Option Addr) (c0 : Nat) (l0 : List Int) (a1_0 : Int) (a1_1 : Int) (A1_2 : Option Addr) (c1_2 : Nat) (l1_2 : List (S29)) (a2 : Int) (a3 : Int) (r1 : List Int) (r2 : Option Int) (w : World) (hr0 : Kd.C (Kd.int .u8) w A0 l0.length l0) (hc0 : l0.length ≤ c0) (hr1_2 : Kd.C k29 w A1_2 l1_2.length l1_2) (hc1_2 : l1_2.length ≤ c1_2) (h : dyn_Slice.f k l0 a1_0 a1_1 l1_2 a2 a3 = some (r1, r2)) :
  Calls Try.prog 36 #[.slice A0 l0.length c0, .agg #[.int .i64 a1_0, .int .u64 a1_1, .slice A1_2 l1_2.length c1_2], .int .u64 a2, .int .u64 a3] w fun e w' => ∃ v0_ : Value, e = .returned (.tuple #[v0_, errW r2]) ∧ Kd.V (Kd.int .u8) 5 w' w.heap.size (fun k_ => (w.heap.size ≤ k_)) v0_ r1 ∧ Below w.heap.size w w' := by
 have hu32 := Try.underlying32
 have hu41 := Try.underlying41
 have hu97 := Try.underlying97
 have HR0 := Aside0.mk hr0
 have HC0 := Aside0.mk hc0
 clear hr0 hc0
 have HR1_2 := Aside0.mk hr1_2
 have HC1_2 := Aside0.mk hc1_2
 clear hr1_2 hc1_2
 have HB := Aside0.mk (Below.refl w.heap.size w)
 have H : ((dyn_Offset.f k a1_0 a1_1 l1_2 a2 a3).bind fun bt115 => (if bt115.2.isNone = true then ((dyn_cut.f l0 bt115.1 a3).bind fun bt118 => (some (bt118.1, bt118.2))) else (some (([] : List Int), some (bt115.2.getD 0))))) = some (r1, r2) := h
 clear h
 replace H := Option.bind_eq_some_iff.mp H
 obtain ⟨⟨t115, t116⟩, A50, H⟩ := H
 replace H : (if t116.isNone = true then ((dyn_cut.f l0 t115 a3).bind fun bt118 => (some (bt118.1, bt118.2))) else (some (([] : List Int), some (t116.getD 0)))) = some (r1, r2) := H
 have A5 := Aside0.mk A50
 clear A50
 rcases t116 with _ | q117
 ·have H1 : ((dyn_cut.f l0 t115 a3).bind fun bt118 => (some (bt118.1, bt118.2))) = some (r1, r2) := by rw [if_pos (show (none : Option Int).isNone = true by rfl)] at H; exact H
  clear H
  have H := H1
  clear H1
  try simp only [errW_none, errW_some]
  replace H := Option.bind_eq_some_iff.mp H
  obtain ⟨⟨t118, t119⟩, A60, H⟩ := H
  replace H : (some (t118, t119)) = some (r1, r2) := H
  have A6 := Aside0.mk A60
  clear A60
  simp only [Option.some.injEq, Prod.mk.injEq] at H
  obtain ⟨rfl, rfl⟩ := H
  go_enter Try.func36, Try.ntmps36
  go_wp2_with (first | ((with_reducible refine gate_dst (N := 5) rfl ?_); refine box_event ?hg (N := 5) ?hd (cs := #[.int .i64 a1_0, .int .u64 a1_1, .slice A1_2 l1_2.length c1_2]) (t := 32) ?hr ?_; (case hd => rfl); (case hg => rfl); (case hr => first | (go_simp; done) | (go_simp; rfl)); intro gb114 hg w7 hbox hb; have n0_ := Aside0.mk (below_step (by repeat (first | (with_reducible first | exact HB.out | apply below_alloc | apply pw_below_drewN | apply below_drew1) | exact HB.out)) hb); have n1_ := Aside0.mk (hbox); have n2_ := Aside0.mk ((by rw [hg]; exact (below_size (by repeat (first | (with_reducible first | exact HB.out | apply below_alloc | apply pw_below_drewN | apply below_drew1) | exact HB.out))) : w.heap.size ≤ gb114)); have n3_ := Aside0.mk ((by rw [hg]; exact (below_size (by repeat (first | (with_reducible first | exact HB.out | apply below_alloc | apply pw_below_drewN | apply below_drew1) | exact HB.out))) : w.heap.size ≤ gb114)); clear HB; have HB := n0_; have BK114 := n1_; have GW114 := n2_; have GE114 := n3_; clear n0_ n1_ n2_ n3_; clear hb hbox hg; have hcz8_0 : w7.cell? ⟨gb114, 0, none⟩ = some (.int .i64 a1_0) := (blk_cell BK114.out 0).trans rfl; have hcz8_1 : w7.cell? ⟨gb114, 1, none⟩ = some (.int .u64 a1_1) := (blk_cell BK114.out 1).trans rfl; have hcz8_2 : w7.cell? ⟨gb114, 2, none⟩ = some (.slice A1_2 l1_2.length c1_2) := (blk_cell BK114.out 2).trans rfl; have hfz8_0 := blk_frozen BK114.out 0; have hfz8_1 := blk_frozen BK114.out 1; have hfz8_2 := blk_frozen BK114.out 2) | ((with_reducible refine gate_callee (f := 55) rfl ?_); refine goesL_ (some 16) rfl rfl Try.func55 (by kernel_rfl) rfl #[.agg #[.int .i64 a1_0, .int .u64 a1_1, .slice A1_2 l1_2.length c1_2], .int .u64 a2, .int .u64 a3] rfl (by (try simp only [List.map_toArray, List.map_cons, List.map_nil]); first | done | rfl | (simp only [List.length_drop, List.length_take]; rfl)) ?_; (with_reducible refine (dyn_Offset.calls k a1_0 a1_1 _ _ l1_2 a2 a3 t115 none _ ?side1 ?side2 A5.out).mono ?_); (case side1 => repeat (first | exact (Kd.C_below HR1_2.out HB.out) | (with_reducible refine Kd.C_alloc ?_ _) | (with_reducible refine Kd.C_drewN ?_ _) | (with_reducible refine Kd.C_drew ?_))); (case side2 => exact HC1_2.out); rintro e w9 ⟨rfl, hb⟩; refine ⟨_, rfl, ?_⟩; have n0_ := Aside0.mk (blk_below (g := gb114) (o := .cells #[.int .i64 a1_0, .int .u64 a1_1, .slice A1_2 l1_2.length c1_2] 32 (0, 0)) (by (with_reducible repeat (first | refine blk_drewN ?_ _ | refine blk_drew ?_ | refine blk_alloc ?_ _)); exact BK114.out) hb); have n1_ := Aside0.mk (below_step (by repeat (first | (with_reducible first | exact HB.out | apply below_alloc | apply pw_below_drewN | apply below_drew1 | refine below_set ?_ GE114.out) | exact HB.out)) hb); clear BK114; clear HB; have BK114 := n0_; have HB := n1_; clear n0_ n1_; (try clear hb); (try clear hb2); (try clear hk); (try clear hi); (try simp only [errW_none, errW_some])) | ((with_reducible refine gate_callee (f := 56) rfl ?_); refine goesL_ (some 25) rfl rfl Try.func56 (by kernel_rfl) rfl #[.slice A0 l0.length c0, .int .u64 t115, .int .u64 a3] rfl (by (try simp only [List.map_toArray, List.map_cons, List.map_nil]); first | done | rfl | (simp only [List.length_drop, List.length_take]; rfl)) ?_; (with_reducible refine (dyn_cut.calls _ _ l0 t115 a3 t118 t119 _ ?side1 ?side2 A6.out).mono ?_); (case side1 => repeat (first | exact (Kd.C_below HR0.out HB.out) | (with_reducible refine Kd.C_alloc ?_ _) | (with_reducible refine Kd.C_drewN ?_ _) | (with_reducible refine Kd.C_drew ?_))); (case side2 => exact HC0.out); rintro e w10 ⟨v120, rfl, ho0, hb⟩; refine ⟨_, rfl, ?_⟩; have n0_ := Aside0.mk (Kd.R_lower (Kd.R_newM (M := fun k_ => (w.heap.size ≤ k_)) ho0 (below_size (by repeat (first | (with_reducible first | exact HB.out | apply below_alloc | apply pw_below_drewN | apply below_drew1 | refine below_set ?_ GE114.out) | exact HB.out))) (fun k_ h_ => h_)) (below_size (by repeat (first | (with_reducible first | exact HB.out | apply below_alloc | apply pw_below_drewN | apply below_drew1 | refine below_set ?_ GE114.out) | exact HB.out)))); have n1_ := Aside0.mk (blk_below (g := gb114) (o := .cells #[.int .i64 a1_0, .int .u64 a1_1, .slice A1_2 l1_2.length c1_2] 32 (0, 0)) (by (with_reducible repeat (first | refine blk_drewN ?_ _ | refine blk_drew ?_ | refine blk_alloc ?_ _)); exact BK114.out) hb); have n2_ := Aside0.mk (below_step (by repeat (first | (with_reducible first | exact HB.out | apply below_alloc | apply pw_below_drewN | apply below_drew1 | refine below_set ?_ GE114.out) | exact HB.out)) hb); clear BK114; clear HB; have HO121 := n0_; have BK114 := n1_; have HB := n2_; clear n0_ n1_ n2_; (try clear hb); (try clear hb2); (try clear hk); (try clear hi); (try clear ho0); (try simp only [errW_none, errW_some])))
  go_ret2
  exact ⟨_, by first | rfl | (simp [errW_none, errW_some] <;> rfl) | (simp [*, errW_none, errW_some] <;> rfl), Kd.R_V (by (with_reducible repeat (first | apply Kd.R_alloc | apply Kd.R_drewN | apply Kd.R_drew)); exact Kd.R_mono HO121.out (fun _ hk => hk.1)), by repeat (first | (with_reducible first | exact HB.out | apply below_alloc | apply pw_below_drewN | apply below_drew1 | refine below_set ?_ GE114.out) | exact HB.out)⟩
 ·have H1 : (some (([] : List Int), some q117)) = some (r1, r2) := by rw [if_neg (show ¬ (some q117).isNone = true by simp)] at H; exact H
  clear H
  have H := H1
  clear H1
  try simp only [errW_none, errW_some]
  simp only [Option.some.injEq, Prod.mk.injEq] at H
  obtain ⟨rfl, rfl⟩ := H
  go_enter Try.func36, Try.ntmps36
  go_wp2_with (first | ((with_reducible refine gate_dst (N := 5) rfl ?_); refine box_event ?hg (N := 5) ?hd (cs := #[.int .i64 a1_0, .int .u64 a1_1, .slice A1_2 l1_2.length c1_2]) (t := 32) ?hr ?_; (case hd => rfl); (case hg => rfl); (case hr => first | (go_simp; done) | (go_simp; rfl)); intro gb114 hg w11 hbox hb; have n0_ := Aside0.mk (below_step (by repeat (first | (with_reducible first | exact HB.out | apply below_alloc | apply pw_below_drewN | apply below_drew1) | exact HB.out)) hb); have n1_ := Aside0.mk (hbox); have n2_ := Aside0.mk ((by rw [hg]; exact (below_size (by repeat (first | (with_reducible first | exact HB.out | apply below_alloc | apply pw_below_drewN | apply below_drew1) | exact HB.out))) : w.heap.size ≤ gb114)); have n3_ := Aside0.mk ((by rw [hg]; exact (below_size (by repeat (first | (with_reducible first | exact HB.out | apply below_alloc | apply pw_below_drewN | apply below_drew1) | exact HB.out))) : w.heap.size ≤ gb114)); clear HB; have HB := n0_; have BK114 := n1_; have GW114 := n2_; have GE114 := n3_; clear n0_ n1_ n2_ n3_; clear hb hbox hg; have hcz12_0 : w11.cell? ⟨gb114, 0, none⟩ = some (.int .i64 a1_0) := (blk_cell BK114.out 0).trans rfl; have hcz12_1 : w11.cell? ⟨gb114, 1, none⟩ = some (.int .u64 a1_1) := (blk_cell BK114.out 1).trans rfl; have hcz12_2 : w11.cell? ⟨gb114, 2, none⟩ = some (.slice A1_2 l1_2.length c1_2) := (blk_cell BK114.out 2).trans rfl; have hfz12_0 := blk_frozen BK114.out 0; have hfz12_1 := blk_frozen BK114.out 1; have hfz12_2 := blk_frozen BK114.out 2) | ((with_reducible refine gate_callee (f := 55) rfl ?_); refine goesL_ (some 16) rfl rfl Try.func55 (by kernel_rfl) rfl #[.agg #[.int .i64 a1_0, .int .u64 a1_1, .slice A1_2 l1_2.length c1_2], .int .u64 a2, .int .u64 a3] rfl (by (try simp only [List.map_toArray, List.map_cons, List.map_nil]); first | done | rfl | (simp only [List.length_drop, List.length_take]; rfl)) ?_; (with_reducible refine (dyn_Offset.calls k a1_0 a1_1 _ _ l1_2 a2 a3 t115 (some q117) _ ?side1 ?side2 A5.out).mono ?_); (case side1 => repeat (first | exact (Kd.C_below HR1_2.out HB.out) | (with_reducible refine Kd.C_alloc ?_ _) | (with_reducible refine Kd.C_drewN ?_ _) | (with_reducible refine Kd.C_drew ?_))); (case side2 => exact HC1_2.out); rintro e w13 ⟨rfl, hb⟩; refine ⟨_, rfl, ?_⟩; have n0_ := Aside0.mk (blk_below (g := gb114) (o := .cells #[.int .i64 a1_0, .int .u64 a1_1, .slice A1_2 l1_2.length c1_2] 32 (0, 0)) (by (with_reducible repeat (first | refine blk_drewN ?_ _ | refine blk_drew ?_ | refine blk_alloc ?_ _)); exact BK114.out) hb); have n1_ := Aside0.mk (below_step (by repeat (first | (with_reducible first | exact HB.out | apply below_alloc | apply pw_below_drewN | apply below_drew1 | refine below_set ?_ GE114.out) | exact HB.out)) hb); clear BK114; clear HB; have BK114 := n0_; have HB := n1_; clear n0_ n1_; (try clear hb); (try clear hb2); (try clear hk); (try clear hi); (try simp only [errW_none, errW_some])))
  go_ret2
  exact ⟨_, by first | rfl | (simp [errW_none, errW_some] <;> rfl) | (simp [*, errW_none, errW_some] <;> rfl), Kd.V_nil _ _ _ _ _, by repeat (first | (with_reducible first | exact HB.out | apply below_alloc | apply pw_below_drewN | apply below_drew1 | refine below_set ?_ GE114.out) | exact HB.out)⟩
end Go.Proofs.Ythopdoamajjojaa.QBindF
