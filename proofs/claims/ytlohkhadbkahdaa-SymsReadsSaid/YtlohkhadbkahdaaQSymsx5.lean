-- Laid by wip/hook.py (this session's own program) out of the translation; with contracts that were written by hand.
import Derived.Test.YtlohkhadbkahdaaQSymsx0
import Derived.Test.YtlohkhadbkahdaaQSymsx4
namespace Go.Proofs.Ytlohkhadbkahdaa.QSyms
open Go.RowKit Go.Proofs.YtlohkhadbkahdaaW.PrintWords Go.Proofs.YtlohkhadbkahdaaW.PrintLast Go.Proofs.YtlohkhadbkahdaaW.PrintMore
attribute [local go_sem] max2_int min2_int max_two min_two max_three min_three max_four min_four   -- for this text's walks alone
set_option linter.unusedVariables false
set_option linter.unusedSimpArgs false

attribute [local go_sem] eqErr_ii neErr_ii eqErr_ni neErr_ni
/-! ### shackleref05_Slice: function 47 -/
def shackleref05_Slice.f (k : Nat) (l0 : List Int) (a1_0 : Int) (a1_1 : Int) (l1_2 : List (S95)) (a2 : Int) (a3 : Int) : Option (List Int × Int) := (shackleref05_Offset.f k a1_0 a1_1 l1_2 a2 a3).bind fun bt143 => (if bt143.2 = 0 then ((shackleref05_Cut.f l0 bt143.1 a3).bind fun bt145 => (if bt145.2 = true then (some (bt145.1, 0)) else (some (([] : List Int), 4)))) else (some (([] : List Int), 4)))
theorem shackleref05_Slice.mono : ∀ a0 a1 a2 a3 a4 a5 k, LeO (shackleref05_Slice.f k a0 a1 a2 a3 a4 a5) (shackleref05_Slice.f (k + 1) a0 a1 a2 a3 a4 a5) := by
 intro a0 a1 a2 a3 a4 a5 k
 unfold shackleref05_Slice.f
 repeat' first
   | (with_reducible exact shackleref05_Offset.mono _ _ _ _ _ _)
   | (with_reducible exact LeO.refl _)
   | (with_reducible exact LeO.none _)
   | (with_reducible refine LeO.ite ?_ ?_)
   | (with_reducible refine LeO.bind ?_ (fun _ => ?_))
   | exact shackleref05_Offset.mono _ _ _ _ _ _
   | exact LeO.none _
   | refine LeO.ite ?_ ?_
   | refine LeO.bind ?_ (fun _ => ?_)
set_option maxHeartbeats 8000000 in
set_option maxRecDepth 100000 in
theorem shackleref05_Slice.calls (k : Nat) (P0_ : Nat → Prop) (A0 : Option Addr) (c0 : Nat) (l0 : List Int) (a1_0 : Int) (a1_1 : Int) (A1_2 : Option Addr) (c1_2 : Nat) (l1_2 : List (S95)) (a2 : Int) (a3 : Int) (r1 : List Int) (r2 : Int) (w : World) (hs0 : Kd.V (Kd.int .u8) 5 w w.heap.size (fun k_ => P0_ k_) (.slice A0 l0.length c0) l0) (hr1_2 : Kd.C k95 w A1_2 l1_2.length l1_2) (hc1_2 : l1_2.length ≤ c1_2) (h : shackleref05_Slice.f k l0 a1_0 a1_1 l1_2 a2 a3 = some (r1, r2)) :
  Calls Try.prog 47 #[.slice A0 l0.length c0, .agg #[.int .i64 a1_0, .int .u64 a1_1, .slice A1_2 l1_2.length c1_2], .int .u64 a2, .int .u64 a3] w fun e w' => ∃ v0_ : Value, e = .returned (.tuple #[v0_, .int .i64 r2]) ∧ Kd.V (Kd.int .u8) 5 w' w.heap.size (fun k_ => (P0_ k_ ∨ w.heap.size ≤ k_)) v0_ r1 ∧ Below w.heap.size w w' := by
 have hu53 := Try.underlying53
 have HO0 := Aside0.mk (show Kd.V (Kd.int .u8) 5 w w.heap.size (fun k_ => (P0_ k_ ∨ w.heap.size ≤ k_)) (.slice A0 l0.length c0) l0 from Kd.V_mono hs0 (fun k_ hk => .inl hk))
 have HR1_2 := Aside0.mk hr1_2
 have HC1_2 := Aside0.mk hc1_2
 clear hr1_2 hc1_2
 have HB := Aside0.mk (Below.refl w.heap.size w)
 have H : ((shackleref05_Offset.f k a1_0 a1_1 l1_2 a2 a3).bind fun bt143 => (if bt143.2 = 0 then ((shackleref05_Cut.f l0 bt143.1 a3).bind fun bt145 => (if bt145.2 = true then (some (bt145.1, 0)) else (some (([] : List Int), 4)))) else (some (([] : List Int), 4)))) = some (r1, r2) := h
 clear h
 replace H := Option.bind_eq_some_iff.mp H
 obtain ⟨⟨t143, t144⟩, A50, H⟩ := H
 replace H : (if t144 = 0 then ((shackleref05_Cut.f l0 t143 a3).bind fun bt145 => (if bt145.2 = true then (some (bt145.1, 0)) else (some (([] : List Int), 4)))) else (some (([] : List Int), 4))) = some (r1, r2) := H
 have A5 := Aside0.mk A50
 clear A50
 by_cases c6 : t144 = 0
 ·rw [if_pos c6] at H
  have c6b0 : (t144 == 0) = true := beq_iff_eq.mpr c6
  have c6b1 : (t144 != 0) = false := bne_eq_false_iff_eq.mpr c6
  clear c6
  replace H := Option.bind_eq_some_iff.mp H
  obtain ⟨⟨t145, t148⟩, A70, H⟩ := H
  replace H : (if t148 = true then (some (t145, 0)) else (some (([] : List Int), 4))) = some (r1, r2) := H
  have A7 := Aside0.mk A70
  clear A70
  by_cases c8 : t148 = true
  ·subst c8
   have H1 : (some (t145, 0)) = some (r1, r2) := by rw [if_pos rfl] at H; exact H
   clear H
   have H := H1
   clear H1
   simp only [Option.some.injEq, Prod.mk.injEq] at H
   obtain ⟨rfl, rfl⟩ := H
   go_enter Try.func47, Try.ntmps47
   go_wp2_with (first | ((with_reducible refine gate_dst (N := 5) rfl ?_); refine box_event ?hg (N := 5) ?hd (cs := #[.int .i64 a1_0, .int .u64 a1_1, .slice A1_2 l1_2.length c1_2]) (t := 53) ?hr ?_; (case hd => rfl); (case hg => rfl); (case hr => first | (go_simp; done) | (go_simp; rfl)); intro gb142 hg w9 hbox hb; have n0_ := Aside0.mk (Kd.V_below (Kd.V_elderB (by (with_reducible repeat (first | apply Kd.V_alloc | apply Kd.V_drewN | apply Kd.V_drew)); exact HO0.out) gb142 (Nat.le_of_eq hg.symm)) hb); have n1_ := Aside0.mk (below_step (by repeat (first | (with_reducible first | exact HB.out | apply below_alloc | apply pw_below_drewN | apply below_drew1) | exact HB.out)) hb); have n2_ := Aside0.mk (hbox); have n3_ := Aside0.mk ((by rw [hg]; exact (below_size (by repeat (first | (with_reducible first | exact HB.out | apply below_alloc | apply pw_below_drewN | apply below_drew1) | exact HB.out))) : w.heap.size ≤ gb142)); have n4_ := Aside0.mk ((by rw [hg]; exact (below_size (by repeat (first | (with_reducible first | exact HB.out | apply below_alloc | apply pw_below_drewN | apply below_drew1) | exact HB.out))) : w.heap.size ≤ gb142)); clear HO0; clear HB; have HO0 := n0_; have HB := n1_; have BK142 := n2_; have GW142 := n3_; have GE142 := n4_; clear n0_ n1_ n2_ n3_ n4_; clear hb hbox hg; have hcz10_0 : w9.cell? ⟨gb142, 0, none⟩ = some (.int .i64 a1_0) := (blk_cell BK142.out 0).trans rfl; have hcz10_1 : w9.cell? ⟨gb142, 1, none⟩ = some (.int .u64 a1_1) := (blk_cell BK142.out 1).trans rfl; have hcz10_2 : w9.cell? ⟨gb142, 2, none⟩ = some (.slice A1_2 l1_2.length c1_2) := (blk_cell BK142.out 2).trans rfl; have hfz10_0 := blk_frozen BK142.out 0; have hfz10_1 := blk_frozen BK142.out 1; have hfz10_2 := blk_frozen BK142.out 2) | ((with_reducible refine gate_callee (f := 54) rfl ?_); refine goesL_ (some 18) rfl rfl Try.func54 (by kernel_rfl) rfl #[.agg #[.int .i64 a1_0, .int .u64 a1_1, .slice A1_2 l1_2.length c1_2], .int .u64 a2, .int .u64 a3] rfl (by (try simp only [List.map_toArray, List.map_cons, List.map_nil]); first | done | rfl | (simp only [List.length_drop, List.length_take]; rfl)) ?_; (with_reducible refine (shackleref05_Offset.calls k a1_0 a1_1 _ _ l1_2 a2 a3 t143 t144 _ ?side1 ?side2 A5.out).mono ?_); (case side1 => repeat (first | exact (Kd.C_below HR1_2.out HB.out) | (with_reducible refine Kd.C_alloc ?_ _) | (with_reducible refine Kd.C_drewN ?_ _) | (with_reducible refine Kd.C_drew ?_))); (case side2 => exact HC1_2.out); rintro e w11 ⟨rfl, hb⟩; refine ⟨_, rfl, ?_⟩; have n0_ := Aside0.mk (Kd.V_below (by (with_reducible repeat (first | apply Kd.V_alloc | apply Kd.V_drewN | apply Kd.V_drew)); exact HO0.out) hb); have n1_ := Aside0.mk (blk_below (g := gb142) (o := .cells #[.int .i64 a1_0, .int .u64 a1_1, .slice A1_2 l1_2.length c1_2] 53 (0, 0)) (by (with_reducible repeat (first | refine blk_drewN ?_ _ | refine blk_drew ?_ | refine blk_alloc ?_ _)); exact BK142.out) hb); have n2_ := Aside0.mk (below_step (by repeat (first | (with_reducible first | exact HB.out | apply below_alloc | apply pw_below_drewN | apply below_drew1 | refine below_set ?_ GE142.out) | exact HB.out)) hb); clear HO0; clear BK142; clear HB; have HO0 := n0_; have BK142 := n1_; have HB := n2_; clear n0_ n1_ n2_; (try clear hb); (try clear hb2); (try clear hk); (try clear hi)) | ((with_reducible refine gate_callee (f := 55) rfl ?_); refine goesL_ (some 27) rfl rfl Try.func55 (by kernel_rfl) rfl #[.slice A0 l0.length c0, .int .u64 t143, .int .u64 a3] rfl (by (try simp only [List.map_toArray, List.map_cons, List.map_nil]); first | done | rfl | (simp only [List.length_drop, List.length_take]; rfl)) ?_; (with_reducible refine (shackleref05_Cut.calls (fun k_ => ((P0_ k_ ∨ w.heap.size ≤ k_) ∧ k_ ≠ gb142)) _ _ l0 t143 a3 t145 true _ ?side1 A7.out).mono ?_); (case side1 => exact HO0.out); rintro e w12 ⟨v146, rfl, ho0, hb⟩; refine ⟨_, rfl, ?_⟩; have n0_ := Aside0.mk (Kd.V_below (by (with_reducible repeat (first | apply Kd.V_alloc | apply Kd.V_drewN | apply Kd.V_drew)); exact HO0.out) hb); have n1_ := Aside0.mk (Kd.V_lower (Kd.V_mono (ok' := fun k_ => (P0_ k_ ∨ w.heap.size ≤ k_) ∧ k_ ≠ gb142) ho0 (fun k_ hk_ => ⟨Or.elim hk_ (fun hs_ => hs_.1) (fun hn_ => (.inr (Nat.le_trans (below_size (by repeat (first | (with_reducible first | exact HB.out | apply below_alloc | apply pw_below_drewN | apply below_drew1 | refine below_set ?_ GE142.out) | exact HB.out))) hn_))), Or.elim hk_ (fun hs_ => hs_.2) (fun hn_ => (Kd.freshB (g := gb142) (o := .cells #[.int .i64 a1_0, .int .u64 a1_1, .slice A1_2 l1_2.length c1_2] 53 (0, 0)) (by (with_reducible repeat (first | refine blk_drewN ?_ _ | refine blk_drew ?_ | refine blk_alloc ?_ _)); exact BK142.out) k_ hn_))⟩)) (below_size (by repeat (first | (with_reducible first | exact HB.out | apply below_alloc | apply pw_below_drewN | apply below_drew1 | refine below_set ?_ GE142.out) | exact HB.out)))); have n2_ := Aside0.mk (blk_below (g := gb142) (o := .cells #[.int .i64 a1_0, .int .u64 a1_1, .slice A1_2 l1_2.length c1_2] 53 (0, 0)) (by (with_reducible repeat (first | refine blk_drewN ?_ _ | refine blk_drew ?_ | refine blk_alloc ?_ _)); exact BK142.out) hb); have n3_ := Aside0.mk (below_step (by repeat (first | (with_reducible first | exact HB.out | apply below_alloc | apply pw_below_drewN | apply below_drew1 | refine below_set ?_ GE142.out) | exact HB.out)) hb); clear HO0; clear BK142; clear HB; have HO0 := n0_; have HO147 := n1_; have BK142 := n2_; have HB := n3_; clear n0_ n1_ n2_ n3_; (try clear hb); (try clear hb2); (try clear hk); (try clear hi); (try clear ho0)))
   go_ret2
   exact ⟨_, by first | rfl | (simp [errW_none, errW_some] <;> rfl) | (simp [*, errW_none, errW_some] <;> rfl), by (with_reducible repeat (first | apply Kd.V_alloc | apply Kd.V_drewN | apply Kd.V_drew)); exact Kd.V_mono HO147.out (fun _ hk => hk.1), by repeat (first | (with_reducible first | exact HB.out | apply below_alloc | apply pw_below_drewN | apply below_drew1 | refine below_set ?_ GE142.out) | exact HB.out)⟩
  ·replace c8 := Bool.eq_false_iff.mpr c8
   subst c8
   have H1 : (some (([] : List Int), 4)) = some (r1, r2) := by rw [if_neg (show ¬ (false = true) by decide)] at H; exact H
   clear H
   have H := H1
   clear H1
   simp only [Option.some.injEq, Prod.mk.injEq] at H
   obtain ⟨rfl, rfl⟩ := H
   go_enter Try.func47, Try.ntmps47
   go_wp2_with (first | ((with_reducible refine gate_dst (N := 5) rfl ?_); refine box_event ?hg (N := 5) ?hd (cs := #[.int .i64 a1_0, .int .u64 a1_1, .slice A1_2 l1_2.length c1_2]) (t := 53) ?hr ?_; (case hd => rfl); (case hg => rfl); (case hr => first | (go_simp; done) | (go_simp; rfl)); intro gb142 hg w13 hbox hb; have n0_ := Aside0.mk (Kd.V_below (Kd.V_elderB (by (with_reducible repeat (first | apply Kd.V_alloc | apply Kd.V_drewN | apply Kd.V_drew)); exact HO0.out) gb142 (Nat.le_of_eq hg.symm)) hb); have n1_ := Aside0.mk (below_step (by repeat (first | (with_reducible first | exact HB.out | apply below_alloc | apply pw_below_drewN | apply below_drew1) | exact HB.out)) hb); have n2_ := Aside0.mk (hbox); have n3_ := Aside0.mk ((by rw [hg]; exact (below_size (by repeat (first | (with_reducible first | exact HB.out | apply below_alloc | apply pw_below_drewN | apply below_drew1) | exact HB.out))) : w.heap.size ≤ gb142)); have n4_ := Aside0.mk ((by rw [hg]; exact (below_size (by repeat (first | (with_reducible first | exact HB.out | apply below_alloc | apply pw_below_drewN | apply below_drew1) | exact HB.out))) : w.heap.size ≤ gb142)); clear HO0; clear HB; have HO0 := n0_; have HB := n1_; have BK142 := n2_; have GW142 := n3_; have GE142 := n4_; clear n0_ n1_ n2_ n3_ n4_; clear hb hbox hg; have hcz14_0 : w13.cell? ⟨gb142, 0, none⟩ = some (.int .i64 a1_0) := (blk_cell BK142.out 0).trans rfl; have hcz14_1 : w13.cell? ⟨gb142, 1, none⟩ = some (.int .u64 a1_1) := (blk_cell BK142.out 1).trans rfl; have hcz14_2 : w13.cell? ⟨gb142, 2, none⟩ = some (.slice A1_2 l1_2.length c1_2) := (blk_cell BK142.out 2).trans rfl; have hfz14_0 := blk_frozen BK142.out 0; have hfz14_1 := blk_frozen BK142.out 1; have hfz14_2 := blk_frozen BK142.out 2) | ((with_reducible refine gate_callee (f := 54) rfl ?_); refine goesL_ (some 18) rfl rfl Try.func54 (by kernel_rfl) rfl #[.agg #[.int .i64 a1_0, .int .u64 a1_1, .slice A1_2 l1_2.length c1_2], .int .u64 a2, .int .u64 a3] rfl (by (try simp only [List.map_toArray, List.map_cons, List.map_nil]); first | done | rfl | (simp only [List.length_drop, List.length_take]; rfl)) ?_; (with_reducible refine (shackleref05_Offset.calls k a1_0 a1_1 _ _ l1_2 a2 a3 t143 t144 _ ?side1 ?side2 A5.out).mono ?_); (case side1 => repeat (first | exact (Kd.C_below HR1_2.out HB.out) | (with_reducible refine Kd.C_alloc ?_ _) | (with_reducible refine Kd.C_drewN ?_ _) | (with_reducible refine Kd.C_drew ?_))); (case side2 => exact HC1_2.out); rintro e w15 ⟨rfl, hb⟩; refine ⟨_, rfl, ?_⟩; have n0_ := Aside0.mk (Kd.V_below (by (with_reducible repeat (first | apply Kd.V_alloc | apply Kd.V_drewN | apply Kd.V_drew)); exact HO0.out) hb); have n1_ := Aside0.mk (blk_below (g := gb142) (o := .cells #[.int .i64 a1_0, .int .u64 a1_1, .slice A1_2 l1_2.length c1_2] 53 (0, 0)) (by (with_reducible repeat (first | refine blk_drewN ?_ _ | refine blk_drew ?_ | refine blk_alloc ?_ _)); exact BK142.out) hb); have n2_ := Aside0.mk (below_step (by repeat (first | (with_reducible first | exact HB.out | apply below_alloc | apply pw_below_drewN | apply below_drew1 | refine below_set ?_ GE142.out) | exact HB.out)) hb); clear HO0; clear BK142; clear HB; have HO0 := n0_; have BK142 := n1_; have HB := n2_; clear n0_ n1_ n2_; (try clear hb); (try clear hb2); (try clear hk); (try clear hi)) | ((with_reducible refine gate_callee (f := 55) rfl ?_); refine goesL_ (some 27) rfl rfl Try.func55 (by kernel_rfl) rfl #[.slice A0 l0.length c0, .int .u64 t143, .int .u64 a3] rfl (by (try simp only [List.map_toArray, List.map_cons, List.map_nil]); first | done | rfl | (simp only [List.length_drop, List.length_take]; rfl)) ?_; (with_reducible refine (shackleref05_Cut.calls (fun k_ => ((P0_ k_ ∨ w.heap.size ≤ k_) ∧ k_ ≠ gb142)) _ _ l0 t143 a3 t145 false _ ?side1 A7.out).mono ?_); (case side1 => exact HO0.out); rintro e w16 ⟨v146, rfl, ho0, hb⟩; refine ⟨_, rfl, ?_⟩; have n0_ := Aside0.mk (Kd.V_below (by (with_reducible repeat (first | apply Kd.V_alloc | apply Kd.V_drewN | apply Kd.V_drew)); exact HO0.out) hb); have n1_ := Aside0.mk (Kd.V_lower (Kd.V_mono (ok' := fun k_ => (P0_ k_ ∨ w.heap.size ≤ k_) ∧ k_ ≠ gb142) ho0 (fun k_ hk_ => ⟨Or.elim hk_ (fun hs_ => hs_.1) (fun hn_ => (.inr (Nat.le_trans (below_size (by repeat (first | (with_reducible first | exact HB.out | apply below_alloc | apply pw_below_drewN | apply below_drew1 | refine below_set ?_ GE142.out) | exact HB.out))) hn_))), Or.elim hk_ (fun hs_ => hs_.2) (fun hn_ => (Kd.freshB (g := gb142) (o := .cells #[.int .i64 a1_0, .int .u64 a1_1, .slice A1_2 l1_2.length c1_2] 53 (0, 0)) (by (with_reducible repeat (first | refine blk_drewN ?_ _ | refine blk_drew ?_ | refine blk_alloc ?_ _)); exact BK142.out) k_ hn_))⟩)) (below_size (by repeat (first | (with_reducible first | exact HB.out | apply below_alloc | apply pw_below_drewN | apply below_drew1 | refine below_set ?_ GE142.out) | exact HB.out)))); have n2_ := Aside0.mk (blk_below (g := gb142) (o := .cells #[.int .i64 a1_0, .int .u64 a1_1, .slice A1_2 l1_2.length c1_2] 53 (0, 0)) (by (with_reducible repeat (first | refine blk_drewN ?_ _ | refine blk_drew ?_ | refine blk_alloc ?_ _)); exact BK142.out) hb); have n3_ := Aside0.mk (below_step (by repeat (first | (with_reducible first | exact HB.out | apply below_alloc | apply pw_below_drewN | apply below_drew1 | refine below_set ?_ GE142.out) | exact HB.out)) hb); clear HO0; clear BK142; clear HB; have HO0 := n0_; have HO147 := n1_; have BK142 := n2_; have HB := n3_; clear n0_ n1_ n2_ n3_; (try clear hb); (try clear hb2); (try clear hk); (try clear hi); (try clear ho0)))
   go_ret2
   exact ⟨_, by first | rfl | (simp [errW_none, errW_some] <;> rfl) | (simp [*, errW_none, errW_some] <;> rfl), Kd.V_nil _ _ _ _ _, by repeat (first | (with_reducible first | exact HB.out | apply below_alloc | apply pw_below_drewN | apply below_drew1 | refine below_set ?_ GE142.out) | exact HB.out)⟩
 ·rw [if_neg c6] at H
  have c6b0 : (t144 == 0) = false := beq_eq_false_iff_ne.mpr c6
  have c6b1 : (t144 != 0) = true := bne_iff_ne.mpr c6
  simp only [Option.some.injEq, Prod.mk.injEq] at H
  obtain ⟨rfl, rfl⟩ := H
  go_enter Try.func47, Try.ntmps47
  go_wp2_with (first | ((with_reducible refine gate_dst (N := 5) rfl ?_); refine box_event ?hg (N := 5) ?hd (cs := #[.int .i64 a1_0, .int .u64 a1_1, .slice A1_2 l1_2.length c1_2]) (t := 53) ?hr ?_; (case hd => rfl); (case hg => rfl); (case hr => first | (go_simp; done) | (go_simp; rfl)); intro gb142 hg w17 hbox hb; have n0_ := Aside0.mk (Kd.V_below (Kd.V_elderB (by (with_reducible repeat (first | apply Kd.V_alloc | apply Kd.V_drewN | apply Kd.V_drew)); exact HO0.out) gb142 (Nat.le_of_eq hg.symm)) hb); have n1_ := Aside0.mk (below_step (by repeat (first | (with_reducible first | exact HB.out | apply below_alloc | apply pw_below_drewN | apply below_drew1) | exact HB.out)) hb); have n2_ := Aside0.mk (hbox); have n3_ := Aside0.mk ((by rw [hg]; exact (below_size (by repeat (first | (with_reducible first | exact HB.out | apply below_alloc | apply pw_below_drewN | apply below_drew1) | exact HB.out))) : w.heap.size ≤ gb142)); have n4_ := Aside0.mk ((by rw [hg]; exact (below_size (by repeat (first | (with_reducible first | exact HB.out | apply below_alloc | apply pw_below_drewN | apply below_drew1) | exact HB.out))) : w.heap.size ≤ gb142)); clear HO0; clear HB; have HO0 := n0_; have HB := n1_; have BK142 := n2_; have GW142 := n3_; have GE142 := n4_; clear n0_ n1_ n2_ n3_ n4_; clear hb hbox hg; have hcz18_0 : w17.cell? ⟨gb142, 0, none⟩ = some (.int .i64 a1_0) := (blk_cell BK142.out 0).trans rfl; have hcz18_1 : w17.cell? ⟨gb142, 1, none⟩ = some (.int .u64 a1_1) := (blk_cell BK142.out 1).trans rfl; have hcz18_2 : w17.cell? ⟨gb142, 2, none⟩ = some (.slice A1_2 l1_2.length c1_2) := (blk_cell BK142.out 2).trans rfl; have hfz18_0 := blk_frozen BK142.out 0; have hfz18_1 := blk_frozen BK142.out 1; have hfz18_2 := blk_frozen BK142.out 2) | ((with_reducible refine gate_callee (f := 54) rfl ?_); refine goesL_ (some 18) rfl rfl Try.func54 (by kernel_rfl) rfl #[.agg #[.int .i64 a1_0, .int .u64 a1_1, .slice A1_2 l1_2.length c1_2], .int .u64 a2, .int .u64 a3] rfl (by (try simp only [List.map_toArray, List.map_cons, List.map_nil]); first | done | rfl | (simp only [List.length_drop, List.length_take]; rfl)) ?_; (with_reducible refine (shackleref05_Offset.calls k a1_0 a1_1 _ _ l1_2 a2 a3 t143 t144 _ ?side1 ?side2 A5.out).mono ?_); (case side1 => repeat (first | exact (Kd.C_below HR1_2.out HB.out) | (with_reducible refine Kd.C_alloc ?_ _) | (with_reducible refine Kd.C_drewN ?_ _) | (with_reducible refine Kd.C_drew ?_))); (case side2 => exact HC1_2.out); rintro e w19 ⟨rfl, hb⟩; refine ⟨_, rfl, ?_⟩; have n0_ := Aside0.mk (Kd.V_below (by (with_reducible repeat (first | apply Kd.V_alloc | apply Kd.V_drewN | apply Kd.V_drew)); exact HO0.out) hb); have n1_ := Aside0.mk (blk_below (g := gb142) (o := .cells #[.int .i64 a1_0, .int .u64 a1_1, .slice A1_2 l1_2.length c1_2] 53 (0, 0)) (by (with_reducible repeat (first | refine blk_drewN ?_ _ | refine blk_drew ?_ | refine blk_alloc ?_ _)); exact BK142.out) hb); have n2_ := Aside0.mk (below_step (by repeat (first | (with_reducible first | exact HB.out | apply below_alloc | apply pw_below_drewN | apply below_drew1 | refine below_set ?_ GE142.out) | exact HB.out)) hb); clear HO0; clear BK142; clear HB; have HO0 := n0_; have BK142 := n1_; have HB := n2_; clear n0_ n1_ n2_; (try clear hb); (try clear hb2); (try clear hk); (try clear hi)))
  go_ret2
  exact ⟨_, by first | rfl | (simp [errW_none, errW_some] <;> rfl) | (simp [*, errW_none, errW_some] <;> rfl), Kd.V_nil _ _ _ _ _, by repeat (first | (with_reducible first | exact HB.out | apply below_alloc | apply pw_below_drewN | apply below_drew1 | refine below_set ?_ GE142.out) | exact HB.out)⟩

/-! ### shackleref06_Strings: function 35 -/
def shackleref06_Strings.f (k : Nat) (l0 : List Int) (a1_0 : Int) (a1_1 : Int) (l1_2 : List (S95)) (l2_0 : List Int) (a2_1 : Int) (a2_2 : Int) (a2_3 : Int) (a2_4 : Int) (a2_5 : Int) (a2_6 : Int) (a2_7 : Int) (a2_8 : Int) (a2_9 : Int) (a2_10 : Int) (a2_11 : Int) (a2_12 : Int) (a2_13 : Int) (a2_14 : Bool) (a2_15 : Bool) (a2_16 : Bool) (a2_17 : Int) (a2_18 : Int) (a2_19 : Int) (a2_20 : Int) (a2_21 : Int) (a2_22 : Int) (a2_23 : Int) (a2_24 : Int) (a2_25 : Int) (a2_26 : Int) (a2_27 : Int) (a2_28 : Int) (a2_29 : Int) (a2_30 : Int) (a2_31 : Int) (a2_32 : Bool) (a2_33 : Bool) (a2_34 : Bool) (a2_35 : Bool) (a2_36 : Bool) : Option (List Int × Int) := if a2_8 > 1048576 then (some (([] : List Int), 2)) else ((shackleref05_Slice.f k l0 a1_0 a1_1 l1_2 a2_4 a2_8).bind fun bt151 => (if bt151.2 = 0 then (if (bt151.1.length : Int) = 0 then (some (([] : List Int), 3)) else (if 0 < (bt151.1.length : Int) then (if (rd bt151.1 0) = 0 then (if 0 ≤ (wrap64 ((bt151.1.length : Int) - 1)) then (if (wrap64 ((bt151.1.length : Int) - 1)) < (bt151.1.length : Int) then (if (rd bt151.1 (wrap64 ((bt151.1.length : Int) - 1))) = 0 then (some (bt151.1, 0)) else (some (([] : List Int), 3))) else (none)) else (none)) else (some (([] : List Int), 3))) else (none))) else (some (([] : List Int), bt151.2))))
theorem shackleref06_Strings.mono : ∀ a0 a1 a2 a3 a4 a5 a6 a7 a8 a9 a10 a11 a12 a13 a14 a15 a16 a17 a18 a19 a20 a21 a22 a23 a24 a25 a26 a27 a28 a29 a30 a31 a32 a33 a34 a35 a36 a37 a38 a39 a40 k, LeO (shackleref06_Strings.f k a0 a1 a2 a3 a4 a5 a6 a7 a8 a9 a10 a11 a12 a13 a14 a15 a16 a17 a18 a19 a20 a21 a22 a23 a24 a25 a26 a27 a28 a29 a30 a31 a32 a33 a34 a35 a36 a37 a38 a39 a40) (shackleref06_Strings.f (k + 1) a0 a1 a2 a3 a4 a5 a6 a7 a8 a9 a10 a11 a12 a13 a14 a15 a16 a17 a18 a19 a20 a21 a22 a23 a24 a25 a26 a27 a28 a29 a30 a31 a32 a33 a34 a35 a36 a37 a38 a39 a40) := by
 intro a0 a1 a2 a3 a4 a5 a6 a7 a8 a9 a10 a11 a12 a13 a14 a15 a16 a17 a18 a19 a20 a21 a22 a23 a24 a25 a26 a27 a28 a29 a30 a31 a32 a33 a34 a35 a36 a37 a38 a39 a40 k
 unfold shackleref06_Strings.f
 repeat' first
   | (with_reducible exact shackleref05_Slice.mono _ _ _ _ _ _ _)
   | (with_reducible exact LeO.refl _)
   | (with_reducible exact LeO.none _)
   | (with_reducible refine LeO.ite ?_ ?_)
   | (with_reducible refine LeO.bind ?_ (fun _ => ?_))
   | exact shackleref05_Slice.mono _ _ _ _ _ _ _
   | exact LeO.none _
   | refine LeO.ite ?_ ?_
   | refine LeO.bind ?_ (fun _ => ?_)
set_option maxHeartbeats 8000000 in
set_option maxRecDepth 100000 in
theorem shackleref06_Strings.calls (k : Nat) (P0_ : Nat → Prop) (A0 : Option Addr) (c0 : Nat) (l0 : List Int) (a1_0 : Int) (a1_1 : Int) (A1_2 : Option Addr) (c1_2 : Nat) (l1_2 : List (S95)) (A2_0 : Option Addr) (c2_0 : Nat) (l2_0 : List Int) (a2_1 : Int) (a2_2 : Int) (a2_3 : Int) (a2_4 : Int) (a2_5 : Int) (a2_6 : Int) (a2_7 : Int) (a2_8 : Int) (a2_9 : Int) (a2_10 : Int) (a2_11 : Int) (a2_12 : Int) (a2_13 : Int) (a2_14 : Bool) (a2_15 : Bool) (a2_16 : Bool) (a2_17 : Int) (a2_18 : Int) (a2_19 : Int) (a2_20 : Int) (a2_21 : Int) (a2_22 : Int) (a2_23 : Int) (a2_24 : Int) (a2_25 : Int) (a2_26 : Int) (a2_27 : Int) (a2_28 : Int) (a2_29 : Int) (a2_30 : Int) (a2_31 : Int) (a2_32 : Bool) (a2_33 : Bool) (a2_34 : Bool) (a2_35 : Bool) (a2_36 : Bool) (r1 : List Int) (r2 : Int) (w : World) (hs0 : Kd.V (Kd.int .u8) 5 w w.heap.size (fun k_ => P0_ k_) (.slice A0 l0.length c0) l0) (hr1_2 : Kd.C k95 w A1_2 l1_2.length l1_2) (hc1_2 : l1_2.length ≤ c1_2) (hr2_0 : Kd.C (Kd.int .u64) w A2_0 l2_0.length l2_0) (hc2_0 : l2_0.length ≤ c2_0) (h : shackleref06_Strings.f k l0 a1_0 a1_1 l1_2 l2_0 a2_1 a2_2 a2_3 a2_4 a2_5 a2_6 a2_7 a2_8 a2_9 a2_10 a2_11 a2_12 a2_13 a2_14 a2_15 a2_16 a2_17 a2_18 a2_19 a2_20 a2_21 a2_22 a2_23 a2_24 a2_25 a2_26 a2_27 a2_28 a2_29 a2_30 a2_31 a2_32 a2_33 a2_34 a2_35 a2_36 = some (r1, r2)) :
  Calls Try.prog 35 #[.slice A0 l0.length c0, .agg #[.int .i64 a1_0, .int .u64 a1_1, .slice A1_2 l1_2.length c1_2], .agg #[.slice A2_0 l2_0.length c2_0, .int .u64 a2_1, .int .u64 a2_2, .int .u64 a2_3, .int .u64 a2_4, .int .u64 a2_5, .int .u64 a2_6, .int .u64 a2_7, .int .u64 a2_8, .int .u64 a2_9, .int .u64 a2_10, .int .u64 a2_11, .int .u64 a2_12, .int .u64 a2_13, .bool a2_14, .bool a2_15, .bool a2_16, .int .u64 a2_17, .int .u64 a2_18, .int .u64 a2_19, .int .u64 a2_20, .int .u64 a2_21, .int .u64 a2_22, .int .u64 a2_23, .int .u64 a2_24, .int .u64 a2_25, .int .u64 a2_26, .int .u64 a2_27, .int .u64 a2_28, .int .u64 a2_29, .int .u64 a2_30, .int .u64 a2_31, .bool a2_32, .bool a2_33, .bool a2_34, .bool a2_35, .bool a2_36]] w fun e w' => ∃ v0_ : Value, e = .returned (.tuple #[v0_, .int .i64 r2]) ∧ Kd.V (Kd.int .u8) 5 w' w.heap.size (fun k_ => (P0_ k_ ∨ w.heap.size ≤ k_)) v0_ r1 ∧ Below w.heap.size w w' := by
 have hu53 := Try.underlying53
 have hu55 := Try.underlying55
 have HO0 := Aside0.mk (show Kd.V (Kd.int .u8) 5 w w.heap.size (fun k_ => (P0_ k_ ∨ w.heap.size ≤ k_)) (.slice A0 l0.length c0) l0 from Kd.V_mono hs0 (fun k_ hk => .inl hk))
 have HR1_2 := Aside0.mk hr1_2
 have HC1_2 := Aside0.mk hc1_2
 clear hr1_2 hc1_2
 have HR2_0 := Aside0.mk hr2_0
 have HC2_0 := Aside0.mk hc2_0
 clear hr2_0 hc2_0
 have HB := Aside0.mk (Below.refl w.heap.size w)
 have H : (if a2_8 > 1048576 then (some (([] : List Int), 2)) else ((shackleref05_Slice.f k l0 a1_0 a1_1 l1_2 a2_4 a2_8).bind fun bt151 => (if bt151.2 = 0 then (if (bt151.1.length : Int) = 0 then (some (([] : List Int), 3)) else (if 0 < (bt151.1.length : Int) then (if (rd bt151.1 0) = 0 then (if 0 ≤ (wrap64 ((bt151.1.length : Int) - 1)) then (if (wrap64 ((bt151.1.length : Int) - 1)) < (bt151.1.length : Int) then (if (rd bt151.1 (wrap64 ((bt151.1.length : Int) - 1))) = 0 then (some (bt151.1, 0)) else (some (([] : List Int), 3))) else (none)) else (none)) else (some (([] : List Int), 3))) else (none))) else (some (([] : List Int), bt151.2))))) = some (r1, r2) := h
 clear h
 have HC4 := Aside0.mk H
 clear H
 go_enter Try.func35, Try.ntmps35
 go_upto_region 1 with (first | ((with_reducible refine gate_ (.load 55 (.tmp 5)) rfl ?_); refine wpList_load_row rfl 55 (.tmp 5) rfl gb150 rfl 55 _ (0, 0) _ (by (with_reducible repeat (first | refine blk_drewN ?_ _ | refine blk_drew ?_ | refine blk_alloc ?_ _)); exact BK150.out) Try.underlying55 rfl (by kernel_rfl) ?_) | ((with_reducible refine gate_dst (N := 4) rfl ?_); (try (refine gate_guard (by rfl) ?_; dsimp only)); refine box_event ?hg (N := 4) ?hd (cs := #[.int .i64 a1_0, .int .u64 a1_1, .slice A1_2 l1_2.length c1_2]) (t := 53) ?hr ?_; (case hd => rfl); (case hg => rfl); (case hr => first | (go_simp; done) | (go_simp; rfl)); intro gb149 hg w5 hbox hb; have n0_ := Aside0.mk (Kd.V_below (Kd.V_elderB (by (with_reducible repeat (first | apply Kd.V_alloc | apply Kd.V_drewN | apply Kd.V_drew)); exact HO0.out) gb149 (Nat.le_of_eq hg.symm)) hb); have n1_ := Aside0.mk (below_step (by repeat (first | (with_reducible first | exact HB.out | apply below_alloc | apply pw_below_drewN | apply below_drew1) | exact HB.out)) hb); have n2_ := Aside0.mk (hbox); have n3_ := Aside0.mk ((by rw [hg]; exact (below_size (by repeat (first | (with_reducible first | exact HB.out | apply below_alloc | apply pw_below_drewN | apply below_drew1) | exact HB.out))) : w.heap.size ≤ gb149)); have n4_ := Aside0.mk ((by rw [hg]; exact (below_size (by repeat (first | (with_reducible first | exact HB.out | apply below_alloc | apply pw_below_drewN | apply below_drew1) | exact HB.out))) : w.heap.size ≤ gb149)); clear HO0; clear HB; have HO0 := n0_; have HB := n1_; have BK149 := n2_; have GW149 := n3_; have GE149 := n4_; clear n0_ n1_ n2_ n3_ n4_; clear hb hbox hg) | ((with_reducible refine gate_dst (N := 5) rfl ?_); (try (refine gate_guard (by rfl) ?_; dsimp only)); refine box_event ?hg (N := 5) ?hd (cs := #[.slice A2_0 l2_0.length c2_0, .int .u64 a2_1, .int .u64 a2_2, .int .u64 a2_3, .int .u64 a2_4, .int .u64 a2_5, .int .u64 a2_6, .int .u64 a2_7, .int .u64 a2_8, .int .u64 a2_9, .int .u64 a2_10, .int .u64 a2_11, .int .u64 a2_12, .int .u64 a2_13, .bool a2_14, .bool a2_15, .bool a2_16, .int .u64 a2_17, .int .u64 a2_18, .int .u64 a2_19, .int .u64 a2_20, .int .u64 a2_21, .int .u64 a2_22, .int .u64 a2_23, .int .u64 a2_24, .int .u64 a2_25, .int .u64 a2_26, .int .u64 a2_27, .int .u64 a2_28, .int .u64 a2_29, .int .u64 a2_30, .int .u64 a2_31, .bool a2_32, .bool a2_33, .bool a2_34, .bool a2_35, .bool a2_36]) (t := 55) ?hr ?_; (case hd => rfl); (case hg => rfl); (case hr => first | (go_simp; done) | (go_simp; rfl)); intro gb150 hg w6 hbox hb; have n0_ := Aside0.mk (Kd.V_below (Kd.V_elderB (by (with_reducible repeat (first | apply Kd.V_alloc | apply Kd.V_drewN | apply Kd.V_drew)); exact HO0.out) gb150 (Nat.le_of_eq hg.symm)) hb); have n1_ := Aside0.mk (blk_below (g := gb149) (o := .cells #[.int .i64 a1_0, .int .u64 a1_1, .slice A1_2 l1_2.length c1_2] 53 (0, 0)) (by (with_reducible repeat (first | refine blk_drewN ?_ _ | refine blk_drew ?_ | refine blk_alloc ?_ _)); exact BK149.out) hb); have n2_ := Aside0.mk (below_step (by repeat (first | (with_reducible first | exact HB.out | apply below_alloc | apply pw_below_drewN | apply below_drew1 | refine below_set ?_ GE149.out) | exact HB.out)) hb); have n3_ := Aside0.mk (hbox); have n4_ := Aside0.mk ((by rw [hg]; exact (below_size (by repeat (first | (with_reducible first | exact HB.out | apply below_alloc | apply pw_below_drewN | apply below_drew1 | refine below_set ?_ GE149.out) | exact HB.out))) : w.heap.size ≤ gb150)); have n5_ := Aside0.mk ((by rw [hg]; exact (below_size (by repeat (first | (with_reducible first | exact HB.out | apply below_alloc | apply pw_below_drewN | apply below_drew1 | refine below_set ?_ GE149.out) | exact HB.out))) : w.heap.size ≤ gb150)); have n6_ := Aside0.mk ((by rw [hg]; exact Nat.ne_of_lt (blk_lt (g := gb149) (o := .cells #[.int .i64 a1_0, .int .u64 a1_1, .slice A1_2 l1_2.length c1_2] 53 (0, 0)) (by (with_reducible repeat (first | refine blk_drewN ?_ _ | refine blk_drew ?_ | refine blk_alloc ?_ _)); exact BK149.out)) : gb149 ≠ gb150)); have n7_ := Aside0.mk ((by rw [hg]; exact Nat.ne_of_gt (blk_lt (g := gb149) (o := .cells #[.int .i64 a1_0, .int .u64 a1_1, .slice A1_2 l1_2.length c1_2] 53 (0, 0)) (by (with_reducible repeat (first | refine blk_drewN ?_ _ | refine blk_drew ?_ | refine blk_alloc ?_ _)); exact BK149.out)) : gb150 ≠ gb149)); clear HO0; clear BK149; clear HB; have HO0 := n0_; have BK149 := n1_; have HB := n2_; have BK150 := n3_; have GW150 := n4_; have GE150 := n5_; have NB149_150 := n6_; have NB150_149 := n7_; clear n0_ n1_ n2_ n3_ n4_ n5_ n6_ n7_; clear hb hbox hg))
 (try simp only [Act.put, List.setIfInBounds_toArray, List.set_cons_zero, List.set_cons_succ])
 have H := HC4.out
 clear HC4
 by_cases c7 : a2_8 > 1048576
 ·rw [if_pos c7] at H
  have c7b0 : decide (1048576 < a2_8) = true := decide_eq_true c7
  clear c7
  (first | rw [c7b0] | (simp only [i64_w, i32_w]; rw [c7b0]) | skip)
  simp only [Option.some.injEq, Prod.mk.injEq] at H
  obtain ⟨rfl, rfl⟩ := H
  have hnb8 := NB150_149.out
  have hnc8 := NB149_150.out
  have hcz9_0 : w6.cell? ⟨gb150, 0, none⟩ = some (.slice A2_0 l2_0.length c2_0) := (blk_cell BK150.out 0).trans rfl
  have hcz9_1 : w6.cell? ⟨gb150, 1, none⟩ = some (.int .u64 a2_1) := (blk_cell BK150.out 1).trans rfl
  have hcz9_2 : w6.cell? ⟨gb150, 2, none⟩ = some (.int .u64 a2_2) := (blk_cell BK150.out 2).trans rfl
  have hcz9_3 : w6.cell? ⟨gb150, 3, none⟩ = some (.int .u64 a2_3) := (blk_cell BK150.out 3).trans rfl
  have hcz9_4 : w6.cell? ⟨gb150, 4, none⟩ = some (.int .u64 a2_4) := (blk_cell BK150.out 4).trans rfl
  have hcz9_5 : w6.cell? ⟨gb150, 5, none⟩ = some (.int .u64 a2_5) := (blk_cell BK150.out 5).trans rfl
  have hcz9_6 : w6.cell? ⟨gb150, 6, none⟩ = some (.int .u64 a2_6) := (blk_cell BK150.out 6).trans rfl
  have hcz9_7 : w6.cell? ⟨gb150, 7, none⟩ = some (.int .u64 a2_7) := (blk_cell BK150.out 7).trans rfl
  have hcz9_8 : w6.cell? ⟨gb150, 8, none⟩ = some (.int .u64 a2_8) := (blk_cell BK150.out 8).trans rfl
  have hcz9_9 : w6.cell? ⟨gb150, 9, none⟩ = some (.int .u64 a2_9) := (blk_cell BK150.out 9).trans rfl
  have hcz9_10 : w6.cell? ⟨gb150, 10, none⟩ = some (.int .u64 a2_10) := (blk_cell BK150.out 10).trans rfl
  have hcz9_11 : w6.cell? ⟨gb150, 11, none⟩ = some (.int .u64 a2_11) := (blk_cell BK150.out 11).trans rfl
  have hcz9_12 : w6.cell? ⟨gb150, 12, none⟩ = some (.int .u64 a2_12) := (blk_cell BK150.out 12).trans rfl
  have hcz9_13 : w6.cell? ⟨gb150, 13, none⟩ = some (.int .u64 a2_13) := (blk_cell BK150.out 13).trans rfl
  have hcz9_14 : w6.cell? ⟨gb150, 14, none⟩ = some (.bool a2_14) := (blk_cell BK150.out 14).trans rfl
  have hcz9_15 : w6.cell? ⟨gb150, 15, none⟩ = some (.bool a2_15) := (blk_cell BK150.out 15).trans rfl
  have hcz9_16 : w6.cell? ⟨gb150, 16, none⟩ = some (.bool a2_16) := (blk_cell BK150.out 16).trans rfl
  have hcz9_17 : w6.cell? ⟨gb150, 17, none⟩ = some (.int .u64 a2_17) := (blk_cell BK150.out 17).trans rfl
  have hcz9_18 : w6.cell? ⟨gb150, 18, none⟩ = some (.int .u64 a2_18) := (blk_cell BK150.out 18).trans rfl
  have hcz9_19 : w6.cell? ⟨gb150, 19, none⟩ = some (.int .u64 a2_19) := (blk_cell BK150.out 19).trans rfl
  have hcz9_20 : w6.cell? ⟨gb150, 20, none⟩ = some (.int .u64 a2_20) := (blk_cell BK150.out 20).trans rfl
  have hcz9_21 : w6.cell? ⟨gb150, 21, none⟩ = some (.int .u64 a2_21) := (blk_cell BK150.out 21).trans rfl
  have hcz9_22 : w6.cell? ⟨gb150, 22, none⟩ = some (.int .u64 a2_22) := (blk_cell BK150.out 22).trans rfl
  have hcz9_23 : w6.cell? ⟨gb150, 23, none⟩ = some (.int .u64 a2_23) := (blk_cell BK150.out 23).trans rfl
  have hcz9_24 : w6.cell? ⟨gb150, 24, none⟩ = some (.int .u64 a2_24) := (blk_cell BK150.out 24).trans rfl
  have hcz9_25 : w6.cell? ⟨gb150, 25, none⟩ = some (.int .u64 a2_25) := (blk_cell BK150.out 25).trans rfl
  have hcz9_26 : w6.cell? ⟨gb150, 26, none⟩ = some (.int .u64 a2_26) := (blk_cell BK150.out 26).trans rfl
  have hcz9_27 : w6.cell? ⟨gb150, 27, none⟩ = some (.int .u64 a2_27) := (blk_cell BK150.out 27).trans rfl
  have hcz9_28 : w6.cell? ⟨gb150, 28, none⟩ = some (.int .u64 a2_28) := (blk_cell BK150.out 28).trans rfl
  have hcz9_29 : w6.cell? ⟨gb150, 29, none⟩ = some (.int .u64 a2_29) := (blk_cell BK150.out 29).trans rfl
  have hcz9_30 : w6.cell? ⟨gb150, 30, none⟩ = some (.int .u64 a2_30) := (blk_cell BK150.out 30).trans rfl
  have hcz9_31 : w6.cell? ⟨gb150, 31, none⟩ = some (.int .u64 a2_31) := (blk_cell BK150.out 31).trans rfl
  have hcz9_32 : w6.cell? ⟨gb150, 32, none⟩ = some (.bool a2_32) := (blk_cell BK150.out 32).trans rfl
  have hcz9_33 : w6.cell? ⟨gb150, 33, none⟩ = some (.bool a2_33) := (blk_cell BK150.out 33).trans rfl
  have hcz9_34 : w6.cell? ⟨gb150, 34, none⟩ = some (.bool a2_34) := (blk_cell BK150.out 34).trans rfl
  have hcz9_35 : w6.cell? ⟨gb150, 35, none⟩ = some (.bool a2_35) := (blk_cell BK150.out 35).trans rfl
  have hcz9_36 : w6.cell? ⟨gb150, 36, none⟩ = some (.bool a2_36) := (blk_cell BK150.out 36).trans rfl
  have hfz9_0 := blk_frozen BK150.out 0
  have hfz9_1 := blk_frozen BK150.out 1
  have hfz9_2 := blk_frozen BK150.out 2
  have hfz9_3 := blk_frozen BK150.out 3
  have hfz9_4 := blk_frozen BK150.out 4
  have hfz9_5 := blk_frozen BK150.out 5
  have hfz9_6 := blk_frozen BK150.out 6
  have hfz9_7 := blk_frozen BK150.out 7
  have hfz9_8 := blk_frozen BK150.out 8
  have hfz9_9 := blk_frozen BK150.out 9
  have hfz9_10 := blk_frozen BK150.out 10
  have hfz9_11 := blk_frozen BK150.out 11
  have hfz9_12 := blk_frozen BK150.out 12
  have hfz9_13 := blk_frozen BK150.out 13
  have hfz9_14 := blk_frozen BK150.out 14
  have hfz9_15 := blk_frozen BK150.out 15
  have hfz9_16 := blk_frozen BK150.out 16
  have hfz9_17 := blk_frozen BK150.out 17
  have hfz9_18 := blk_frozen BK150.out 18
  have hfz9_19 := blk_frozen BK150.out 19
  have hfz9_20 := blk_frozen BK150.out 20
  have hfz9_21 := blk_frozen BK150.out 21
  have hfz9_22 := blk_frozen BK150.out 22
  have hfz9_23 := blk_frozen BK150.out 23
  have hfz9_24 := blk_frozen BK150.out 24
  have hfz9_25 := blk_frozen BK150.out 25
  have hfz9_26 := blk_frozen BK150.out 26
  have hfz9_27 := blk_frozen BK150.out 27
  have hfz9_28 := blk_frozen BK150.out 28
  have hfz9_29 := blk_frozen BK150.out 29
  have hfz9_30 := blk_frozen BK150.out 30
  have hfz9_31 := blk_frozen BK150.out 31
  have hfz9_32 := blk_frozen BK150.out 32
  have hfz9_33 := blk_frozen BK150.out 33
  have hfz9_34 := blk_frozen BK150.out 34
  have hfz9_35 := blk_frozen BK150.out 35
  have hfz9_36 := blk_frozen BK150.out 36
  go_wp2
  go_ret2
  exact ⟨_, by first | rfl | (simp [errW_none, errW_some] <;> rfl) | (simp [*, errW_none, errW_some] <;> rfl), Kd.V_nil _ _ _ _ _, by repeat (first | (with_reducible first | exact HB.out | apply below_alloc | apply pw_below_drewN | apply below_drew1 | refine below_set ?_ GE149.out | refine below_set ?_ GE150.out) | exact HB.out)⟩
 ·rw [if_neg c7] at H
  have c7b0 : decide (1048576 < a2_8) = false := decide_eq_false c7
  clear c7
  (first | rw [c7b0] | (simp only [i64_w, i32_w]; rw [c7b0]) | skip)
  replace H := Option.bind_eq_some_iff.mp H
  obtain ⟨⟨t151, t154⟩, A100, H⟩ := H
  replace H : (if t154 = 0 then (if (t151.length : Int) = 0 then (some (([] : List Int), 3)) else (if 0 < (t151.length : Int) then (if (rd t151 0) = 0 then (if 0 ≤ (wrap64 ((t151.length : Int) - 1)) then (if (wrap64 ((t151.length : Int) - 1)) < (t151.length : Int) then (if (rd t151 (wrap64 ((t151.length : Int) - 1))) = 0 then (some (t151, 0)) else (some (([] : List Int), 3))) else (none)) else (none)) else (some (([] : List Int), 3))) else (none))) else (some (([] : List Int), t154))) = some (r1, r2) := H
  have A10 := Aside0.mk A100
  clear A100
  have HC11 := Aside0.mk H
  clear H
  have hnb12 := NB150_149.out
  have hnc12 := NB149_150.out
  have hcz13_0 : w6.cell? ⟨gb150, 0, none⟩ = some (.slice A2_0 l2_0.length c2_0) := (blk_cell BK150.out 0).trans rfl
  have hcz13_1 : w6.cell? ⟨gb150, 1, none⟩ = some (.int .u64 a2_1) := (blk_cell BK150.out 1).trans rfl
  have hcz13_2 : w6.cell? ⟨gb150, 2, none⟩ = some (.int .u64 a2_2) := (blk_cell BK150.out 2).trans rfl
  have hcz13_3 : w6.cell? ⟨gb150, 3, none⟩ = some (.int .u64 a2_3) := (blk_cell BK150.out 3).trans rfl
  have hcz13_4 : w6.cell? ⟨gb150, 4, none⟩ = some (.int .u64 a2_4) := (blk_cell BK150.out 4).trans rfl
  have hcz13_5 : w6.cell? ⟨gb150, 5, none⟩ = some (.int .u64 a2_5) := (blk_cell BK150.out 5).trans rfl
  have hcz13_6 : w6.cell? ⟨gb150, 6, none⟩ = some (.int .u64 a2_6) := (blk_cell BK150.out 6).trans rfl
  have hcz13_7 : w6.cell? ⟨gb150, 7, none⟩ = some (.int .u64 a2_7) := (blk_cell BK150.out 7).trans rfl
  have hcz13_8 : w6.cell? ⟨gb150, 8, none⟩ = some (.int .u64 a2_8) := (blk_cell BK150.out 8).trans rfl
  have hcz13_9 : w6.cell? ⟨gb150, 9, none⟩ = some (.int .u64 a2_9) := (blk_cell BK150.out 9).trans rfl
  have hcz13_10 : w6.cell? ⟨gb150, 10, none⟩ = some (.int .u64 a2_10) := (blk_cell BK150.out 10).trans rfl
  have hcz13_11 : w6.cell? ⟨gb150, 11, none⟩ = some (.int .u64 a2_11) := (blk_cell BK150.out 11).trans rfl
  have hcz13_12 : w6.cell? ⟨gb150, 12, none⟩ = some (.int .u64 a2_12) := (blk_cell BK150.out 12).trans rfl
  have hcz13_13 : w6.cell? ⟨gb150, 13, none⟩ = some (.int .u64 a2_13) := (blk_cell BK150.out 13).trans rfl
  have hcz13_14 : w6.cell? ⟨gb150, 14, none⟩ = some (.bool a2_14) := (blk_cell BK150.out 14).trans rfl
  have hcz13_15 : w6.cell? ⟨gb150, 15, none⟩ = some (.bool a2_15) := (blk_cell BK150.out 15).trans rfl
  have hcz13_16 : w6.cell? ⟨gb150, 16, none⟩ = some (.bool a2_16) := (blk_cell BK150.out 16).trans rfl
  have hcz13_17 : w6.cell? ⟨gb150, 17, none⟩ = some (.int .u64 a2_17) := (blk_cell BK150.out 17).trans rfl
  have hcz13_18 : w6.cell? ⟨gb150, 18, none⟩ = some (.int .u64 a2_18) := (blk_cell BK150.out 18).trans rfl
  have hcz13_19 : w6.cell? ⟨gb150, 19, none⟩ = some (.int .u64 a2_19) := (blk_cell BK150.out 19).trans rfl
  have hcz13_20 : w6.cell? ⟨gb150, 20, none⟩ = some (.int .u64 a2_20) := (blk_cell BK150.out 20).trans rfl
  have hcz13_21 : w6.cell? ⟨gb150, 21, none⟩ = some (.int .u64 a2_21) := (blk_cell BK150.out 21).trans rfl
  have hcz13_22 : w6.cell? ⟨gb150, 22, none⟩ = some (.int .u64 a2_22) := (blk_cell BK150.out 22).trans rfl
  have hcz13_23 : w6.cell? ⟨gb150, 23, none⟩ = some (.int .u64 a2_23) := (blk_cell BK150.out 23).trans rfl
  have hcz13_24 : w6.cell? ⟨gb150, 24, none⟩ = some (.int .u64 a2_24) := (blk_cell BK150.out 24).trans rfl
  have hcz13_25 : w6.cell? ⟨gb150, 25, none⟩ = some (.int .u64 a2_25) := (blk_cell BK150.out 25).trans rfl
  have hcz13_26 : w6.cell? ⟨gb150, 26, none⟩ = some (.int .u64 a2_26) := (blk_cell BK150.out 26).trans rfl
  have hcz13_27 : w6.cell? ⟨gb150, 27, none⟩ = some (.int .u64 a2_27) := (blk_cell BK150.out 27).trans rfl
  have hcz13_28 : w6.cell? ⟨gb150, 28, none⟩ = some (.int .u64 a2_28) := (blk_cell BK150.out 28).trans rfl
  have hcz13_29 : w6.cell? ⟨gb150, 29, none⟩ = some (.int .u64 a2_29) := (blk_cell BK150.out 29).trans rfl
  have hcz13_30 : w6.cell? ⟨gb150, 30, none⟩ = some (.int .u64 a2_30) := (blk_cell BK150.out 30).trans rfl
  have hcz13_31 : w6.cell? ⟨gb150, 31, none⟩ = some (.int .u64 a2_31) := (blk_cell BK150.out 31).trans rfl
  have hcz13_32 : w6.cell? ⟨gb150, 32, none⟩ = some (.bool a2_32) := (blk_cell BK150.out 32).trans rfl
  have hcz13_33 : w6.cell? ⟨gb150, 33, none⟩ = some (.bool a2_33) := (blk_cell BK150.out 33).trans rfl
  have hcz13_34 : w6.cell? ⟨gb150, 34, none⟩ = some (.bool a2_34) := (blk_cell BK150.out 34).trans rfl
  have hcz13_35 : w6.cell? ⟨gb150, 35, none⟩ = some (.bool a2_35) := (blk_cell BK150.out 35).trans rfl
  have hcz13_36 : w6.cell? ⟨gb150, 36, none⟩ = some (.bool a2_36) := (blk_cell BK150.out 36).trans rfl
  have hfz13_0 := blk_frozen BK150.out 0
  have hfz13_1 := blk_frozen BK150.out 1
  have hfz13_2 := blk_frozen BK150.out 2
  have hfz13_3 := blk_frozen BK150.out 3
  have hfz13_4 := blk_frozen BK150.out 4
  have hfz13_5 := blk_frozen BK150.out 5
  have hfz13_6 := blk_frozen BK150.out 6
  have hfz13_7 := blk_frozen BK150.out 7
  have hfz13_8 := blk_frozen BK150.out 8
  have hfz13_9 := blk_frozen BK150.out 9
  have hfz13_10 := blk_frozen BK150.out 10
  have hfz13_11 := blk_frozen BK150.out 11
  have hfz13_12 := blk_frozen BK150.out 12
  have hfz13_13 := blk_frozen BK150.out 13
  have hfz13_14 := blk_frozen BK150.out 14
  have hfz13_15 := blk_frozen BK150.out 15
  have hfz13_16 := blk_frozen BK150.out 16
  have hfz13_17 := blk_frozen BK150.out 17
  have hfz13_18 := blk_frozen BK150.out 18
  have hfz13_19 := blk_frozen BK150.out 19
  have hfz13_20 := blk_frozen BK150.out 20
  have hfz13_21 := blk_frozen BK150.out 21
  have hfz13_22 := blk_frozen BK150.out 22
  have hfz13_23 := blk_frozen BK150.out 23
  have hfz13_24 := blk_frozen BK150.out 24
  have hfz13_25 := blk_frozen BK150.out 25
  have hfz13_26 := blk_frozen BK150.out 26
  have hfz13_27 := blk_frozen BK150.out 27
  have hfz13_28 := blk_frozen BK150.out 28
  have hfz13_29 := blk_frozen BK150.out 29
  have hfz13_30 := blk_frozen BK150.out 30
  have hfz13_31 := blk_frozen BK150.out 31
  have hfz13_32 := blk_frozen BK150.out 32
  have hfz13_33 := blk_frozen BK150.out 33
  have hfz13_34 := blk_frozen BK150.out 34
  have hfz13_35 := blk_frozen BK150.out 35
  have hfz13_36 := blk_frozen BK150.out 36
  have hcz14_0 : w6.cell? ⟨gb149, 0, none⟩ = some (.int .i64 a1_0) := (blk_cell BK149.out 0).trans rfl
  have hcz14_1 : w6.cell? ⟨gb149, 1, none⟩ = some (.int .u64 a1_1) := (blk_cell BK149.out 1).trans rfl
  have hcz14_2 : w6.cell? ⟨gb149, 2, none⟩ = some (.slice A1_2 l1_2.length c1_2) := (blk_cell BK149.out 2).trans rfl
  have hfz14_0 := blk_frozen BK149.out 0
  have hfz14_1 := blk_frozen BK149.out 1
  have hfz14_2 := blk_frozen BK149.out 2
  go_upto_region 4 with (first | ((with_reducible refine gate_ (.load 55 (.tmp 5)) rfl ?_); refine wpList_load_row rfl 55 (.tmp 5) rfl gb150 rfl 55 _ (0, 0) _ (by (with_reducible repeat (first | refine blk_drewN ?_ _ | refine blk_drew ?_ | refine blk_alloc ?_ _)); exact BK150.out) Try.underlying55 rfl (by kernel_rfl) ?_) | ((with_reducible refine gate_callee (f := 47) rfl ?_); refine goesL_ (some 20) rfl rfl Try.func47 (by kernel_rfl) rfl #[.slice A0 l0.length c0, .agg #[.int .i64 a1_0, .int .u64 a1_1, .slice A1_2 l1_2.length c1_2], .int .u64 a2_4, .int .u64 a2_8] rfl (by (try simp only [List.map_toArray, List.map_cons, List.map_nil]); first | done | rfl | (simp only [List.length_drop, List.length_take]; rfl)) ?_; (with_reducible refine (shackleref05_Slice.calls k (fun k_ => (((P0_ k_ ∨ w.heap.size ≤ k_) ∧ k_ ≠ gb149) ∧ k_ ≠ gb150)) _ _ l0 a1_0 a1_1 _ _ l1_2 a2_4 a2_8 t151 t154 _ ?side1 ?side2 ?side3 A10.out).mono ?_); (case side1 => exact HO0.out); (case side2 => repeat (first | exact (Kd.C_below HR1_2.out HB.out) | (with_reducible refine Kd.C_alloc ?_ _) | (with_reducible refine Kd.C_drewN ?_ _) | (with_reducible refine Kd.C_drew ?_))); (case side3 => exact HC1_2.out); rintro e w15 ⟨v152, rfl, ho0, hb⟩; refine ⟨_, rfl, ?_⟩; have n0_ := Aside0.mk (Kd.V_below (by (with_reducible repeat (first | apply Kd.V_alloc | apply Kd.V_drewN | apply Kd.V_drew)); exact HO0.out) hb); have n1_ := Aside0.mk (Kd.V_lower (Kd.V_mono (ok' := fun k_ => (P0_ k_ ∨ w.heap.size ≤ k_) ∧ k_ ≠ gb149 ∧ k_ ≠ gb150) ho0 (fun k_ hk_ => ⟨Or.elim hk_ (fun hs_ => hs_.1.1) (fun hn_ => (.inr (Nat.le_trans (below_size (by repeat (first | (with_reducible first | exact HB.out | apply below_alloc | apply pw_below_drewN | apply below_drew1 | refine below_set ?_ GE149.out | refine below_set ?_ GE150.out) | exact HB.out))) hn_))), Or.elim hk_ (fun hs_ => hs_.1.2) (fun hn_ => (Kd.freshB (g := gb149) (o := .cells #[.int .i64 a1_0, .int .u64 a1_1, .slice A1_2 l1_2.length c1_2] 53 (0, 0)) (by (with_reducible repeat (first | refine blk_drewN ?_ _ | refine blk_drew ?_ | refine blk_alloc ?_ _)); exact BK149.out) k_ hn_)), Or.elim hk_ (fun hs_ => hs_.2) (fun hn_ => (Kd.freshB (g := gb150) (o := .cells #[.slice A2_0 l2_0.length c2_0, .int .u64 a2_1, .int .u64 a2_2, .int .u64 a2_3, .int .u64 a2_4, .int .u64 a2_5, .int .u64 a2_6, .int .u64 a2_7, .int .u64 a2_8, .int .u64 a2_9, .int .u64 a2_10, .int .u64 a2_11, .int .u64 a2_12, .int .u64 a2_13, .bool a2_14, .bool a2_15, .bool a2_16, .int .u64 a2_17, .int .u64 a2_18, .int .u64 a2_19, .int .u64 a2_20, .int .u64 a2_21, .int .u64 a2_22, .int .u64 a2_23, .int .u64 a2_24, .int .u64 a2_25, .int .u64 a2_26, .int .u64 a2_27, .int .u64 a2_28, .int .u64 a2_29, .int .u64 a2_30, .int .u64 a2_31, .bool a2_32, .bool a2_33, .bool a2_34, .bool a2_35, .bool a2_36] 55 (0, 0)) (by (with_reducible repeat (first | refine blk_drewN ?_ _ | refine blk_drew ?_ | refine blk_alloc ?_ _)); exact BK150.out) k_ hn_))⟩)) (below_size (by repeat (first | (with_reducible first | exact HB.out | apply below_alloc | apply pw_below_drewN | apply below_drew1 | refine below_set ?_ GE149.out | refine below_set ?_ GE150.out) | exact HB.out)))); have n2_ := Aside0.mk (blk_below (g := gb149) (o := .cells #[.int .i64 a1_0, .int .u64 a1_1, .slice A1_2 l1_2.length c1_2] 53 (0, 0)) (by (with_reducible repeat (first | refine blk_drewN ?_ _ | refine blk_drew ?_ | refine blk_alloc ?_ _)); exact BK149.out) hb); have n3_ := Aside0.mk (blk_below (g := gb150) (o := .cells #[.slice A2_0 l2_0.length c2_0, .int .u64 a2_1, .int .u64 a2_2, .int .u64 a2_3, .int .u64 a2_4, .int .u64 a2_5, .int .u64 a2_6, .int .u64 a2_7, .int .u64 a2_8, .int .u64 a2_9, .int .u64 a2_10, .int .u64 a2_11, .int .u64 a2_12, .int .u64 a2_13, .bool a2_14, .bool a2_15, .bool a2_16, .int .u64 a2_17, .int .u64 a2_18, .int .u64 a2_19, .int .u64 a2_20, .int .u64 a2_21, .int .u64 a2_22, .int .u64 a2_23, .int .u64 a2_24, .int .u64 a2_25, .int .u64 a2_26, .int .u64 a2_27, .int .u64 a2_28, .int .u64 a2_29, .int .u64 a2_30, .int .u64 a2_31, .bool a2_32, .bool a2_33, .bool a2_34, .bool a2_35, .bool a2_36] 55 (0, 0)) (by (with_reducible repeat (first | refine blk_drewN ?_ _ | refine blk_drew ?_ | refine blk_alloc ?_ _)); exact BK150.out) hb); have n4_ := Aside0.mk (below_step (by repeat (first | (with_reducible first | exact HB.out | apply below_alloc | apply pw_below_drewN | apply below_drew1 | refine below_set ?_ GE149.out | refine below_set ?_ GE150.out) | exact HB.out)) hb); clear HO0; clear BK149; clear BK150; clear HB; have HO0 := n0_; have HO153 := n1_; have BK149 := n2_; have BK150 := n3_; have HB := n4_; clear n0_ n1_ n2_ n3_ n4_; (try clear hb); (try clear hb2); (try clear hk); (try clear hi); (try clear ho0)))
  (try simp only [Act.put, List.setIfInBounds_toArray, List.set_cons_zero, List.set_cons_succ])
  have H := HC11.out
  clear HC11
  by_cases c16 : t154 = 0
  ·rw [if_pos c16] at H
   have c16b0 : (t154 == 0) = true := beq_iff_eq.mpr c16
   have c16b1 : (t154 != 0) = false := bne_eq_false_iff_eq.mpr c16
   clear c16
   (first | rw [c16b0] | (simp only [i64_w, i32_w]; rw [c16b0]) | skip)
   have HC17 := Aside0.mk H
   clear H
   go_upto_region 6 with (fail)
   have H := HC17.out
   clear HC17
   by_cases c18 : (t151.length : Int) = 0
   ·rw [if_pos c18] at H
    have c18b0 : ((t151.length : Int) == 0) = true := beq_iff_eq.mpr c18
    have c18b1 : ((t151.length : Int) != 0) = false := bne_eq_false_iff_eq.mpr c18
    clear c18
    (first | rw [c18b0] | (simp only [i64_w, i32_w]; rw [c18b0]) | skip)
    simp only [Option.some.injEq, Prod.mk.injEq] at H
    obtain ⟨rfl, rfl⟩ := H
    obtain ⟨Ao19, co19, eo19⟩ := Kd.V_slice HO153.out
    subst eo19
    go_wp2
    go_ret2
    exact ⟨_, by first | rfl | (simp [errW_none, errW_some] <;> rfl) | (simp [*, errW_none, errW_some] <;> rfl), Kd.V_nil _ _ _ _ _, by repeat (first | (with_reducible first | exact HB.out | apply below_alloc | apply pw_below_drewN | apply below_drew1 | refine below_set ?_ GE149.out | refine below_set ?_ GE150.out) | exact HB.out)⟩
   ·rw [if_neg c18] at H
    have c18b0 : ((t151.length : Int) == 0) = false := beq_eq_false_iff_ne.mpr c18
    have c18b1 : ((t151.length : Int) != 0) = true := bne_iff_ne.mpr c18
    have c18b2 : ¬ (t151 = []) := fun h_ => c18 (by rw [h_]; rfl)
    (first | rw [c18b0] | (simp only [i64_w, i32_w]; rw [c18b0]) | skip)
    by_cases c20 : 0 < (t151.length : Int)
    ·rw [if_pos c20] at H
     have c20b0 : decide (0 < (t151.length : Int)) = true := decide_eq_true c20
     have c20b1 : decide (0 < t151.length) = true := decide_eq_true (by omega)
     clear c20
     by_cases c21 : (rd t151 0) = 0
     ·rw [if_pos c21] at H
      have c21b0 : ((rd t151 0) == 0) = true := beq_iff_eq.mpr c21
      have c21b1 : ((rd t151 0) != 0) = false := bne_eq_false_iff_eq.mpr c21
      clear c21
      obtain ⟨ji22, hji22⟩ : ∃ j_ : Int, (wrap64 ((t151.length : Int) - 1)) = j_ := ⟨_, rfl⟩
      replace H : (if 0 ≤ (ji22) then (if (ji22) < (t151.length : Int) then (if (rd t151 (ji22)) = 0 then (some (t151, 0)) else (some (([] : List Int), 3))) else (none)) else (none)) = some (r1, r2) := by first | (rw [hji22] at H; exact H) | (simp only [hji22] at H ⊢; exact H)
      have hji22w : (IntKind.i64.wrap ((t151.length : Int) - 1)) = ji22 := (i64_w _).trans hji22
      by_cases c23 : 0 ≤ (ji22)
      ·rw [if_pos c23] at H
       have c23b0 : decide (0 ≤ (ji22)) = true := decide_eq_true c23
       clear c23
       by_cases c24 : (ji22) < (t151.length : Int)
       ·rw [if_pos c24] at H
        have c24b0 : decide ((ji22) < (t151.length : Int)) = true := decide_eq_true c24
        clear c24
        by_cases c25 : (rd t151 (ji22)) = 0
        ·rw [if_pos c25] at H
         have c25b0 : ((rd t151 (ji22)) == 0) = true := beq_iff_eq.mpr c25
         have c25b1 : ((rd t151 (ji22)) != 0) = false := bne_eq_false_iff_eq.mpr c25
         clear c25
         simp only [Option.some.injEq, Prod.mk.injEq] at H
         obtain ⟨rfl, rfl⟩ := H
         obtain ⟨Ao26, co26, eo26⟩ := Kd.V_slice HO153.out
         subst eo26
         have p155 : 0 ≤ (0 : Int) := (by omega)
         have q155 : 0 < (t151.length : Int) := of_decide_eq_true (by assumption)
         obtain ⟨ad155, e155, hx155_0⟩ := Kd.at_int (Kd.V_reads' HO153.out).2.2 0 p155 q155
         cases e155
         have qi155 : (0 < t151.length) = True := eq_true (by omega)
         (try rw [show ((0 : Int)).toNat = 0 from rfl] at hx155_0)
         (try rw [Addr.add_zero'] at hx155_0)
         replace p155 := eq_true p155
         replace q155 := eq_true q155
         have p156 : 0 ≤ ((ji22) : Int) := of_decide_eq_true (by assumption)
         have q156 : (ji22) < (t151.length : Int) := of_decide_eq_true (by assumption)
         obtain ⟨ad156, e156, hx156_0⟩ := Kd.at_int (Kd.V_reads' HO153.out).2.2 (ji22) p156 q156
         obtain rfl : ad155 = ad156 := (by injection e156)
         replace p156 := eq_true p156
         replace q156 := eq_true q156
         go_wp2
         go_ret2
         exact ⟨_, by first | rfl | (simp [errW_none, errW_some] <;> rfl) | (simp only [← hji22]; first | rfl | (simp [errW_none, errW_some] <;> rfl)) | (simp [*, errW_none, errW_some] <;> rfl), by (with_reducible repeat (first | apply Kd.V_alloc | apply Kd.V_drewN | apply Kd.V_drew)); exact Kd.V_mono HO153.out (fun _ hk => hk.1), by repeat (first | (with_reducible first | exact HB.out | apply below_alloc | apply pw_below_drewN | apply below_drew1 | refine below_set ?_ GE149.out | refine below_set ?_ GE150.out) | exact HB.out)⟩
        ·rw [if_neg c25] at H
         have c25b0 : ((rd t151 (ji22)) == 0) = false := beq_eq_false_iff_ne.mpr c25
         have c25b1 : ((rd t151 (ji22)) != 0) = true := bne_iff_ne.mpr c25
         simp only [Option.some.injEq, Prod.mk.injEq] at H
         obtain ⟨rfl, rfl⟩ := H
         obtain ⟨Ao27, co27, eo27⟩ := Kd.V_slice HO153.out
         subst eo27
         have p155 : 0 ≤ (0 : Int) := (by omega)
         have q155 : 0 < (t151.length : Int) := of_decide_eq_true (by assumption)
         obtain ⟨ad155, e155, hx155_0⟩ := Kd.at_int (Kd.V_reads' HO153.out).2.2 0 p155 q155
         cases e155
         have qi155 : (0 < t151.length) = True := eq_true (by omega)
         (try rw [show ((0 : Int)).toNat = 0 from rfl] at hx155_0)
         (try rw [Addr.add_zero'] at hx155_0)
         replace p155 := eq_true p155
         replace q155 := eq_true q155
         have p156 : 0 ≤ ((ji22) : Int) := of_decide_eq_true (by assumption)
         have q156 : (ji22) < (t151.length : Int) := of_decide_eq_true (by assumption)
         obtain ⟨ad156, e156, hx156_0⟩ := Kd.at_int (Kd.V_reads' HO153.out).2.2 (ji22) p156 q156
         obtain rfl : ad155 = ad156 := (by injection e156)
         replace p156 := eq_true p156
         replace q156 := eq_true q156
         go_wp2
         go_ret2
         exact ⟨_, by first | rfl | (simp [errW_none, errW_some] <;> rfl) | (simp only [← hji22]; first | rfl | (simp [errW_none, errW_some] <;> rfl)) | (simp [*, errW_none, errW_some] <;> rfl), Kd.V_nil _ _ _ _ _, by repeat (first | (with_reducible first | exact HB.out | apply below_alloc | apply pw_below_drewN | apply below_drew1 | refine below_set ?_ GE149.out | refine below_set ?_ GE150.out) | exact HB.out)⟩
       ·rw [if_neg c24] at H
        exact absurd H (by simp)
      ·rw [if_neg c23] at H
       exact absurd H (by simp)
     ·rw [if_neg c21] at H
      have c21b0 : ((rd t151 0) == 0) = false := beq_eq_false_iff_ne.mpr c21
      have c21b1 : ((rd t151 0) != 0) = true := bne_iff_ne.mpr c21
      simp only [Option.some.injEq, Prod.mk.injEq] at H
      obtain ⟨rfl, rfl⟩ := H
      obtain ⟨Ao28, co28, eo28⟩ := Kd.V_slice HO153.out
      subst eo28
      have p155 : 0 ≤ (0 : Int) := (by omega)
      have q155 : 0 < (t151.length : Int) := of_decide_eq_true (by assumption)
      obtain ⟨ad155, e155, hx155_0⟩ := Kd.at_int (Kd.V_reads' HO153.out).2.2 0 p155 q155
      cases e155
      have qi155 : (0 < t151.length) = True := eq_true (by omega)
      (try rw [show ((0 : Int)).toNat = 0 from rfl] at hx155_0)
      (try rw [Addr.add_zero'] at hx155_0)
      replace p155 := eq_true p155
      replace q155 := eq_true q155
      go_wp2
      go_ret2
      exact ⟨_, by first | rfl | (simp [errW_none, errW_some] <;> rfl) | (simp [*, errW_none, errW_some] <;> rfl), Kd.V_nil _ _ _ _ _, by repeat (first | (with_reducible first | exact HB.out | apply below_alloc | apply pw_below_drewN | apply below_drew1 | refine below_set ?_ GE149.out | refine below_set ?_ GE150.out) | exact HB.out)⟩
    ·rw [if_neg c20] at H
     exact absurd H (by simp)
  ·rw [if_neg c16] at H
   have c16b0 : (t154 == 0) = false := beq_eq_false_iff_ne.mpr c16
   have c16b1 : (t154 != 0) = true := bne_iff_ne.mpr c16
   (first | rw [c16b0] | (simp only [i64_w, i32_w]; rw [c16b0]) | skip)
   simp only [Option.some.injEq, Prod.mk.injEq] at H
   obtain ⟨rfl, rfl⟩ := H
   go_wp2
   go_ret2
   exact ⟨_, by first | rfl | (simp [errW_none, errW_some] <;> rfl) | (simp [*, errW_none, errW_some] <;> rfl), Kd.V_nil _ _ _ _ _, by repeat (first | (with_reducible first | exact HB.out | apply below_alloc | apply pw_below_drewN | apply below_drew1 | refine below_set ?_ GE149.out | refine below_set ?_ GE150.out) | exact HB.out)⟩

/-! ### bytes_Equal: function 48 -/
def bytes_Equal.f (l0 : List Int) (l1 : List Int) : Option (Bool) := some ((strOfNums l0).toList == (strOfNums l1).toList)
set_option maxHeartbeats 8000000 in
set_option maxRecDepth 100000 in
theorem bytes_Equal.calls (A0 : Option Addr) (c0 : Nat) (l0 : List Int) (A1 : Option Addr) (c1 : Nat) (l1 : List Int) (r : Bool) (w : World) (hr0 : Kd.C (Kd.int .u8) w A0 l0.length l0) (hc0 : l0.length ≤ c0) (hr1 : Kd.C (Kd.int .u8) w A1 l1.length l1) (hc1 : l1.length ≤ c1) (h : bytes_Equal.f l0 l1 = some r) :
  Calls Try.prog 48 #[.slice A0 l0.length c0, .slice A1 l1.length c1] w fun e w' => e = .returned (.bool r) ∧ Drawn0 w w' := by
 have HR0 := Aside0.mk hr0
 have HC0 := Aside0.mk hc0
 clear hr0 hc0
 have HR1 := Aside0.mk hr1
 have HC1 := Aside0.mk hc1
 clear hr1 hc1
 have H : (some ((strOfNums l0).toList == (strOfNums l1).toList)) = some r := h
 clear h
 obtain rfl := Option.some.inj H
 have hcv3 := Kd.C_string (P := Try.prog) (A := A0) (c := c0) Try.underlying22 Try.underlying5 Try.underlying9 HR0.out
 have hcm4 := fun m_ : Nat => Kd.C_string (P := Try.prog) (A := A0) (c := c0) Try.underlying22 Try.underlying5 Try.underlying9 (Kd.C_drewN HR0.out m_)
 have hcv5 := Kd.C_string (P := Try.prog) (A := A1) (c := c1) Try.underlying22 Try.underlying5 Try.underlying9 HR1.out
 have hcm6 := fun m_ : Nat => Kd.C_string (P := Try.prog) (A := A1) (c := c1) Try.underlying22 Try.underlying5 Try.underlying9 (Kd.C_drewN HR1.out m_)
 go_enter Try.func48, Try.ntmps48
 go_wp2
 go_ret
 exact ⟨by first | rfl | (simp; done) | (simp [*]; done), by repeat (first | exact Drawn0.refl _ | apply Drawn0.step)⟩

/-! ### syms_number: function 49 -/
def syms_number.l0 : Nat → Int → List Int → Int → Int → Option (Int)
 | 0, _, _, _, _ => none
 | k + 1, x3, x6, x7, x8 => if x8 < x7 then (if 0 ≤ x8 then (if x8 < (x6.length : Int) then (if 0 ≤ (wrap64 (8 * x8)) then (syms_number.l0 k (Go.bits .or .u64 x3 (shl .u64 (IntKind.u64.wrap (rd x6 x8)) (wrap64 (8 * x8)))) x6 x7 (wrap64 (x8 + 1))) else (none)) else (none)) else (none)) else (some x3)
def syms_number.f (k : Nat) (l0 : List Int) : Option (Int) := syms_number.l0 k 0 l0 (l0.length : Int) 0
theorem syms_number.mono_l : ∀ k, (∀ y0 y1 y2 y3, LeO (syms_number.l0 k y0 y1 y2 y3) (syms_number.l0 (k + 1) y0 y1 y2 y3))
 | 0 => fun _ _ _ _ r h => by simp [syms_number.l0] at h
 | k + 1 => by
  have ih0 := syms_number.mono_l k
  ·intro y0 y1 y2 y3
   unfold syms_number.l0
   repeat' first
   | (with_reducible exact ih0 _ _ _ _)
   | (with_reducible exact LeO.refl _)
   | (with_reducible exact LeO.none _)
   | (with_reducible refine LeO.ite ?_ ?_)
   | (with_reducible refine LeO.bind ?_ (fun _ => ?_))
   | exact ih0 _ _ _ _
   | exact LeO.none _
   | refine LeO.ite ?_ ?_
   | refine LeO.bind ?_ (fun _ => ?_)
theorem syms_number.mono : ∀ a0 k, LeO (syms_number.f k a0) (syms_number.f (k + 1) a0) := by
 intro a0 k
 have ih0 := syms_number.mono_l k
 unfold syms_number.f
 repeat' first
   | (with_reducible exact ih0 _ _ _ _)
   | (with_reducible exact LeO.refl _)
   | (with_reducible exact LeO.none _)
   | (with_reducible refine LeO.ite ?_ ?_)
   | (with_reducible refine LeO.bind ?_ (fun _ => ?_))
   | exact ih0 _ _ _ _
   | exact LeO.none _
   | refine LeO.ite ?_ ?_
   | refine LeO.bind ?_ (fun _ => ?_)
set_option maxHeartbeats 8000000 in
set_option maxRecDepth 100000 in
theorem syms_number.calls (k : Nat) (A0 : Option Addr) (c0 : Nat) (l0 : List Int) (r : Int) (w : World) (hr0 : Kd.C (Kd.int .u8) w A0 l0.length l0) (hc0 : l0.length ≤ c0) (h : syms_number.f k l0 = some r) :
  Calls Try.prog 49 #[.slice A0 l0.length c0] w fun e w' => e = .returned (.int .u64 r) ∧ Drawn0 w w' := by
 have HR0 := Aside0.mk hr0
 have HC0 := Aside0.mk hc0
 clear hr0 hc0
 have H : (syms_number.l0 k 0 l0 (l0.length : Int) 0) = some r := h
 clear h
 have H' := Aside0.mk H
 clear H
 go_enter Try.func49, Try.ntmps49
 go_wp2
 go_loopg [3, 8] k (fun kq v3 v8 w' => ∃ (x3_1 : Int) (x8_1 : Int), v3 = .int .u64 x3_1 ∧ v8 = .int .i64 x8_1 ∧ Aside0 (syms_number.l0 kq x3_1 l0 (l0.length : Int) x8_1 = some r) ∧ Aside0 (kq ≤ k) ∧ Drawn0 w w')
 case atStart => exact ⟨(0), (0), (by first | rfl | (simp; done) | (simp [*]; done)), (by first | rfl | (simp; done) | (simp [*]; done)), H', ⟨Nat.le_refl _⟩, by repeat (first | exact Drawn0.refl _ | apply Drawn0.step)⟩
 case round =>
  clear H'
  obtain ⟨x3_1, x8_1, rfl, rfl, HA, HK1, ⟨m1, rfl⟩⟩ := hrel
  cases gk with
  | zero => exact absurd HA.out (by simp [syms_number.l0])
  | succ k1 =>
   have H := HA.out
   clear HA
   simp only [syms_number.l0] at H
   by_cases c2 : x8_1 < (l0.length : Int)
   ·rw [if_pos c2] at H
    have c2b0 : decide (x8_1 < (l0.length : Int)) = true := decide_eq_true c2
    clear c2
    by_cases c3 : 0 ≤ x8_1
    ·rw [if_pos c3] at H
     have c3b0 : decide (0 ≤ x8_1) = true := decide_eq_true c3
     clear c3
     by_cases c4 : x8_1 < (l0.length : Int)
     ·rw [if_pos c4] at H
      have c4b0 : decide (x8_1 < (l0.length : Int)) = true := decide_eq_true c4
      clear c4
      obtain ⟨ji5, hji5⟩ : ∃ j_ : Int, (wrap64 (8 * x8_1)) = j_ := ⟨_, rfl⟩
      replace H : (if 0 ≤ (ji5) then (syms_number.l0 k1 (Go.bits .or .u64 x3_1 (shl .u64 (IntKind.u64.wrap (rd l0 x8_1)) (ji5))) l0 (l0.length : Int) (wrap64 (x8_1 + 1))) else (none)) = some r := by first | (rw [hji5] at H; exact H) | (simp only [hji5] at H ⊢; exact H)
      have hji5w : (IntKind.i64.wrap (8 * x8_1)) = ji5 := (i64_w _).trans hji5
      by_cases c6 : 0 ≤ (ji5)
      ·rw [if_pos c6] at H
       have c6b0 := eq_true c6
       have c6b1 : decide (0 ≤ (ji5)) = true := decide_eq_true c6
       clear c6
       obtain ⟨ji7, hji7⟩ : ∃ j_ : Int, (shl .u64 (IntKind.u64.wrap (rd l0 x8_1)) (ji5)) = j_ := ⟨_, rfl⟩
       replace H : (syms_number.l0 k1 (Go.bits .or .u64 x3_1 (ji7)) l0 (l0.length : Int) (wrap64 (x8_1 + 1))) = some r := by first | (rw [hji7] at H; exact H) | (simp only [hji7] at H ⊢; exact H)
       have hji7_ : (IntKind.u64.wrap ((IntKind.u64.wrap (rd l0 x8_1)) * 2 ^ min (ji5).toNat 64)) = ji7 := hji7
       have hji7z : (ji5) ≤ 64 → (IntKind.u64.wrap ((IntKind.u64.wrap (rd l0 x8_1)) * 2 ^ (ji5).toNat)) = ji7 := shl_small hji7
       have H' := Aside0.mk H
       clear H
       have p157 : 0 ≤ (x8_1 : Int) := of_decide_eq_true (by assumption)
       have q157 : x8_1 < (l0.length : Int) := of_decide_eq_true (by assumption)
       obtain ⟨ad157, e157, hx157_0⟩ := Kd.at_int HR0.out x8_1 p157 q157
       cases e157
       replace p157 := eq_true p157
       replace q157 := eq_true q157
       go_wp2
       go_roundg k1
       case measure => have := HK1.out; omega
       case rel => exact ⟨(Go.bits .or .u64 x3_1 (ji7)), (wrap64 (x8_1 + 1)), (by first | rfl | (simp; done) | (simp only [← hji7] <;> (first | rfl | simp)) | (simp [*]; done)), (by first | rfl | (simp; done) | (simp [*]; done)), H', ⟨by have := HK1.out; omega⟩, by repeat (first | exact Drawn0.refl _ | apply Drawn0.step)⟩
      ·rw [if_neg c6] at H
       exact absurd H (by simp)
     ·rw [if_neg c4] at H
      exact absurd H (by simp)
    ·rw [if_neg c3] at H
     exact absurd H (by simp)
   ·rw [if_neg c2] at H
    have c2b0 : decide (x8_1 < (l0.length : Int)) = false := decide_eq_false c2
    clear c2
    obtain rfl := Option.some.inj H
    go_wp2
    go_ret
    exact ⟨by first | rfl | (simp; done) | (simp [*]; done), by repeat (first | exact Drawn0.refl _ | apply Drawn0.step)⟩

end Go.Proofs.Ytlohkhadbkahdaa.QSyms
