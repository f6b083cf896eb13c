import Derived.Test.YthopdoamajjojaaQVersx0
import Derived.Test.YthopdoamajjojaaQVersx2
namespace Go.Proofs.Ythopdoamajjojaa.QVers
open Go.RowKit Go.Proofs.YthopdoamajjojaaW.PrintWords Go.Proofs.YthopdoamajjojaaW.PrintLast Go.Proofs.YthopdoamajjojaaW.PrintMore
attribute [local go_sem] max2_int min2_int max_two min_two max_three min_three max_four min_four
set_option linter.unusedVariables false
set_option linter.unusedSimpArgs false
attribute [local go_sem] eqErr_ii neErr_ii eqErr_ni neErr_ni
def shackleref05_Slice.f (k : Nat) (l0 : List Int) (a1_0 : Int) (a1_1 : Int) (l1_2 : List (S29)) (a2 : Int) (a3 : Int) : Option (List Int × Int) := (shackleref05_Offset.f k a1_0 a1_1 l1_2 a2 a3).bind fun bt162 => (if bt162.2 = 0 then ((shackleref05_Cut.f l0 bt162.1 a3).bind fun bt164 => (if bt164.2 = true then (some (bt164.1, 0)) else (some (([] : List Int), 4)))) else (some (([] : List Int), 4)))
theorem shackleref05_Slice.mono : ∀ a0 a1 a2 a3 a4 a5 k, LeO (shackleref05_Slice.f k a0 a1 a2 a3 a4 a5) (shackleref05_Slice.f (k + 1) a0 a1 a2 a3 a4 a5) := by
 intro a0 a1 a2 a3 a4 a5 k
 unfold shackleref05_Slice.f
 repeat' first
   | (with_reducible exact shackleref05_Offset.mono _ _ _ _ _ _)
   | (with_reducible exact LeO.refl _)
   | (with_reducible exact LeO.none _)
   | (with_reducible refine LeO.ite ?_ ?_)
   | (with_reducible refine LeO.bind ?_ (fun _ => ?_))
   | exact shackleref05_Offset.mono _ _ _ _ _ _
   | exact LeO.none _
   | refine LeO.ite ?_ ?_
   | refine LeO.bind ?_ (fun _ => ?_)
set_option maxHeartbeats 8000000 in
set_option maxRecDepth 100000 in
theorem shackleref05_Slice.calls (k : Nat) (P0_ : Nat → Prop) (A0 : Option Addr) (c0 : Nat) (l0 : List Int) (a1_0 : Int) (a1_1 : Int) (A1_2 : Option Addr) (c1_2 : Nat) (l1_2 : List (S29)) (a2 : Int) (a3 : Int) (r1 : List Int) (r2 : Int) (w : World) (hs0 : Kd.V (Kd.int .u8) 5 w w.heap.size (fun k_ => P0_ k_) (.slice A0 l0.length c0) l0) (hr1_2 : Kd.C k29 w A1_2 l1_2.length l1_2) (hc1_2 : l1_2.length ≤ c1_2) (h : shackleref05_Slice.f k l0 a1_0 a1_1 l1_2 a2 a3 = some (r1, r2)) :
  Calls Try.prog 41 #[.slice A0 l0.length c0, .agg #[.int .i64 a1_0, .int .u64 a1_1, .slice A1_2 l1_2.length c1_2], .int .u64 a2, .int .u64 a3] w fun e w' => ∃ v0_ : Value, e = .returned (.tuple #[v0_, .int .i64 r2]) ∧ Kd.V (Kd.int .u8) 5 w' w.heap.size (fun k_ => (P0_ k_ ∨ w.heap.size ≤ k_)) v0_ r1 ∧ Below w.heap.size w w' := by
 have hu32 := Try.underlying32
 have HO0 := Aside0.mk (show Kd.V (Kd.int .u8) 5 w w.heap.size (fun k_ => (P0_ k_ ∨ w.heap.size ≤ k_)) (.slice A0 l0.length c0) l0 from Kd.V_mono hs0 (fun k_ hk => .inl hk))
 have HR1_2 := Aside0.mk hr1_2
 have HC1_2 := Aside0.mk hc1_2
 clear hr1_2 hc1_2
 have HB := Aside0.mk (Below.refl w.heap.size w)
 have H : ((shackleref05_Offset.f k a1_0 a1_1 l1_2 a2 a3).bind fun bt162 => (if bt162.2 = 0 then ((shackleref05_Cut.f l0 bt162.1 a3).bind fun bt164 => (if bt164.2 = true then (some (bt164.1, 0)) else (some (([] : List Int), 4)))) else (some (([] : List Int), 4)))) = some (r1, r2) := h
 clear h
 replace H := Option.bind_eq_some_iff.mp H
 obtain ⟨⟨t162, t163⟩, A50, H⟩ := H
 replace H : (if t163 = 0 then ((shackleref05_Cut.f l0 t162 a3).bind fun bt164 => (if bt164.2 = true then (some (bt164.1, 0)) else (some (([] : List Int), 4)))) else (some (([] : List Int), 4))) = some (r1, r2) := H
 have A5 := Aside0.mk A50
 clear A50
 by_cases c6 : t163 = 0
 ·rw [if_pos c6] at H
  have c6b0 : (t163 == 0) = true := beq_iff_eq.mpr c6
  have c6b1 : (t163 != 0) = false := bne_eq_false_iff_eq.mpr c6
  clear c6
  replace H := Option.bind_eq_some_iff.mp H
  obtain ⟨⟨t164, t167⟩, A70, H⟩ := H
  replace H : (if t167 = true then (some (t164, 0)) else (some (([] : List Int), 4))) = some (r1, r2) := H
  have A7 := Aside0.mk A70
  clear A70
  by_cases c8 : t167 = true
  ·subst c8
   have H1 : (some (t164, 0)) = some (r1, r2) := by rw [if_pos rfl] at H; exact H
   clear H
   have H := H1
   clear H1
   simp only [Option.some.injEq, Prod.mk.injEq] at H
   obtain ⟨rfl, rfl⟩ := H
   go_enter Try.func41, Try.ntmps41
   go_wp2_with (first | ((with_reducible refine gate_dst (N := 5) rfl ?_); refine box_event ?hg (N := 5) ?hd (cs := #[.int .i64 a1_0, .int .u64 a1_1, .slice A1_2 l1_2.length c1_2]) (t := 32) ?hr ?_; (case hd => rfl); (case hg => rfl); (case hr => first | (go_simp; done) | (go_simp; rfl)); intro gb161 hg w9 hbox hb; have n0_ := Aside0.mk (Kd.V_below (Kd.V_elderB (by (with_reducible repeat (first | apply Kd.V_alloc | apply Kd.V_drewN | apply Kd.V_drew)); exact HO0.out) gb161 (Nat.le_of_eq hg.symm)) hb); have n1_ := Aside0.mk (below_step (by repeat (first | (with_reducible first | exact HB.out | apply below_alloc | apply pw_below_drewN | apply below_drew1) | exact HB.out)) hb); have n2_ := Aside0.mk (hbox); have n3_ := Aside0.mk ((by rw [hg]; exact (below_size (by repeat (first | (with_reducible first | exact HB.out | apply below_alloc | apply pw_below_drewN | apply below_drew1) | exact HB.out))) : w.heap.size ≤ gb161)); have n4_ := Aside0.mk ((by rw [hg]; exact (below_size (by repeat (first | (with_reducible first | exact HB.out | apply below_alloc | apply pw_below_drewN | apply below_drew1) | exact HB.out))) : w.heap.size ≤ gb161)); clear HO0; clear HB; have HO0 := n0_; have HB := n1_; have BK161 := n2_; have GW161 := n3_; have GE161 := n4_; clear n0_ n1_ n2_ n3_ n4_; clear hb hbox hg; have hcz10_0 : w9.cell? ⟨gb161, 0, none⟩ = some (.int .i64 a1_0) := (blk_cell BK161.out 0).trans rfl; have hcz10_1 : w9.cell? ⟨gb161, 1, none⟩ = some (.int .u64 a1_1) := (blk_cell BK161.out 1).trans rfl; have hcz10_2 : w9.cell? ⟨gb161, 2, none⟩ = some (.slice A1_2 l1_2.length c1_2) := (blk_cell BK161.out 2).trans rfl; have hfz10_0 := blk_frozen BK161.out 0; have hfz10_1 := blk_frozen BK161.out 1; have hfz10_2 := blk_frozen BK161.out 2) | ((with_reducible refine gate_callee (f := 61) rfl ?_); refine goesL_ (some 18) rfl rfl Try.func61 (by kernel_rfl) rfl #[.agg #[.int .i64 a1_0, .int .u64 a1_1, .slice A1_2 l1_2.length c1_2], .int .u64 a2, .int .u64 a3] rfl (by (try simp only [List.map_toArray, List.map_cons, List.map_nil]); first | done | rfl | (simp only [List.length_drop, List.length_take]; rfl)) ?_; (with_reducible refine (shackleref05_Offset.calls k a1_0 a1_1 _ _ l1_2 a2 a3 t162 t163 _ ?side1 ?side2 A5.out).mono ?_); (case side1 => repeat (first | exact (Kd.C_below HR1_2.out HB.out) | (with_reducible refine Kd.C_alloc ?_ _) | (with_reducible refine Kd.C_drewN ?_ _) | (with_reducible refine Kd.C_drew ?_))); (case side2 => exact HC1_2.out); rintro e w11 ⟨rfl, hb⟩; refine ⟨_, rfl, ?_⟩; have n0_ := Aside0.mk (Kd.V_below (by (with_reducible repeat (first | apply Kd.V_alloc | apply Kd.V_drewN | apply Kd.V_drew)); exact HO0.out) hb); have n1_ := Aside0.mk (blk_below (g := gb161) (o := .cells #[.int .i64 a1_0, .int .u64 a1_1, .slice A1_2 l1_2.length c1_2] 32 (0, 0)) (by (with_reducible repeat (first | refine blk_drewN ?_ _ | refine blk_drew ?_ | refine blk_alloc ?_ _)); exact BK161.out) hb); have n2_ := Aside0.mk (below_step (by repeat (first | (with_reducible first | exact HB.out | apply below_alloc | apply pw_below_drewN | apply below_drew1 | refine below_set ?_ GE161.out) | exact HB.out)) hb); clear HO0; clear BK161; clear HB; have HO0 := n0_; have BK161 := n1_; have HB := n2_; clear n0_ n1_ n2_; (try clear hb); (try clear hb2); (try clear hk); (try clear hi)) | ((with_reducible refine gate_callee (f := 62) rfl ?_); refine goesL_ (some 27) rfl rfl Try.func62 (by kernel_rfl) rfl #[.slice A0 l0.length c0, .int .u64 t162, .int .u64 a3] rfl (by (try simp only [List.map_toArray, List.map_cons, List.map_nil]); first | done | rfl | (simp only [List.length_drop, List.length_take]; rfl)) ?_; (with_reducible refine (shackleref05_Cut.calls (fun k_ => ((P0_ k_ ∨ w.heap.size ≤ k_) ∧ k_ ≠ gb161)) _ _ l0 t162 a3 t164 true _ ?side1 A7.out).mono ?_); (case side1 => exact HO0.out); rintro e w12 ⟨v165, rfl, ho0, hb⟩; refine ⟨_, rfl, ?_⟩; have n0_ := Aside0.mk (Kd.V_below (by (with_reducible repeat (first | apply Kd.V_alloc | apply Kd.V_drewN | apply Kd.V_drew)); exact HO0.out) hb); have n1_ := Aside0.mk (Kd.V_lower (Kd.V_mono (ok' := fun k_ => (P0_ k_ ∨ w.heap.size ≤ k_) ∧ k_ ≠ gb161) ho0 (fun k_ hk_ => ⟨Or.elim hk_ (fun hs_ => hs_.1) (fun hn_ => (.inr (Nat.le_trans (below_size (by repeat (first | (with_reducible first | exact HB.out | apply below_alloc | apply pw_below_drewN | apply below_drew1 | refine below_set ?_ GE161.out) | exact HB.out))) hn_))), Or.elim hk_ (fun hs_ => hs_.2) (fun hn_ => (Kd.freshB (g := gb161) (o := .cells #[.int .i64 a1_0, .int .u64 a1_1, .slice A1_2 l1_2.length c1_2] 32 (0, 0)) (by (with_reducible repeat (first | refine blk_drewN ?_ _ | refine blk_drew ?_ | refine blk_alloc ?_ _)); exact BK161.out) k_ hn_))⟩)) (below_size (by repeat (first | (with_reducible first | exact HB.out | apply below_alloc | apply pw_below_drewN | apply below_drew1 | refine below_set ?_ GE161.out) | exact HB.out)))); have n2_ := Aside0.mk (blk_below (g := gb161) (o := .cells #[.int .i64 a1_0, .int .u64 a1_1, .slice A1_2 l1_2.length c1_2] 32 (0, 0)) (by (with_reducible repeat (first | refine blk_drewN ?_ _ | refine blk_drew ?_ | refine blk_alloc ?_ _)); exact BK161.out) hb); have n3_ := Aside0.mk (below_step (by repeat (first | (with_reducible first | exact HB.out | apply below_alloc | apply pw_below_drewN | apply below_drew1 | refine below_set ?_ GE161.out) | exact HB.out)) hb); clear HO0; clear BK161; clear HB; have HO0 := n0_; have HO166 := n1_; have BK161 := n2_; have HB := n3_; clear n0_ n1_ n2_ n3_; (try clear hb); (try clear hb2); (try clear hk); (try clear hi); (try clear ho0)))
   go_ret2
   exact ⟨_, by first | rfl | (simp [errW_none, errW_some] <;> rfl) | (simp [*, errW_none, errW_some] <;> rfl), by (with_reducible repeat (first | apply Kd.V_alloc | apply Kd.V_drewN | apply Kd.V_drew)); exact Kd.V_mono HO166.out (fun _ hk => hk.1), by repeat (first | (with_reducible first | exact HB.out | apply below_alloc | apply pw_below_drewN | apply below_drew1 | refine below_set ?_ GE161.out) | exact HB.out)⟩
  ·replace c8 := Bool.eq_false_iff.mpr c8
   subst c8
   have H1 : (some (([] : List Int), 4)) = some (r1, r2) := by rw [if_neg (show ¬ (false = true) by decide)] at H; exact H
   clear H
   have H := H1
   clear H1
   simp only [Option.some.injEq, Prod.mk.injEq] at H
   obtain ⟨rfl, rfl⟩ := H
   go_enter Try.func41, Try.ntmps41
   go_wp2_with (first | ((with_reducible refine gate_dst (N := 5) rfl ?_); refine box_event ?hg (N := 5) ?hd (cs := #[.int .i64 a1_0, .int .u64 a1_1, .slice A1_2 l1_2.length c1_2]) (t := 32) ?hr ?_; (case hd => rfl); (case hg => rfl); (case hr => first | (go_simp; done) | (go_simp; rfl)); intro gb161 hg w13 hbox hb; have n0_ := Aside0.mk (Kd.V_below (Kd.V_elderB (by (with_reducible repeat (first | apply Kd.V_alloc | apply Kd.V_drewN | apply Kd.V_drew)); exact HO0.out) gb161 (Nat.le_of_eq hg.symm)) hb); have n1_ := Aside0.mk (below_step (by repeat (first | (with_reducible first | exact HB.out | apply below_alloc | apply pw_below_drewN | apply below_drew1) | exact HB.out)) hb); have n2_ := Aside0.mk (hbox); have n3_ := Aside0.mk ((by rw [hg]; exact (below_size (by repeat (first | (with_reducible first | exact HB.out | apply below_alloc | apply pw_below_drewN | apply below_drew1) | exact HB.out))) : w.heap.size ≤ gb161)); have n4_ := Aside0.mk ((by rw [hg]; exact (below_size (by repeat (first | (with_reducible first | exact HB.out | apply below_alloc | apply pw_below_drewN | apply below_drew1) | exact HB.out))) : w.heap.size ≤ gb161)); clear HO0; clear HB; have HO0 := n0_; have HB := n1_; have BK161 := n2_; have GW161 := n3_; have GE161 := n4_; clear n0_ n1_ n2_ n3_ n4_; clear hb hbox hg; have hcz14_0 : w13.cell? ⟨gb161, 0, none⟩ = some (.int .i64 a1_0) := (blk_cell BK161.out 0).trans rfl; have hcz14_1 : w13.cell? ⟨gb161, 1, none⟩ = some (.int .u64 a1_1) := (blk_cell BK161.out 1).trans rfl; have hcz14_2 : w13.cell? ⟨gb161, 2, none⟩ = some (.slice A1_2 l1_2.length c1_2) := (blk_cell BK161.out 2).trans rfl; have hfz14_0 := blk_frozen BK161.out 0; have hfz14_1 := blk_frozen BK161.out 1; have hfz14_2 := blk_frozen BK161.out 2) | ((with_reducible refine gate_callee (f := 61) rfl ?_); refine goesL_ (some 18) rfl rfl Try.func61 (by kernel_rfl) rfl #[.agg #[.int .i64 a1_0, .int .u64 a1_1, .slice A1_2 l1_2.length c1_2], .int .u64 a2, .int .u64 a3] rfl (by (try simp only [List.map_toArray, List.map_cons, List.map_nil]); first | done | rfl | (simp only [List.length_drop, List.length_take]; rfl)) ?_; (with_reducible refine (shackleref05_Offset.calls k a1_0 a1_1 _ _ l1_2 a2 a3 t162 t163 _ ?side1 ?side2 A5.out).mono ?_); (case side1 => repeat (first | exact (Kd.C_below HR1_2.out HB.out) | (with_reducible refine Kd.C_alloc ?_ _) | (with_reducible refine Kd.C_drewN ?_ _) | (with_reducible refine Kd.C_drew ?_))); (case side2 => exact HC1_2.out); rintro e w15 ⟨rfl, hb⟩; refine ⟨_, rfl, ?_⟩; have n0_ := Aside0.mk (Kd.V_below (by (with_reducible repeat (first | apply Kd.V_alloc | apply Kd.V_drewN | apply Kd.V_drew)); exact HO0.out) hb); have n1_ := Aside0.mk (blk_below (g := gb161) (o := .cells #[.int .i64 a1_0, .int .u64 a1_1, .slice A1_2 l1_2.length c1_2] 32 (0, 0)) (by (with_reducible repeat (first | refine blk_drewN ?_ _ | refine blk_drew ?_ | refine blk_alloc ?_ _)); exact BK161.out) hb); have n2_ := Aside0.mk (below_step (by repeat (first | (with_reducible first | exact HB.out | apply below_alloc | apply pw_below_drewN | apply below_drew1 | refine below_set ?_ GE161.out) | exact HB.out)) hb); clear HO0; clear BK161; clear HB; have HO0 := n0_; have BK161 := n1_; have HB := n2_; clear n0_ n1_ n2_; (try clear hb); (try clear hb2); (try clear hk); (try clear hi)) | ((with_reducible refine gate_callee (f := 62) rfl ?_); refine goesL_ (some 27) rfl rfl Try.func62 (by kernel_rfl) rfl #[.slice A0 l0.length c0, .int .u64 t162, .int .u64 a3] rfl (by (try simp only [List.map_toArray, List.map_cons, List.map_nil]); first | done | rfl | (simp only [List.length_drop, List.length_take]; rfl)) ?_; (with_reducible refine (shackleref05_Cut.calls (fun k_ => ((P0_ k_ ∨ w.heap.size ≤ k_) ∧ k_ ≠ gb161)) _ _ l0 t162 a3 t164 false _ ?side1 A7.out).mono ?_); (case side1 => exact HO0.out); rintro e w16 ⟨v165, rfl, ho0, hb⟩; refine ⟨_, rfl, ?_⟩; have n0_ := Aside0.mk (Kd.V_below (by (with_reducible repeat (first | apply Kd.V_alloc | apply Kd.V_drewN | apply Kd.V_drew)); exact HO0.out) hb); have n1_ := Aside0.mk (Kd.V_lower (Kd.V_mono (ok' := fun k_ => (P0_ k_ ∨ w.heap.size ≤ k_) ∧ k_ ≠ gb161) ho0 (fun k_ hk_ => ⟨Or.elim hk_ (fun hs_ => hs_.1) (fun hn_ => (.inr (Nat.le_trans (below_size (by repeat (first | (with_reducible first | exact HB.out | apply below_alloc | apply pw_below_drewN | apply below_drew1 | refine below_set ?_ GE161.out) | exact HB.out))) hn_))), Or.elim hk_ (fun hs_ => hs_.2) (fun hn_ => (Kd.freshB (g := gb161) (o := .cells #[.int .i64 a1_0, .int .u64 a1_1, .slice A1_2 l1_2.length c1_2] 32 (0, 0)) (by (with_reducible repeat (first | refine blk_drewN ?_ _ | refine blk_drew ?_ | refine blk_alloc ?_ _)); exact BK161.out) k_ hn_))⟩)) (below_size (by repeat (first | (with_reducible first | exact HB.out | apply below_alloc | apply pw_below_drewN | apply below_drew1 | refine below_set ?_ GE161.out) | exact HB.out)))); have n2_ := Aside0.mk (blk_below (g := gb161) (o := .cells #[.int .i64 a1_0, .int .u64 a1_1, .slice A1_2 l1_2.length c1_2] 32 (0, 0)) (by (with_reducible repeat (first | refine blk_drewN ?_ _ | refine blk_drew ?_ | refine blk_alloc ?_ _)); exact BK161.out) hb); have n3_ := Aside0.mk (below_step (by repeat (first | (with_reducible first | exact HB.out | apply below_alloc | apply pw_below_drewN | apply below_drew1 | refine below_set ?_ GE161.out) | exact HB.out)) hb); clear HO0; clear BK161; clear HB; have HO0 := n0_; have HO166 := n1_; have BK161 := n2_; have HB := n3_; clear n0_ n1_ n2_ n3_; (try clear hb); (try clear hb2); (try clear hk); (try clear hi); (try clear ho0)))
   go_ret2
   exact ⟨_, by first | rfl | (simp [errW_none, errW_some] <;> rfl) | (simp [*, errW_none, errW_some] <;> rfl), Kd.V_nil _ _ _ _ _, by repeat (first | (with_reducible first | exact HB.out | apply below_alloc | apply pw_below_drewN | apply below_drew1 | refine below_set ?_ GE161.out) | exact HB.out)⟩
 ·rw [if_neg c6] at H
  have c6b0 : (t163 == 0) = false := beq_eq_false_iff_ne.mpr c6
  have c6b1 : (t163 != 0) = true := bne_iff_ne.mpr c6
  simp only [Option.some.injEq, Prod.mk.injEq] at H
  obtain ⟨rfl, rfl⟩ := H
  go_enter Try.func41, Try.ntmps41
  go_wp2_with (first | ((with_reducible refine gate_dst (N := 5) rfl ?_); refine box_event ?hg (N := 5) ?hd (cs := #[.int .i64 a1_0, .int .u64 a1_1, .slice A1_2 l1_2.length c1_2]) (t := 32) ?hr ?_; (case hd => rfl); (case hg => rfl); (case hr => first | (go_simp; done) | (go_simp; rfl)); intro gb161 hg w17 hbox hb; have n0_ := Aside0.mk (Kd.V_below (Kd.V_elderB (by (with_reducible repeat (first | apply Kd.V_alloc | apply Kd.V_drewN | apply Kd.V_drew)); exact HO0.out) gb161 (Nat.le_of_eq hg.symm)) hb); have n1_ := Aside0.mk (below_step (by repeat (first | (with_reducible first | exact HB.out | apply below_alloc | apply pw_below_drewN | apply below_drew1) | exact HB.out)) hb); have n2_ := Aside0.mk (hbox); have n3_ := Aside0.mk ((by rw [hg]; exact (below_size (by repeat (first | (with_reducible first | exact HB.out | apply below_alloc | apply pw_below_drewN | apply below_drew1) | exact HB.out))) : w.heap.size ≤ gb161)); have n4_ := Aside0.mk ((by rw [hg]; exact (below_size (by repeat (first | (with_reducible first | exact HB.out | apply below_alloc | apply pw_below_drewN | apply below_drew1) | exact HB.out))) : w.heap.size ≤ gb161)); clear HO0; clear HB; have HO0 := n0_; have HB := n1_; have BK161 := n2_; have GW161 := n3_; have GE161 := n4_; clear n0_ n1_ n2_ n3_ n4_; clear hb hbox hg; have hcz18_0 : w17.cell? ⟨gb161, 0, none⟩ = some (.int .i64 a1_0) := (blk_cell BK161.out 0).trans rfl; have hcz18_1 : w17.cell? ⟨gb161, 1, none⟩ = some (.int .u64 a1_1) := (blk_cell BK161.out 1).trans rfl; have hcz18_2 : w17.cell? ⟨gb161, 2, none⟩ = some (.slice A1_2 l1_2.length c1_2) := (blk_cell BK161.out 2).trans rfl; have hfz18_0 := blk_frozen BK161.out 0; have hfz18_1 := blk_frozen BK161.out 1; have hfz18_2 := blk_frozen BK161.out 2) | ((with_reducible refine gate_callee (f := 61) rfl ?_); refine goesL_ (some 18) rfl rfl Try.func61 (by kernel_rfl) rfl #[.agg #[.int .i64 a1_0, .int .u64 a1_1, .slice A1_2 l1_2.length c1_2], .int .u64 a2, .int .u64 a3] rfl (by (try simp only [List.map_toArray, List.map_cons, List.map_nil]); first | done | rfl | (simp only [List.length_drop, List.length_take]; rfl)) ?_; (with_reducible refine (shackleref05_Offset.calls k a1_0 a1_1 _ _ l1_2 a2 a3 t162 t163 _ ?side1 ?side2 A5.out).mono ?_); (case side1 => repeat (first | exact (Kd.C_below HR1_2.out HB.out) | (with_reducible refine Kd.C_alloc ?_ _) | (with_reducible refine Kd.C_drewN ?_ _) | (with_reducible refine Kd.C_drew ?_))); (case side2 => exact HC1_2.out); rintro e w19 ⟨rfl, hb⟩; refine ⟨_, rfl, ?_⟩; have n0_ := Aside0.mk (Kd.V_below (by (with_reducible repeat (first | apply Kd.V_alloc | apply Kd.V_drewN | apply Kd.V_drew)); exact HO0.out) hb); have n1_ := Aside0.mk (blk_below (g := gb161) (o := .cells #[.int .i64 a1_0, .int .u64 a1_1, .slice A1_2 l1_2.length c1_2] 32 (0, 0)) (by (with_reducible repeat (first | refine blk_drewN ?_ _ | refine blk_drew ?_ | refine blk_alloc ?_ _)); exact BK161.out) hb); have n2_ := Aside0.mk (below_step (by repeat (first | (with_reducible first | exact HB.out | apply below_alloc | apply pw_below_drewN | apply below_drew1 | refine below_set ?_ GE161.out) | exact HB.out)) hb); clear HO0; clear BK161; clear HB; have HO0 := n0_; have BK161 := n1_; have HB := n2_; clear n0_ n1_ n2_; (try clear hb); (try clear hb2); (try clear hk); (try clear hi)))
  go_ret2
  exact ⟨_, by first | rfl | (simp [errW_none, errW_some] <;> rfl) | (simp [*, errW_none, errW_some] <;> rfl), Kd.V_nil _ _ _ _ _, by repeat (first | (with_reducible first | exact HB.out | apply below_alloc | apply pw_below_drewN | apply below_drew1 | refine below_set ?_ GE161.out) | exact HB.out)⟩
def shackleref06_Strings.f (k : Nat) (l0 : List Int) (a1_0 : Int) (a1_1 : Int) (l1_2 : List (S29)) (l2_0 : List Int) (a2_1 : Int) (a2_2 : Int) (a2_3 : Int) (a2_4 : Int) (a2_5 : Int) (a2_6 : Int) (a2_7 : Int) (a2_8 : Int) (a2_9 : Int) (a2_10 : Int) (a2_11 : Int) (a2_12 : Int) (a2_13 : Int) (a2_14 : Bool) (a2_15 : Bool) (a2_16 : Bool) (a2_17 : Int) (a2_18 : Int) (a2_19 : Int) (a2_20 : Int) (a2_21 : Int) (a2_22 : Int) (a2_23 : Int) (a2_24 : Int) (a2_25 : Int) (a2_26 : Int) (a2_27 : Int) (a2_28 : Int) (a2_29 : Int) (a2_30 : Int) (a2_31 : Int) (a2_32 : Bool) (a2_33 : Bool) (a2_34 : Bool) (a2_35 : Bool) (a2_36 : Bool) : Option (List Int × Int) := if a2_8 > 1048576 then (some (([] : List Int), 2)) else ((shackleref05_Slice.f k l0 a1_0 a1_1 l1_2 a2_4 a2_8).bind fun bt170 => (if bt170.2 = 0 then (if (bt170.1.length : Int) = 0 then (some (([] : List Int), 3)) else (if 0 < (bt170.1.length : Int) then (if (rd bt170.1 0) = 0 then (if 0 ≤ (wrap64 ((bt170.1.length : Int) - 1)) then (if (wrap64 ((bt170.1.length : Int) - 1)) < (bt170.1.length : Int) then (if (rd bt170.1 (wrap64 ((bt170.1.length : Int) - 1))) = 0 then (some (bt170.1, 0)) else (some (([] : List Int), 3))) else (none)) else (none)) else (some (([] : List Int), 3))) else (none))) else (some (([] : List Int), bt170.2))))
theorem shackleref06_Strings.mono : ∀ a0 a1 a2 a3 a4 a5 a6 a7 a8 a9 a10 a11 a12 a13 a14 a15 a16 a17 a18 a19 a20 a21 a22 a23 a24 a25 a26 a27 a28 a29 a30 a31 a32 a33 a34 a35 a36 a37 a38 a39 a40 k, LeO (shackleref06_Strings.f k a0 a1 a2 a3 a4 a5 a6 a7 a8 a9 a10 a11 a12 a13 a14 a15 a16 a17 a18 a19 a20 a21 a22 a23 a24 a25 a26 a27 a28 a29 a30 a31 a32 a33 a34 a35 a36 a37 a38 a39 a40) (shackleref06_Strings.f (k + 1) a0 a1 a2 a3 a4 a5 a6 a7 a8 a9 a10 a11 a12 a13 a14 a15 a16 a17 a18 a19 a20 a21 a22 a23 a24 a25 a26 a27 a28 a29 a30 a31 a32 a33 a34 a35 a36 a37 a38 a39 a40) := by
 intro a0 a1 a2 a3 a4 a5 a6 a7 a8 a9 a10 a11 a12 a13 a14 a15 a16 a17 a18 a19 a20 a21 a22 a23 a24 a25 a26 a27 a28 a29 a30 a31 a32 a33 a34 a35 a36 a37 a38 a39 a40 k
 unfold shackleref06_Strings.f
 repeat' first
   | (with_reducible exact shackleref05_Slice.mono _ _ _ _ _ _ _)
   | (with_reducible exact LeO.refl _)
   | (with_reducible exact LeO.none _)
   | (with_reducible refine LeO.ite ?_ ?_)
   | (with_reducible refine LeO.bind ?_ (fun _ => ?_))
   | exact shackleref05_Slice.mono _ _ _ _ _ _ _
   | exact LeO.none _
   | refine LeO.ite ?_ ?_
   | refine LeO.bind ?_ (fun _ => ?_)
set_option maxHeartbeats 8000000 in
set_option maxRecDepth 100000 in
theorem shackleref06_Strings.calls (k : Nat) (P0_ : Nat → Prop) (A0 : Option Addr) (c0 : Nat) (l0 : List Int) (a1_0 : Int) (a1_1 : Int) (A1_2 : Option Addr) (c1_2 : Nat) (l1_2 : List (S29)) (A2_0 : Option Addr) (c2_0 : Nat) (l2_0 : List Int) (a2_1 : Int) (a2_2 : Int) (a2_3 : Int) (a2_4 : Int) (a2_5 : Int) (a2_6 : Int) (a2_7 : Int) (a2_8 : Int) (a2_9 : Int) (a2_10 : Int) (a2_11 : Int) (a2_12 : Int) (a2_13 : Int) (a2_14 : Bool) (a2_15 : Bool) (a2_16 : Bool) (a2_17 : Int) (a2_18 : Int) (a2_19 : Int) (a2_20 : Int) (a2_21 : Int) (a2_22 : Int) (a2_23 : Int) (a2_24 : Int) (a2_25 : Int) (a2_26 : Int) (a2_27 : Int) (a2_28 : Int) (a2_29 : Int) (a2_30 : Int) (a2_31 : Int) (a2_32 : Bool) (a2_33 : Bool) (a2_34 : Bool) (a2_35 : Bool) (a2_36 : Bool) (r1 : List Int) (r2 : Int) (w : World) (hs0 : Kd.V (Kd.int .u8) 5 w w.heap.size (fun k_ => P0_ k_) (.slice A0 l0.length c0) l0) (hr1_2 : Kd.C k29 w A1_2 l1_2.length l1_2) (hc1_2 : l1_2.length ≤ c1_2) (hr2_0 : Kd.C (Kd.int .u64) w A2_0 l2_0.length l2_0) (hc2_0 : l2_0.length ≤ c2_0) (h : shackleref06_Strings.f k l0 a1_0 a1_1 l1_2 l2_0 a2_1 a2_2 a2_3 a2_4 a2_5 a2_6 a2_7 a2_8 a2_9 a2_10 a2_11 a2_12 a2_13 a2_14 a2_15 a2_16 a2_17 a2_18 a2_19 a2_20 a2_21 a2_22 a2_23 a2_24 a2_25 a2_26 a2_27 a2_28 a2_29 a2_30 a2_31 a2_32 a2_33 a2_34 a2_35 a2_36 = some (r1, r2)) :
  Calls Try.prog 40 #[.slice A0 l0.length c0, .agg #[.int .i64 a1_0, .int .u64 a1_1, .slice A1_2 l1_2.length c1_2], .agg #[.slice A2_0 l2_0.length c2_0, .int .u64 a2_1, .int .u64 a2_2, .int .u64 a2_3, .int .u64 a2_4, .int .u64 a2_5, .int .u64 a2_6, .int .u64 a2_7, .int .u64 a2_8, .int .u64 a2_9, .int .u64 a2_10, .int .u64 a2_11, .int .u64 a2_12, .int .u64 a2_13, .bool a2_14, .bool a2_15, .bool a2_16, .int .u64 a2_17, .int .u64 a2_18, .int .u64 a2_19, .int .u64 a2_20, .int .u64 a2_21, .int .u64 a2_22, .int .u64 a2_23, .int .u64 a2_24, .int .u64 a2_25, .int .u64 a2_26, .int .u64 a2_27, .int .u64 a2_28, .int .u64 a2_29, .int .u64 a2_30, .int .u64 a2_31, .bool a2_32, .bool a2_33, .bool a2_34, .bool a2_35, .bool a2_36]] w fun e w' => ∃ v0_ : Value, e = .returned (.tuple #[v0_, .int .i64 r2]) ∧ Kd.V (Kd.int .u8) 5 w' w.heap.size (fun k_ => (P0_ k_ ∨ w.heap.size ≤ k_)) v0_ r1 ∧ Below w.heap.size w w' := by
 have hu32 := Try.underlying32
 have hu35 := Try.underlying35
 have HO0 := Aside0.mk (show Kd.V (Kd.int .u8) 5 w w.heap.size (fun k_ => (P0_ k_ ∨ w.heap.size ≤ k_)) (.slice A0 l0.length c0) l0 from Kd.V_mono hs0 (fun k_ hk => .inl hk))
 have HR1_2 := Aside0.mk hr1_2
 have HC1_2 := Aside0.mk hc1_2
 clear hr1_2 hc1_2
 have HR2_0 := Aside0.mk hr2_0
 have HC2_0 := Aside0.mk hc2_0
 clear hr2_0 hc2_0
 have HB := Aside0.mk (Below.refl w.heap.size w)
 have H : (if a2_8 > 1048576 then (some (([] : List Int), 2)) else ((shackleref05_Slice.f k l0 a1_0 a1_1 l1_2 a2_4 a2_8).bind fun bt170 => (if bt170.2 = 0 then (if (bt170.1.length : Int) = 0 then (some (([] : List Int), 3)) else (if 0 < (bt170.1.length : Int) then (if (rd bt170.1 0) = 0 then (if 0 ≤ (wrap64 ((bt170.1.length : Int) - 1)) then (if (wrap64 ((bt170.1.length : Int) - 1)) < (bt170.1.length : Int) then (if (rd bt170.1 (wrap64 ((bt170.1.length : Int) - 1))) = 0 then (some (bt170.1, 0)) else (some (([] : List Int), 3))) else (none)) else (none)) else (some (([] : List Int), 3))) else (none))) else (some (([] : List Int), bt170.2))))) = some (r1, r2) := h
 clear h
 by_cases c4 : a2_8 > 1048576
 ·rw [if_pos c4] at H
  have c4b0 : decide (1048576 < a2_8) = true := decide_eq_true c4
  clear c4
  simp only [Option.some.injEq, Prod.mk.injEq] at H
  obtain ⟨rfl, rfl⟩ := H
  go_enter Try.func40, Try.ntmps40
  go_wp2_with (first | ((with_reducible refine gate_ (.load 35 (.tmp 5)) rfl ?_); refine wpList_load_row rfl 35 (.tmp 5) rfl gb169 rfl 35 _ (0, 0) _ (by (with_reducible repeat (first | refine blk_drewN ?_ _ | refine blk_drew ?_ | refine blk_alloc ?_ _)); exact BK169.out) Try.underlying35 rfl (by kernel_rfl) ?_) | ((with_reducible refine gate_dst (N := 4) rfl ?_); (try (refine gate_guard (by rfl) ?_; dsimp only)); refine box_event ?hg (N := 4) ?hd (cs := #[.int .i64 a1_0, .int .u64 a1_1, .slice A1_2 l1_2.length c1_2]) (t := 32) ?hr ?_; (case hd => rfl); (case hg => rfl); (case hr => first | (go_simp; done) | (go_simp; rfl)); intro gb168 hg w5 hbox hb; have n0_ := Aside0.mk (Kd.V_below (Kd.V_elderB (by (with_reducible repeat (first | apply Kd.V_alloc | apply Kd.V_drewN | apply Kd.V_drew)); exact HO0.out) gb168 (Nat.le_of_eq hg.symm)) hb); have n1_ := Aside0.mk (below_step (by repeat (first | (with_reducible first | exact HB.out | apply below_alloc | apply pw_below_drewN | apply below_drew1) | exact HB.out)) hb); have n2_ := Aside0.mk (hbox); have n3_ := Aside0.mk ((by rw [hg]; exact (below_size (by repeat (first | (with_reducible first | exact HB.out | apply below_alloc | apply pw_below_drewN | apply below_drew1) | exact HB.out))) : w.heap.size ≤ gb168)); have n4_ := Aside0.mk ((by rw [hg]; exact (below_size (by repeat (first | (with_reducible first | exact HB.out | apply below_alloc | apply pw_below_drewN | apply below_drew1) | exact HB.out))) : w.heap.size ≤ gb168)); clear HO0; clear HB; have HO0 := n0_; have HB := n1_; have BK168 := n2_; have GW168 := n3_; have GE168 := n4_; clear n0_ n1_ n2_ n3_ n4_; clear hb hbox hg) | ((with_reducible refine gate_dst (N := 5) rfl ?_); (try (refine gate_guard (by rfl) ?_; dsimp only)); refine box_event ?hg (N := 5) ?hd (cs := #[.slice A2_0 l2_0.length c2_0, .int .u64 a2_1, .int .u64 a2_2, .int .u64 a2_3, .int .u64 a2_4, .int .u64 a2_5, .int .u64 a2_6, .int .u64 a2_7, .int .u64 a2_8, .int .u64 a2_9, .int .u64 a2_10, .int .u64 a2_11, .int .u64 a2_12, .int .u64 a2_13, .bool a2_14, .bool a2_15, .bool a2_16, .int .u64 a2_17, .int .u64 a2_18, .int .u64 a2_19, .int .u64 a2_20, .int .u64 a2_21, .int .u64 a2_22, .int .u64 a2_23, .int .u64 a2_24, .int .u64 a2_25, .int .u64 a2_26, .int .u64 a2_27, .int .u64 a2_28, .int .u64 a2_29, .int .u64 a2_30, .int .u64 a2_31, .bool a2_32, .bool a2_33, .bool a2_34, .bool a2_35, .bool a2_36]) (t := 35) ?hr ?_; (case hd => rfl); (case hg => rfl); (case hr => first | (go_simp; done) | (go_simp; rfl)); intro gb169 hg w6 hbox hb; have n0_ := Aside0.mk (Kd.V_below (Kd.V_elderB (by (with_reducible repeat (first | apply Kd.V_alloc | apply Kd.V_drewN | apply Kd.V_drew)); exact HO0.out) gb169 (Nat.le_of_eq hg.symm)) hb); have n1_ := Aside0.mk (blk_below (g := gb168) (o := .cells #[.int .i64 a1_0, .int .u64 a1_1, .slice A1_2 l1_2.length c1_2] 32 (0, 0)) (by (with_reducible repeat (first | refine blk_drewN ?_ _ | refine blk_drew ?_ | refine blk_alloc ?_ _)); exact BK168.out) hb); have n2_ := Aside0.mk (below_step (by repeat (first | (with_reducible first | exact HB.out | apply below_alloc | apply pw_below_drewN | apply below_drew1 | refine below_set ?_ GE168.out) | exact HB.out)) hb); have n3_ := Aside0.mk (hbox); have n4_ := Aside0.mk ((by rw [hg]; exact (below_size (by repeat (first | (with_reducible first | exact HB.out | apply below_alloc | apply pw_below_drewN | apply below_drew1 | refine below_set ?_ GE168.out) | exact HB.out))) : w.heap.size ≤ gb169)); have n5_ := Aside0.mk ((by rw [hg]; exact (below_size (by repeat (first | (with_reducible first | exact HB.out | apply below_alloc | apply pw_below_drewN | apply below_drew1 | refine below_set ?_ GE168.out) | exact HB.out))) : w.heap.size ≤ gb169)); have n6_ := Aside0.mk ((by rw [hg]; exact Nat.ne_of_lt (blk_lt (g := gb168) (o := .cells #[.int .i64 a1_0, .int .u64 a1_1, .slice A1_2 l1_2.length c1_2] 32 (0, 0)) (by (with_reducible repeat (first | refine blk_drewN ?_ _ | refine blk_drew ?_ | refine blk_alloc ?_ _)); exact BK168.out)) : gb168 ≠ gb169)); have n7_ := Aside0.mk ((by rw [hg]; exact Nat.ne_of_gt (blk_lt (g := gb168) (o := .cells #[.int .i64 a1_0, .int .u64 a1_1, .slice A1_2 l1_2.length c1_2] 32 (0, 0)) (by (with_reducible repeat (first | refine blk_drewN ?_ _ | refine blk_drew ?_ | refine blk_alloc ?_ _)); exact BK168.out)) : gb169 ≠ gb168)); clear HO0; clear BK168; clear HB; have HO0 := n0_; have BK168 := n1_; have HB := n2_; have BK169 := n3_; have GW169 := n4_; have GE169 := n5_; have NB168_169 := n6_; have NB169_168 := n7_; clear n0_ n1_ n2_ n3_ n4_ n5_ n6_ n7_; clear hb hbox hg; have hnb7 := NB169_168.out; have hnc7 := NB168_169.out; have hcz8_0 : w6.cell? ⟨gb169, 0, none⟩ = some (.slice A2_0 l2_0.length c2_0) := (blk_cell BK169.out 0).trans rfl; have hcz8_1 : w6.cell? ⟨gb169, 1, none⟩ = some (.int .u64 a2_1) := (blk_cell BK169.out 1).trans rfl; have hcz8_2 : w6.cell? ⟨gb169, 2, none⟩ = some (.int .u64 a2_2) := (blk_cell BK169.out 2).trans rfl; have hcz8_3 : w6.cell? ⟨gb169, 3, none⟩ = some (.int .u64 a2_3) := (blk_cell BK169.out 3).trans rfl; have hcz8_4 : w6.cell? ⟨gb169, 4, none⟩ = some (.int .u64 a2_4) := (blk_cell BK169.out 4).trans rfl; have hcz8_5 : w6.cell? ⟨gb169, 5, none⟩ = some (.int .u64 a2_5) := (blk_cell BK169.out 5).trans rfl; have hcz8_6 : w6.cell? ⟨gb169, 6, none⟩ = some (.int .u64 a2_6) := (blk_cell BK169.out 6).trans rfl; have hcz8_7 : w6.cell? ⟨gb169, 7, none⟩ = some (.int .u64 a2_7) := (blk_cell BK169.out 7).trans rfl; have hcz8_8 : w6.cell? ⟨gb169, 8, none⟩ = some (.int .u64 a2_8) := (blk_cell BK169.out 8).trans rfl; have hcz8_9 : w6.cell? ⟨gb169, 9, none⟩ = some (.int .u64 a2_9) := (blk_cell BK169.out 9).trans rfl; have hcz8_10 : w6.cell? ⟨gb169, 10, none⟩ = some (.int .u64 a2_10) := (blk_cell BK169.out 10).trans rfl; have hcz8_11 : w6.cell? ⟨gb169, 11, none⟩ = some (.int .u64 a2_11) := (blk_cell BK169.out 11).trans rfl; have hcz8_12 : w6.cell? ⟨gb169, 12, none⟩ = some (.int .u64 a2_12) := (blk_cell BK169.out 12).trans rfl; have hcz8_13 : w6.cell? ⟨gb169, 13, none⟩ = some (.int .u64 a2_13) := (blk_cell BK169.out 13).trans rfl; have hcz8_14 : w6.cell? ⟨gb169, 14, none⟩ = some (.bool a2_14) := (blk_cell BK169.out 14).trans rfl; have hcz8_15 : w6.cell? ⟨gb169, 15, none⟩ = some (.bool a2_15) := (blk_cell BK169.out 15).trans rfl; have hcz8_16 : w6.cell? ⟨gb169, 16, none⟩ = some (.bool a2_16) := (blk_cell BK169.out 16).trans rfl; have hcz8_17 : w6.cell? ⟨gb169, 17, none⟩ = some (.int .u64 a2_17) := (blk_cell BK169.out 17).trans rfl; have hcz8_18 : w6.cell? ⟨gb169, 18, none⟩ = some (.int .u64 a2_18) := (blk_cell BK169.out 18).trans rfl; have hcz8_19 : w6.cell? ⟨gb169, 19, none⟩ = some (.int .u64 a2_19) := (blk_cell BK169.out 19).trans rfl; have hcz8_20 : w6.cell? ⟨gb169, 20, none⟩ = some (.int .u64 a2_20) := (blk_cell BK169.out 20).trans rfl; have hcz8_21 : w6.cell? ⟨gb169, 21, none⟩ = some (.int .u64 a2_21) := (blk_cell BK169.out 21).trans rfl; have hcz8_22 : w6.cell? ⟨gb169, 22, none⟩ = some (.int .u64 a2_22) := (blk_cell BK169.out 22).trans rfl; have hcz8_23 : w6.cell? ⟨gb169, 23, none⟩ = some (.int .u64 a2_23) := (blk_cell BK169.out 23).trans rfl; have hcz8_24 : w6.cell? ⟨gb169, 24, none⟩ = some (.int .u64 a2_24) := (blk_cell BK169.out 24).trans rfl; have hcz8_25 : w6.cell? ⟨gb169, 25, none⟩ = some (.int .u64 a2_25) := (blk_cell BK169.out 25).trans rfl; have hcz8_26 : w6.cell? ⟨gb169, 26, none⟩ = some (.int .u64 a2_26) := (blk_cell BK169.out 26).trans rfl; have hcz8_27 : w6.cell? ⟨gb169, 27, none⟩ = some (.int .u64 a2_27) := (blk_cell BK169.out 27).trans rfl; have hcz8_28 : w6.cell? ⟨gb169, 28, none⟩ = some (.int .u64 a2_28) := (blk_cell BK169.out 28).trans rfl; have hcz8_29 : w6.cell? ⟨gb169, 29, none⟩ = some (.int .u64 a2_29) := (blk_cell BK169.out 29).trans rfl; have hcz8_30 : w6.cell? ⟨gb169, 30, none⟩ = some (.int .u64 a2_30) := (blk_cell BK169.out 30).trans rfl; have hcz8_31 : w6.cell? ⟨gb169, 31, none⟩ = some (.int .u64 a2_31) := (blk_cell BK169.out 31).trans rfl; have hcz8_32 : w6.cell? ⟨gb169, 32, none⟩ = some (.bool a2_32) := (blk_cell BK169.out 32).trans rfl; have hcz8_33 : w6.cell? ⟨gb169, 33, none⟩ = some (.bool a2_33) := (blk_cell BK169.out 33).trans rfl; have hcz8_34 : w6.cell? ⟨gb169, 34, none⟩ = some (.bool a2_34) := (blk_cell BK169.out 34).trans rfl; have hcz8_35 : w6.cell? ⟨gb169, 35, none⟩ = some (.bool a2_35) := (blk_cell BK169.out 35).trans rfl; have hcz8_36 : w6.cell? ⟨gb169, 36, none⟩ = some (.bool a2_36) := (blk_cell BK169.out 36).trans rfl; have hfz8_0 := blk_frozen BK169.out 0; have hfz8_1 := blk_frozen BK169.out 1; have hfz8_2 := blk_frozen BK169.out 2; have hfz8_3 := blk_frozen BK169.out 3; have hfz8_4 := blk_frozen BK169.out 4; have hfz8_5 := blk_frozen BK169.out 5; have hfz8_6 := blk_frozen BK169.out 6; have hfz8_7 := blk_frozen BK169.out 7; have hfz8_8 := blk_frozen BK169.out 8; have hfz8_9 := blk_frozen BK169.out 9; have hfz8_10 := blk_frozen BK169.out 10; have hfz8_11 := blk_frozen BK169.out 11; have hfz8_12 := blk_frozen BK169.out 12; have hfz8_13 := blk_frozen BK169.out 13; have hfz8_14 := blk_frozen BK169.out 14; have hfz8_15 := blk_frozen BK169.out 15; have hfz8_16 := blk_frozen BK169.out 16; have hfz8_17 := blk_frozen BK169.out 17; have hfz8_18 := blk_frozen BK169.out 18; have hfz8_19 := blk_frozen BK169.out 19; have hfz8_20 := blk_frozen BK169.out 20; have hfz8_21 := blk_frozen BK169.out 21; have hfz8_22 := blk_frozen BK169.out 22; have hfz8_23 := blk_frozen BK169.out 23; have hfz8_24 := blk_frozen BK169.out 24; have hfz8_25 := blk_frozen BK169.out 25; have hfz8_26 := blk_frozen BK169.out 26; have hfz8_27 := blk_frozen BK169.out 27; have hfz8_28 := blk_frozen BK169.out 28; have hfz8_29 := blk_frozen BK169.out 29; have hfz8_30 := blk_frozen BK169.out 30; have hfz8_31 := blk_frozen BK169.out 31; have hfz8_32 := blk_frozen BK169.out 32; have hfz8_33 := blk_frozen BK169.out 33; have hfz8_34 := blk_frozen BK169.out 34; have hfz8_35 := blk_frozen BK169.out 35; have hfz8_36 := blk_frozen BK169.out 36))
  go_ret2
  exact ⟨_, by first | rfl | (simp [errW_none, errW_some] <;> rfl) | (simp [*, errW_none, errW_some] <;> rfl), Kd.V_nil _ _ _ _ _, by repeat (first | (with_reducible first | exact HB.out | apply below_alloc | apply pw_below_drewN | apply below_drew1 | refine below_set ?_ GE168.out | refine below_set ?_ GE169.out) | exact HB.out)⟩
 ·rw [if_neg c4] at H
  have c4b0 : decide (1048576 < a2_8) = false := decide_eq_false c4
  clear c4
  replace H := Option.bind_eq_some_iff.mp H
  obtain ⟨⟨t170, t173⟩, A90, H⟩ := H
  replace H : (if t173 = 0 then (if (t170.length : Int) = 0 then (some (([] : List Int), 3)) else (if 0 < (t170.length : Int) then (if (rd t170 0) = 0 then (if 0 ≤ (wrap64 ((t170.length : Int) - 1)) then (if (wrap64 ((t170.length : Int) - 1)) < (t170.length : Int) then (if (rd t170 (wrap64 ((t170.length : Int) - 1))) = 0 then (some (t170, 0)) else (some (([] : List Int), 3))) else (none)) else (none)) else (some (([] : List Int), 3))) else (none))) else (some (([] : List Int), t173))) = some (r1, r2) := H
  have A9 := Aside0.mk A90
  clear A90
  by_cases c10 : t173 = 0
  ·rw [if_pos c10] at H
   have c10b0 : (t173 == 0) = true := beq_iff_eq.mpr c10
   have c10b1 : (t173 != 0) = false := bne_eq_false_iff_eq.mpr c10
   clear c10
   by_cases c11 : (t170.length : Int) = 0
   ·rw [if_pos c11] at H
    have c11b0 : ((t170.length : Int) == 0) = true := beq_iff_eq.mpr c11
    have c11b1 : ((t170.length : Int) != 0) = false := bne_eq_false_iff_eq.mpr c11
    clear c11
    simp only [Option.some.injEq, Prod.mk.injEq] at H
    obtain ⟨rfl, rfl⟩ := H
    go_enter Try.func40, Try.ntmps40
    go_wp2_with (first | ((with_reducible refine gate_ (.load 35 (.tmp 5)) rfl ?_); refine wpList_load_row rfl 35 (.tmp 5) rfl gb169 rfl 35 _ (0, 0) _ (by (with_reducible repeat (first | refine blk_drewN ?_ _ | refine blk_drew ?_ | refine blk_alloc ?_ _)); exact BK169.out) Try.underlying35 rfl (by kernel_rfl) ?_) | ((with_reducible refine gate_dst (N := 4) rfl ?_); (try (refine gate_guard (by rfl) ?_; dsimp only)); refine box_event ?hg (N := 4) ?hd (cs := #[.int .i64 a1_0, .int .u64 a1_1, .slice A1_2 l1_2.length c1_2]) (t := 32) ?hr ?_; (case hd => rfl); (case hg => rfl); (case hr => first | (go_simp; done) | (go_simp; rfl)); intro gb168 hg w12 hbox hb; have n0_ := Aside0.mk (Kd.V_below (Kd.V_elderB (by (with_reducible repeat (first | apply Kd.V_alloc | apply Kd.V_drewN | apply Kd.V_drew)); exact HO0.out) gb168 (Nat.le_of_eq hg.symm)) hb); have n1_ := Aside0.mk (below_step (by repeat (first | (with_reducible first | exact HB.out | apply below_alloc | apply pw_below_drewN | apply below_drew1) | exact HB.out)) hb); have n2_ := Aside0.mk (hbox); have n3_ := Aside0.mk ((by rw [hg]; exact (below_size (by repeat (first | (with_reducible first | exact HB.out | apply below_alloc | apply pw_below_drewN | apply below_drew1) | exact HB.out))) : w.heap.size ≤ gb168)); have n4_ := Aside0.mk ((by rw [hg]; exact (below_size (by repeat (first | (with_reducible first | exact HB.out | apply below_alloc | apply pw_below_drewN | apply below_drew1) | exact HB.out))) : w.heap.size ≤ gb168)); clear HO0; clear HB; have HO0 := n0_; have HB := n1_; have BK168 := n2_; have GW168 := n3_; have GE168 := n4_; clear n0_ n1_ n2_ n3_ n4_; clear hb hbox hg) | ((with_reducible refine gate_dst (N := 5) rfl ?_); (try (refine gate_guard (by rfl) ?_; dsimp only)); refine box_event ?hg (N := 5) ?hd (cs := #[.slice A2_0 l2_0.length c2_0, .int .u64 a2_1, .int .u64 a2_2, .int .u64 a2_3, .int .u64 a2_4, .int .u64 a2_5, .int .u64 a2_6, .int .u64 a2_7, .int .u64 a2_8, .int .u64 a2_9, .int .u64 a2_10, .int .u64 a2_11, .int .u64 a2_12, .int .u64 a2_13, .bool a2_14, .bool a2_15, .bool a2_16, .int .u64 a2_17, .int .u64 a2_18, .int .u64 a2_19, .int .u64 a2_20, .int .u64 a2_21, .int .u64 a2_22, .int .u64 a2_23, .int .u64 a2_24, .int .u64 a2_25, .int .u64 a2_26, .int .u64 a2_27, .int .u64 a2_28, .int .u64 a2_29, .int .u64 a2_30, .int .u64 a2_31, .bool a2_32, .bool a2_33, .bool a2_34, .bool a2_35, .bool a2_36]) (t := 35) ?hr ?_; (case hd => rfl); (case hg => rfl); (case hr => first | (go_simp; done) | (go_simp; rfl)); intro gb169 hg w13 hbox hb; have n0_ := Aside0.mk (Kd.V_below (Kd.V_elderB (by (with_reducible repeat (first | apply Kd.V_alloc | apply Kd.V_drewN | apply Kd.V_drew)); exact HO0.out) gb169 (Nat.le_of_eq hg.symm)) hb); have n1_ := Aside0.mk (blk_below (g := gb168) (o := .cells #[.int .i64 a1_0, .int .u64 a1_1, .slice A1_2 l1_2.length c1_2] 32 (0, 0)) (by (with_reducible repeat (first | refine blk_drewN ?_ _ | refine blk_drew ?_ | refine blk_alloc ?_ _)); exact BK168.out) hb); have n2_ := Aside0.mk (below_step (by repeat (first | (with_reducible first | exact HB.out | apply below_alloc | apply pw_below_drewN | apply below_drew1 | refine below_set ?_ GE168.out) | exact HB.out)) hb); have n3_ := Aside0.mk (hbox); have n4_ := Aside0.mk ((by rw [hg]; exact (below_size (by repeat (first | (with_reducible first | exact HB.out | apply below_alloc | apply pw_below_drewN | apply below_drew1 | refine below_set ?_ GE168.out) | exact HB.out))) : w.heap.size ≤ gb169)); have n5_ := Aside0.mk ((by rw [hg]; exact (below_size (by repeat (first | (with_reducible first | exact HB.out | apply below_alloc | apply pw_below_drewN | apply below_drew1 | refine below_set ?_ GE168.out) | exact HB.out))) : w.heap.size ≤ gb169)); have n6_ := Aside0.mk ((by rw [hg]; exact Nat.ne_of_lt (blk_lt (g := gb168) (o := .cells #[.int .i64 a1_0, .int .u64 a1_1, .slice A1_2 l1_2.length c1_2] 32 (0, 0)) (by (with_reducible repeat (first | refine blk_drewN ?_ _ | refine blk_drew ?_ | refine blk_alloc ?_ _)); exact BK168.out)) : gb168 ≠ gb169)); have n7_ := Aside0.mk ((by rw [hg]; exact Nat.ne_of_gt (blk_lt (g := gb168) (o := .cells #[.int .i64 a1_0, .int .u64 a1_1, .slice A1_2 l1_2.length c1_2] 32 (0, 0)) (by (with_reducible repeat (first | refine blk_drewN ?_ _ | refine blk_drew ?_ | refine blk_alloc ?_ _)); exact BK168.out)) : gb169 ≠ gb168)); clear HO0; clear BK168; clear HB; have HO0 := n0_; have BK168 := n1_; have HB := n2_; have BK169 := n3_; have GW169 := n4_; have GE169 := n5_; have NB168_169 := n6_; have NB169_168 := n7_; clear n0_ n1_ n2_ n3_ n4_ n5_ n6_ n7_; clear hb hbox hg; have hnb14 := NB169_168.out; have hnc14 := NB168_169.out; have hcz15_0 : w13.cell? ⟨gb169, 0, none⟩ = some (.slice A2_0 l2_0.length c2_0) := (blk_cell BK169.out 0).trans rfl; have hcz15_1 : w13.cell? ⟨gb169, 1, none⟩ = some (.int .u64 a2_1) := (blk_cell BK169.out 1).trans rfl; have hcz15_2 : w13.cell? ⟨gb169, 2, none⟩ = some (.int .u64 a2_2) := (blk_cell BK169.out 2).trans rfl; have hcz15_3 : w13.cell? ⟨gb169, 3, none⟩ = some (.int .u64 a2_3) := (blk_cell BK169.out 3).trans rfl; have hcz15_4 : w13.cell? ⟨gb169, 4, none⟩ = some (.int .u64 a2_4) := (blk_cell BK169.out 4).trans rfl; have hcz15_5 : w13.cell? ⟨gb169, 5, none⟩ = some (.int .u64 a2_5) := (blk_cell BK169.out 5).trans rfl; have hcz15_6 : w13.cell? ⟨gb169, 6, none⟩ = some (.int .u64 a2_6) := (blk_cell BK169.out 6).trans rfl; have hcz15_7 : w13.cell? ⟨gb169, 7, none⟩ = some (.int .u64 a2_7) := (blk_cell BK169.out 7).trans rfl; have hcz15_8 : w13.cell? ⟨gb169, 8, none⟩ = some (.int .u64 a2_8) := (blk_cell BK169.out 8).trans rfl; have hcz15_9 : w13.cell? ⟨gb169, 9, none⟩ = some (.int .u64 a2_9) := (blk_cell BK169.out 9).trans rfl; have hcz15_10 : w13.cell? ⟨gb169, 10, none⟩ = some (.int .u64 a2_10) := (blk_cell BK169.out 10).trans rfl; have hcz15_11 : w13.cell? ⟨gb169, 11, none⟩ = some (.int .u64 a2_11) := (blk_cell BK169.out 11).trans rfl; have hcz15_12 : w13.cell? ⟨gb169, 12, none⟩ = some (.int .u64 a2_12) := (blk_cell BK169.out 12).trans rfl; have hcz15_13 : w13.cell? ⟨gb169, 13, none⟩ = some (.int .u64 a2_13) := (blk_cell BK169.out 13).trans rfl; have hcz15_14 : w13.cell? ⟨gb169, 14, none⟩ = some (.bool a2_14) := (blk_cell BK169.out 14).trans rfl; have hcz15_15 : w13.cell? ⟨gb169, 15, none⟩ = some (.bool a2_15) := (blk_cell BK169.out 15).trans rfl; have hcz15_16 : w13.cell? ⟨gb169, 16, none⟩ = some (.bool a2_16) := (blk_cell BK169.out 16).trans rfl; have hcz15_17 : w13.cell? ⟨gb169, 17, none⟩ = some (.int .u64 a2_17) := (blk_cell BK169.out 17).trans rfl; have hcz15_18 : w13.cell? ⟨gb169, 18, none⟩ = some (.int .u64 a2_18) := (blk_cell BK169.out 18).trans rfl; have hcz15_19 : w13.cell? ⟨gb169, 19, none⟩ = some (.int .u64 a2_19) := (blk_cell BK169.out 19).trans rfl; have hcz15_20 : w13.cell? ⟨gb169, 20, none⟩ = some (.int .u64 a2_20) := (blk_cell BK169.out 20).trans rfl; have hcz15_21 : w13.cell? ⟨gb169, 21, none⟩ = some (.int .u64 a2_21) := (blk_cell BK169.out 21).trans rfl; have hcz15_22 : w13.cell? ⟨gb169, 22, none⟩ = some (.int .u64 a2_22) := (blk_cell BK169.out 22).trans rfl; have hcz15_23 : w13.cell? ⟨gb169, 23, none⟩ = some (.int .u64 a2_23) := (blk_cell BK169.out 23).trans rfl; have hcz15_24 : w13.cell? ⟨gb169, 24, none⟩ = some (.int .u64 a2_24) := (blk_cell BK169.out 24).trans rfl; have hcz15_25 : w13.cell? ⟨gb169, 25, none⟩ = some (.int .u64 a2_25) := (blk_cell BK169.out 25).trans rfl; have hcz15_26 : w13.cell? ⟨gb169, 26, none⟩ = some (.int .u64 a2_26) := (blk_cell BK169.out 26).trans rfl; have hcz15_27 : w13.cell? ⟨gb169, 27, none⟩ = some (.int .u64 a2_27) := (blk_cell BK169.out 27).trans rfl; have hcz15_28 : w13.cell? ⟨gb169, 28, none⟩ = some (.int .u64 a2_28) := (blk_cell BK169.out 28).trans rfl; have hcz15_29 : w13.cell? ⟨gb169, 29, none⟩ = some (.int .u64 a2_29) := (blk_cell BK169.out 29).trans rfl; have hcz15_30 : w13.cell? ⟨gb169, 30, none⟩ = some (.int .u64 a2_30) := (blk_cell BK169.out 30).trans rfl; have hcz15_31 : w13.cell? ⟨gb169, 31, none⟩ = some (.int .u64 a2_31) := (blk_cell BK169.out 31).trans rfl; have hcz15_32 : w13.cell? ⟨gb169, 32, none⟩ = some (.bool a2_32) := (blk_cell BK169.out 32).trans rfl; have hcz15_33 : w13.cell? ⟨gb169, 33, none⟩ = some (.bool a2_33) := (blk_cell BK169.out 33).trans rfl; have hcz15_34 : w13.cell? ⟨gb169, 34, none⟩ = some (.bool a2_34) := (blk_cell BK169.out 34).trans rfl; have hcz15_35 : w13.cell? ⟨gb169, 35, none⟩ = some (.bool a2_35) := (blk_cell BK169.out 35).trans rfl; have hcz15_36 : w13.cell? ⟨gb169, 36, none⟩ = some (.bool a2_36) := (blk_cell BK169.out 36).trans rfl; have hfz15_0 := blk_frozen BK169.out 0; have hfz15_1 := blk_frozen BK169.out 1; have hfz15_2 := blk_frozen BK169.out 2; have hfz15_3 := blk_frozen BK169.out 3; have hfz15_4 := blk_frozen BK169.out 4; have hfz15_5 := blk_frozen BK169.out 5; have hfz15_6 := blk_frozen BK169.out 6; have hfz15_7 := blk_frozen BK169.out 7; have hfz15_8 := blk_frozen BK169.out 8; have hfz15_9 := blk_frozen BK169.out 9; have hfz15_10 := blk_frozen BK169.out 10; have hfz15_11 := blk_frozen BK169.out 11; have hfz15_12 := blk_frozen BK169.out 12; have hfz15_13 := blk_frozen BK169.out 13; have hfz15_14 := blk_frozen BK169.out 14; have hfz15_15 := blk_frozen BK169.out 15; have hfz15_16 := blk_frozen BK169.out 16; have hfz15_17 := blk_frozen BK169.out 17; have hfz15_18 := blk_frozen BK169.out 18; have hfz15_19 := blk_frozen BK169.out 19; have hfz15_20 := blk_frozen BK169.out 20; have hfz15_21 := blk_frozen BK169.out 21; have hfz15_22 := blk_frozen BK169.out 22; have hfz15_23 := blk_frozen BK169.out 23; have hfz15_24 := blk_frozen BK169.out 24; have hfz15_25 := blk_frozen BK169.out 25; have hfz15_26 := blk_frozen BK169.out 26; have hfz15_27 := blk_frozen BK169.out 27; have hfz15_28 := blk_frozen BK169.out 28; have hfz15_29 := blk_frozen BK169.out 29; have hfz15_30 := blk_frozen BK169.out 30; have hfz15_31 := blk_frozen BK169.out 31; have hfz15_32 := blk_frozen BK169.out 32; have hfz15_33 := blk_frozen BK169.out 33; have hfz15_34 := blk_frozen BK169.out 34; have hfz15_35 := blk_frozen BK169.out 35; have hfz15_36 := blk_frozen BK169.out 36; have hcz16_0 : w13.cell? ⟨gb168, 0, none⟩ = some (.int .i64 a1_0) := (blk_cell BK168.out 0).trans rfl; have hcz16_1 : w13.cell? ⟨gb168, 1, none⟩ = some (.int .u64 a1_1) := (blk_cell BK168.out 1).trans rfl; have hcz16_2 : w13.cell? ⟨gb168, 2, none⟩ = some (.slice A1_2 l1_2.length c1_2) := (blk_cell BK168.out 2).trans rfl; have hfz16_0 := blk_frozen BK168.out 0; have hfz16_1 := blk_frozen BK168.out 1; have hfz16_2 := blk_frozen BK168.out 2) | ((with_reducible refine gate_callee (f := 41) rfl ?_); refine goesL_ (some 20) rfl rfl Try.func41 (by kernel_rfl) rfl #[.slice A0 l0.length c0, .agg #[.int .i64 a1_0, .int .u64 a1_1, .slice A1_2 l1_2.length c1_2], .int .u64 a2_4, .int .u64 a2_8] rfl (by (try simp only [List.map_toArray, List.map_cons, List.map_nil]); first | done | rfl | (simp only [List.length_drop, List.length_take]; rfl)) ?_; (with_reducible refine (shackleref05_Slice.calls k (fun k_ => (((P0_ k_ ∨ w.heap.size ≤ k_) ∧ k_ ≠ gb168) ∧ k_ ≠ gb169)) _ _ l0 a1_0 a1_1 _ _ l1_2 a2_4 a2_8 t170 t173 _ ?side1 ?side2 ?side3 A9.out).mono ?_); (case side1 => exact HO0.out); (case side2 => repeat (first | exact (Kd.C_below HR1_2.out HB.out) | (with_reducible refine Kd.C_alloc ?_ _) | (with_reducible refine Kd.C_drewN ?_ _) | (with_reducible refine Kd.C_drew ?_))); (case side3 => exact HC1_2.out); rintro e w17 ⟨v171, rfl, ho0, hb⟩; refine ⟨_, rfl, ?_⟩; have n0_ := Aside0.mk (Kd.V_below (by (with_reducible repeat (first | apply Kd.V_alloc | apply Kd.V_drewN | apply Kd.V_drew)); exact HO0.out) hb); have n1_ := Aside0.mk (Kd.V_lower (Kd.V_mono (ok' := fun k_ => (P0_ k_ ∨ w.heap.size ≤ k_) ∧ k_ ≠ gb168 ∧ k_ ≠ gb169) ho0 (fun k_ hk_ => ⟨Or.elim hk_ (fun hs_ => hs_.1.1) (fun hn_ => (.inr (Nat.le_trans (below_size (by repeat (first | (with_reducible first | exact HB.out | apply below_alloc | apply pw_below_drewN | apply below_drew1 | refine below_set ?_ GE168.out | refine below_set ?_ GE169.out) | exact HB.out))) hn_))), Or.elim hk_ (fun hs_ => hs_.1.2) (fun hn_ => (Kd.freshB (g := gb168) (o := .cells #[.int .i64 a1_0, .int .u64 a1_1, .slice A1_2 l1_2.length c1_2] 32 (0, 0)) (by (with_reducible repeat (first | refine blk_drewN ?_ _ | refine blk_drew ?_ | refine blk_alloc ?_ _)); exact BK168.out) k_ hn_)), Or.elim hk_ (fun hs_ => hs_.2) (fun hn_ => (Kd.freshB (g := gb169) (o := .cells #[.slice A2_0 l2_0.length c2_0, .int .u64 a2_1, .int .u64 a2_2, .int .u64 a2_3, .int .u64 a2_4, .int .u64 a2_5, .int .u64 a2_6, .int .u64 a2_7, .int .u64 a2_8, .int .u64 a2_9, .int .u64 a2_10, .int .u64 a2_11, .int .u64 a2_12, .int .u64 a2_13, .bool a2_14, .bool a2_15, .bool a2_16, .int .u64 a2_17, .int .u64 a2_18, .int .u64 a2_19, .int .u64 a2_20, .int .u64 a2_21, .int .u64 a2_22, .int .u64 a2_23, .int .u64 a2_24, .int .u64 a2_25, .int .u64 a2_26, .int .u64 a2_27, .int .u64 a2_28, .int .u64 a2_29, .int .u64 a2_30, .int .u64 a2_31, .bool a2_32, .bool a2_33, .bool a2_34, .bool a2_35, .bool a2_36] 35 (0, 0)) (by (with_reducible repeat (first | refine blk_drewN ?_ _ | refine blk_drew ?_ | refine blk_alloc ?_ _)); exact BK169.out) k_ hn_))⟩)) (below_size (by repeat (first | (with_reducible first | exact HB.out | apply below_alloc | apply pw_below_drewN | apply below_drew1 | refine below_set ?_ GE168.out | refine below_set ?_ GE169.out) | exact HB.out)))); have n2_ := Aside0.mk (blk_below (g := gb168) (o := .cells #[.int .i64 a1_0, .int .u64 a1_1, .slice A1_2 l1_2.length c1_2] 32 (0, 0)) (by (with_reducible repeat (first | refine blk_drewN ?_ _ | refine blk_drew ?_ | refine blk_alloc ?_ _)); exact BK168.out) hb); have n3_ := Aside0.mk (blk_below (g := gb169) (o := .cells #[.slice A2_0 l2_0.length c2_0, .int .u64 a2_1, .int .u64 a2_2, .int .u64 a2_3, .int .u64 a2_4, .int .u64 a2_5, .int .u64 a2_6, .int .u64 a2_7, .int .u64 a2_8, .int .u64 a2_9, .int .u64 a2_10, .int .u64 a2_11, .int .u64 a2_12, .int .u64 a2_13, .bool a2_14, .bool a2_15, .bool a2_16, .int .u64 a2_17, .int .u64 a2_18, .int .u64 a2_19, .int .u64 a2_20, .int .u64 a2_21, .int .u64 a2_22, .int .u64 a2_23, .int .u64 a2_24, .int .u64 a2_25, .int .u64 a2_26, .int .u64 a2_27, .int .u64 a2_28, .int .u64 a2_29, .int .u64 a2_30, .int .u64 a2_31, .bool a2_32, .bool a2_33, .bool a2_34, .bool a2_35, .bool a2_36] 35 (0, 0)) (by (with_reducible repeat (first | refine blk_drewN ?_ _ | refine blk_drew ?_ | refine blk_alloc ?_ _)); exact BK169.out) hb); have n4_ := Aside0.mk (below_step (by repeat (first | (with_reducible first | exact HB.out | apply below_alloc | apply pw_below_drewN | apply below_drew1 | refine below_set ?_ GE168.out | refine below_set ?_ GE169.out) | exact HB.out)) hb); clear HO0; clear BK168; clear BK169; clear HB; have HO0 := n0_; have HO172 := n1_; have BK168 := n2_; have BK169 := n3_; have HB := n4_; clear n0_ n1_ n2_ n3_ n4_; (try clear hb); (try clear hb2); (try clear hk); (try clear hi); (try clear ho0); obtain ⟨Ao18, co18, eo18⟩ := Kd.V_slice HO172.out; subst eo18))
    go_ret2
    exact ⟨_, by first | rfl | (simp [errW_none, errW_some] <;> rfl) | (simp [*, errW_none, errW_some] <;> rfl), Kd.V_nil _ _ _ _ _, by repeat (first | (with_reducible first | exact HB.out | apply below_alloc | apply pw_below_drewN | apply below_drew1 | refine below_set ?_ GE168.out | refine below_set ?_ GE169.out) | exact HB.out)⟩
   ·rw [if_neg c11] at H
    have c11b0 : ((t170.length : Int) == 0) = false := beq_eq_false_iff_ne.mpr c11
    have c11b1 : ((t170.length : Int) != 0) = true := bne_iff_ne.mpr c11
    have c11b2 : ¬ (t170 = []) := fun h_ => c11 (by rw [h_]; rfl)
    by_cases c19 : 0 < (t170.length : Int)
    ·rw [if_pos c19] at H
     have c19b0 : decide (0 < (t170.length : Int)) = true := decide_eq_true c19
     have c19b1 : decide (0 < t170.length) = true := decide_eq_true (by omega)
     clear c19
     by_cases c20 : (rd t170 0) = 0
     ·rw [if_pos c20] at H
      have c20b0 : ((rd t170 0) == 0) = true := beq_iff_eq.mpr c20
      have c20b1 : ((rd t170 0) != 0) = false := bne_eq_false_iff_eq.mpr c20
      clear c20
      obtain ⟨ji21, hji21⟩ : ∃ j_ : Int, (wrap64 ((t170.length : Int) - 1)) = j_ := ⟨_, rfl⟩
      replace H : (if 0 ≤ (ji21) then (if (ji21) < (t170.length : Int) then (if (rd t170 (ji21)) = 0 then (some (t170, 0)) else (some (([] : List Int), 3))) else (none)) else (none)) = some (r1, r2) := by first | (rw [hji21] at H; exact H) | (simp only [hji21] at H ⊢; exact H)
      (try rw [hji21] at A9)
      have hji21w : (IntKind.i64.wrap ((t170.length : Int) - 1)) = ji21 := (i64_w _).trans hji21
      by_cases c22 : 0 ≤ (ji21)
      ·rw [if_pos c22] at H
       have c22b0 : decide (0 ≤ (ji21)) = true := decide_eq_true c22
       clear c22
       by_cases c23 : (ji21) < (t170.length : Int)
       ·rw [if_pos c23] at H
        have c23b0 : decide ((ji21) < (t170.length : Int)) = true := decide_eq_true c23
        clear c23
        by_cases c24 : (rd t170 (ji21)) = 0
        ·rw [if_pos c24] at H
         have c24b0 : ((rd t170 (ji21)) == 0) = true := beq_iff_eq.mpr c24
         have c24b1 : ((rd t170 (ji21)) != 0) = false := bne_eq_false_iff_eq.mpr c24
         clear c24
         simp only [Option.some.injEq, Prod.mk.injEq] at H
         obtain ⟨rfl, rfl⟩ := H
         go_enter Try.func40, Try.ntmps40
         go_wp2_with (first | ((with_reducible refine gate_ (.load 35 (.tmp 5)) rfl ?_); refine wpList_load_row rfl 35 (.tmp 5) rfl gb169 rfl 35 _ (0, 0) _ (by (with_reducible repeat (first | refine blk_drewN ?_ _ | refine blk_drew ?_ | refine blk_alloc ?_ _)); exact BK169.out) Try.underlying35 rfl (by kernel_rfl) ?_) | ((with_reducible refine gate_dst (N := 4) rfl ?_); (try (refine gate_guard (by rfl) ?_; dsimp only)); refine box_event ?hg (N := 4) ?hd (cs := #[.int .i64 a1_0, .int .u64 a1_1, .slice A1_2 l1_2.length c1_2]) (t := 32) ?hr ?_; (case hd => rfl); (case hg => rfl); (case hr => first | (go_simp; done) | (go_simp; rfl)); intro gb168 hg w25 hbox hb; have n0_ := Aside0.mk (Kd.V_below (Kd.V_elderB (by (with_reducible repeat (first | apply Kd.V_alloc | apply Kd.V_drewN | apply Kd.V_drew)); exact HO0.out) gb168 (Nat.le_of_eq hg.symm)) hb); have n1_ := Aside0.mk (below_step (by repeat (first | (with_reducible first | exact HB.out | apply below_alloc | apply pw_below_drewN | apply below_drew1) | exact HB.out)) hb); have n2_ := Aside0.mk (hbox); have n3_ := Aside0.mk ((by rw [hg]; exact (below_size (by repeat (first | (with_reducible first | exact HB.out | apply below_alloc | apply pw_below_drewN | apply below_drew1) | exact HB.out))) : w.heap.size ≤ gb168)); have n4_ := Aside0.mk ((by rw [hg]; exact (below_size (by repeat (first | (with_reducible first | exact HB.out | apply below_alloc | apply pw_below_drewN | apply below_drew1) | exact HB.out))) : w.heap.size ≤ gb168)); clear HO0; clear HB; have HO0 := n0_; have HB := n1_; have BK168 := n2_; have GW168 := n3_; have GE168 := n4_; clear n0_ n1_ n2_ n3_ n4_; clear hb hbox hg) | ((with_reducible refine gate_dst (N := 5) rfl ?_); (try (refine gate_guard (by rfl) ?_; dsimp only)); refine box_event ?hg (N := 5) ?hd (cs := #[.slice A2_0 l2_0.length c2_0, .int .u64 a2_1, .int .u64 a2_2, .int .u64 a2_3, .int .u64 a2_4, .int .u64 a2_5, .int .u64 a2_6, .int .u64 a2_7, .int .u64 a2_8, .int .u64 a2_9, .int .u64 a2_10, .int .u64 a2_11, .int .u64 a2_12, .int .u64 a2_13, .bool a2_14, .bool a2_15, .bool a2_16, .int .u64 a2_17, .int .u64 a2_18, .int .u64 a2_19, .int .u64 a2_20, .int .u64 a2_21, .int .u64 a2_22, .int .u64 a2_23, .int .u64 a2_24, .int .u64 a2_25, .int .u64 a2_26, .int .u64 a2_27, .int .u64 a2_28, .int .u64 a2_29, .int .u64 a2_30, .int .u64 a2_31, .bool a2_32, .bool a2_33, .bool a2_34, .bool a2_35, .bool a2_36]) (t := 35) ?hr ?_; (case hd => rfl); (case hg => rfl); (case hr => first | (go_simp; done) | (go_simp; rfl)); intro gb169 hg w26 hbox hb; have n0_ := Aside0.mk (Kd.V_below (Kd.V_elderB (by (with_reducible repeat (first | apply Kd.V_alloc | apply Kd.V_drewN | apply Kd.V_drew)); exact HO0.out) gb169 (Nat.le_of_eq hg.symm)) hb); have n1_ := Aside0.mk (blk_below (g := gb168) (o := .cells #[.int .i64 a1_0, .int .u64 a1_1, .slice A1_2 l1_2.length c1_2] 32 (0, 0)) (by (with_reducible repeat (first | refine blk_drewN ?_ _ | refine blk_drew ?_ | refine blk_alloc ?_ _)); exact BK168.out) hb); have n2_ := Aside0.mk (below_step (by repeat (first | (with_reducible first | exact HB.out | apply below_alloc | apply pw_below_drewN | apply below_drew1 | refine below_set ?_ GE168.out) | exact HB.out)) hb); have n3_ := Aside0.mk (hbox); have n4_ := Aside0.mk ((by rw [hg]; exact (below_size (by repeat (first | (with_reducible first | exact HB.out | apply below_alloc | apply pw_below_drewN | apply below_drew1 | refine below_set ?_ GE168.out) | exact HB.out))) : w.heap.size ≤ gb169)); have n5_ := Aside0.mk ((by rw [hg]; exact (below_size (by repeat (first | (with_reducible first | exact HB.out | apply below_alloc | apply pw_below_drewN | apply below_drew1 | refine below_set ?_ GE168.out) | exact HB.out))) : w.heap.size ≤ gb169)); have n6_ := Aside0.mk ((by rw [hg]; exact Nat.ne_of_lt (blk_lt (g := gb168) (o := .cells #[.int .i64 a1_0, .int .u64 a1_1, .slice A1_2 l1_2.length c1_2] 32 (0, 0)) (by (with_reducible repeat (first | refine blk_drewN ?_ _ | refine blk_drew ?_ | refine blk_alloc ?_ _)); exact BK168.out)) : gb168 ≠ gb169)); have n7_ := Aside0.mk ((by rw [hg]; exact Nat.ne_of_gt (blk_lt (g := gb168) (o := .cells #[.int .i64 a1_0, .int .u64 a1_1, .slice A1_2 l1_2.length c1_2] 32 (0, 0)) (by (with_reducible repeat (first | refine blk_drewN ?_ _ | refine blk_drew ?_ | refine blk_alloc ?_ _)); exact BK168.out)) : gb169 ≠ gb168)); clear HO0; clear BK168; clear HB; have HO0 := n0_; have BK168 := n1_; have HB := n2_; have BK169 := n3_; have GW169 := n4_; have GE169 := n5_; have NB168_169 := n6_; have NB169_168 := n7_; clear n0_ n1_ n2_ n3_ n4_ n5_ n6_ n7_; clear hb hbox hg; have hnb27 := NB169_168.out; have hnc27 := NB168_169.out; have hcz28_0 : w26.cell? ⟨gb169, 0, none⟩ = some (.slice A2_0 l2_0.length c2_0) := (blk_cell BK169.out 0).trans rfl; have hcz28_1 : w26.cell? ⟨gb169, 1, none⟩ = some (.int .u64 a2_1) := (blk_cell BK169.out 1).trans rfl; have hcz28_2 : w26.cell? ⟨gb169, 2, none⟩ = some (.int .u64 a2_2) := (blk_cell BK169.out 2).trans rfl; have hcz28_3 : w26.cell? ⟨gb169, 3, none⟩ = some (.int .u64 a2_3) := (blk_cell BK169.out 3).trans rfl; have hcz28_4 : w26.cell? ⟨gb169, 4, none⟩ = some (.int .u64 a2_4) := (blk_cell BK169.out 4).trans rfl; have hcz28_5 : w26.cell? ⟨gb169, 5, none⟩ = some (.int .u64 a2_5) := (blk_cell BK169.out 5).trans rfl; have hcz28_6 : w26.cell? ⟨gb169, 6, none⟩ = some (.int .u64 a2_6) := (blk_cell BK169.out 6).trans rfl; have hcz28_7 : w26.cell? ⟨gb169, 7, none⟩ = some (.int .u64 a2_7) := (blk_cell BK169.out 7).trans rfl; have hcz28_8 : w26.cell? ⟨gb169, 8, none⟩ = some (.int .u64 a2_8) := (blk_cell BK169.out 8).trans rfl; have hcz28_9 : w26.cell? ⟨gb169, 9, none⟩ = some (.int .u64 a2_9) := (blk_cell BK169.out 9).trans rfl; have hcz28_10 : w26.cell? ⟨gb169, 10, none⟩ = some (.int .u64 a2_10) := (blk_cell BK169.out 10).trans rfl; have hcz28_11 : w26.cell? ⟨gb169, 11, none⟩ = some (.int .u64 a2_11) := (blk_cell BK169.out 11).trans rfl; have hcz28_12 : w26.cell? ⟨gb169, 12, none⟩ = some (.int .u64 a2_12) := (blk_cell BK169.out 12).trans rfl; have hcz28_13 : w26.cell? ⟨gb169, 13, none⟩ = some (.int .u64 a2_13) := (blk_cell BK169.out 13).trans rfl; have hcz28_14 : w26.cell? ⟨gb169, 14, none⟩ = some (.bool a2_14) := (blk_cell BK169.out 14).trans rfl; have hcz28_15 : w26.cell? ⟨gb169, 15, none⟩ = some (.bool a2_15) := (blk_cell BK169.out 15).trans rfl; have hcz28_16 : w26.cell? ⟨gb169, 16, none⟩ = some (.bool a2_16) := (blk_cell BK169.out 16).trans rfl; have hcz28_17 : w26.cell? ⟨gb169, 17, none⟩ = some (.int .u64 a2_17) := (blk_cell BK169.out 17).trans rfl; have hcz28_18 : w26.cell? ⟨gb169, 18, none⟩ = some (.int .u64 a2_18) := (blk_cell BK169.out 18).trans rfl; have hcz28_19 : w26.cell? ⟨gb169, 19, none⟩ = some (.int .u64 a2_19) := (blk_cell BK169.out 19).trans rfl; have hcz28_20 : w26.cell? ⟨gb169, 20, none⟩ = some (.int .u64 a2_20) := (blk_cell BK169.out 20).trans rfl; have hcz28_21 : w26.cell? ⟨gb169, 21, none⟩ = some (.int .u64 a2_21) := (blk_cell BK169.out 21).trans rfl; have hcz28_22 : w26.cell? ⟨gb169, 22, none⟩ = some (.int .u64 a2_22) := (blk_cell BK169.out 22).trans rfl; have hcz28_23 : w26.cell? ⟨gb169, 23, none⟩ = some (.int .u64 a2_23) := (blk_cell BK169.out 23).trans rfl; have hcz28_24 : w26.cell? ⟨gb169, 24, none⟩ = some (.int .u64 a2_24) := (blk_cell BK169.out 24).trans rfl; have hcz28_25 : w26.cell? ⟨gb169, 25, none⟩ = some (.int .u64 a2_25) := (blk_cell BK169.out 25).trans rfl; have hcz28_26 : w26.cell? ⟨gb169, 26, none⟩ = some (.int .u64 a2_26) := (blk_cell BK169.out 26).trans rfl; have hcz28_27 : w26.cell? ⟨gb169, 27, none⟩ = some (.int .u64 a2_27) := (blk_cell BK169.out 27).trans rfl; have hcz28_28 : w26.cell? ⟨gb169, 28, none⟩ = some (.int .u64 a2_28) := (blk_cell BK169.out 28).trans rfl; have hcz28_29 : w26.cell? ⟨gb169, 29, none⟩ = some (.int .u64 a2_29) := (blk_cell BK169.out 29).trans rfl; have hcz28_30 : w26.cell? ⟨gb169, 30, none⟩ = some (.int .u64 a2_30) := (blk_cell BK169.out 30).trans rfl; have hcz28_31 : w26.cell? ⟨gb169, 31, none⟩ = some (.int .u64 a2_31) := (blk_cell BK169.out 31).trans rfl; have hcz28_32 : w26.cell? ⟨gb169, 32, none⟩ = some (.bool a2_32) := (blk_cell BK169.out 32).trans rfl; have hcz28_33 : w26.cell? ⟨gb169, 33, none⟩ = some (.bool a2_33) := (blk_cell BK169.out 33).trans rfl; have hcz28_34 : w26.cell? ⟨gb169, 34, none⟩ = some (.bool a2_34) := (blk_cell BK169.out 34).trans rfl; have hcz28_35 : w26.cell? ⟨gb169, 35, none⟩ = some (.bool a2_35) := (blk_cell BK169.out 35).trans rfl; have hcz28_36 : w26.cell? ⟨gb169, 36, none⟩ = some (.bool a2_36) := (blk_cell BK169.out 36).trans rfl; have hfz28_0 := blk_frozen BK169.out 0; have hfz28_1 := blk_frozen BK169.out 1; have hfz28_2 := blk_frozen BK169.out 2; have hfz28_3 := blk_frozen BK169.out 3; have hfz28_4 := blk_frozen BK169.out 4; have hfz28_5 := blk_frozen BK169.out 5; have hfz28_6 := blk_frozen BK169.out 6; have hfz28_7 := blk_frozen BK169.out 7; have hfz28_8 := blk_frozen BK169.out 8; have hfz28_9 := blk_frozen BK169.out 9; have hfz28_10 := blk_frozen BK169.out 10; have hfz28_11 := blk_frozen BK169.out 11; have hfz28_12 := blk_frozen BK169.out 12; have hfz28_13 := blk_frozen BK169.out 13; have hfz28_14 := blk_frozen BK169.out 14; have hfz28_15 := blk_frozen BK169.out 15; have hfz28_16 := blk_frozen BK169.out 16; have hfz28_17 := blk_frozen BK169.out 17; have hfz28_18 := blk_frozen BK169.out 18; have hfz28_19 := blk_frozen BK169.out 19; have hfz28_20 := blk_frozen BK169.out 20; have hfz28_21 := blk_frozen BK169.out 21; have hfz28_22 := blk_frozen BK169.out 22; have hfz28_23 := blk_frozen BK169.out 23; have hfz28_24 := blk_frozen BK169.out 24; have hfz28_25 := blk_frozen BK169.out 25; have hfz28_26 := blk_frozen BK169.out 26; have hfz28_27 := blk_frozen BK169.out 27; have hfz28_28 := blk_frozen BK169.out 28; have hfz28_29 := blk_frozen BK169.out 29; have hfz28_30 := blk_frozen BK169.out 30; have hfz28_31 := blk_frozen BK169.out 31; have hfz28_32 := blk_frozen BK169.out 32; have hfz28_33 := blk_frozen BK169.out 33; have hfz28_34 := blk_frozen BK169.out 34; have hfz28_35 := blk_frozen BK169.out 35; have hfz28_36 := blk_frozen BK169.out 36; have hcz29_0 : w26.cell? ⟨gb168, 0, none⟩ = some (.int .i64 a1_0) := (blk_cell BK168.out 0).trans rfl; have hcz29_1 : w26.cell? ⟨gb168, 1, none⟩ = some (.int .u64 a1_1) := (blk_cell BK168.out 1).trans rfl; have hcz29_2 : w26.cell? ⟨gb168, 2, none⟩ = some (.slice A1_2 l1_2.length c1_2) := (blk_cell BK168.out 2).trans rfl; have hfz29_0 := blk_frozen BK168.out 0; have hfz29_1 := blk_frozen BK168.out 1; have hfz29_2 := blk_frozen BK168.out 2) | ((with_reducible refine gate_callee (f := 41) rfl ?_); refine goesL_ (some 20) rfl rfl Try.func41 (by kernel_rfl) rfl #[.slice A0 l0.length c0, .agg #[.int .i64 a1_0, .int .u64 a1_1, .slice A1_2 l1_2.length c1_2], .int .u64 a2_4, .int .u64 a2_8] rfl (by (try simp only [List.map_toArray, List.map_cons, List.map_nil]); first | done | rfl | (simp only [List.length_drop, List.length_take]; rfl)) ?_; (with_reducible refine (shackleref05_Slice.calls k (fun k_ => (((P0_ k_ ∨ w.heap.size ≤ k_) ∧ k_ ≠ gb168) ∧ k_ ≠ gb169)) _ _ l0 a1_0 a1_1 _ _ l1_2 a2_4 a2_8 t170 t173 _ ?side1 ?side2 ?side3 A9.out).mono ?_); (case side1 => exact HO0.out); (case side2 => repeat (first | exact (Kd.C_below HR1_2.out HB.out) | (with_reducible refine Kd.C_alloc ?_ _) | (with_reducible refine Kd.C_drewN ?_ _) | (with_reducible refine Kd.C_drew ?_))); (case side3 => exact HC1_2.out); rintro e w30 ⟨v171, rfl, ho0, hb⟩; refine ⟨_, rfl, ?_⟩; have n0_ := Aside0.mk (Kd.V_below (by (with_reducible repeat (first | apply Kd.V_alloc | apply Kd.V_drewN | apply Kd.V_drew)); exact HO0.out) hb); have n1_ := Aside0.mk (Kd.V_lower (Kd.V_mono (ok' := fun k_ => (P0_ k_ ∨ w.heap.size ≤ k_) ∧ k_ ≠ gb168 ∧ k_ ≠ gb169) ho0 (fun k_ hk_ => ⟨Or.elim hk_ (fun hs_ => hs_.1.1) (fun hn_ => (.inr (Nat.le_trans (below_size (by repeat (first | (with_reducible first | exact HB.out | apply below_alloc | apply pw_below_drewN | apply below_drew1 | refine below_set ?_ GE168.out | refine below_set ?_ GE169.out) | exact HB.out))) hn_))), Or.elim hk_ (fun hs_ => hs_.1.2) (fun hn_ => (Kd.freshB (g := gb168) (o := .cells #[.int .i64 a1_0, .int .u64 a1_1, .slice A1_2 l1_2.length c1_2] 32 (0, 0)) (by (with_reducible repeat (first | refine blk_drewN ?_ _ | refine blk_drew ?_ | refine blk_alloc ?_ _)); exact BK168.out) k_ hn_)), Or.elim hk_ (fun hs_ => hs_.2) (fun hn_ => (Kd.freshB (g := gb169) (o := .cells #[.slice A2_0 l2_0.length c2_0, .int .u64 a2_1, .int .u64 a2_2, .int .u64 a2_3, .int .u64 a2_4, .int .u64 a2_5, .int .u64 a2_6, .int .u64 a2_7, .int .u64 a2_8, .int .u64 a2_9, .int .u64 a2_10, .int .u64 a2_11, .int .u64 a2_12, .int .u64 a2_13, .bool a2_14, .bool a2_15, .bool a2_16, .int .u64 a2_17, .int .u64 a2_18, .int .u64 a2_19, .int .u64 a2_20, .int .u64 a2_21, .int .u64 a2_22, .int .u64 a2_23, .int .u64 a2_24, .int .u64 a2_25, .int .u64 a2_26, .int .u64 a2_27, .int .u64 a2_28, .int .u64 a2_29, .int .u64 a2_30, .int .u64 a2_31, .bool a2_32, .bool a2_33, .bool a2_34, .bool a2_35, .bool a2_36] 35 (0, 0)) (by (with_reducible repeat (first | refine blk_drewN ?_ _ | refine blk_drew ?_ | refine blk_alloc ?_ _)); exact BK169.out) k_ hn_))⟩)) (below_size (by repeat (first | (with_reducible first | exact HB.out | apply below_alloc | apply pw_below_drewN | apply below_drew1 | refine below_set ?_ GE168.out | refine below_set ?_ GE169.out) | exact HB.out)))); have n2_ := Aside0.mk (blk_below (g := gb168) (o := .cells #[.int .i64 a1_0, .int .u64 a1_1, .slice A1_2 l1_2.length c1_2] 32 (0, 0)) (by (with_reducible repeat (first | refine blk_drewN ?_ _ | refine blk_drew ?_ | refine blk_alloc ?_ _)); exact BK168.out) hb); have n3_ := Aside0.mk (blk_below (g := gb169) (o := .cells #[.slice A2_0 l2_0.length c2_0, .int .u64 a2_1, .int .u64 a2_2, .int .u64 a2_3, .int .u64 a2_4, .int .u64 a2_5, .int .u64 a2_6, .int .u64 a2_7, .int .u64 a2_8, .int .u64 a2_9, .int .u64 a2_10, .int .u64 a2_11, .int .u64 a2_12, .int .u64 a2_13, .bool a2_14, .bool a2_15, .bool a2_16, .int .u64 a2_17, .int .u64 a2_18, .int .u64 a2_19, .int .u64 a2_20, .int .u64 a2_21, .int .u64 a2_22, .int .u64 a2_23, .int .u64 a2_24, .int .u64 a2_25, .int .u64 a2_26, .int .u64 a2_27, .int .u64 a2_28, .int .u64 a2_29, .int .u64 a2_30, .int .u64 a2_31, .bool a2_32, .bool a2_33, .bool a2_34, .bool a2_35, .bool a2_36] 35 (0, 0)) (by (with_reducible repeat (first | refine blk_drewN ?_ _ | refine blk_drew ?_ | refine blk_alloc ?_ _)); exact BK169.out) hb); have n4_ := Aside0.mk (below_step (by repeat (first | (with_reducible first | exact HB.out | apply below_alloc | apply pw_below_drewN | apply below_drew1 | refine below_set ?_ GE168.out | refine below_set ?_ GE169.out) | exact HB.out)) hb); clear HO0; clear BK168; clear BK169; clear HB; have HO0 := n0_; have HO172 := n1_; have BK168 := n2_; have BK169 := n3_; have HB := n4_; clear n0_ n1_ n2_ n3_ n4_; (try clear hb); (try clear hb2); (try clear hk); (try clear hi); (try clear ho0); obtain ⟨Ao31, co31, eo31⟩ := Kd.V_slice HO172.out; subst eo31; have p174 : 0 ≤ (0 : Int) := (by omega); have q174 : 0 < (t170.length : Int) := of_decide_eq_true (by assumption); obtain ⟨ad174, e174, hx174_0⟩ := Kd.at_int (Kd.V_reads' HO172.out).2.2 0 p174 q174; cases e174; have qi174 : (0 < t170.length) = True := eq_true (by omega); (try rw [show ((0 : Int)).toNat = 0 from rfl] at hx174_0); (try rw [Addr.add_zero'] at hx174_0); replace p174 := eq_true p174; replace q174 := eq_true q174; have p175 : 0 ≤ ((ji21) : Int) := of_decide_eq_true (by assumption); have q175 : (ji21) < (t170.length : Int) := of_decide_eq_true (by assumption); obtain ⟨ad175, e175, hx175_0⟩ := Kd.at_int (Kd.V_reads' HO172.out).2.2 (ji21) p175 q175; obtain rfl : ad174 = ad175 := (by injection e175); replace p175 := eq_true p175; replace q175 := eq_true q175))
         go_ret2
         exact ⟨_, by first | rfl | (simp [errW_none, errW_some] <;> rfl) | (simp only [← hji21]; first | rfl | (simp [errW_none, errW_some] <;> rfl)) | (simp [*, errW_none, errW_some] <;> rfl), by (with_reducible repeat (first | apply Kd.V_alloc | apply Kd.V_drewN | apply Kd.V_drew)); exact Kd.V_mono HO172.out (fun _ hk => hk.1), by repeat (first | (with_reducible first | exact HB.out | apply below_alloc | apply pw_below_drewN | apply below_drew1 | refine below_set ?_ GE168.out | refine below_set ?_ GE169.out) | exact HB.out)⟩
        ·rw [if_neg c24] at H
         have c24b0 : ((rd t170 (ji21)) == 0) = false := beq_eq_false_iff_ne.mpr c24
         have c24b1 : ((rd t170 (ji21)) != 0) = true := bne_iff_ne.mpr c24
         simp only [Option.some.injEq, Prod.mk.injEq] at H
         obtain ⟨rfl, rfl⟩ := H
         go_enter Try.func40, Try.ntmps40
         go_wp2_with (first | ((with_reducible refine gate_ (.load 35 (.tmp 5)) rfl ?_); refine wpList_load_row rfl 35 (.tmp 5) rfl gb169 rfl 35 _ (0, 0) _ (by (with_reducible repeat (first | refine blk_drewN ?_ _ | refine blk_drew ?_ | refine blk_alloc ?_ _)); exact BK169.out) Try.underlying35 rfl (by kernel_rfl) ?_) | ((with_reducible refine gate_dst (N := 4) rfl ?_); (try (refine gate_guard (by rfl) ?_; dsimp only)); refine box_event ?hg (N := 4) ?hd (cs := #[.int .i64 a1_0, .int .u64 a1_1, .slice A1_2 l1_2.length c1_2]) (t := 32) ?hr ?_; (case hd => rfl); (case hg => rfl); (case hr => first | (go_simp; done) | (go_simp; rfl)); intro gb168 hg w32 hbox hb; have n0_ := Aside0.mk (Kd.V_below (Kd.V_elderB (by (with_reducible repeat (first | apply Kd.V_alloc | apply Kd.V_drewN | apply Kd.V_drew)); exact HO0.out) gb168 (Nat.le_of_eq hg.symm)) hb); have n1_ := Aside0.mk (below_step (by repeat (first | (with_reducible first | exact HB.out | apply below_alloc | apply pw_below_drewN | apply below_drew1) | exact HB.out)) hb); have n2_ := Aside0.mk (hbox); have n3_ := Aside0.mk ((by rw [hg]; exact (below_size (by repeat (first | (with_reducible first | exact HB.out | apply below_alloc | apply pw_below_drewN | apply below_drew1) | exact HB.out))) : w.heap.size ≤ gb168)); have n4_ := Aside0.mk ((by rw [hg]; exact (below_size (by repeat (first | (with_reducible first | exact HB.out | apply below_alloc | apply pw_below_drewN | apply below_drew1) | exact HB.out))) : w.heap.size ≤ gb168)); clear HO0; clear HB; have HO0 := n0_; have HB := n1_; have BK168 := n2_; have GW168 := n3_; have GE168 := n4_; clear n0_ n1_ n2_ n3_ n4_; clear hb hbox hg) | ((with_reducible refine gate_dst (N := 5) rfl ?_); (try (refine gate_guard (by rfl) ?_; dsimp only)); refine box_event ?hg (N := 5) ?hd (cs := #[.slice A2_0 l2_0.length c2_0, .int .u64 a2_1, .int .u64 a2_2, .int .u64 a2_3, .int .u64 a2_4, .int .u64 a2_5, .int .u64 a2_6, .int .u64 a2_7, .int .u64 a2_8, .int .u64 a2_9, .int .u64 a2_10, .int .u64 a2_11, .int .u64 a2_12, .int .u64 a2_13, .bool a2_14, .bool a2_15, .bool a2_16, .int .u64 a2_17, .int .u64 a2_18, .int .u64 a2_19, .int .u64 a2_20, .int .u64 a2_21, .int .u64 a2_22, .int .u64 a2_23, .int .u64 a2_24, .int .u64 a2_25, .int .u64 a2_26, .int .u64 a2_27, .int .u64 a2_28, .int .u64 a2_29, .int .u64 a2_30, .int .u64 a2_31, .bool a2_32, .bool a2_33, .bool a2_34, .bool a2_35, .bool a2_36]) (t := 35) ?hr ?_; (case hd => rfl); (case hg => rfl); (case hr => first | (go_simp; done) | (go_simp; rfl)); intro gb169 hg w33 hbox hb; have n0_ := Aside0.mk (Kd.V_below (Kd.V_elderB (by (with_reducible repeat (first | apply Kd.V_alloc | apply Kd.V_drewN | apply Kd.V_drew)); exact HO0.out) gb169 (Nat.le_of_eq hg.symm)) hb); have n1_ := Aside0.mk (blk_below (g := gb168) (o := .cells #[.int .i64 a1_0, .int .u64 a1_1, .slice A1_2 l1_2.length c1_2] 32 (0, 0)) (by (with_reducible repeat (first | refine blk_drewN ?_ _ | refine blk_drew ?_ | refine blk_alloc ?_ _)); exact BK168.out) hb); have n2_ := Aside0.mk (below_step (by repeat (first | (with_reducible first | exact HB.out | apply below_alloc | apply pw_below_drewN | apply below_drew1 | refine below_set ?_ GE168.out) | exact HB.out)) hb); have n3_ := Aside0.mk (hbox); have n4_ := Aside0.mk ((by rw [hg]; exact (below_size (by repeat (first | (with_reducible first | exact HB.out | apply below_alloc | apply pw_below_drewN | apply below_drew1 | refine below_set ?_ GE168.out) | exact HB.out))) : w.heap.size ≤ gb169)); have n5_ := Aside0.mk ((by rw [hg]; exact (below_size (by repeat (first | (with_reducible first | exact HB.out | apply below_alloc | apply pw_below_drewN | apply below_drew1 | refine below_set ?_ GE168.out) | exact HB.out))) : w.heap.size ≤ gb169)); have n6_ := Aside0.mk ((by rw [hg]; exact Nat.ne_of_lt (blk_lt (g := gb168) (o := .cells #[.int .i64 a1_0, .int .u64 a1_1, .slice A1_2 l1_2.length c1_2] 32 (0, 0)) (by (with_reducible repeat (first | refine blk_drewN ?_ _ | refine blk_drew ?_ | refine blk_alloc ?_ _)); exact BK168.out)) : gb168 ≠ gb169)); have n7_ := Aside0.mk ((by rw [hg]; exact Nat.ne_of_gt (blk_lt (g := gb168) (o := .cells #[.int .i64 a1_0, .int .u64 a1_1, .slice A1_2 l1_2.length c1_2] 32 (0, 0)) (by (with_reducible repeat (first | refine blk_drewN ?_ _ | refine blk_drew ?_ | refine blk_alloc ?_ _)); exact BK168.out)) : gb169 ≠ gb168)); clear HO0; clear BK168; clear HB; have HO0 := n0_; have BK168 := n1_; have HB := n2_; have BK169 := n3_; have GW169 := n4_; have GE169 := n5_; have NB168_169 := n6_; have NB169_168 := n7_; clear n0_ n1_ n2_ n3_ n4_ n5_ n6_ n7_; clear hb hbox hg; have hnb34 := NB169_168.out; have hnc34 := NB168_169.out; have hcz35_0 : w33.cell? ⟨gb169, 0, none⟩ = some (.slice A2_0 l2_0.length c2_0) := (blk_cell BK169.out 0).trans rfl; have hcz35_1 : w33.cell? ⟨gb169, 1, none⟩ = some (.int .u64 a2_1) := (blk_cell BK169.out 1).trans rfl; have hcz35_2 : w33.cell? ⟨gb169, 2, none⟩ = some (.int .u64 a2_2) := (blk_cell BK169.out 2).trans rfl; have hcz35_3 : w33.cell? ⟨gb169, 3, none⟩ = some (.int .u64 a2_3) := (blk_cell BK169.out 3).trans rfl; have hcz35_4 : w33.cell? ⟨gb169, 4, none⟩ = some (.int .u64 a2_4) := (blk_cell BK169.out 4).trans rfl; have hcz35_5 : w33.cell? ⟨gb169, 5, none⟩ = some (.int .u64 a2_5) := (blk_cell BK169.out 5).trans rfl; have hcz35_6 : w33.cell? ⟨gb169, 6, none⟩ = some (.int .u64 a2_6) := (blk_cell BK169.out 6).trans rfl; have hcz35_7 : w33.cell? ⟨gb169, 7, none⟩ = some (.int .u64 a2_7) := (blk_cell BK169.out 7).trans rfl; have hcz35_8 : w33.cell? ⟨gb169, 8, none⟩ = some (.int .u64 a2_8) := (blk_cell BK169.out 8).trans rfl; have hcz35_9 : w33.cell? ⟨gb169, 9, none⟩ = some (.int .u64 a2_9) := (blk_cell BK169.out 9).trans rfl; have hcz35_10 : w33.cell? ⟨gb169, 10, none⟩ = some (.int .u64 a2_10) := (blk_cell BK169.out 10).trans rfl; have hcz35_11 : w33.cell? ⟨gb169, 11, none⟩ = some (.int .u64 a2_11) := (blk_cell BK169.out 11).trans rfl; have hcz35_12 : w33.cell? ⟨gb169, 12, none⟩ = some (.int .u64 a2_12) := (blk_cell BK169.out 12).trans rfl; have hcz35_13 : w33.cell? ⟨gb169, 13, none⟩ = some (.int .u64 a2_13) := (blk_cell BK169.out 13).trans rfl; have hcz35_14 : w33.cell? ⟨gb169, 14, none⟩ = some (.bool a2_14) := (blk_cell BK169.out 14).trans rfl; have hcz35_15 : w33.cell? ⟨gb169, 15, none⟩ = some (.bool a2_15) := (blk_cell BK169.out 15).trans rfl; have hcz35_16 : w33.cell? ⟨gb169, 16, none⟩ = some (.bool a2_16) := (blk_cell BK169.out 16).trans rfl; have hcz35_17 : w33.cell? ⟨gb169, 17, none⟩ = some (.int .u64 a2_17) := (blk_cell BK169.out 17).trans rfl; have hcz35_18 : w33.cell? ⟨gb169, 18, none⟩ = some (.int .u64 a2_18) := (blk_cell BK169.out 18).trans rfl; have hcz35_19 : w33.cell? ⟨gb169, 19, none⟩ = some (.int .u64 a2_19) := (blk_cell BK169.out 19).trans rfl; have hcz35_20 : w33.cell? ⟨gb169, 20, none⟩ = some (.int .u64 a2_20) := (blk_cell BK169.out 20).trans rfl; have hcz35_21 : w33.cell? ⟨gb169, 21, none⟩ = some (.int .u64 a2_21) := (blk_cell BK169.out 21).trans rfl; have hcz35_22 : w33.cell? ⟨gb169, 22, none⟩ = some (.int .u64 a2_22) := (blk_cell BK169.out 22).trans rfl; have hcz35_23 : w33.cell? ⟨gb169, 23, none⟩ = some (.int .u64 a2_23) := (blk_cell BK169.out 23).trans rfl; have hcz35_24 : w33.cell? ⟨gb169, 24, none⟩ = some (.int .u64 a2_24) := (blk_cell BK169.out 24).trans rfl; have hcz35_25 : w33.cell? ⟨gb169, 25, none⟩ = some (.int .u64 a2_25) := (blk_cell BK169.out 25).trans rfl; have hcz35_26 : w33.cell? ⟨gb169, 26, none⟩ = some (.int .u64 a2_26) := (blk_cell BK169.out 26).trans rfl; have hcz35_27 : w33.cell? ⟨gb169, 27, none⟩ = some (.int .u64 a2_27) := (blk_cell BK169.out 27).trans rfl; have hcz35_28 : w33.cell? ⟨gb169, 28, none⟩ = some (.int .u64 a2_28) := (blk_cell BK169.out 28).trans rfl; have hcz35_29 : w33.cell? ⟨gb169, 29, none⟩ = some (.int .u64 a2_29) := (blk_cell BK169.out 29).trans rfl; have hcz35_30 : w33.cell? ⟨gb169, 30, none⟩ = some (.int .u64 a2_30) := (blk_cell BK169.out 30).trans rfl; have hcz35_31 : w33.cell? ⟨gb169, 31, none⟩ = some (.int .u64 a2_31) := (blk_cell BK169.out 31).trans rfl; have hcz35_32 : w33.cell? ⟨gb169, 32, none⟩ = some (.bool a2_32) := (blk_cell BK169.out 32).trans rfl; have hcz35_33 : w33.cell? ⟨gb169, 33, none⟩ = some (.bool a2_33) := (blk_cell BK169.out 33).trans rfl; have hcz35_34 : w33.cell? ⟨gb169, 34, none⟩ = some (.bool a2_34) := (blk_cell BK169.out 34).trans rfl; have hcz35_35 : w33.cell? ⟨gb169, 35, none⟩ = some (.bool a2_35) := (blk_cell BK169.out 35).trans rfl; have hcz35_36 : w33.cell? ⟨gb169, 36, none⟩ = some (.bool a2_36) := (blk_cell BK169.out 36).trans rfl; have hfz35_0 := blk_frozen BK169.out 0; have hfz35_1 := blk_frozen BK169.out 1; have hfz35_2 := blk_frozen BK169.out 2; have hfz35_3 := blk_frozen BK169.out 3; have hfz35_4 := blk_frozen BK169.out 4; have hfz35_5 := blk_frozen BK169.out 5; have hfz35_6 := blk_frozen BK169.out 6; have hfz35_7 := blk_frozen BK169.out 7; have hfz35_8 := blk_frozen BK169.out 8; have hfz35_9 := blk_frozen BK169.out 9; have hfz35_10 := blk_frozen BK169.out 10; have hfz35_11 := blk_frozen BK169.out 11; have hfz35_12 := blk_frozen BK169.out 12; have hfz35_13 := blk_frozen BK169.out 13; have hfz35_14 := blk_frozen BK169.out 14; have hfz35_15 := blk_frozen BK169.out 15; have hfz35_16 := blk_frozen BK169.out 16; have hfz35_17 := blk_frozen BK169.out 17; have hfz35_18 := blk_frozen BK169.out 18; have hfz35_19 := blk_frozen BK169.out 19; have hfz35_20 := blk_frozen BK169.out 20; have hfz35_21 := blk_frozen BK169.out 21; have hfz35_22 := blk_frozen BK169.out 22; have hfz35_23 := blk_frozen BK169.out 23; have hfz35_24 := blk_frozen BK169.out 24; have hfz35_25 := blk_frozen BK169.out 25; have hfz35_26 := blk_frozen BK169.out 26; have hfz35_27 := blk_frozen BK169.out 27; have hfz35_28 := blk_frozen BK169.out 28; have hfz35_29 := blk_frozen BK169.out 29; have hfz35_30 := blk_frozen BK169.out 30; have hfz35_31 := blk_frozen BK169.out 31; have hfz35_32 := blk_frozen BK169.out 32; have hfz35_33 := blk_frozen BK169.out 33; have hfz35_34 := blk_frozen BK169.out 34; have hfz35_35 := blk_frozen BK169.out 35; have hfz35_36 := blk_frozen BK169.out 36; have hcz36_0 : w33.cell? ⟨gb168, 0, none⟩ = some (.int .i64 a1_0) := (blk_cell BK168.out 0).trans rfl; have hcz36_1 : w33.cell? ⟨gb168, 1, none⟩ = some (.int .u64 a1_1) := (blk_cell BK168.out 1).trans rfl; have hcz36_2 : w33.cell? ⟨gb168, 2, none⟩ = some (.slice A1_2 l1_2.length c1_2) := (blk_cell BK168.out 2).trans rfl; have hfz36_0 := blk_frozen BK168.out 0; have hfz36_1 := blk_frozen BK168.out 1; have hfz36_2 := blk_frozen BK168.out 2) | ((with_reducible refine gate_callee (f := 41) rfl ?_); refine goesL_ (some 20) rfl rfl Try.func41 (by kernel_rfl) rfl #[.slice A0 l0.length c0, .agg #[.int .i64 a1_0, .int .u64 a1_1, .slice A1_2 l1_2.length c1_2], .int .u64 a2_4, .int .u64 a2_8] rfl (by (try simp only [List.map_toArray, List.map_cons, List.map_nil]); first | done | rfl | (simp only [List.length_drop, List.length_take]; rfl)) ?_; (with_reducible refine (shackleref05_Slice.calls k (fun k_ => (((P0_ k_ ∨ w.heap.size ≤ k_) ∧ k_ ≠ gb168) ∧ k_ ≠ gb169)) _ _ l0 a1_0 a1_1 _ _ l1_2 a2_4 a2_8 t170 t173 _ ?side1 ?side2 ?side3 A9.out).mono ?_); (case side1 => exact HO0.out); (case side2 => repeat (first | exact (Kd.C_below HR1_2.out HB.out) | (with_reducible refine Kd.C_alloc ?_ _) | (with_reducible refine Kd.C_drewN ?_ _) | (with_reducible refine Kd.C_drew ?_))); (case side3 => exact HC1_2.out); rintro e w37 ⟨v171, rfl, ho0, hb⟩; refine ⟨_, rfl, ?_⟩; have n0_ := Aside0.mk (Kd.V_below (by (with_reducible repeat (first | apply Kd.V_alloc | apply Kd.V_drewN | apply Kd.V_drew)); exact HO0.out) hb); have n1_ := Aside0.mk (Kd.V_lower (Kd.V_mono (ok' := fun k_ => (P0_ k_ ∨ w.heap.size ≤ k_) ∧ k_ ≠ gb168 ∧ k_ ≠ gb169) ho0 (fun k_ hk_ => ⟨Or.elim hk_ (fun hs_ => hs_.1.1) (fun hn_ => (.inr (Nat.le_trans (below_size (by repeat (first | (with_reducible first | exact HB.out | apply below_alloc | apply pw_below_drewN | apply below_drew1 | refine below_set ?_ GE168.out | refine below_set ?_ GE169.out) | exact HB.out))) hn_))), Or.elim hk_ (fun hs_ => hs_.1.2) (fun hn_ => (Kd.freshB (g := gb168) (o := .cells #[.int .i64 a1_0, .int .u64 a1_1, .slice A1_2 l1_2.length c1_2] 32 (0, 0)) (by (with_reducible repeat (first | refine blk_drewN ?_ _ | refine blk_drew ?_ | refine blk_alloc ?_ _)); exact BK168.out) k_ hn_)), Or.elim hk_ (fun hs_ => hs_.2) (fun hn_ => (Kd.freshB (g := gb169) (o := .cells #[.slice A2_0 l2_0.length c2_0, .int .u64 a2_1, .int .u64 a2_2, .int .u64 a2_3, .int .u64 a2_4, .int .u64 a2_5, .int .u64 a2_6, .int .u64 a2_7, .int .u64 a2_8, .int .u64 a2_9, .int .u64 a2_10, .int .u64 a2_11, .int .u64 a2_12, .int .u64 a2_13, .bool a2_14, .bool a2_15, .bool a2_16, .int .u64 a2_17, .int .u64 a2_18, .int .u64 a2_19, .int .u64 a2_20, .int .u64 a2_21, .int .u64 a2_22, .int .u64 a2_23, .int .u64 a2_24, .int .u64 a2_25, .int .u64 a2_26, .int .u64 a2_27, .int .u64 a2_28, .int .u64 a2_29, .int .u64 a2_30, .int .u64 a2_31, .bool a2_32, .bool a2_33, .bool a2_34, .bool a2_35, .bool a2_36] 35 (0, 0)) (by (with_reducible repeat (first | refine blk_drewN ?_ _ | refine blk_drew ?_ | refine blk_alloc ?_ _)); exact BK169.out) k_ hn_))⟩)) (below_size (by repeat (first | (with_reducible first | exact HB.out | apply below_alloc | apply pw_below_drewN | apply below_drew1 | refine below_set ?_ GE168.out | refine below_set ?_ GE169.out) | exact HB.out)))); have n2_ := Aside0.mk (blk_below (g := gb168) (o := .cells #[.int .i64 a1_0, .int .u64 a1_1, .slice A1_2 l1_2.length c1_2] 32 (0, 0)) (by (with_reducible repeat (first | refine blk_drewN ?_ _ | refine blk_drew ?_ | refine blk_alloc ?_ _)); exact BK168.out) hb); have n3_ := Aside0.mk (blk_below (g := gb169) (o := .cells #[.slice A2_0 l2_0.length c2_0, .int .u64 a2_1, .int .u64 a2_2, .int .u64 a2_3, .int .u64 a2_4, .int .u64 a2_5, .int .u64 a2_6, .int .u64 a2_7, .int .u64 a2_8, .int .u64 a2_9, .int .u64 a2_10, .int .u64 a2_11, .int .u64 a2_12, .int .u64 a2_13, .bool a2_14, .bool a2_15, .bool a2_16, .int .u64 a2_17, .int .u64 a2_18, .int .u64 a2_19, .int .u64 a2_20, .int .u64 a2_21, .int .u64 a2_22, .int .u64 a2_23, .int .u64 a2_24, .int .u64 a2_25, .int .u64 a2_26, .int .u64 a2_27, .int .u64 a2_28, .int .u64 a2_29, .int .u64 a2_30, .int .u64 a2_31, .bool a2_32, .bool a2_33, .bool a2_34, .bool a2_35, .bool a2_36] 35 (0, 0)) (by (with_reducible repeat (first | refine blk_drewN ?_ _ | refine blk_drew ?_ | refine blk_alloc ?_ _)); exact BK169.out) hb); have n4_ := Aside0.mk (below_step (by repeat (first | (with_reducible first | exact HB.out | apply below_alloc | apply pw_below_drewN | apply below_drew1 | refine below_set ?_ GE168.out | refine below_set ?_ GE169.out) | exact HB.out)) hb); clear HO0; clear BK168; clear BK169; clear HB; have HO0 := n0_; have HO172 := n1_; have BK168 := n2_; have BK169 := n3_; have HB := n4_; clear n0_ n1_ n2_ n3_ n4_; (try clear hb); (try clear hb2); (try clear hk); (try clear hi); (try clear ho0); obtain ⟨Ao38, co38, eo38⟩ := Kd.V_slice HO172.out; subst eo38; have p174 : 0 ≤ (0 : Int) := (by omega); have q174 : 0 < (t170.length : Int) := of_decide_eq_true (by assumption); obtain ⟨ad174, e174, hx174_0⟩ := Kd.at_int (Kd.V_reads' HO172.out).2.2 0 p174 q174; cases e174; have qi174 : (0 < t170.length) = True := eq_true (by omega); (try rw [show ((0 : Int)).toNat = 0 from rfl] at hx174_0); (try rw [Addr.add_zero'] at hx174_0); replace p174 := eq_true p174; replace q174 := eq_true q174; have p175 : 0 ≤ ((ji21) : Int) := of_decide_eq_true (by assumption); have q175 : (ji21) < (t170.length : Int) := of_decide_eq_true (by assumption); obtain ⟨ad175, e175, hx175_0⟩ := Kd.at_int (Kd.V_reads' HO172.out).2.2 (ji21) p175 q175; obtain rfl : ad174 = ad175 := (by injection e175); replace p175 := eq_true p175; replace q175 := eq_true q175))
         go_ret2
         exact ⟨_, by first | rfl | (simp [errW_none, errW_some] <;> rfl) | (simp only [← hji21]; first | rfl | (simp [errW_none, errW_some] <;> rfl)) | (simp [*, errW_none, errW_some] <;> rfl), Kd.V_nil _ _ _ _ _, by repeat (first | (with_reducible first | exact HB.out | apply below_alloc | apply pw_below_drewN | apply below_drew1 | refine below_set ?_ GE168.out | refine below_set ?_ GE169.out) | exact HB.out)⟩
       ·rw [if_neg c23] at H
        exact absurd H (by simp)
      ·rw [if_neg c22] at H
       exact absurd H (by simp)
     ·rw [if_neg c20] at H
      have c20b0 : ((rd t170 0) == 0) = false := beq_eq_false_iff_ne.mpr c20
      have c20b1 : ((rd t170 0) != 0) = true := bne_iff_ne.mpr c20
      simp only [Option.some.injEq, Prod.mk.injEq] at H
      obtain ⟨rfl, rfl⟩ := H
      go_enter Try.func40, Try.ntmps40
      go_wp2_with (first | ((with_reducible refine gate_ (.load 35 (.tmp 5)) rfl ?_); refine wpList_load_row rfl 35 (.tmp 5) rfl gb169 rfl 35 _ (0, 0) _ (by (with_reducible repeat (first | refine blk_drewN ?_ _ | refine blk_drew ?_ | refine blk_alloc ?_ _)); exact BK169.out) Try.underlying35 rfl (by kernel_rfl) ?_) | ((with_reducible refine gate_dst (N := 4) rfl ?_); (try (refine gate_guard (by rfl) ?_; dsimp only)); refine box_event ?hg (N := 4) ?hd (cs := #[.int .i64 a1_0, .int .u64 a1_1, .slice A1_2 l1_2.length c1_2]) (t := 32) ?hr ?_; (case hd => rfl); (case hg => rfl); (case hr => first | (go_simp; done) | (go_simp; rfl)); intro gb168 hg w39 hbox hb; have n0_ := Aside0.mk (Kd.V_below (Kd.V_elderB (by (with_reducible repeat (first | apply Kd.V_alloc | apply Kd.V_drewN | apply Kd.V_drew)); exact HO0.out) gb168 (Nat.le_of_eq hg.symm)) hb); have n1_ := Aside0.mk (below_step (by repeat (first | (with_reducible first | exact HB.out | apply below_alloc | apply pw_below_drewN | apply below_drew1) | exact HB.out)) hb); have n2_ := Aside0.mk (hbox); have n3_ := Aside0.mk ((by rw [hg]; exact (below_size (by repeat (first | (with_reducible first | exact HB.out | apply below_alloc | apply pw_below_drewN | apply below_drew1) | exact HB.out))) : w.heap.size ≤ gb168)); have n4_ := Aside0.mk ((by rw [hg]; exact (below_size (by repeat (first | (with_reducible first | exact HB.out | apply below_alloc | apply pw_below_drewN | apply below_drew1) | exact HB.out))) : w.heap.size ≤ gb168)); clear HO0; clear HB; have HO0 := n0_; have HB := n1_; have BK168 := n2_; have GW168 := n3_; have GE168 := n4_; clear n0_ n1_ n2_ n3_ n4_; clear hb hbox hg) | ((with_reducible refine gate_dst (N := 5) rfl ?_); (try (refine gate_guard (by rfl) ?_; dsimp only)); refine box_event ?hg (N := 5) ?hd (cs := #[.slice A2_0 l2_0.length c2_0, .int .u64 a2_1, .int .u64 a2_2, .int .u64 a2_3, .int .u64 a2_4, .int .u64 a2_5, .int .u64 a2_6, .int .u64 a2_7, .int .u64 a2_8, .int .u64 a2_9, .int .u64 a2_10, .int .u64 a2_11, .int .u64 a2_12, .int .u64 a2_13, .bool a2_14, .bool a2_15, .bool a2_16, .int .u64 a2_17, .int .u64 a2_18, .int .u64 a2_19, .int .u64 a2_20, .int .u64 a2_21, .int .u64 a2_22, .int .u64 a2_23, .int .u64 a2_24, .int .u64 a2_25, .int .u64 a2_26, .int .u64 a2_27, .int .u64 a2_28, .int .u64 a2_29, .int .u64 a2_30, .int .u64 a2_31, .bool a2_32, .bool a2_33, .bool a2_34, .bool a2_35, .bool a2_36]) (t := 35) ?hr ?_; (case hd => rfl); (case hg => rfl); (case hr => first | (go_simp; done) | (go_simp; rfl)); intro gb169 hg w40 hbox hb; have n0_ := Aside0.mk (Kd.V_below (Kd.V_elderB (by (with_reducible repeat (first | apply Kd.V_alloc | apply Kd.V_drewN | apply Kd.V_drew)); exact HO0.out) gb169 (Nat.le_of_eq hg.symm)) hb); have n1_ := Aside0.mk (blk_below (g := gb168) (o := .cells #[.int .i64 a1_0, .int .u64 a1_1, .slice A1_2 l1_2.length c1_2] 32 (0, 0)) (by (with_reducible repeat (first | refine blk_drewN ?_ _ | refine blk_drew ?_ | refine blk_alloc ?_ _)); exact BK168.out) hb); have n2_ := Aside0.mk (below_step (by repeat (first | (with_reducible first | exact HB.out | apply below_alloc | apply pw_below_drewN | apply below_drew1 | refine below_set ?_ GE168.out) | exact HB.out)) hb); have n3_ := Aside0.mk (hbox); have n4_ := Aside0.mk ((by rw [hg]; exact (below_size (by repeat (first | (with_reducible first | exact HB.out | apply below_alloc | apply pw_below_drewN | apply below_drew1 | refine below_set ?_ GE168.out) | exact HB.out))) : w.heap.size ≤ gb169)); have n5_ := Aside0.mk ((by rw [hg]; exact (below_size (by repeat (first | (with_reducible first | exact HB.out | apply below_alloc | apply pw_below_drewN | apply below_drew1 | refine below_set ?_ GE168.out) | exact HB.out))) : w.heap.size ≤ gb169)); have n6_ := Aside0.mk ((by rw [hg]; exact Nat.ne_of_lt (blk_lt (g := gb168) (o := .cells #[.int .i64 a1_0, .int .u64 a1_1, .slice A1_2 l1_2.length c1_2] 32 (0, 0)) (by (with_reducible repeat (first | refine blk_drewN ?_ _ | refine blk_drew ?_ | refine blk_alloc ?_ _)); exact BK168.out)) : gb168 ≠ gb169)); have n7_ := Aside0.mk ((by rw [hg]; exact Nat.ne_of_gt (blk_lt (g := gb168) (o := .cells #[.int .i64 a1_0, .int .u64 a1_1, .slice A1_2 l1_2.length c1_2] 32 (0, 0)) (by (with_reducible repeat (first | refine blk_drewN ?_ _ | refine blk_drew ?_ | refine blk_alloc ?_ _)); exact BK168.out)) : gb169 ≠ gb168)); clear HO0; clear BK168; clear HB; have HO0 := n0_; have BK168 := n1_; have HB := n2_; have BK169 := n3_; have GW169 := n4_; have GE169 := n5_; have NB168_169 := n6_; have NB169_168 := n7_; clear n0_ n1_ n2_ n3_ n4_ n5_ n6_ n7_; clear hb hbox hg; have hnb41 := NB169_168.out; have hnc41 := NB168_169.out; have hcz42_0 : w40.cell? ⟨gb169, 0, none⟩ = some (.slice A2_0 l2_0.length c2_0) := (blk_cell BK169.out 0).trans rfl; have hcz42_1 : w40.cell? ⟨gb169, 1, none⟩ = some (.int .u64 a2_1) := (blk_cell BK169.out 1).trans rfl; have hcz42_2 : w40.cell? ⟨gb169, 2, none⟩ = some (.int .u64 a2_2) := (blk_cell BK169.out 2).trans rfl; have hcz42_3 : w40.cell? ⟨gb169, 3, none⟩ = some (.int .u64 a2_3) := (blk_cell BK169.out 3).trans rfl; have hcz42_4 : w40.cell? ⟨gb169, 4, none⟩ = some (.int .u64 a2_4) := (blk_cell BK169.out 4).trans rfl; have hcz42_5 : w40.cell? ⟨gb169, 5, none⟩ = some (.int .u64 a2_5) := (blk_cell BK169.out 5).trans rfl; have hcz42_6 : w40.cell? ⟨gb169, 6, none⟩ = some (.int .u64 a2_6) := (blk_cell BK169.out 6).trans rfl; have hcz42_7 : w40.cell? ⟨gb169, 7, none⟩ = some (.int .u64 a2_7) := (blk_cell BK169.out 7).trans rfl; have hcz42_8 : w40.cell? ⟨gb169, 8, none⟩ = some (.int .u64 a2_8) := (blk_cell BK169.out 8).trans rfl; have hcz42_9 : w40.cell? ⟨gb169, 9, none⟩ = some (.int .u64 a2_9) := (blk_cell BK169.out 9).trans rfl; have hcz42_10 : w40.cell? ⟨gb169, 10, none⟩ = some (.int .u64 a2_10) := (blk_cell BK169.out 10).trans rfl; have hcz42_11 : w40.cell? ⟨gb169, 11, none⟩ = some (.int .u64 a2_11) := (blk_cell BK169.out 11).trans rfl; have hcz42_12 : w40.cell? ⟨gb169, 12, none⟩ = some (.int .u64 a2_12) := (blk_cell BK169.out 12).trans rfl; have hcz42_13 : w40.cell? ⟨gb169, 13, none⟩ = some (.int .u64 a2_13) := (blk_cell BK169.out 13).trans rfl; have hcz42_14 : w40.cell? ⟨gb169, 14, none⟩ = some (.bool a2_14) := (blk_cell BK169.out 14).trans rfl; have hcz42_15 : w40.cell? ⟨gb169, 15, none⟩ = some (.bool a2_15) := (blk_cell BK169.out 15).trans rfl; have hcz42_16 : w40.cell? ⟨gb169, 16, none⟩ = some (.bool a2_16) := (blk_cell BK169.out 16).trans rfl; have hcz42_17 : w40.cell? ⟨gb169, 17, none⟩ = some (.int .u64 a2_17) := (blk_cell BK169.out 17).trans rfl; have hcz42_18 : w40.cell? ⟨gb169, 18, none⟩ = some (.int .u64 a2_18) := (blk_cell BK169.out 18).trans rfl; have hcz42_19 : w40.cell? ⟨gb169, 19, none⟩ = some (.int .u64 a2_19) := (blk_cell BK169.out 19).trans rfl; have hcz42_20 : w40.cell? ⟨gb169, 20, none⟩ = some (.int .u64 a2_20) := (blk_cell BK169.out 20).trans rfl; have hcz42_21 : w40.cell? ⟨gb169, 21, none⟩ = some (.int .u64 a2_21) := (blk_cell BK169.out 21).trans rfl; have hcz42_22 : w40.cell? ⟨gb169, 22, none⟩ = some (.int .u64 a2_22) := (blk_cell BK169.out 22).trans rfl; have hcz42_23 : w40.cell? ⟨gb169, 23, none⟩ = some (.int .u64 a2_23) := (blk_cell BK169.out 23).trans rfl; have hcz42_24 : w40.cell? ⟨gb169, 24, none⟩ = some (.int .u64 a2_24) := (blk_cell BK169.out 24).trans rfl; have hcz42_25 : w40.cell? ⟨gb169, 25, none⟩ = some (.int .u64 a2_25) := (blk_cell BK169.out 25).trans rfl; have hcz42_26 : w40.cell? ⟨gb169, 26, none⟩ = some (.int .u64 a2_26) := (blk_cell BK169.out 26).trans rfl; have hcz42_27 : w40.cell? ⟨gb169, 27, none⟩ = some (.int .u64 a2_27) := (blk_cell BK169.out 27).trans rfl; have hcz42_28 : w40.cell? ⟨gb169, 28, none⟩ = some (.int .u64 a2_28) := (blk_cell BK169.out 28).trans rfl; have hcz42_29 : w40.cell? ⟨gb169, 29, none⟩ = some (.int .u64 a2_29) := (blk_cell BK169.out 29).trans rfl; have hcz42_30 : w40.cell? ⟨gb169, 30, none⟩ = some (.int .u64 a2_30) := (blk_cell BK169.out 30).trans rfl; have hcz42_31 : w40.cell? ⟨gb169, 31, none⟩ = some (.int .u64 a2_31) := (blk_cell BK169.out 31).trans rfl; have hcz42_32 : w40.cell? ⟨gb169, 32, none⟩ = some (.bool a2_32) := (blk_cell BK169.out 32).trans rfl; have hcz42_33 : w40.cell? ⟨gb169, 33, none⟩ = some (.bool a2_33) := (blk_cell BK169.out 33).trans rfl; have hcz42_34 : w40.cell? ⟨gb169, 34, none⟩ = some (.bool a2_34) := (blk_cell BK169.out 34).trans rfl; have hcz42_35 : w40.cell? ⟨gb169, 35, none⟩ = some (.bool a2_35) := (blk_cell BK169.out 35).trans rfl; have hcz42_36 : w40.cell? ⟨gb169, 36, none⟩ = some (.bool a2_36) := (blk_cell BK169.out 36).trans rfl; have hfz42_0 := blk_frozen BK169.out 0; have hfz42_1 := blk_frozen BK169.out 1; have hfz42_2 := blk_frozen BK169.out 2; have hfz42_3 := blk_frozen BK169.out 3; have hfz42_4 := blk_frozen BK169.out 4; have hfz42_5 := blk_frozen BK169.out 5; have hfz42_6 := blk_frozen BK169.out 6; have hfz42_7 := blk_frozen BK169.out 7; have hfz42_8 := blk_frozen BK169.out 8; have hfz42_9 := blk_frozen BK169.out 9; have hfz42_10 := blk_frozen BK169.out 10; have hfz42_11 := blk_frozen BK169.out 11; have hfz42_12 := blk_frozen BK169.out 12; have hfz42_13 := blk_frozen BK169.out 13; have hfz42_14 := blk_frozen BK169.out 14; have hfz42_15 := blk_frozen BK169.out 15; have hfz42_16 := blk_frozen BK169.out 16; have hfz42_17 := blk_frozen BK169.out 17; have hfz42_18 := blk_frozen BK169.out 18; have hfz42_19 := blk_frozen BK169.out 19; have hfz42_20 := blk_frozen BK169.out 20; have hfz42_21 := blk_frozen BK169.out 21; have hfz42_22 := blk_frozen BK169.out 22; have hfz42_23 := blk_frozen BK169.out 23; have hfz42_24 := blk_frozen BK169.out 24; have hfz42_25 := blk_frozen BK169.out 25; have hfz42_26 := blk_frozen BK169.out 26; have hfz42_27 := blk_frozen BK169.out 27; have hfz42_28 := blk_frozen BK169.out 28; have hfz42_29 := blk_frozen BK169.out 29; have hfz42_30 := blk_frozen BK169.out 30; have hfz42_31 := blk_frozen BK169.out 31; have hfz42_32 := blk_frozen BK169.out 32; have hfz42_33 := blk_frozen BK169.out 33; have hfz42_34 := blk_frozen BK169.out 34; have hfz42_35 := blk_frozen BK169.out 35; have hfz42_36 := blk_frozen BK169.out 36; have hcz43_0 : w40.cell? ⟨gb168, 0, none⟩ = some (.int .i64 a1_0) := (blk_cell BK168.out 0).trans rfl; have hcz43_1 : w40.cell? ⟨gb168, 1, none⟩ = some (.int .u64 a1_1) := (blk_cell BK168.out 1).trans rfl; have hcz43_2 : w40.cell? ⟨gb168, 2, none⟩ = some (.slice A1_2 l1_2.length c1_2) := (blk_cell BK168.out 2).trans rfl; have hfz43_0 := blk_frozen BK168.out 0; have hfz43_1 := blk_frozen BK168.out 1; have hfz43_2 := blk_frozen BK168.out 2) | ((with_reducible refine gate_callee (f := 41) rfl ?_); refine goesL_ (some 20) rfl rfl Try.func41 (by kernel_rfl) rfl #[.slice A0 l0.length c0, .agg #[.int .i64 a1_0, .int .u64 a1_1, .slice A1_2 l1_2.length c1_2], .int .u64 a2_4, .int .u64 a2_8] rfl (by (try simp only [List.map_toArray, List.map_cons, List.map_nil]); first | done | rfl | (simp only [List.length_drop, List.length_take]; rfl)) ?_; (with_reducible refine (shackleref05_Slice.calls k (fun k_ => (((P0_ k_ ∨ w.heap.size ≤ k_) ∧ k_ ≠ gb168) ∧ k_ ≠ gb169)) _ _ l0 a1_0 a1_1 _ _ l1_2 a2_4 a2_8 t170 t173 _ ?side1 ?side2 ?side3 A9.out).mono ?_); (case side1 => exact HO0.out); (case side2 => repeat (first | exact (Kd.C_below HR1_2.out HB.out) | (with_reducible refine Kd.C_alloc ?_ _) | (with_reducible refine Kd.C_drewN ?_ _) | (with_reducible refine Kd.C_drew ?_))); (case side3 => exact HC1_2.out); rintro e w44 ⟨v171, rfl, ho0, hb⟩; refine ⟨_, rfl, ?_⟩; have n0_ := Aside0.mk (Kd.V_below (by (with_reducible repeat (first | apply Kd.V_alloc | apply Kd.V_drewN | apply Kd.V_drew)); exact HO0.out) hb); have n1_ := Aside0.mk (Kd.V_lower (Kd.V_mono (ok' := fun k_ => (P0_ k_ ∨ w.heap.size ≤ k_) ∧ k_ ≠ gb168 ∧ k_ ≠ gb169) ho0 (fun k_ hk_ => ⟨Or.elim hk_ (fun hs_ => hs_.1.1) (fun hn_ => (.inr (Nat.le_trans (below_size (by repeat (first | (with_reducible first | exact HB.out | apply below_alloc | apply pw_below_drewN | apply below_drew1 | refine below_set ?_ GE168.out | refine below_set ?_ GE169.out) | exact HB.out))) hn_))), Or.elim hk_ (fun hs_ => hs_.1.2) (fun hn_ => (Kd.freshB (g := gb168) (o := .cells #[.int .i64 a1_0, .int .u64 a1_1, .slice A1_2 l1_2.length c1_2] 32 (0, 0)) (by (with_reducible repeat (first | refine blk_drewN ?_ _ | refine blk_drew ?_ | refine blk_alloc ?_ _)); exact BK168.out) k_ hn_)), Or.elim hk_ (fun hs_ => hs_.2) (fun hn_ => (Kd.freshB (g := gb169) (o := .cells #[.slice A2_0 l2_0.length c2_0, .int .u64 a2_1, .int .u64 a2_2, .int .u64 a2_3, .int .u64 a2_4, .int .u64 a2_5, .int .u64 a2_6, .int .u64 a2_7, .int .u64 a2_8, .int .u64 a2_9, .int .u64 a2_10, .int .u64 a2_11, .int .u64 a2_12, .int .u64 a2_13, .bool a2_14, .bool a2_15, .bool a2_16, .int .u64 a2_17, .int .u64 a2_18, .int .u64 a2_19, .int .u64 a2_20, .int .u64 a2_21, .int .u64 a2_22, .int .u64 a2_23, .int .u64 a2_24, .int .u64 a2_25, .int .u64 a2_26, .int .u64 a2_27, .int .u64 a2_28, .int .u64 a2_29, .int .u64 a2_30, .int .u64 a2_31, .bool a2_32, .bool a2_33, .bool a2_34, .bool a2_35, .bool a2_36] 35 (0, 0)) (by (with_reducible repeat (first | refine blk_drewN ?_ _ | refine blk_drew ?_ | refine blk_alloc ?_ _)); exact BK169.out) k_ hn_))⟩)) (below_size (by repeat (first | (with_reducible first | exact HB.out | apply below_alloc | apply pw_below_drewN | apply below_drew1 | refine below_set ?_ GE168.out | refine below_set ?_ GE169.out) | exact HB.out)))); have n2_ := Aside0.mk (blk_below (g := gb168) (o := .cells #[.int .i64 a1_0, .int .u64 a1_1, .slice A1_2 l1_2.length c1_2] 32 (0, 0)) (by (with_reducible repeat (first | refine blk_drewN ?_ _ | refine blk_drew ?_ | refine blk_alloc ?_ _)); exact BK168.out) hb); have n3_ := Aside0.mk (blk_below (g := gb169) (o := .cells #[.slice A2_0 l2_0.length c2_0, .int .u64 a2_1, .int .u64 a2_2, .int .u64 a2_3, .int .u64 a2_4, .int .u64 a2_5, .int .u64 a2_6, .int .u64 a2_7, .int .u64 a2_8, .int .u64 a2_9, .int .u64 a2_10, .int .u64 a2_11, .int .u64 a2_12, .int .u64 a2_13, .bool a2_14, .bool a2_15, .bool a2_16, .int .u64 a2_17, .int .u64 a2_18, .int .u64 a2_19, .int .u64 a2_20, .int .u64 a2_21, .int .u64 a2_22, .int .u64 a2_23, .int .u64 a2_24, .int .u64 a2_25, .int .u64 a2_26, .int .u64 a2_27, .int .u64 a2_28, .int .u64 a2_29, .int .u64 a2_30, .int .u64 a2_31, .bool a2_32, .bool a2_33, .bool a2_34, .bool a2_35, .bool a2_36] 35 (0, 0)) (by (with_reducible repeat (first | refine blk_drewN ?_ _ | refine blk_drew ?_ | refine blk_alloc ?_ _)); exact BK169.out) hb); have n4_ := Aside0.mk (below_step (by repeat (first | (with_reducible first | exact HB.out | apply below_alloc | apply pw_below_drewN | apply below_drew1 | refine below_set ?_ GE168.out | refine below_set ?_ GE169.out) | exact HB.out)) hb); clear HO0; clear BK168; clear BK169; clear HB; have HO0 := n0_; have HO172 := n1_; have BK168 := n2_; have BK169 := n3_; have HB := n4_; clear n0_ n1_ n2_ n3_ n4_; (try clear hb); (try clear hb2); (try clear hk); (try clear hi); (try clear ho0); obtain ⟨Ao45, co45, eo45⟩ := Kd.V_slice HO172.out; subst eo45; have p174 : 0 ≤ (0 : Int) := (by omega); have q174 : 0 < (t170.length : Int) := of_decide_eq_true (by assumption); obtain ⟨ad174, e174, hx174_0⟩ := Kd.at_int (Kd.V_reads' HO172.out).2.2 0 p174 q174; cases e174; have qi174 : (0 < t170.length) = True := eq_true (by omega); (try rw [show ((0 : Int)).toNat = 0 from rfl] at hx174_0); (try rw [Addr.add_zero'] at hx174_0); replace p174 := eq_true p174; replace q174 := eq_true q174))
      go_ret2
      exact ⟨_, by first | rfl | (simp [errW_none, errW_some] <;> rfl) | (simp [*, errW_none, errW_some] <;> rfl), Kd.V_nil _ _ _ _ _, by repeat (first | (with_reducible first | exact HB.out | apply below_alloc | apply pw_below_drewN | apply below_drew1 | refine below_set ?_ GE168.out | refine below_set ?_ GE169.out) | exact HB.out)⟩
    ·rw [if_neg c19] at H
     exact absurd H (by simp)
  ·rw [if_neg c10] at H
   have c10b0 : (t173 == 0) = false := beq_eq_false_iff_ne.mpr c10
   have c10b1 : (t173 != 0) = true := bne_iff_ne.mpr c10
   simp only [Option.some.injEq, Prod.mk.injEq] at H
   obtain ⟨rfl, rfl⟩ := H
   go_enter Try.func40, Try.ntmps40
   go_wp2_with (first | ((with_reducible refine gate_ (.load 35 (.tmp 5)) rfl ?_); refine wpList_load_row rfl 35 (.tmp 5) rfl gb169 rfl 35 _ (0, 0) _ (by (with_reducible repeat (first | refine blk_drewN ?_ _ | refine blk_drew ?_ | refine blk_alloc ?_ _)); exact BK169.out) Try.underlying35 rfl (by kernel_rfl) ?_) | ((with_reducible refine gate_dst (N := 4) rfl ?_); (try (refine gate_guard (by rfl) ?_; dsimp only)); refine box_event ?hg (N := 4) ?hd (cs := #[.int .i64 a1_0, .int .u64 a1_1, .slice A1_2 l1_2.length c1_2]) (t := 32) ?hr ?_; (case hd => rfl); (case hg => rfl); (case hr => first | (go_simp; done) | (go_simp; rfl)); intro gb168 hg w46 hbox hb; have n0_ := Aside0.mk (Kd.V_below (Kd.V_elderB (by (with_reducible repeat (first | apply Kd.V_alloc | apply Kd.V_drewN | apply Kd.V_drew)); exact HO0.out) gb168 (Nat.le_of_eq hg.symm)) hb); have n1_ := Aside0.mk (below_step (by repeat (first | (with_reducible first | exact HB.out | apply below_alloc | apply pw_below_drewN | apply below_drew1) | exact HB.out)) hb); have n2_ := Aside0.mk (hbox); have n3_ := Aside0.mk ((by rw [hg]; exact (below_size (by repeat (first | (with_reducible first | exact HB.out | apply below_alloc | apply pw_below_drewN | apply below_drew1) | exact HB.out))) : w.heap.size ≤ gb168)); have n4_ := Aside0.mk ((by rw [hg]; exact (below_size (by repeat (first | (with_reducible first | exact HB.out | apply below_alloc | apply pw_below_drewN | apply below_drew1) | exact HB.out))) : w.heap.size ≤ gb168)); clear HO0; clear HB; have HO0 := n0_; have HB := n1_; have BK168 := n2_; have GW168 := n3_; have GE168 := n4_; clear n0_ n1_ n2_ n3_ n4_; clear hb hbox hg) | ((with_reducible refine gate_dst (N := 5) rfl ?_); (try (refine gate_guard (by rfl) ?_; dsimp only)); refine box_event ?hg (N := 5) ?hd (cs := #[.slice A2_0 l2_0.length c2_0, .int .u64 a2_1, .int .u64 a2_2, .int .u64 a2_3, .int .u64 a2_4, .int .u64 a2_5, .int .u64 a2_6, .int .u64 a2_7, .int .u64 a2_8, .int .u64 a2_9, .int .u64 a2_10, .int .u64 a2_11, .int .u64 a2_12, .int .u64 a2_13, .bool a2_14, .bool a2_15, .bool a2_16, .int .u64 a2_17, .int .u64 a2_18, .int .u64 a2_19, .int .u64 a2_20, .int .u64 a2_21, .int .u64 a2_22, .int .u64 a2_23, .int .u64 a2_24, .int .u64 a2_25, .int .u64 a2_26, .int .u64 a2_27, .int .u64 a2_28, .int .u64 a2_29, .int .u64 a2_30, .int .u64 a2_31, .bool a2_32, .bool a2_33, .bool a2_34, .bool a2_35, .bool a2_36]) (t := 35) ?hr ?_; (case hd => rfl); (case hg => rfl); (case hr => first | (go_simp; done) | (go_simp; rfl)); intro gb169 hg w47 hbox hb; have n0_ := Aside0.mk (Kd.V_below (Kd.V_elderB (by (with_reducible repeat (first | apply Kd.V_alloc | apply Kd.V_drewN | apply Kd.V_drew)); exact HO0.out) gb169 (Nat.le_of_eq hg.symm)) hb); have n1_ := Aside0.mk (blk_below (g := gb168) (o := .cells #[.int .i64 a1_0, .int .u64 a1_1, .slice A1_2 l1_2.length c1_2] 32 (0, 0)) (by (with_reducible repeat (first | refine blk_drewN ?_ _ | refine blk_drew ?_ | refine blk_alloc ?_ _)); exact BK168.out) hb); have n2_ := Aside0.mk (below_step (by repeat (first | (with_reducible first | exact HB.out | apply below_alloc | apply pw_below_drewN | apply below_drew1 | refine below_set ?_ GE168.out) | exact HB.out)) hb); have n3_ := Aside0.mk (hbox); have n4_ := Aside0.mk ((by rw [hg]; exact (below_size (by repeat (first | (with_reducible first | exact HB.out | apply below_alloc | apply pw_below_drewN | apply below_drew1 | refine below_set ?_ GE168.out) | exact HB.out))) : w.heap.size ≤ gb169)); have n5_ := Aside0.mk ((by rw [hg]; exact (below_size (by repeat (first | (with_reducible first | exact HB.out | apply below_alloc | apply pw_below_drewN | apply below_drew1 | refine below_set ?_ GE168.out) | exact HB.out))) : w.heap.size ≤ gb169)); have n6_ := Aside0.mk ((by rw [hg]; exact Nat.ne_of_lt (blk_lt (g := gb168) (o := .cells #[.int .i64 a1_0, .int .u64 a1_1, .slice A1_2 l1_2.length c1_2] 32 (0, 0)) (by (with_reducible repeat (first | refine blk_drewN ?_ _ | refine blk_drew ?_ | refine blk_alloc ?_ _)); exact BK168.out)) : gb168 ≠ gb169)); have n7_ := Aside0.mk ((by rw [hg]; exact Nat.ne_of_gt (blk_lt (g := gb168) (o := .cells #[.int .i64 a1_0, .int .u64 a1_1, .slice A1_2 l1_2.length c1_2] 32 (0, 0)) (by (with_reducible repeat (first | refine blk_drewN ?_ _ | refine blk_drew ?_ | refine blk_alloc ?_ _)); exact BK168.out)) : gb169 ≠ gb168)); clear HO0; clear BK168; clear HB; have HO0 := n0_; have BK168 := n1_; have HB := n2_; have BK169 := n3_; have GW169 := n4_; have GE169 := n5_; have NB168_169 := n6_; have NB169_168 := n7_; clear n0_ n1_ n2_ n3_ n4_ n5_ n6_ n7_; clear hb hbox hg; have hnb48 := NB169_168.out; have hnc48 := NB168_169.out; have hcz49_0 : w47.cell? ⟨gb169, 0, none⟩ = some (.slice A2_0 l2_0.length c2_0) := (blk_cell BK169.out 0).trans rfl; have hcz49_1 : w47.cell? ⟨gb169, 1, none⟩ = some (.int .u64 a2_1) := (blk_cell BK169.out 1).trans rfl; have hcz49_2 : w47.cell? ⟨gb169, 2, none⟩ = some (.int .u64 a2_2) := (blk_cell BK169.out 2).trans rfl; have hcz49_3 : w47.cell? ⟨gb169, 3, none⟩ = some (.int .u64 a2_3) := (blk_cell BK169.out 3).trans rfl; have hcz49_4 : w47.cell? ⟨gb169, 4, none⟩ = some (.int .u64 a2_4) := (blk_cell BK169.out 4).trans rfl; have hcz49_5 : w47.cell? ⟨gb169, 5, none⟩ = some (.int .u64 a2_5) := (blk_cell BK169.out 5).trans rfl; have hcz49_6 : w47.cell? ⟨gb169, 6, none⟩ = some (.int .u64 a2_6) := (blk_cell BK169.out 6).trans rfl; have hcz49_7 : w47.cell? ⟨gb169, 7, none⟩ = some (.int .u64 a2_7) := (blk_cell BK169.out 7).trans rfl; have hcz49_8 : w47.cell? ⟨gb169, 8, none⟩ = some (.int .u64 a2_8) := (blk_cell BK169.out 8).trans rfl; have hcz49_9 : w47.cell? ⟨gb169, 9, none⟩ = some (.int .u64 a2_9) := (blk_cell BK169.out 9).trans rfl; have hcz49_10 : w47.cell? ⟨gb169, 10, none⟩ = some (.int .u64 a2_10) := (blk_cell BK169.out 10).trans rfl; have hcz49_11 : w47.cell? ⟨gb169, 11, none⟩ = some (.int .u64 a2_11) := (blk_cell BK169.out 11).trans rfl; have hcz49_12 : w47.cell? ⟨gb169, 12, none⟩ = some (.int .u64 a2_12) := (blk_cell BK169.out 12).trans rfl; have hcz49_13 : w47.cell? ⟨gb169, 13, none⟩ = some (.int .u64 a2_13) := (blk_cell BK169.out 13).trans rfl; have hcz49_14 : w47.cell? ⟨gb169, 14, none⟩ = some (.bool a2_14) := (blk_cell BK169.out 14).trans rfl; have hcz49_15 : w47.cell? ⟨gb169, 15, none⟩ = some (.bool a2_15) := (blk_cell BK169.out 15).trans rfl; have hcz49_16 : w47.cell? ⟨gb169, 16, none⟩ = some (.bool a2_16) := (blk_cell BK169.out 16).trans rfl; have hcz49_17 : w47.cell? ⟨gb169, 17, none⟩ = some (.int .u64 a2_17) := (blk_cell BK169.out 17).trans rfl; have hcz49_18 : w47.cell? ⟨gb169, 18, none⟩ = some (.int .u64 a2_18) := (blk_cell BK169.out 18).trans rfl; have hcz49_19 : w47.cell? ⟨gb169, 19, none⟩ = some (.int .u64 a2_19) := (blk_cell BK169.out 19).trans rfl; have hcz49_20 : w47.cell? ⟨gb169, 20, none⟩ = some (.int .u64 a2_20) := (blk_cell BK169.out 20).trans rfl; have hcz49_21 : w47.cell? ⟨gb169, 21, none⟩ = some (.int .u64 a2_21) := (blk_cell BK169.out 21).trans rfl; have hcz49_22 : w47.cell? ⟨gb169, 22, none⟩ = some (.int .u64 a2_22) := (blk_cell BK169.out 22).trans rfl; have hcz49_23 : w47.cell? ⟨gb169, 23, none⟩ = some (.int .u64 a2_23) := (blk_cell BK169.out 23).trans rfl; have hcz49_24 : w47.cell? ⟨gb169, 24, none⟩ = some (.int .u64 a2_24) := (blk_cell BK169.out 24).trans rfl; have hcz49_25 : w47.cell? ⟨gb169, 25, none⟩ = some (.int .u64 a2_25) := (blk_cell BK169.out 25).trans rfl; have hcz49_26 : w47.cell? ⟨gb169, 26, none⟩ = some (.int .u64 a2_26) := (blk_cell BK169.out 26).trans rfl; have hcz49_27 : w47.cell? ⟨gb169, 27, none⟩ = some (.int .u64 a2_27) := (blk_cell BK169.out 27).trans rfl; have hcz49_28 : w47.cell? ⟨gb169, 28, none⟩ = some (.int .u64 a2_28) := (blk_cell BK169.out 28).trans rfl; have hcz49_29 : w47.cell? ⟨gb169, 29, none⟩ = some (.int .u64 a2_29) := (blk_cell BK169.out 29).trans rfl; have hcz49_30 : w47.cell? ⟨gb169, 30, none⟩ = some (.int .u64 a2_30) := (blk_cell BK169.out 30).trans rfl; have hcz49_31 : w47.cell? ⟨gb169, 31, none⟩ = some (.int .u64 a2_31) := (blk_cell BK169.out 31).trans rfl; have hcz49_32 : w47.cell? ⟨gb169, 32, none⟩ = some (.bool a2_32) := (blk_cell BK169.out 32).trans rfl; have hcz49_33 : w47.cell? ⟨gb169, 33, none⟩ = some (.bool a2_33) := (blk_cell BK169.out 33).trans rfl; have hcz49_34 : w47.cell? ⟨gb169, 34, none⟩ = some (.bool a2_34) := (blk_cell BK169.out 34).trans rfl; have hcz49_35 : w47.cell? ⟨gb169, 35, none⟩ = some (.bool a2_35) := (blk_cell BK169.out 35).trans rfl; have hcz49_36 : w47.cell? ⟨gb169, 36, none⟩ = some (.bool a2_36) := (blk_cell BK169.out 36).trans rfl; have hfz49_0 := blk_frozen BK169.out 0; have hfz49_1 := blk_frozen BK169.out 1; have hfz49_2 := blk_frozen BK169.out 2; have hfz49_3 := blk_frozen BK169.out 3; have hfz49_4 := blk_frozen BK169.out 4; have hfz49_5 := blk_frozen BK169.out 5; have hfz49_6 := blk_frozen BK169.out 6; have hfz49_7 := blk_frozen BK169.out 7; have hfz49_8 := blk_frozen BK169.out 8; have hfz49_9 := blk_frozen BK169.out 9; have hfz49_10 := blk_frozen BK169.out 10; have hfz49_11 := blk_frozen BK169.out 11; have hfz49_12 := blk_frozen BK169.out 12; have hfz49_13 := blk_frozen BK169.out 13; have hfz49_14 := blk_frozen BK169.out 14; have hfz49_15 := blk_frozen BK169.out 15; have hfz49_16 := blk_frozen BK169.out 16; have hfz49_17 := blk_frozen BK169.out 17; have hfz49_18 := blk_frozen BK169.out 18; have hfz49_19 := blk_frozen BK169.out 19; have hfz49_20 := blk_frozen BK169.out 20; have hfz49_21 := blk_frozen BK169.out 21; have hfz49_22 := blk_frozen BK169.out 22; have hfz49_23 := blk_frozen BK169.out 23; have hfz49_24 := blk_frozen BK169.out 24; have hfz49_25 := blk_frozen BK169.out 25; have hfz49_26 := blk_frozen BK169.out 26; have hfz49_27 := blk_frozen BK169.out 27; have hfz49_28 := blk_frozen BK169.out 28; have hfz49_29 := blk_frozen BK169.out 29; have hfz49_30 := blk_frozen BK169.out 30; have hfz49_31 := blk_frozen BK169.out 31; have hfz49_32 := blk_frozen BK169.out 32; have hfz49_33 := blk_frozen BK169.out 33; have hfz49_34 := blk_frozen BK169.out 34; have hfz49_35 := blk_frozen BK169.out 35; have hfz49_36 := blk_frozen BK169.out 36; have hcz50_0 : w47.cell? ⟨gb168, 0, none⟩ = some (.int .i64 a1_0) := (blk_cell BK168.out 0).trans rfl; have hcz50_1 : w47.cell? ⟨gb168, 1, none⟩ = some (.int .u64 a1_1) := (blk_cell BK168.out 1).trans rfl; have hcz50_2 : w47.cell? ⟨gb168, 2, none⟩ = some (.slice A1_2 l1_2.length c1_2) := (blk_cell BK168.out 2).trans rfl; have hfz50_0 := blk_frozen BK168.out 0; have hfz50_1 := blk_frozen BK168.out 1; have hfz50_2 := blk_frozen BK168.out 2) | ((with_reducible refine gate_callee (f := 41) rfl ?_); refine goesL_ (some 20) rfl rfl Try.func41 (by kernel_rfl) rfl #[.slice A0 l0.length c0, .agg #[.int .i64 a1_0, .int .u64 a1_1, .slice A1_2 l1_2.length c1_2], .int .u64 a2_4, .int .u64 a2_8] rfl (by (try simp only [List.map_toArray, List.map_cons, List.map_nil]); first | done | rfl | (simp only [List.length_drop, List.length_take]; rfl)) ?_; (with_reducible refine (shackleref05_Slice.calls k (fun k_ => (((P0_ k_ ∨ w.heap.size ≤ k_) ∧ k_ ≠ gb168) ∧ k_ ≠ gb169)) _ _ l0 a1_0 a1_1 _ _ l1_2 a2_4 a2_8 t170 t173 _ ?side1 ?side2 ?side3 A9.out).mono ?_); (case side1 => exact HO0.out); (case side2 => repeat (first | exact (Kd.C_below HR1_2.out HB.out) | (with_reducible refine Kd.C_alloc ?_ _) | (with_reducible refine Kd.C_drewN ?_ _) | (with_reducible refine Kd.C_drew ?_))); (case side3 => exact HC1_2.out); rintro e w51 ⟨v171, rfl, ho0, hb⟩; refine ⟨_, rfl, ?_⟩; have n0_ := Aside0.mk (Kd.V_below (by (with_reducible repeat (first | apply Kd.V_alloc | apply Kd.V_drewN | apply Kd.V_drew)); exact HO0.out) hb); have n1_ := Aside0.mk (Kd.V_lower (Kd.V_mono (ok' := fun k_ => (P0_ k_ ∨ w.heap.size ≤ k_) ∧ k_ ≠ gb168 ∧ k_ ≠ gb169) ho0 (fun k_ hk_ => ⟨Or.elim hk_ (fun hs_ => hs_.1.1) (fun hn_ => (.inr (Nat.le_trans (below_size (by repeat (first | (with_reducible first | exact HB.out | apply below_alloc | apply pw_below_drewN | apply below_drew1 | refine below_set ?_ GE168.out | refine below_set ?_ GE169.out) | exact HB.out))) hn_))), Or.elim hk_ (fun hs_ => hs_.1.2) (fun hn_ => (Kd.freshB (g := gb168) (o := .cells #[.int .i64 a1_0, .int .u64 a1_1, .slice A1_2 l1_2.length c1_2] 32 (0, 0)) (by (with_reducible repeat (first | refine blk_drewN ?_ _ | refine blk_drew ?_ | refine blk_alloc ?_ _)); exact BK168.out) k_ hn_)), Or.elim hk_ (fun hs_ => hs_.2) (fun hn_ => (Kd.freshB (g := gb169) (o := .cells #[.slice A2_0 l2_0.length c2_0, .int .u64 a2_1, .int .u64 a2_2, .int .u64 a2_3, .int .u64 a2_4, .int .u64 a2_5, .int .u64 a2_6, .int .u64 a2_7, .int .u64 a2_8, .int .u64 a2_9, .int .u64 a2_10, .int .u64 a2_11, .int .u64 a2_12, .int .u64 a2_13, .bool a2_14, .bool a2_15, .bool a2_16, .int .u64 a2_17, .int .u64 a2_18, .int .u64 a2_19, .int .u64 a2_20, .int .u64 a2_21, .int .u64 a2_22, .int .u64 a2_23, .int .u64 a2_24, .int .u64 a2_25, .int .u64 a2_26, .int .u64 a2_27, .int .u64 a2_28, .int .u64 a2_29, .int .u64 a2_30, .int .u64 a2_31, .bool a2_32, .bool a2_33, .bool a2_34, .bool a2_35, .bool a2_36] 35 (0, 0)) (by (with_reducible repeat (first | refine blk_drewN ?_ _ | refine blk_drew ?_ | refine blk_alloc ?_ _)); exact BK169.out) k_ hn_))⟩)) (below_size (by repeat (first | (with_reducible first | exact HB.out | apply below_alloc | apply pw_below_drewN | apply below_drew1 | refine below_set ?_ GE168.out | refine below_set ?_ GE169.out) | exact HB.out)))); have n2_ := Aside0.mk (blk_below (g := gb168) (o := .cells #[.int .i64 a1_0, .int .u64 a1_1, .slice A1_2 l1_2.length c1_2] 32 (0, 0)) (by (with_reducible repeat (first | refine blk_drewN ?_ _ | refine blk_drew ?_ | refine blk_alloc ?_ _)); exact BK168.out) hb); have n3_ := Aside0.mk (blk_below (g := gb169) (o := .cells #[.slice A2_0 l2_0.length c2_0, .int .u64 a2_1, .int .u64 a2_2, .int .u64 a2_3, .int .u64 a2_4, .int .u64 a2_5, .int .u64 a2_6, .int .u64 a2_7, .int .u64 a2_8, .int .u64 a2_9, .int .u64 a2_10, .int .u64 a2_11, .int .u64 a2_12, .int .u64 a2_13, .bool a2_14, .bool a2_15, .bool a2_16, .int .u64 a2_17, .int .u64 a2_18, .int .u64 a2_19, .int .u64 a2_20, .int .u64 a2_21, .int .u64 a2_22, .int .u64 a2_23, .int .u64 a2_24, .int .u64 a2_25, .int .u64 a2_26, .int .u64 a2_27, .int .u64 a2_28, .int .u64 a2_29, .int .u64 a2_30, .int .u64 a2_31, .bool a2_32, .bool a2_33, .bool a2_34, .bool a2_35, .bool a2_36] 35 (0, 0)) (by (with_reducible repeat (first | refine blk_drewN ?_ _ | refine blk_drew ?_ | refine blk_alloc ?_ _)); exact BK169.out) hb); have n4_ := Aside0.mk (below_step (by repeat (first | (with_reducible first | exact HB.out | apply below_alloc | apply pw_below_drewN | apply below_drew1 | refine below_set ?_ GE168.out | refine below_set ?_ GE169.out) | exact HB.out)) hb); clear HO0; clear BK168; clear BK169; clear HB; have HO0 := n0_; have HO172 := n1_; have BK168 := n2_; have BK169 := n3_; have HB := n4_; clear n0_ n1_ n2_ n3_ n4_; (try clear hb); (try clear hb2); (try clear hk); (try clear hi); (try clear ho0)))
   go_ret2
   exact ⟨_, by first | rfl | (simp [errW_none, errW_some] <;> rfl) | (simp [*, errW_none, errW_some] <;> rfl), Kd.V_nil _ _ _ _ _, by repeat (first | (with_reducible first | exact HB.out | apply below_alloc | apply pw_below_drewN | apply below_drew1 | refine below_set ?_ GE168.out | refine below_set ?_ GE169.out) | exact HB.out)⟩
def shackleref05_Number.l0 : Nat → List Int → Int → Int → Option (Int)
 | 0, _, _, _ => none
 | k + 1, x0, x3, x4 => if x4 ≥ 0 then (if 0 ≤ x4 then (if x4 < (x0.length : Int) then (shackleref05_Number.l0 k x0 (IntKind.u64.wrap ((IntKind.u64.wrap (256 * x3)) + (IntKind.u64.wrap (rd x0 x4)))) (wrap64 (x4 - 1))) else (none)) else (none)) else (some x3)
def shackleref05_Number.f (k : Nat) (l0 : List Int) : Option (Int) := shackleref05_Number.l0 k l0 0 (wrap64 ((l0.length : Int) - 1))
theorem shackleref05_Number.mono_l : ∀ k, (∀ y0 y1 y2, LeO (shackleref05_Number.l0 k y0 y1 y2) (shackleref05_Number.l0 (k + 1) y0 y1 y2))
 | 0 => fun _ _ _ r h => by simp [shackleref05_Number.l0] at h
 | k + 1 => by
  have ih0 := shackleref05_Number.mono_l k
  ·intro y0 y1 y2
   unfold shackleref05_Number.l0
   repeat' first
   | (with_reducible exact ih0 _ _ _)
   | (with_reducible exact LeO.refl _)
   | (with_reducible exact LeO.none _)
   | (with_reducible refine LeO.ite ?_ ?_)
   | (with_reducible refine LeO.bind ?_ (fun _ => ?_))
   | exact ih0 _ _ _
   | exact LeO.none _
   | refine LeO.ite ?_ ?_
   | refine LeO.bind ?_ (fun _ => ?_)
theorem shackleref05_Number.mono : ∀ a0 k, LeO (shackleref05_Number.f k a0) (shackleref05_Number.f (k + 1) a0) := by
 intro a0 k
 have ih0 := shackleref05_Number.mono_l k
 unfold shackleref05_Number.f
 repeat' first
   | (with_reducible exact ih0 _ _ _)
   | (with_reducible exact LeO.refl _)
   | (with_reducible exact LeO.none _)
   | (with_reducible refine LeO.ite ?_ ?_)
   | (with_reducible refine LeO.bind ?_ (fun _ => ?_))
   | exact ih0 _ _ _
   | exact LeO.none _
   | refine LeO.ite ?_ ?_
   | refine LeO.bind ?_ (fun _ => ?_)
set_option maxHeartbeats 8000000 in
set_option maxRecDepth 100000 in
theorem shackleref05_Number.calls (k : Nat) (A0 : Option Addr) (c0 : Nat) (l0 : List Int) (r : Int) (w : World) (hr0 : Kd.C (Kd.int .u8) w A0 l0.length l0) (hc0 : l0.length ≤ c0) (h : shackleref05_Number.f k l0 = some r) :
  Calls Try.prog 68 #[.slice A0 l0.length c0] w fun e w' => e = .returned (.int .u64 r) ∧ Drawn0 w w' := by
 have HR0 := Aside0.mk hr0
 have HC0 := Aside0.mk hc0
 clear hr0 hc0
 have H : (shackleref05_Number.l0 k l0 0 (wrap64 ((l0.length : Int) - 1))) = some r := h
 clear h
 have H' := Aside0.mk H
 clear H
 go_enter Try.func68, Try.ntmps68
 go_wp2
 go_loopg [3, 4] k (fun kq v3 v4 w' => ∃ (x3_1 : Int) (x4_1 : Int), v3 = .int .u64 x3_1 ∧ v4 = .int .i64 x4_1 ∧ Aside0 (shackleref05_Number.l0 kq l0 x3_1 x4_1 = some r) ∧ Aside0 (kq ≤ k) ∧ Drawn0 w w')
 case atStart => exact ⟨(0), (wrap64 ((l0.length : Int) - 1)), (by first | rfl | (simp; done) | (simp [*]; done)), (by first | rfl | (simp; done) | (simp [*]; done)), H', ⟨Nat.le_refl _⟩, by repeat (first | exact Drawn0.refl _ | apply Drawn0.step)⟩
 case round =>
  clear H'
  obtain ⟨x3_1, x4_1, rfl, rfl, HA, HK1, ⟨m1, rfl⟩⟩ := hrel
  cases gk with
  | zero => exact absurd HA.out (by simp [shackleref05_Number.l0])
  | succ k1 =>
   have H := HA.out
   clear HA
   simp only [shackleref05_Number.l0] at H
   by_cases c2 : x4_1 ≥ 0
   ·rw [if_pos c2] at H
    have c2b0 : decide (0 ≤ x4_1) = true := decide_eq_true c2
    clear c2
    by_cases c3 : 0 ≤ x4_1
    ·rw [if_pos c3] at H
     have c3b0 : decide (0 ≤ x4_1) = true := decide_eq_true c3
     clear c3
     by_cases c4 : x4_1 < (l0.length : Int)
     ·rw [if_pos c4] at H
      have c4b0 : decide (x4_1 < (l0.length : Int)) = true := decide_eq_true c4
      clear c4
      have H' := Aside0.mk H
      clear H
      have p176 : 0 ≤ (x4_1 : Int) := of_decide_eq_true (by assumption)
      have q176 : x4_1 < (l0.length : Int) := of_decide_eq_true (by assumption)
      obtain ⟨ad176, e176, hx176_0⟩ := Kd.at_int HR0.out x4_1 p176 q176
      cases e176
      replace p176 := eq_true p176
      replace q176 := eq_true q176
      go_wp2
      go_roundg k1
      case measure => have := HK1.out; omega
      case rel => exact ⟨(IntKind.u64.wrap ((IntKind.u64.wrap (256 * x3_1)) + (IntKind.u64.wrap (rd l0 x4_1)))), (wrap64 (x4_1 - 1)), (by first | rfl | (simp; done) | (simp [*]; done)), (by first | rfl | (simp; done) | (simp [*]; done)), H', ⟨by have := HK1.out; omega⟩, by repeat (first | exact Drawn0.refl _ | apply Drawn0.step)⟩
     ·rw [if_neg c4] at H
      exact absurd H (by simp)
    ·rw [if_neg c3] at H
     exact absurd H (by simp)
   ·rw [if_neg c2] at H
    have c2b0 : decide (0 ≤ x4_1) = false := decide_eq_false c2
    clear c2
    obtain rfl := Option.some.inj H
    go_wp2
    go_ret
    exact ⟨by first | rfl | (simp; done) | (simp [*]; done), by repeat (first | exact Drawn0.refl _ | apply Drawn0.step)⟩
def shackleref08_n.f (k : Nat) (l0 : List Int) (a1 : Int) (a2 : Int) : Option (Int) := if 0 ≤ a1 then (if a1 ≤ a2 then (if a2 ≤ (l0.length : Int) then ((shackleref05_Number.f k ((l0.take (a2 : Int).toNat).drop (a1 : Int).toNat)).bind fun t178 => (some t178)) else (none)) else (none)) else (none)
theorem shackleref08_n.mono : ∀ a0 a1 a2 k, LeO (shackleref08_n.f k a0 a1 a2) (shackleref08_n.f (k + 1) a0 a1 a2) := by
 intro a0 a1 a2 k
 unfold shackleref08_n.f
 repeat' first
   | (with_reducible exact shackleref05_Number.mono _ _)
   | (with_reducible exact LeO.refl _)
   | (with_reducible exact LeO.none _)
   | (with_reducible refine LeO.ite ?_ ?_)
   | (with_reducible refine LeO.bind ?_ (fun _ => ?_))
   | exact shackleref05_Number.mono _ _
   | exact LeO.none _
   | refine LeO.ite ?_ ?_
   | refine LeO.bind ?_ (fun _ => ?_)
set_option maxHeartbeats 8000000 in
set_option maxRecDepth 100000 in
theorem shackleref08_n.calls (k : Nat) (A0 : Option Addr) (c0 : Nat) (l0 : List Int) (a1 : Int) (a2 : Int) (r : Int) (w : World) (hr0 : Kd.C (Kd.int .u8) w A0 l0.length l0) (hc0 : l0.length ≤ c0) (h : shackleref08_n.f k l0 a1 a2 = some r) :
  Calls Try.prog 44 #[.slice A0 l0.length c0, .int .i64 a1, .int .i64 a2] w fun e w' => e = .returned (.int .u64 r) ∧ Drawn0 w w' := by
 have HR0 := Aside0.mk hr0
 have HC0 := Aside0.mk hc0
 clear hr0 hc0
 have H : (if 0 ≤ a1 then (if a1 ≤ a2 then (if a2 ≤ (l0.length : Int) then ((shackleref05_Number.f k ((l0.take (a2 : Int).toNat).drop (a1 : Int).toNat)).bind fun t178 => (some t178)) else (none)) else (none)) else (none)) = some r := h
 clear h
 by_cases c4 : 0 ≤ a1
 ·rw [if_pos c4] at H
  have c4b0 := eq_true c4
  have c4b1 : decide (0 ≤ a1) = true := decide_eq_true c4
  clear c4
  by_cases c5 : a1 ≤ a2
  ·rw [if_pos c5] at H
   have c5b0 := eq_true c5
   have c5b1 : decide (a1 ≤ a2) = true := decide_eq_true c5
   clear c5
   by_cases c6 : a2 ≤ (l0.length : Int)
   ·rw [if_pos c6] at H
    have c6b0 := eq_true c6
    have c6b1 : decide (a2 ≤ (l0.length : Int)) = true := decide_eq_true c6
    clear c6
    replace H := Option.bind_eq_some_iff.mp H
    obtain ⟨t178, A70, H⟩ := H
    replace H : (some t178) = some r := H
    have A7 := Aside0.mk A70
    clear A70
    obtain rfl := Option.some.inj H
    obtain ⟨i08, hi08, _, hsz8, _⟩ := info_parts info5
    obtain ⟨A8, hcut8, hA8, hC8⟩ := print_mid_of (P := Try.prog) (Value.int .u8) 0 24 5 .i64 .i64 Try.underlying24 hi08 hsz8 A0 c0 l0 a1 a2 (of_decide_eq_true (by assumption)) (by first | omega | exact of_decide_eq_true (by assumption)) (of_decide_eq_true (by assumption)) HC0.out
    have HR177 := Aside0.mk (Kd.C_of_reads (h1 := fun _ => rfl) (hA8 _ (Kd.reads_of_C HR0.out)))
    have HC177 := Aside0.mk hC8
    clear hA8 hC8 hi08 hsz8
    go_enter Try.func44, Try.ntmps44
    go_wp2_with (first | ((with_reducible refine gate_callee (f := 68) rfl ?_); refine goesL_ (some 11) rfl rfl Try.func68 (by kernel_rfl) rfl #[.slice A8 ((l0.take (a2 : Int).toNat).drop (a1 : Int).toNat).length (c0 - a1.toNat)] rfl (by (try simp only [List.map_toArray, List.map_cons, List.map_nil]); first | done | (rw [show ((l0.take (a2 : Int).toNat).drop (a1 : Int).toNat).length = (a2.toNat - a1.toNat) from (by rw [List.length_drop, List.length_take]; have h_ : (a2 : Int) ≤ (l0.length : Int) := of_decide_eq_true (by assumption); omega)] <;> rfl) | rfl | (simp only [List.length_drop, List.length_take]; rfl)) ?_; (with_reducible refine (shackleref05_Number.calls k _ _ ((l0.take (a2 : Int).toNat).drop (a1 : Int).toNat) t178 _ ?side1 ?side2 A7.out).mono ?_); (case side1 => repeat (first | exact HR177.out | (with_reducible refine Kd.C_alloc ?_ _) | (with_reducible refine Kd.C_drewN ?_ _) | (with_reducible refine Kd.C_drew ?_))); (case side2 => exact HC177.out); rintro e w' ⟨rfl, ⟨nd, rfl⟩⟩; refine ⟨_, rfl, ?_⟩))
    go_ret
    exact ⟨by first | rfl | (simp; done) | (simp [*]; done), by repeat (first | exact Drawn0.refl _ | apply Drawn0.step)⟩
   ·rw [if_neg c6] at H
    exact absurd H (by simp)
  ·rw [if_neg c5] at H
   exact absurd H (by simp)
 ·rw [if_neg c4] at H
  exact absurd H (by simp)
def IsS115 (w0 W : World) (g : Nat) (f0 : List Int) (f1 : Int) (f2 : Int) (f3 : List (S29)) (f4 : List Int) (f5 : List Int) : Prop := ∃ A0 c0, ∃ A3 c3, ∃ A4 c4, ∃ A5 c5, W.heap[g]? = some (.cells #[.slice A0 f0.length c0, .int .i64 f1, .int .u64 f2, .slice A3 f3.length c3, .slice A4 f4.length c4, .slice A5 f5.length c5] 115 (0, 0)) ∧ w0.heap.size ≤ g ∧ Kd.C (Kd.int .u8) w0 A0 f0.length f0 ∧ Kd.C k29 w0 A3 f3.length f3 ∧ Kd.C (Kd.int .u8) w0 A4 f4.length f4 ∧ Kd.C (Kd.int .i64) w0 A5 f5.length f5
theorem IsS115.grown {w0 W : World} {g : Nat} {f0 : List Int} {f1 : Int} {f2 : Int} {f3 : List (S29)} {f4 : List Int} {f5 : List Int} {W1 : World} {row : Option Nat} (h : IsS115 w0 W g f0 f1 f2 f3 f4 f5) (hw : W.grownBy W1 row) (hne : some g ≠ row) : IsS115 w0 W1 g f0 f1 f2 f3 f4 f5 := by
 obtain ⟨A0, c0, A3, c3, A4, c4, A5, c5, hb, hg, hr0, hr3, hr4, hr5⟩ := h
 exact ⟨A0, c0, A3, c3, A4, c4, A5, c5, blk_grown hb hw hne, hg, hr0, hr3, hr4, hr5⟩
theorem IsS115.kept {w0 W : World} {g : Nat} {f0 : List Int} {f1 : Int} {f2 : Int} {f3 : List (S29)} {f4 : List Int} {f5 : List Int} {W1 : World} {S : Nat → Prop} (h : IsS115 w0 W g f0 f1 f2 f3 f4 f5) (hk : Kept W W1 S) (hne : ¬ S g) : IsS115 w0 W1 g f0 f1 f2 f3 f4 f5 := by
 obtain ⟨A0, c0, A3, c3, A4, c4, A5, c5, hb, hg, hr0, hr3, hr4, hr5⟩ := h
 exact ⟨A0, c0, A3, c3, A4, c4, A5, c5, blk_kept hb hk hne, hg, hr0, hr3, hr4, hr5⟩
theorem IsS115.below {w0 W : World} {g : Nat} {f0 : List Int} {f1 : Int} {f2 : Int} {f3 : List (S29)} {f4 : List Int} {f5 : List Int} {W1 : World} (h : IsS115 w0 W g f0 f1 f2 f3 f4 f5) (hw : Below W.heap.size W W1) : IsS115 w0 W1 g f0 f1 f2 f3 f4 f5 := h.grown (grown_of_below hw none) (by simp)
theorem IsS115.alloc {w0 W : World} {g : Nat} {f0 : List Int} {f1 : Int} {f2 : Int} {f3 : List (S29)} {f4 : List Int} {f5 : List Int} (h : IsS115 w0 W g f0 f1 f2 f3 f4 f5) (o : Obj) : IsS115 w0 (W.alloc o) g f0 f1 f2 f3 f4 f5 := h.below (below_alloc (Below.refl _ _) o)
theorem IsS115.drewN {w0 W : World} {g : Nat} {f0 : List Int} {f1 : Int} {f2 : Int} {f3 : List (S29)} {f4 : List Int} {f5 : List Int} (h : IsS115 w0 W g f0 f1 f2 f3 f4 f5) (m : Nat) : IsS115 w0 (W.drewN m) g f0 f1 f2 f3 f4 f5 := h
theorem IsS115.drew {w0 W : World} {g : Nat} {f0 : List Int} {f1 : Int} {f2 : Int} {f3 : List (S29)} {f4 : List Int} {f5 : List Int} (h : IsS115 w0 W g f0 f1 f2 f3 f4 f5) : IsS115 w0 W.drew g f0 f1 f2 f3 f4 f5 := h
theorem IsS115.at_ {w0 W : World} {g : Nat} {f0 : List Int} {f1 : Int} {f2 : Int} {f3 : List (S29)} {f4 : List Int} {f5 : List Int} {w' : World} {m : Nat} (hq : W.drewN m = w') (h : IsS115 w0 W g f0 f1 f2 f3 f4 f5) : IsS115 w0 w' g f0 f1 f2 f3 f4 f5 := by subst hq; exact IsS115.drewN h m
theorem IsS115.apart {w0 W : World} {g : Nat} {f0 : List Int} {f1 : Int} {f2 : Int} {f3 : List (S29)} {f4 : List Int} {f5 : List Int} {α : Type} {d : Kd α} {e : Nat} {base : Nat} {ok : Nat → Prop} {v : Value} {xs : List α} (h : IsS115 w0 W g f0 f1 f2 f3 f4 f5) (ho : d.R e W base ok v xs) (ht : ∀ q, q ∈ e :: d.E → q ≠ 115) : d.R e W base (fun k => ok k ∧ k ≠ g) v xs := by
 obtain ⟨A0, c0, A3, c3, A4, c4, A5, c5, hb, hg, hr0, hr3, hr4, hr5⟩ := h
 exact Kd.R_types ho hb ht
theorem IsS115.own_ne {w0 W : World} {g : Nat} {f0 : List Int} {f1 : Int} {f2 : Int} {f3 : List (S29)} {f4 : List Int} {f5 : List Int} {α : Type} {d : Kd α} {e : Nat} {base : Nat} {ok : Nat → Prop} {v : Value} {xs : List α} (h : IsS115 w0 W g f0 f1 f2 f3 f4 f5) (ho : d.R e W base ok v xs) (ht : e ≠ 115) : some g ≠ v.ownBlock := by
 obtain ⟨A0, c0, A3, c3, A4, c4, A5, c5, hb, hg, hr0, hr3, hr4, hr5⟩ := h
 exact Kd.R_ne ho hb ht
theorem IsS115.lt {w0 W : World} {g : Nat} {f0 : List Int} {f1 : Int} {f2 : Int} {f3 : List (S29)} {f4 : List Int} {f5 : List Int} (h : IsS115 w0 W g f0 f1 f2 f3 f4 f5) : g < W.heap.size := by
 obtain ⟨A0, c0, A3, c3, A4, c4, A5, c5, hb, hg, hr0, hr3, hr4, hr5⟩ := h
 exact blk_lt hb
theorem IsS115.ge {w0 W : World} {g : Nat} {f0 : List Int} {f1 : Int} {f2 : Int} {f3 : List (S29)} {f4 : List Int} {f5 : List Int} (h : IsS115 w0 W g f0 f1 f2 f3 f4 f5) : w0.heap.size ≤ g := by
 obtain ⟨A0, c0, A3, c3, A4, c4, A5, c5, hb, hg, hr0, hr3, hr4, hr5⟩ := h
 exact hg
theorem cellS115_0 {W : World} {g : Nat} {A0 : Option Addr} {c0 : Nat} {A3 : Option Addr} {c3 : Nat} {A4 : Option Addr} {c4 : Nat} {A5 : Option Addr} {c5 : Nat} {f0 : List Int} {f1 : Int} {f2 : Int} {f3 : List (S29)} {f4 : List Int} {f5 : List Int} (h : W.heap[g]? = some (.cells #[.slice A0 f0.length c0, .int .i64 f1, .int .u64 f2, .slice A3 f3.length c3, .slice A4 f4.length c4, .slice A5 f5.length c5] 115 (0, 0))) : W.cell? ⟨g, 0, none⟩ = some (.slice A0 f0.length c0) := (blk_cell h 0).trans rfl
theorem cellS115_1 {W : World} {g : Nat} {A0 : Option Addr} {c0 : Nat} {A3 : Option Addr} {c3 : Nat} {A4 : Option Addr} {c4 : Nat} {A5 : Option Addr} {c5 : Nat} {f0 : List Int} {f1 : Int} {f2 : Int} {f3 : List (S29)} {f4 : List Int} {f5 : List Int} (h : W.heap[g]? = some (.cells #[.slice A0 f0.length c0, .int .i64 f1, .int .u64 f2, .slice A3 f3.length c3, .slice A4 f4.length c4, .slice A5 f5.length c5] 115 (0, 0))) : W.cell? ⟨g, 1, none⟩ = some (.int .i64 f1) := (blk_cell h 1).trans rfl
theorem IsS115.set_1 {w0 W : World} {g : Nat} {f0 : List Int} {f1 : Int} {f2 : Int} {f3 : List (S29)} {f4 : List Int} {f5 : List Int} (h : IsS115 w0 W g f0 f1 f2 f3 f4 f5) (x : Int) : IsS115 w0 (W.setCell ⟨g, 1, none⟩ (.int .i64 x)) g f0 x f2 f3 f4 f5 := by
 obtain ⟨A0, c0, A3, c3, A4, c4, A5, c5, hb, hg, hr0, hr3, hr4, hr5⟩ := h
 exact ⟨A0, c0, A3, c3, A4, c4, A5, c5, by simpa using blk_set hb 1 (.int .i64 x), hg, hr0, hr3, hr4, hr5⟩
theorem cellS115_2 {W : World} {g : Nat} {A0 : Option Addr} {c0 : Nat} {A3 : Option Addr} {c3 : Nat} {A4 : Option Addr} {c4 : Nat} {A5 : Option Addr} {c5 : Nat} {f0 : List Int} {f1 : Int} {f2 : Int} {f3 : List (S29)} {f4 : List Int} {f5 : List Int} (h : W.heap[g]? = some (.cells #[.slice A0 f0.length c0, .int .i64 f1, .int .u64 f2, .slice A3 f3.length c3, .slice A4 f4.length c4, .slice A5 f5.length c5] 115 (0, 0))) : W.cell? ⟨g, 2, none⟩ = some (.int .u64 f2) := (blk_cell h 2).trans rfl
theorem IsS115.set_2 {w0 W : World} {g : Nat} {f0 : List Int} {f1 : Int} {f2 : Int} {f3 : List (S29)} {f4 : List Int} {f5 : List Int} (h : IsS115 w0 W g f0 f1 f2 f3 f4 f5) (x : Int) : IsS115 w0 (W.setCell ⟨g, 2, none⟩ (.int .u64 x)) g f0 f1 x f3 f4 f5 := by
 obtain ⟨A0, c0, A3, c3, A4, c4, A5, c5, hb, hg, hr0, hr3, hr4, hr5⟩ := h
 exact ⟨A0, c0, A3, c3, A4, c4, A5, c5, by simpa using blk_set hb 2 (.int .u64 x), hg, hr0, hr3, hr4, hr5⟩
theorem cellS115_3 {W : World} {g : Nat} {A0 : Option Addr} {c0 : Nat} {A3 : Option Addr} {c3 : Nat} {A4 : Option Addr} {c4 : Nat} {A5 : Option Addr} {c5 : Nat} {f0 : List Int} {f1 : Int} {f2 : Int} {f3 : List (S29)} {f4 : List Int} {f5 : List Int} (h : W.heap[g]? = some (.cells #[.slice A0 f0.length c0, .int .i64 f1, .int .u64 f2, .slice A3 f3.length c3, .slice A4 f4.length c4, .slice A5 f5.length c5] 115 (0, 0))) : W.cell? ⟨g, 3, none⟩ = some (.slice A3 f3.length c3) := (blk_cell h 3).trans rfl
theorem cellS115_4 {W : World} {g : Nat} {A0 : Option Addr} {c0 : Nat} {A3 : Option Addr} {c3 : Nat} {A4 : Option Addr} {c4 : Nat} {A5 : Option Addr} {c5 : Nat} {f0 : List Int} {f1 : Int} {f2 : Int} {f3 : List (S29)} {f4 : List Int} {f5 : List Int} (h : W.heap[g]? = some (.cells #[.slice A0 f0.length c0, .int .i64 f1, .int .u64 f2, .slice A3 f3.length c3, .slice A4 f4.length c4, .slice A5 f5.length c5] 115 (0, 0))) : W.cell? ⟨g, 4, none⟩ = some (.slice A4 f4.length c4) := (blk_cell h 4).trans rfl
theorem cellS115_5 {W : World} {g : Nat} {A0 : Option Addr} {c0 : Nat} {A3 : Option Addr} {c3 : Nat} {A4 : Option Addr} {c4 : Nat} {A5 : Option Addr} {c5 : Nat} {f0 : List Int} {f1 : Int} {f2 : Int} {f3 : List (S29)} {f4 : List Int} {f5 : List Int} (h : W.heap[g]? = some (.cells #[.slice A0 f0.length c0, .int .i64 f1, .int .u64 f2, .slice A3 f3.length c3, .slice A4 f4.length c4, .slice A5 f5.length c5] 115 (0, 0))) : W.cell? ⟨g, 5, none⟩ = some (.slice A5 f5.length c5) := (blk_cell h 5).trans rfl
theorem IsS115.new (w0 W : World) (A0 : Option Addr) (c0 : Nat) (A3 : Option Addr) (c3 : Nat) (A4 : Option Addr) (c4 : Nat) (A5 : Option Addr) (c5 : Nat) (f0 : List Int) (f1 : Int) (f2 : Int) (f3 : List (S29)) (f4 : List Int) (f5 : List Int) (hB : Below w0.heap.size w0 W) (hr0 : Kd.C (Kd.int .u8) w0 A0 f0.length f0) (hr3 : Kd.C k29 w0 A3 f3.length f3) (hr4 : Kd.C (Kd.int .u8) w0 A4 f4.length f4) (hr5 : Kd.C (Kd.int .i64) w0 A5 f5.length f5) : IsS115 w0 (W.alloc (.cells #[.slice A0 f0.length c0, .int .i64 f1, .int .u64 f2, .slice A3 f3.length c3, .slice A4 f4.length c4, .slice A5 f5.length c5] 115)) W.heap.size f0 f1 f2 f3 f4 f5 := ⟨A0, c0, A3, c3, A4, c4, A5, c5, by simpa using heap_alloc_new W _, hB.size, hr0, hr3, hr4, hr5⟩
def shackleref08_reading_had.l0 : Nat → Int → Int → List Int → Int → Int → List (S29) → List Int → List Int → Option (Bool × Int × Int)
 | 0, _, _, _, _, _, _, _, _ => none
 | k + 1, x1, x5, x1000, x1001, x1002, x1003, x1004, x1005 => if x5 < (x1005.length : Int) then (if 0 ≤ x5 then (if (rd x1005 x5) = x1 then (some (true, x1001, x1002)) else (shackleref08_reading_had.l0 k x1 (wrap64 (x5 + 1)) x1000 x1001 x1002 x1003 x1004 x1005)) else (none)) else (some (false, x1001, x1002))
def shackleref08_reading_had.f (k : Nat) (s0_0 : List Int) (s0_1 : Int) (s0_2 : Int) (s0_3 : List (S29)) (s0_4 : List Int) (s0_5 : List Int) (a1 : Int) : Option (Bool × Int × Int) := shackleref08_reading_had.l0 k a1 0 s0_0 s0_1 s0_2 s0_3 s0_4 s0_5
theorem shackleref08_reading_had.mono_l : ∀ k, (∀ y0 y1 y2 y3 y4 y5 y6 y7, LeO (shackleref08_reading_had.l0 k y0 y1 y2 y3 y4 y5 y6 y7) (shackleref08_reading_had.l0 (k + 1) y0 y1 y2 y3 y4 y5 y6 y7))
 | 0 => fun _ _ _ _ _ _ _ _ r h => by simp [shackleref08_reading_had.l0] at h
 | k + 1 => by
  have ih0 := shackleref08_reading_had.mono_l k
  ·intro y0 y1 y2 y3 y4 y5 y6 y7
   unfold shackleref08_reading_had.l0
   repeat' first
   | (with_reducible exact ih0 _ _ _ _ _ _ _ _)
   | (with_reducible exact LeO.refl _)
   | (with_reducible exact LeO.none _)
   | (with_reducible refine LeO.ite ?_ ?_)
   | (with_reducible refine LeO.bind ?_ (fun _ => ?_))
   | exact ih0 _ _ _ _ _ _ _ _
   | exact LeO.none _
   | refine LeO.ite ?_ ?_
   | refine LeO.bind ?_ (fun _ => ?_)
theorem shackleref08_reading_had.mono : ∀ a0 a1 a2 a3 a4 a5 a6 k, LeO (shackleref08_reading_had.f k a0 a1 a2 a3 a4 a5 a6) (shackleref08_reading_had.f (k + 1) a0 a1 a2 a3 a4 a5 a6) := by
 intro a0 a1 a2 a3 a4 a5 a6 k
 have ih0 := shackleref08_reading_had.mono_l k
 unfold shackleref08_reading_had.f
 repeat' first
   | (with_reducible exact ih0 _ _ _ _ _ _ _ _)
   | (with_reducible exact LeO.refl _)
   | (with_reducible exact LeO.none _)
   | (with_reducible refine LeO.ite ?_ ?_)
   | (with_reducible refine LeO.bind ?_ (fun _ => ?_))
   | exact ih0 _ _ _ _ _ _ _ _
   | exact LeO.none _
   | refine LeO.ite ?_ ?_
   | refine LeO.bind ?_ (fun _ => ?_)
set_option maxHeartbeats 8000000 in
set_option maxRecDepth 100000 in
theorem shackleref08_reading_had.calls (k : Nat) (g : Nat) (s0_0 : List Int) (s0_1 : Int) (s0_2 : Int) (s0_3 : List (S29)) (s0_4 : List Int) (s0_5 : List Int) (a1 : Int) (r1 : Bool) (r2 : Int) (r3 : Int) (w0 w : World) (hI : IsS115 w0 w g s0_0 s0_1 s0_2 s0_3 s0_4 s0_5) (hB : Below w0.heap.size w0 w) (h : shackleref08_reading_had.f k s0_0 s0_1 s0_2 s0_3 s0_4 s0_5 a1 = some (r1, r2, r3)) :
  Calls Try.prog 45 #[.pointer (some ⟨g, 0, none⟩), .int .i64 a1] w fun e w' => e = .returned (.bool r1) ∧ IsS115 w0 w' g s0_0 r2 r3 s0_3 s0_4 s0_5 ∧ Below w0.heap.size w0 w' ∧ KeepBut w w' g none := by
 have HI0 := Aside0.mk hI
 have HK := Aside0.mk (KeepBut.refl w g none)
 have HL := Aside0.mk hB.size
 clear hI
 have HW0 := Aside0.mk hB.size
 have HB := Aside0.mk hB
 clear hB
 have H : (shackleref08_reading_had.l0 k a1 0 s0_0 s0_1 s0_2 s0_3 s0_4 s0_5) = some (r1, r2, r3) := h
 clear h
 have H' := Aside0.mk H
 clear H
 go_enter Try.func45, Try.ntmps45
 go_wp2
 go_loopg [5] k (fun kq v5 w' => ∃ (x5_1 : Int), v5 = .int .i64 x5_1 ∧ Aside0 (shackleref08_reading_had.l0 kq a1 x5_1 s0_0 s0_1 s0_2 s0_3 s0_4 s0_5 = some (r1, r2, r3)) ∧ Aside0 (kq ≤ k) ∧ Aside0 (IsS115 w0 w' g s0_0 s0_1 s0_2 s0_3 s0_4 s0_5) ∧ Aside0 (KeepBut w w' g none) ∧ Aside0 (Below w0.heap.size w0 w'))
 case atStart => exact ⟨(0), (by first | rfl | (simp; done) | (simp [*]; done)), H', ⟨Nat.le_refl _⟩, ⟨by repeat (first | (with_reducible first | exact HI0.out | apply IsS115.alloc | apply IsS115.drewN | apply IsS115.drew | apply IsS115.set_1 | apply IsS115.set_2) | exact HI0.out)⟩, ⟨by repeat (first | (with_reducible first | exact HK.out | apply KeepBut.set_ | apply keep_drewN | apply keep_drew | apply keep_alloc) | exact HK.out)⟩, ⟨by repeat (first | (with_reducible first | exact HB.out | apply below_alloc | apply pw_below_drewN | apply below_drew1 | refine below_set ?_ (IsS115.ge HI0.out)) | exact HB.out)⟩⟩
 case round =>
  clear H'
  try clear p2
  obtain ⟨x5_1, rfl, HA, HK1, HI0, HK, HB⟩ := hrel
  cases gk with
  | zero => exact absurd HA.out (by simp [shackleref08_reading_had.l0])
  | succ k1 =>
   have H := HA.out
   clear HA
   simp only [shackleref08_reading_had.l0] at H
   by_cases c3 : x5_1 < (s0_5.length : Int)
   ·rw [if_pos c3] at H
    have c3b0 : decide (x5_1 < (s0_5.length : Int)) = true := decide_eq_true c3
    clear c3
    by_cases c4 : 0 ≤ x5_1
    ·rw [if_pos c4] at H
     have c4b0 : decide (0 ≤ x5_1) = true := decide_eq_true c4
     clear c4
     by_cases c5 : (rd s0_5 x5_1) = a1
     ·rw [if_pos c5] at H
      have c5b0 : ((rd s0_5 x5_1) == a1) = true := beq_iff_eq.mpr c5
      have c5b1 : ((rd s0_5 x5_1) != a1) = false := bne_eq_false_iff_eq.mpr c5
      clear c5
      simp only [Option.some.injEq, Prod.mk.injEq] at H
      obtain ⟨rfl, rfl, rfl⟩ := H
      obtain ⟨ASz6_0, cSz6_0, ASz6_3, cSz6_3, ASz6_4, cSz6_4, ASz6_5, cSz6_5, HGz6, hgz6, HSz6_0, HSz6_3, HSz6_4, HSz6_5⟩ := HI0.out
      have hcz6_0 := cellS115_0 HGz6
      have hcz6_1 := cellS115_1 HGz6
      have hcz6_2 := cellS115_2 HGz6
      have hcz6_3 := cellS115_3 HGz6
      have hcz6_4 := cellS115_4 HGz6
      have hcz6_5 := cellS115_5 HGz6
      have hfz6_1 := blk_frozen HGz6 1
      have hfz6_2 := blk_frozen HGz6 2
      clear HGz6 hgz6
      have p179 : 0 ≤ (x5_1 : Int) := of_decide_eq_true (by assumption)
      have q179 : x5_1 < (s0_5.length : Int) := of_decide_eq_true (by assumption)
      obtain ⟨ad179, e179, hx179_0⟩ := Kd.at_int HSz6_5 x5_1 p179 q179
      cases e179
      replace hx179_0 := pw_cell_below HB.out hx179_0
      replace p179 := eq_true p179
      replace q179 := eq_true q179
      go_wp2
      go_ret
      exact ⟨by first | rfl | (simp [errW_none, errW_some] <;> rfl) | (simp [*, errW_none, errW_some] <;> rfl), by repeat (first | (with_reducible first | exact HI0.out | apply IsS115.alloc | apply IsS115.drewN | apply IsS115.drew | apply IsS115.set_1 | apply IsS115.set_2) | exact HI0.out), by repeat (first | (with_reducible first | exact HB.out | apply below_alloc | apply pw_below_drewN | apply below_drew1 | refine below_set ?_ (IsS115.ge HI0.out)) | exact HB.out), by repeat (first | (with_reducible first | exact HK.out | apply KeepBut.set_ | apply keep_drewN | apply keep_drew | apply keep_alloc) | exact HK.out)⟩
     ·rw [if_neg c5] at H
      have c5b0 : ((rd s0_5 x5_1) == a1) = false := beq_eq_false_iff_ne.mpr c5
      have c5b1 : ((rd s0_5 x5_1) != a1) = true := bne_iff_ne.mpr c5
      have H' := Aside0.mk H
      clear H
      obtain ⟨ASz7_0, cSz7_0, ASz7_3, cSz7_3, ASz7_4, cSz7_4, ASz7_5, cSz7_5, HGz7, hgz7, HSz7_0, HSz7_3, HSz7_4, HSz7_5⟩ := HI0.out
      have hcz7_0 := cellS115_0 HGz7
      have hcz7_1 := cellS115_1 HGz7
      have hcz7_2 := cellS115_2 HGz7
      have hcz7_3 := cellS115_3 HGz7
      have hcz7_4 := cellS115_4 HGz7
      have hcz7_5 := cellS115_5 HGz7
      have hfz7_1 := blk_frozen HGz7 1
      have hfz7_2 := blk_frozen HGz7 2
      clear HGz7 hgz7
      have p179 : 0 ≤ (x5_1 : Int) := of_decide_eq_true (by assumption)
      have q179 : x5_1 < (s0_5.length : Int) := of_decide_eq_true (by assumption)
      obtain ⟨ad179, e179, hx179_0⟩ := Kd.at_int HSz7_5 x5_1 p179 q179
      cases e179
      replace hx179_0 := pw_cell_below HB.out hx179_0
      replace p179 := eq_true p179
      replace q179 := eq_true q179
      go_wp2
      go_roundg k1
      case measure => have := HK1.out; omega
      case rel => exact ⟨(wrap64 (x5_1 + 1)), (by first | rfl | (simp; done) | (simp [*]; done)), H', ⟨by have := HK1.out; omega⟩, ⟨by repeat (first | (with_reducible first | exact HI0.out | apply IsS115.alloc | apply IsS115.drewN | apply IsS115.drew | apply IsS115.set_1 | apply IsS115.set_2) | exact HI0.out)⟩, ⟨by repeat (first | (with_reducible first | exact HK.out | apply KeepBut.set_ | apply keep_drewN | apply keep_drew | apply keep_alloc) | exact HK.out)⟩, ⟨by repeat (first | (with_reducible first | exact HB.out | apply below_alloc | apply pw_below_drewN | apply below_drew1 | refine below_set ?_ (IsS115.ge HI0.out)) | exact HB.out)⟩⟩
    ·rw [if_neg c4] at H
     exact absurd H (by simp)
   ·rw [if_neg c3] at H
    have c3b0 : decide (x5_1 < (s0_5.length : Int)) = false := decide_eq_false c3
    clear c3
    simp only [Option.some.injEq, Prod.mk.injEq] at H
    obtain ⟨rfl, rfl, rfl⟩ := H
    obtain ⟨ASz8_0, cSz8_0, ASz8_3, cSz8_3, ASz8_4, cSz8_4, ASz8_5, cSz8_5, HGz8, hgz8, HSz8_0, HSz8_3, HSz8_4, HSz8_5⟩ := HI0.out
    have hcz8_0 := cellS115_0 HGz8
    have hcz8_1 := cellS115_1 HGz8
    have hcz8_2 := cellS115_2 HGz8
    have hcz8_3 := cellS115_3 HGz8
    have hcz8_4 := cellS115_4 HGz8
    have hcz8_5 := cellS115_5 HGz8
    have hfz8_1 := blk_frozen HGz8 1
    have hfz8_2 := blk_frozen HGz8 2
    clear HGz8 hgz8
    go_wp2
    go_ret
    exact ⟨by first | rfl | (simp [errW_none, errW_some] <;> rfl) | (simp [*, errW_none, errW_some] <;> rfl), by repeat (first | (with_reducible first | exact HI0.out | apply IsS115.alloc | apply IsS115.drewN | apply IsS115.drew | apply IsS115.set_1 | apply IsS115.set_2) | exact HI0.out), by repeat (first | (with_reducible first | exact HB.out | apply below_alloc | apply pw_below_drewN | apply below_drew1 | refine below_set ?_ (IsS115.ge HI0.out)) | exact HB.out), by repeat (first | (with_reducible first | exact HK.out | apply KeepBut.set_ | apply keep_drewN | apply keep_drew | apply keep_alloc) | exact HK.out)⟩
mutual
def shackleref06_Text.j1 : Nat → List Int → Int → Int → Option (ByteArray × Int)
 | 0, _, _, _ => none
 | k + 1, x0, x1, x6 => if x6 = (IntKind.u64.wrap ((x0.length : Int))) then (some ((⟨#[]⟩ : ByteArray), 4)) else (if (IntKind.u64.wrap (x6 - x1)) > 255 then (some ((⟨#[]⟩ : ByteArray), 2)) else (if 0 ≤ x1 then (if x1 ≤ x6 then (if x6 ≤ (x0.length : Int) then (some (strOfNums ((x0.take (x6 : Int).toNat).drop (x1 : Int).toNat), 0)) else (none)) else (none)) else (none)))
def shackleref06_Text.l0 : Nat → List Int → Int → Int → Option (ByteArray × Int)
 | 0, _, _, _ => none
 | k + 1, x0, x1, x6 => if x6 < (IntKind.u64.wrap ((x0.length : Int))) then (if 0 ≤ x6 then (if x6 < (x0.length : Int) then (if (rd x0 x6) = 0 then (shackleref06_Text.j1 k x0 x1 x6) else (shackleref06_Text.l0 k x0 x1 (IntKind.u64.wrap (x6 + 1)))) else (none)) else (none)) else (shackleref06_Text.j1 k x0 x1 x6)
end
def shackleref06_Text.f (k : Nat) (l0 : List Int) (a1 : Int) : Option (ByteArray × Int) := if a1 ≥ (IntKind.u64.wrap ((l0.length : Int))) then (some ((⟨#[]⟩ : ByteArray), 4)) else (shackleref06_Text.l0 k l0 a1 a1)
theorem shackleref06_Text.mono_l : ∀ k, (∀ y0 y1 y2, LeO (shackleref06_Text.j1 k y0 y1 y2) (shackleref06_Text.j1 (k + 1) y0 y1 y2)) ∧ (∀ y0 y1 y2, LeO (shackleref06_Text.l0 k y0 y1 y2) (shackleref06_Text.l0 (k + 1) y0 y1 y2))
 | 0 => ⟨fun _ _ _ r h => by simp [shackleref06_Text.j1] at h, fun _ _ _ r h => by simp [shackleref06_Text.l0] at h⟩
 | k + 1 => by
  obtain ⟨ih0, ih1⟩ := shackleref06_Text.mono_l k
  refine ⟨?_, ?_⟩
  ·intro y0 y1 y2
   unfold shackleref06_Text.j1
   repeat' first
   | (with_reducible exact ih0 _ _ _)
   | (with_reducible exact ih1 _ _ _)
   | (with_reducible exact LeO.refl _)
   | (with_reducible exact LeO.none _)
   | (with_reducible refine LeO.ite ?_ ?_)
   | (with_reducible refine LeO.bind ?_ (fun _ => ?_))
   | exact ih0 _ _ _
   | exact ih1 _ _ _
   | exact LeO.none _
   | refine LeO.ite ?_ ?_
   | refine LeO.bind ?_ (fun _ => ?_)
  ·intro y0 y1 y2
   unfold shackleref06_Text.l0
   repeat' first
   | (with_reducible exact ih0 _ _ _)
   | (with_reducible exact ih1 _ _ _)
   | (with_reducible exact LeO.refl _)
   | (with_reducible exact LeO.none _)
   | (with_reducible refine LeO.ite ?_ ?_)
   | (with_reducible refine LeO.bind ?_ (fun _ => ?_))
   | exact ih0 _ _ _
   | exact ih1 _ _ _
   | exact LeO.none _
   | refine LeO.ite ?_ ?_
   | refine LeO.bind ?_ (fun _ => ?_)
theorem shackleref06_Text.mono : ∀ a0 a1 k, LeO (shackleref06_Text.f k a0 a1) (shackleref06_Text.f (k + 1) a0 a1) := by
 intro a0 a1 k
 obtain ⟨ih0, ih1⟩ := shackleref06_Text.mono_l k
 unfold shackleref06_Text.f
 repeat' first
   | (with_reducible exact ih0 _ _ _)
   | (with_reducible exact ih1 _ _ _)
   | (with_reducible exact LeO.refl _)
   | (with_reducible exact LeO.none _)
   | (with_reducible refine LeO.ite ?_ ?_)
   | (with_reducible refine LeO.bind ?_ (fun _ => ?_))
   | exact ih0 _ _ _
   | exact ih1 _ _ _
   | exact LeO.none _
   | refine LeO.ite ?_ ?_
   | refine LeO.bind ?_ (fun _ => ?_)
set_option maxHeartbeats 8000000 in
set_option maxRecDepth 100000 in
theorem shackleref06_Text.calls (k : Nat) (A0 : Option Addr) (c0 : Nat) (l0 : List Int) (a1 : Int) (r1 : ByteArray) (r2 : Int) (w : World) (hr0 : Kd.C (Kd.int .u8) w A0 l0.length l0) (hc0 : l0.length ≤ c0) (h : shackleref06_Text.f k l0 a1 = some (r1, r2)) :
  Calls Try.prog 66 #[.slice A0 l0.length c0, .int .u64 a1] w fun e w' => e = .returned (.tuple #[.string r1, .int .i64 r2]) ∧ Drawn0 w w' := by
 have HR0 := Aside0.mk hr0
 have HC0 := Aside0.mk hc0
 clear hr0 hc0
 have H : (if a1 ≥ (IntKind.u64.wrap ((l0.length : Int))) then (some ((⟨#[]⟩ : ByteArray), 4)) else (shackleref06_Text.l0 k l0 a1 a1)) = some (r1, r2) := h
 clear h
 by_cases c3 : a1 ≥ (IntKind.u64.wrap ((l0.length : Int)))
 ·rw [if_pos c3] at H
  have c3b0 : decide ((IntKind.u64.wrap ((l0.length : Int))) ≤ a1) = true := decide_eq_true c3
  clear c3
  simp only [Option.some.injEq, Prod.mk.injEq] at H
  obtain ⟨rfl, rfl⟩ := H
  go_enter Try.func66, Try.ntmps66
  go_wp2
  go_ret2
  exact ⟨by first | rfl | (simp; done) | (simp [*]; done), by repeat (first | exact Drawn0.refl _ | apply Drawn0.step)⟩
 ·rw [if_neg c3] at H
  have c3b0 : decide ((IntKind.u64.wrap ((l0.length : Int))) ≤ a1) = false := decide_eq_false c3
  clear c3
  have HC4 := Aside0.mk H
  clear H
  go_enter Try.func66, Try.ntmps66
  go_upto_block 0 with (fail)
  go_cut [6] (fun v6 wc => ∃ (kq : Nat) (x6_3 : Int), v6 = .int .u64 x6_3 ∧ Aside0 (shackleref06_Text.j1 kq l0 a1 x6_3 = some (r1, r2)) ∧ Aside0 (kq ≤ k) ∧ Drawn0 w wc)
  case first =>
   have H := HC4.out
   clear HC4
   have H' := Aside0.mk H
   clear H
   go_wp2
   go_loopg [6] k (fun kq v6 w' => ∃ (x6_1 : Int), v6 = .int .u64 x6_1 ∧ Aside0 (shackleref06_Text.l0 kq l0 a1 x6_1 = some (r1, r2)) ∧ Aside0 (kq ≤ k) ∧ Drawn0 w w')
   case atStart => exact ⟨(a1), (by first | rfl | (simp; done) | (simp [*]; done)), H', ⟨Nat.le_refl _⟩, by repeat (first | exact Drawn0.refl _ | apply Drawn0.step)⟩
   case round =>
    clear H'
    try clear p2
    try clear c3
    try clear c3b0
    obtain ⟨x6_1, rfl, HA, HK1, ⟨m1, rfl⟩⟩ := hrel
    cases gk with
    | zero => exact absurd HA.out (by simp [shackleref06_Text.l0])
    | succ k1 =>
     have H := HA.out
     clear HA
     simp only [shackleref06_Text.l0] at H
     by_cases c5 : x6_1 < (IntKind.u64.wrap ((l0.length : Int)))
     ·rw [if_pos c5] at H
      have c5b0 : decide (x6_1 < (IntKind.u64.wrap ((l0.length : Int)))) = true := decide_eq_true c5
      clear c5
      (first | rw [c5b0] | (simp only [i64_w, i32_w]; rw [c5b0]) | skip)
      by_cases c6 : 0 ≤ x6_1
      ·rw [if_pos c6] at H
       have c6b0 : decide (0 ≤ x6_1) = true := decide_eq_true c6
       clear c6
       by_cases c7 : x6_1 < (l0.length : Int)
       ·rw [if_pos c7] at H
        have c7b0 : decide (x6_1 < (l0.length : Int)) = true := decide_eq_true c7
        clear c7
        by_cases c8 : (rd l0 x6_1) = 0
        ·rw [if_pos c8] at H
         have c8b0 : ((rd l0 x6_1) == 0) = true := beq_iff_eq.mpr c8
         have c8b1 : ((rd l0 x6_1) != 0) = false := bne_eq_false_iff_eq.mpr c8
         clear c8
         have H' := Aside0.mk H
         clear H
         have p184 : 0 ≤ (x6_1 : Int) := of_decide_eq_true (by assumption)
         have q184 : x6_1 < (l0.length : Int) := of_decide_eq_true (by assumption)
         obtain ⟨ad184, e184, hx184_0⟩ := Kd.at_int HR0.out x6_1 p184 q184
         cases e184
         replace p184 := eq_true p184
         replace q184 := eq_true q184
         go_wp2
         go_meet
         case rel => exact ⟨_, (x6_1), (by first | rfl | (simp; done) | (simp [*]; done)), H', ⟨by have := HK1.out; first | omega | exact Nat.le_refl _⟩, by repeat (first | exact Drawn0.refl _ | apply Drawn0.step)⟩
        ·rw [if_neg c8] at H
         have c8b0 : ((rd l0 x6_1) == 0) = false := beq_eq_false_iff_ne.mpr c8
         have c8b1 : ((rd l0 x6_1) != 0) = true := bne_iff_ne.mpr c8
         have H' := Aside0.mk H
         clear H
         have p184 : 0 ≤ (x6_1 : Int) := of_decide_eq_true (by assumption)
         have q184 : x6_1 < (l0.length : Int) := of_decide_eq_true (by assumption)
         obtain ⟨ad184, e184, hx184_0⟩ := Kd.at_int HR0.out x6_1 p184 q184
         cases e184
         replace p184 := eq_true p184
         replace q184 := eq_true q184
         go_wp2
         go_roundg k1
         case measure => have := HK1.out; omega
         case rel => exact ⟨(IntKind.u64.wrap (x6_1 + 1)), (by first | rfl | (simp; done) | (simp [*]; done)), H', ⟨by have := HK1.out; omega⟩, by repeat (first | exact Drawn0.refl _ | apply Drawn0.step)⟩
       ·rw [if_neg c7] at H
        exact absurd H (by simp)
      ·rw [if_neg c6] at H
       exact absurd H (by simp)
     ·rw [if_neg c5] at H
      have c5b0 : decide (x6_1 < (IntKind.u64.wrap ((l0.length : Int)))) = false := decide_eq_false c5
      clear c5
      (first | rw [c5b0] | (simp only [i64_w, i32_w]; rw [c5b0]) | skip)
      have H' := Aside0.mk H
      clear H
      go_wp2
      go_meet
      case rel => exact ⟨_, (x6_1), (by first | rfl | (simp; done) | (simp [*]; done)), H', ⟨by have := HK1.out; first | omega | exact Nat.le_refl _⟩, by repeat (first | exact Drawn0.refl _ | apply Drawn0.step)⟩
  case rest =>
   clear HC4
   try clear p1
   try clear q1
   try clear hx1
   try clear p2
   try clear c3
   try clear c3b0
   try clear c5
   try clear c5b0
   try clear c6
   try clear c6b0
   try clear c7
   try clear c7b0
   try clear c8
   try clear c8b0
   try clear c8b1
   try clear hx184_0
   try clear p184
   try clear p2
   try clear q184
   obtain ⟨kq, x6_3, rfl, HA, HJ3, ⟨mc3, rfl⟩⟩ := hcut
   cases kq with
   | zero => exact absurd HA.out (by simp [shackleref06_Text.j1])
   | succ kj3 =>
    have H := HA.out
    clear HA
    simp only [shackleref06_Text.j1] at H
    by_cases c9 : x6_3 = (IntKind.u64.wrap ((l0.length : Int)))
    ·rw [if_pos c9] at H
     have c9b0 : (x6_3 == (IntKind.u64.wrap ((l0.length : Int)))) = true := beq_iff_eq.mpr c9
     have c9b1 : (x6_3 != (IntKind.u64.wrap ((l0.length : Int)))) = false := bne_eq_false_iff_eq.mpr c9
     clear c9
     simp only [Option.some.injEq, Prod.mk.injEq] at H
     obtain ⟨rfl, rfl⟩ := H
     go_wp2
     go_ret2
     exact ⟨by first | rfl | (simp; done) | (simp [*]; done), by repeat (first | exact Drawn0.refl _ | apply Drawn0.step)⟩
    ·rw [if_neg c9] at H
     have c9b0 : (x6_3 == (IntKind.u64.wrap ((l0.length : Int)))) = false := beq_eq_false_iff_ne.mpr c9
     have c9b1 : (x6_3 != (IntKind.u64.wrap ((l0.length : Int)))) = true := bne_iff_ne.mpr c9
     by_cases c10 : (IntKind.u64.wrap (x6_3 - a1)) > 255
     ·rw [if_pos c10] at H
      have c10b0 : decide (255 < (IntKind.u64.wrap (x6_3 - a1))) = true := decide_eq_true c10
      clear c10
      simp only [Option.some.injEq, Prod.mk.injEq] at H
      obtain ⟨rfl, rfl⟩ := H
      go_wp2
      go_ret2
      exact ⟨by first | rfl | (simp; done) | (simp [*]; done), by repeat (first | exact Drawn0.refl _ | apply Drawn0.step)⟩
     ·rw [if_neg c10] at H
      have c10b0 : decide (255 < (IntKind.u64.wrap (x6_3 - a1))) = false := decide_eq_false c10
      clear c10
      by_cases c11 : 0 ≤ a1
      ·rw [if_pos c11] at H
       have c11b0 := eq_true c11
       have c11b1 : decide (0 ≤ a1) = true := decide_eq_true c11
       clear c11
       by_cases c12 : a1 ≤ x6_3
       ·rw [if_pos c12] at H
        have c12b0 := eq_true c12
        have c12b1 : decide (a1 ≤ x6_3) = true := decide_eq_true c12
        clear c12
        by_cases c13 : x6_3 ≤ (l0.length : Int)
        ·rw [if_pos c13] at H
         have c13b0 := eq_true c13
         have c13b1 : decide (x6_3 ≤ (l0.length : Int)) = true := decide_eq_true c13
         clear c13
         simp only [Option.some.injEq, Prod.mk.injEq] at H
         obtain ⟨rfl, rfl⟩ := H
         obtain ⟨i014, hi014, _, hsz14, _⟩ := info_parts info5
         obtain ⟨A14, hcut14, hA14, hC14⟩ := print_mid_of (P := Try.prog) (Value.int .u8) 0 24 5 .u64 .u64 Try.underlying24 hi014 hsz14 A0 c0 l0 a1 x6_3 (of_decide_eq_true (by assumption)) (by first | omega | exact of_decide_eq_true (by assumption)) (of_decide_eq_true (by assumption)) HC0.out
         have HR185 := Aside0.mk (Kd.C_of_reads (h1 := fun _ => rfl) (hA14 _ (Kd.reads_of_C HR0.out)))
         have HC185 := Aside0.mk hC14
         clear hA14 hC14 hi014 hsz14
         have hcv15 := Kd.C_string (P := Try.prog) (A := A14) (c := (c0 - a1.toNat)) Try.underlying24 Try.underlying5 Try.underlying9 HR185.out
         have hcm16 := fun m_ : Nat => Kd.C_string (P := Try.prog) (A := A14) (c := (c0 - a1.toNat)) Try.underlying24 Try.underlying5 Try.underlying9 (Kd.C_drewN HR185.out m_)
         (try rw [show ((l0.take (x6_3 : Int).toNat).drop (a1 : Int).toNat).length = (x6_3.toNat - a1.toNat) from (by rw [List.length_drop, List.length_take]; have h_ : (x6_3 : Int) ≤ (l0.length : Int) := of_decide_eq_true (by assumption); omega)] at hcv15)
         (try rw [show ((l0.take (x6_3 : Int).toNat).drop (a1 : Int).toNat).length = (x6_3.toNat - a1.toNat) from (by rw [List.length_drop, List.length_take]; have h_ : (x6_3 : Int) ≤ (l0.length : Int) := of_decide_eq_true (by assumption); omega)] at hcm16)
         go_wp2
         go_ret2
         exact ⟨by first | rfl | (simp; done) | (simp [*]; done), by repeat (first | exact Drawn0.refl _ | apply Drawn0.step)⟩
        ·rw [if_neg c13] at H
         exact absurd H (by simp)
       ·rw [if_neg c12] at H
        exact absurd H (by simp)
      ·rw [if_neg c11] at H
       exact absurd H (by simp)
end Go.Proofs.Ythopdoamajjojaa.QVers
