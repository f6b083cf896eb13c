import Derived.Test.YthopdoamajjojaaQBindFx0
import Derived.Test.YthopdoamajjojaaQBindFx4
namespace Go.Proofs.Ythopdoamajjojaa.QBindF
open Go.RowKit Go.Proofs.YthopdoamajjojaaW.PrintWords Go.Proofs.YthopdoamajjojaaW.PrintLast Go.Proofs.YthopdoamajjojaaW.PrintMore
attribute [local go_sem] max2_int min2_int max_two min_two max_three min_three max_four min_four
set_option linter.unusedVariables false
set_option linter.unusedSimpArgs false
attribute [local go_sem] eqErr_ii neErr_ii eqErr_ni neErr_ni
def hash_second_chain.f (k : Nat) (l0_0 : List Int) (a0_1 : Int) (a0_2 : Int) (l0_3 : List (S29)) (l0_4 : List Int) (l0_5 : List Int) (a0_6 : Int) (a0_7 : Int) (a0_8 : Int) (a1 : Int) : Option (Int × Option Int) := (hash_file_words.f k l0_0 a0_1 a0_2 l0_3 (IntKind.u64.wrap (a0_8 + (4 * ((a1 - a0_6) % 4294967296)))) 1).bind fun bt204 => (if bt204.2.isNone = true then (if 0 < (bt204.1.length : Int) then (some (rd bt204.1 0, none)) else (none)) else (some (0, some (bt204.2.getD 0))))
theorem hash_second_chain.mono : ∀ a0 a1 a2 a3 a4 a5 a6 a7 a8 a9 k, LeO (hash_second_chain.f k a0 a1 a2 a3 a4 a5 a6 a7 a8 a9) (hash_second_chain.f (k + 1) a0 a1 a2 a3 a4 a5 a6 a7 a8 a9) := by
 intro a0 a1 a2 a3 a4 a5 a6 a7 a8 a9 k
 unfold hash_second_chain.f
 repeat' first
   | (with_reducible exact hash_file_words.mono _ _ _ _ _ _ _)
   | (with_reducible exact LeO.refl _)
   | (with_reducible exact LeO.none _)
   | (with_reducible refine LeO.ite ?_ ?_)
   | (with_reducible refine LeO.bind ?_ (fun _ => ?_))
   | exact hash_file_words.mono _ _ _ _ _ _ _
   | exact LeO.none _
   | refine LeO.ite ?_ ?_
   | refine LeO.bind ?_ (fun _ => ?_)
set_option maxHeartbeats 8000000 in
set_option maxRecDepth 100000 in
theorem hash_second_chain.calls (k : Nat) (A0_0 : Option Addr) (c0_0 : Nat) (l0_0 : List Int) (a0_1 : Int) (a0_2 : Int) (A0_3 : Option Addr) (c0_3 : Nat) (l0_3 : List (S29)) (A0_4 : Option Addr) (c0_4 : Nat) (l0_4 : List Int) (A0_5 : Option Addr) (c0_5 : Nat) (l0_5 : List Int) (a0_6 : Int) (a0_7 : Int) (a0_8 : Int) (a1 : Int) (r1 : Int) (r2 : Option Int) (w : World) (hr0_0 : Kd.C (Kd.int .u8) w A0_0 l0_0.length l0_0) (hc0_0 : l0_0.length ≤ c0_0) (hr0_3 : Kd.C k29 w A0_3 l0_3.length l0_3) (hc0_3 : l0_3.length ≤ c0_3) (hr0_4 : Kd.C (Kd.int .u32) w A0_4 l0_4.length l0_4) (hc0_4 : l0_4.length ≤ c0_4) (hr0_5 : Kd.C (Kd.int .u32) w A0_5 l0_5.length l0_5) (hc0_5 : l0_5.length ≤ c0_5) (h : hash_second_chain.f k l0_0 a0_1 a0_2 l0_3 l0_4 l0_5 a0_6 a0_7 a0_8 a1 = some (r1, r2)) :
  Calls Try.prog 54 #[.agg #[.slice A0_0 l0_0.length c0_0, .int .i64 a0_1, .int .u64 a0_2, .slice A0_3 l0_3.length c0_3, .slice A0_4 l0_4.length c0_4, .slice A0_5 l0_5.length c0_5, .int .u32 a0_6, .int .u32 a0_7, .int .u64 a0_8], .int .u32 a1] w fun e w' => e = .returned (.tuple #[.int .u32 r1, errW r2]) ∧ Below w.heap.size w w' := by
 have hu92 := Try.underlying92
 have hu86 := Try.underlying86
 have hu41 := Try.underlying41
 have hu97 := Try.underlying97
 have HR0_0 := Aside0.mk hr0_0
 have HC0_0 := Aside0.mk hc0_0
 clear hr0_0 hc0_0
 have HR0_3 := Aside0.mk hr0_3
 have HC0_3 := Aside0.mk hc0_3
 clear hr0_3 hc0_3
 have HR0_4 := Aside0.mk hr0_4
 have HC0_4 := Aside0.mk hc0_4
 clear hr0_4 hc0_4
 have HR0_5 := Aside0.mk hr0_5
 have HC0_5 := Aside0.mk hc0_5
 clear hr0_5 hc0_5
 have HB := Aside0.mk (Below.refl w.heap.size w)
 have H : ((hash_file_words.f k l0_0 a0_1 a0_2 l0_3 (IntKind.u64.wrap (a0_8 + (4 * ((a1 - a0_6) % 4294967296)))) 1).bind fun bt204 => (if bt204.2.isNone = true then (if 0 < (bt204.1.length : Int) then (some (rd bt204.1 0, none)) else (none)) else (some (0, some (bt204.2.getD 0))))) = some (r1, r2) := h
 clear h
 replace H := Option.bind_eq_some_iff.mp H
 obtain ⟨⟨t204, t207⟩, A30, H⟩ := H
 replace H : (if t207.isNone = true then (if 0 < (t204.length : Int) then (some (rd t204 0, none)) else (none)) else (some (0, some (t207.getD 0)))) = some (r1, r2) := H
 have A3 := Aside0.mk A30
 clear A30
 rcases t207 with _ | q208
 ·have H1 : (if 0 < (t204.length : Int) then (some (rd t204 0, none)) else (none)) = some (r1, r2) := by rw [if_pos (show (none : Option Int).isNone = true by rfl)] at H; exact H
  clear H
  have H := H1
  clear H1
  try simp only [errW_none, errW_some]
  by_cases c4 : 0 < (t204.length : Int)
  ·rw [if_pos c4] at H
   have c4b0 : decide (0 < (t204.length : Int)) = true := decide_eq_true c4
   have c4b1 : decide (0 < t204.length) = true := decide_eq_true (by omega)
   clear c4
   simp only [Option.some.injEq, Prod.mk.injEq] at H
   obtain ⟨rfl, rfl⟩ := H
   go_enter Try.func54, Try.ntmps54
   go_wp2_with (first | ((with_reducible refine gate_ (.load 92 (.tmp 2)) rfl ?_); refine wpList_load_row rfl 92 (.tmp 2) rfl gb203 rfl 92 _ (0, 0) _ (by (with_reducible repeat (first | refine blk_drewN ?_ _ | refine blk_drew ?_ | refine blk_alloc ?_ _)); exact BK203.out) Try.underlying92 rfl (by kernel_rfl) ?_) | ((with_reducible refine gate_dst (N := 2) rfl ?_); refine box_event ?hg (N := 2) ?hd (cs := #[.slice A0_0 l0_0.length c0_0, .int .i64 a0_1, .int .u64 a0_2, .slice A0_3 l0_3.length c0_3, .slice A0_4 l0_4.length c0_4, .slice A0_5 l0_5.length c0_5, .int .u32 a0_6, .int .u32 a0_7, .int .u64 a0_8]) (t := 92) ?hr ?_; (case hd => rfl); (case hg => rfl); (case hr => first | (go_simp; done) | (go_simp; rfl)); intro gb203 hg w5 hbox hb; have n0_ := Aside0.mk (below_step (by repeat (first | (with_reducible first | exact HB.out | apply below_alloc | apply pw_below_drewN | apply below_drew1) | exact HB.out)) hb); have n1_ := Aside0.mk (hbox); have n2_ := Aside0.mk ((by rw [hg]; exact (below_size (by repeat (first | (with_reducible first | exact HB.out | apply below_alloc | apply pw_below_drewN | apply below_drew1) | exact HB.out))) : w.heap.size ≤ gb203)); have n3_ := Aside0.mk ((by rw [hg]; exact (below_size (by repeat (first | (with_reducible first | exact HB.out | apply below_alloc | apply pw_below_drewN | apply below_drew1) | exact HB.out))) : w.heap.size ≤ gb203)); clear HB; have HB := n0_; have BK203 := n1_; have GW203 := n2_; have GE203 := n3_; clear n0_ n1_ n2_ n3_; clear hb hbox hg; have hcz6_0 : w5.cell? ⟨gb203, 0, none⟩ = some (.slice A0_0 l0_0.length c0_0) := (blk_cell BK203.out 0).trans rfl; have hcz6_1 : w5.cell? ⟨gb203, 1, none⟩ = some (.int .i64 a0_1) := (blk_cell BK203.out 1).trans rfl; have hcz6_2 : w5.cell? ⟨gb203, 2, none⟩ = some (.int .u64 a0_2) := (blk_cell BK203.out 2).trans rfl; have hcz6_3 : w5.cell? ⟨gb203, 3, none⟩ = some (.slice A0_3 l0_3.length c0_3) := (blk_cell BK203.out 3).trans rfl; have hcz6_4 : w5.cell? ⟨gb203, 4, none⟩ = some (.slice A0_4 l0_4.length c0_4) := (blk_cell BK203.out 4).trans rfl; have hcz6_5 : w5.cell? ⟨gb203, 5, none⟩ = some (.slice A0_5 l0_5.length c0_5) := (blk_cell BK203.out 5).trans rfl; have hcz6_6 : w5.cell? ⟨gb203, 6, none⟩ = some (.int .u32 a0_6) := (blk_cell BK203.out 6).trans rfl; have hcz6_7 : w5.cell? ⟨gb203, 7, none⟩ = some (.int .u32 a0_7) := (blk_cell BK203.out 7).trans rfl; have hcz6_8 : w5.cell? ⟨gb203, 8, none⟩ = some (.int .u64 a0_8) := (blk_cell BK203.out 8).trans rfl; have hfz6_0 := blk_frozen BK203.out 0; have hfz6_1 := blk_frozen BK203.out 1; have hfz6_2 := blk_frozen BK203.out 2; have hfz6_3 := blk_frozen BK203.out 3; have hfz6_4 := blk_frozen BK203.out 4; have hfz6_5 := blk_frozen BK203.out 5; have hfz6_6 := blk_frozen BK203.out 6; have hfz6_7 := blk_frozen BK203.out 7; have hfz6_8 := blk_frozen BK203.out 8) | ((with_reducible refine gate_callee (f := 52) rfl ?_); refine goesL_ (some 20) rfl rfl Try.func52 (by kernel_rfl) rfl #[.agg #[.slice A0_0 l0_0.length c0_0, .int .i64 a0_1, .int .u64 a0_2, .slice A0_3 l0_3.length c0_3], .int .u64 (IntKind.u64.wrap (a0_8 + (4 * ((a1 - a0_6) % 4294967296)))), .int .u64 1] rfl (by (try simp only [List.map_toArray, List.map_cons, List.map_nil]); first | done | rfl | (simp only [List.length_drop, List.length_take]; rfl)) ?_; (with_reducible refine (hash_file_words.calls k _ _ l0_0 a0_1 a0_2 _ _ l0_3 (IntKind.u64.wrap (a0_8 + (4 * ((a1 - a0_6) % 4294967296)))) 1 t204 none _ ?side1 ?side2 ?side3 ?side4 A3.out).mono ?_); (case side1 => repeat (first | exact (Kd.C_below HR0_0.out HB.out) | (with_reducible refine Kd.C_alloc ?_ _) | (with_reducible refine Kd.C_drewN ?_ _) | (with_reducible refine Kd.C_drew ?_))); (case side2 => exact HC0_0.out); (case side3 => repeat (first | exact (Kd.C_below HR0_3.out HB.out) | (with_reducible refine Kd.C_alloc ?_ _) | (with_reducible refine Kd.C_drewN ?_ _) | (with_reducible refine Kd.C_drew ?_))); (case side4 => exact HC0_3.out); rintro e w7 ⟨v205, rfl, ho0, hb⟩; refine ⟨_, rfl, ?_⟩; have n0_ := Aside0.mk (Kd.V_lower (Kd.V_mono (ok' := fun k_ => k_ ≠ gb203) ho0 (fun k_ hk_ => (Kd.freshB (g := gb203) (o := .cells #[.slice A0_0 l0_0.length c0_0, .int .i64 a0_1, .int .u64 a0_2, .slice A0_3 l0_3.length c0_3, .slice A0_4 l0_4.length c0_4, .slice A0_5 l0_5.length c0_5, .int .u32 a0_6, .int .u32 a0_7, .int .u64 a0_8] 92 (0, 0)) (by (with_reducible repeat (first | refine blk_drewN ?_ _ | refine blk_drew ?_ | refine blk_alloc ?_ _)); exact BK203.out) k_ hk_))) (below_size (by repeat (first | (with_reducible first | exact HB.out | apply below_alloc | apply pw_below_drewN | apply below_drew1 | refine below_set ?_ GE203.out) | exact HB.out)))); have n1_ := Aside0.mk (blk_below (g := gb203) (o := .cells #[.slice A0_0 l0_0.length c0_0, .int .i64 a0_1, .int .u64 a0_2, .slice A0_3 l0_3.length c0_3, .slice A0_4 l0_4.length c0_4, .slice A0_5 l0_5.length c0_5, .int .u32 a0_6, .int .u32 a0_7, .int .u64 a0_8] 92 (0, 0)) (by (with_reducible repeat (first | refine blk_drewN ?_ _ | refine blk_drew ?_ | refine blk_alloc ?_ _)); exact BK203.out) hb); have n2_ := Aside0.mk (below_step (by repeat (first | (with_reducible first | exact HB.out | apply below_alloc | apply pw_below_drewN | apply below_drew1 | refine below_set ?_ GE203.out) | exact HB.out)) hb); clear BK203; clear HB; have HO206 := n0_; have BK203 := n1_; have HB := n2_; clear n0_ n1_ n2_; (try clear hb); (try clear hb2); (try clear hk); (try clear hi); (try clear ho0); (try simp only [errW_none, errW_some]); obtain ⟨Ao8, co8, eo8⟩ := Kd.V_slice HO206.out; subst eo8; have p209 : 0 ≤ (0 : Int) := (by omega); have q209 : 0 < (t204.length : Int) := of_decide_eq_true (by assumption); obtain ⟨ad209, e209, hx209_0⟩ := Kd.at_int (Kd.V_reads' HO206.out).2.2 0 p209 q209; cases e209; have qi209 : (0 < t204.length) = True := eq_true (by omega); (try rw [show ((0 : Int)).toNat = 0 from rfl] at hx209_0); (try rw [Addr.add_zero'] at hx209_0); replace p209 := eq_true p209; replace q209 := eq_true q209))
   go_ret2
   exact ⟨by first | rfl | (simp [errW_none, errW_some] <;> rfl) | (simp [*, errW_none, errW_some] <;> rfl), by repeat (first | (with_reducible first | exact HB.out | apply below_alloc | apply pw_below_drewN | apply below_drew1 | refine below_set ?_ GE203.out) | exact HB.out)⟩
  ·rw [if_neg c4] at H
   exact absurd H (by simp)
 ·have H1 : (some (0, some q208)) = some (r1, r2) := by rw [if_neg (show ¬ (some q208).isNone = true by simp)] at H; exact H
  clear H
  have H := H1
  clear H1
  try simp only [errW_none, errW_some]
  simp only [Option.some.injEq, Prod.mk.injEq] at H
  obtain ⟨rfl, rfl⟩ := H
  go_enter Try.func54, Try.ntmps54
  go_wp2_with (first | ((with_reducible refine gate_ (.load 92 (.tmp 2)) rfl ?_); refine wpList_load_row rfl 92 (.tmp 2) rfl gb203 rfl 92 _ (0, 0) _ (by (with_reducible repeat (first | refine blk_drewN ?_ _ | refine blk_drew ?_ | refine blk_alloc ?_ _)); exact BK203.out) Try.underlying92 rfl (by kernel_rfl) ?_) | ((with_reducible refine gate_dst (N := 2) rfl ?_); refine box_event ?hg (N := 2) ?hd (cs := #[.slice A0_0 l0_0.length c0_0, .int .i64 a0_1, .int .u64 a0_2, .slice A0_3 l0_3.length c0_3, .slice A0_4 l0_4.length c0_4, .slice A0_5 l0_5.length c0_5, .int .u32 a0_6, .int .u32 a0_7, .int .u64 a0_8]) (t := 92) ?hr ?_; (case hd => rfl); (case hg => rfl); (case hr => first | (go_simp; done) | (go_simp; rfl)); intro gb203 hg w9 hbox hb; have n0_ := Aside0.mk (below_step (by repeat (first | (with_reducible first | exact HB.out | apply below_alloc | apply pw_below_drewN | apply below_drew1) | exact HB.out)) hb); have n1_ := Aside0.mk (hbox); have n2_ := Aside0.mk ((by rw [hg]; exact (below_size (by repeat (first | (with_reducible first | exact HB.out | apply below_alloc | apply pw_below_drewN | apply below_drew1) | exact HB.out))) : w.heap.size ≤ gb203)); have n3_ := Aside0.mk ((by rw [hg]; exact (below_size (by repeat (first | (with_reducible first | exact HB.out | apply below_alloc | apply pw_below_drewN | apply below_drew1) | exact HB.out))) : w.heap.size ≤ gb203)); clear HB; have HB := n0_; have BK203 := n1_; have GW203 := n2_; have GE203 := n3_; clear n0_ n1_ n2_ n3_; clear hb hbox hg; have hcz10_0 : w9.cell? ⟨gb203, 0, none⟩ = some (.slice A0_0 l0_0.length c0_0) := (blk_cell BK203.out 0).trans rfl; have hcz10_1 : w9.cell? ⟨gb203, 1, none⟩ = some (.int .i64 a0_1) := (blk_cell BK203.out 1).trans rfl; have hcz10_2 : w9.cell? ⟨gb203, 2, none⟩ = some (.int .u64 a0_2) := (blk_cell BK203.out 2).trans rfl; have hcz10_3 : w9.cell? ⟨gb203, 3, none⟩ = some (.slice A0_3 l0_3.length c0_3) := (blk_cell BK203.out 3).trans rfl; have hcz10_4 : w9.cell? ⟨gb203, 4, none⟩ = some (.slice A0_4 l0_4.length c0_4) := (blk_cell BK203.out 4).trans rfl; have hcz10_5 : w9.cell? ⟨gb203, 5, none⟩ = some (.slice A0_5 l0_5.length c0_5) := (blk_cell BK203.out 5).trans rfl; have hcz10_6 : w9.cell? ⟨gb203, 6, none⟩ = some (.int .u32 a0_6) := (blk_cell BK203.out 6).trans rfl; have hcz10_7 : w9.cell? ⟨gb203, 7, none⟩ = some (.int .u32 a0_7) := (blk_cell BK203.out 7).trans rfl; have hcz10_8 : w9.cell? ⟨gb203, 8, none⟩ = some (.int .u64 a0_8) := (blk_cell BK203.out 8).trans rfl; have hfz10_0 := blk_frozen BK203.out 0; have hfz10_1 := blk_frozen BK203.out 1; have hfz10_2 := blk_frozen BK203.out 2; have hfz10_3 := blk_frozen BK203.out 3; have hfz10_4 := blk_frozen BK203.out 4; have hfz10_5 := blk_frozen BK203.out 5; have hfz10_6 := blk_frozen BK203.out 6; have hfz10_7 := blk_frozen BK203.out 7; have hfz10_8 := blk_frozen BK203.out 8) | ((with_reducible refine gate_callee (f := 52) rfl ?_); refine goesL_ (some 20) rfl rfl Try.func52 (by kernel_rfl) rfl #[.agg #[.slice A0_0 l0_0.length c0_0, .int .i64 a0_1, .int .u64 a0_2, .slice A0_3 l0_3.length c0_3], .int .u64 (IntKind.u64.wrap (a0_8 + (4 * ((a1 - a0_6) % 4294967296)))), .int .u64 1] rfl (by (try simp only [List.map_toArray, List.map_cons, List.map_nil]); first | done | rfl | (simp only [List.length_drop, List.length_take]; rfl)) ?_; (with_reducible refine (hash_file_words.calls k _ _ l0_0 a0_1 a0_2 _ _ l0_3 (IntKind.u64.wrap (a0_8 + (4 * ((a1 - a0_6) % 4294967296)))) 1 t204 (some q208) _ ?side1 ?side2 ?side3 ?side4 A3.out).mono ?_); (case side1 => repeat (first | exact (Kd.C_below HR0_0.out HB.out) | (with_reducible refine Kd.C_alloc ?_ _) | (with_reducible refine Kd.C_drewN ?_ _) | (with_reducible refine Kd.C_drew ?_))); (case side2 => exact HC0_0.out); (case side3 => repeat (first | exact (Kd.C_below HR0_3.out HB.out) | (with_reducible refine Kd.C_alloc ?_ _) | (with_reducible refine Kd.C_drewN ?_ _) | (with_reducible refine Kd.C_drew ?_))); (case side4 => exact HC0_3.out); rintro e w11 ⟨v205, rfl, ho0, hb⟩; refine ⟨_, rfl, ?_⟩; have n0_ := Aside0.mk (Kd.V_lower (Kd.V_mono (ok' := fun k_ => k_ ≠ gb203) ho0 (fun k_ hk_ => (Kd.freshB (g := gb203) (o := .cells #[.slice A0_0 l0_0.length c0_0, .int .i64 a0_1, .int .u64 a0_2, .slice A0_3 l0_3.length c0_3, .slice A0_4 l0_4.length c0_4, .slice A0_5 l0_5.length c0_5, .int .u32 a0_6, .int .u32 a0_7, .int .u64 a0_8] 92 (0, 0)) (by (with_reducible repeat (first | refine blk_drewN ?_ _ | refine blk_drew ?_ | refine blk_alloc ?_ _)); exact BK203.out) k_ hk_))) (below_size (by repeat (first | (with_reducible first | exact HB.out | apply below_alloc | apply pw_below_drewN | apply below_drew1 | refine below_set ?_ GE203.out) | exact HB.out)))); have n1_ := Aside0.mk (blk_below (g := gb203) (o := .cells #[.slice A0_0 l0_0.length c0_0, .int .i64 a0_1, .int .u64 a0_2, .slice A0_3 l0_3.length c0_3, .slice A0_4 l0_4.length c0_4, .slice A0_5 l0_5.length c0_5, .int .u32 a0_6, .int .u32 a0_7, .int .u64 a0_8] 92 (0, 0)) (by (with_reducible repeat (first | refine blk_drewN ?_ _ | refine blk_drew ?_ | refine blk_alloc ?_ _)); exact BK203.out) hb); have n2_ := Aside0.mk (below_step (by repeat (first | (with_reducible first | exact HB.out | apply below_alloc | apply pw_below_drewN | apply below_drew1 | refine below_set ?_ GE203.out) | exact HB.out)) hb); clear BK203; clear HB; have HO206 := n0_; have BK203 := n1_; have HB := n2_; clear n0_ n1_ n2_; (try clear hb); (try clear hb2); (try clear hk); (try clear hi); (try clear ho0); (try simp only [errW_none, errW_some])))
  go_ret2
  exact ⟨by first | rfl | (simp [errW_none, errW_some] <;> rfl) | (simp [*, errW_none, errW_some] <;> rfl), by repeat (first | (with_reducible first | exact HB.out | apply below_alloc | apply pw_below_drewN | apply below_drew1 | refine below_set ?_ GE203.out) | exact HB.out)⟩
mutual
def hash_second_count.l0 : Nat → Int → List Int → Int → Int → List Int → Int → Int → List (S29) → List Int → List Int → Int → Int → Int → Option (Int × Option Int)
 | 0, _, _, _, _, _, _, _, _, _, _, _, _, _ => none
 | k + 1, x4, x11, x12, x13, x211000, x211001, x211002, x211003, x211004, x211005, x211006, x211007, x211008 => if x13 < x12 then (if 0 ≤ x13 then (if x13 < (x11.length : Int) then (hash_second_count.l0 k (mx x4 (rd x11 x13)) x11 x12 (wrap64 (x13 + 1)) x211000 x211001 x211002 x211003 x211004 x211005 x211006 x211007 x211008) else (none)) else (none)) else (if x4 = 0 then (some (wrap64 (x211006), none)) else (hash_second_count.l1 k x4 x211000 x211001 x211002 x211003 x211004 x211005 x211006 x211007 x211008))
def hash_second_count.l1 : Nat → Int → List Int → Int → Int → List (S29) → List Int → List Int → Int → Int → Int → Option (Int × Option Int)
 | 0, _, _, _, _, _, _, _, _, _, _ => none
 | k + 1, x7, x211000, x211001, x211002, x211003, x211004, x211005, x211006, x211007, x211008 => if x7 ≥ 4096 then (some (0, some 2)) else ((hash_second_chain.f k x211000 x211001 x211002 x211003 x211004 x211005 x211006 x211007 x211008 x7).bind fun bt212 => (if bt212.2.isNone = true then (if (Go.bits .and .u32 bt212.1 1) = 1 then (some (wrap64 ((wrap64 (x7)) + 1), none)) else (hash_second_count.l1 k ((x7 + 1) % 4294967296) x211000 x211001 x211002 x211003 x211004 x211005 x211006 x211007 x211008)) else (some (0, some (bt212.2.getD 0)))))
end
def hash_second_count.f (k : Nat) (l0_0 : List Int) (a0_1 : Int) (a0_2 : Int) (l0_3 : List (S29)) (l0_4 : List Int) (l0_5 : List Int) (a0_6 : Int) (a0_7 : Int) (a0_8 : Int) : Option (Int × Option Int) := hash_second_count.l0 k 0 l0_5 (l0_5.length : Int) 0 l0_0 a0_1 a0_2 l0_3 l0_4 l0_5 a0_6 a0_7 a0_8
theorem hash_second_count.mono_l : ∀ k, (∀ y0 y1 y2 y3 y4 y5 y6 y7 y8 y9 y10 y11 y12, LeO (hash_second_count.l0 k y0 y1 y2 y3 y4 y5 y6 y7 y8 y9 y10 y11 y12) (hash_second_count.l0 (k + 1) y0 y1 y2 y3 y4 y5 y6 y7 y8 y9 y10 y11 y12)) ∧ (∀ y0 y1 y2 y3 y4 y5 y6 y7 y8 y9, LeO (hash_second_count.l1 k y0 y1 y2 y3 y4 y5 y6 y7 y8 y9) (hash_second_count.l1 (k + 1) y0 y1 y2 y3 y4 y5 y6 y7 y8 y9))
 | 0 => ⟨fun _ _ _ _ _ _ _ _ _ _ _ _ _ r h => by simp [hash_second_count.l0] at h, fun _ _ _ _ _ _ _ _ _ _ r h => by simp [hash_second_count.l1] at h⟩
 | k + 1 => by
  obtain ⟨ih0, ih1⟩ := hash_second_count.mono_l k
  refine ⟨?_, ?_⟩
  ·intro y0 y1 y2 y3 y4 y5 y6 y7 y8 y9 y10 y11 y12
   unfold hash_second_count.l0
   repeat' first
   | (with_reducible exact ih0 _ _ _ _ _ _ _ _ _ _ _ _ _)
   | (with_reducible exact ih1 _ _ _ _ _ _ _ _ _ _)
   | (with_reducible exact hash_second_chain.mono _ _ _ _ _ _ _ _ _ _ _)
   | (with_reducible exact LeO.refl _)
   | (with_reducible exact LeO.none _)
   | (with_reducible refine LeO.ite ?_ ?_)
   | (with_reducible refine LeO.bind ?_ (fun _ => ?_))
   | exact ih0 _ _ _ _ _ _ _ _ _ _ _ _ _
   | exact ih1 _ _ _ _ _ _ _ _ _ _
   | exact hash_second_chain.mono _ _ _ _ _ _ _ _ _ _ _
   | exact LeO.none _
   | refine LeO.ite ?_ ?_
   | refine LeO.bind ?_ (fun _ => ?_)
  ·intro y0 y1 y2 y3 y4 y5 y6 y7 y8 y9
   unfold hash_second_count.l1
   repeat' first
   | (with_reducible exact ih0 _ _ _ _ _ _ _ _ _ _ _ _ _)
   | (with_reducible exact ih1 _ _ _ _ _ _ _ _ _ _)
   | (with_reducible exact hash_second_chain.mono _ _ _ _ _ _ _ _ _ _ _)
   | (with_reducible exact LeO.refl _)
   | (with_reducible exact LeO.none _)
   | (with_reducible refine LeO.ite ?_ ?_)
   | (with_reducible refine LeO.bind ?_ (fun _ => ?_))
   | exact ih0 _ _ _ _ _ _ _ _ _ _ _ _ _
   | exact ih1 _ _ _ _ _ _ _ _ _ _
   | exact hash_second_chain.mono _ _ _ _ _ _ _ _ _ _ _
   | exact LeO.none _
   | refine LeO.ite ?_ ?_
   | refine LeO.bind ?_ (fun _ => ?_)
theorem hash_second_count.mono : ∀ a0 a1 a2 a3 a4 a5 a6 a7 a8 k, LeO (hash_second_count.f k a0 a1 a2 a3 a4 a5 a6 a7 a8) (hash_second_count.f (k + 1) a0 a1 a2 a3 a4 a5 a6 a7 a8) := by
 intro a0 a1 a2 a3 a4 a5 a6 a7 a8 k
 obtain ⟨ih0, ih1⟩ := hash_second_count.mono_l k
 unfold hash_second_count.f
 repeat' first
   | (with_reducible exact ih0 _ _ _ _ _ _ _ _ _ _ _ _ _)
   | (with_reducible exact ih1 _ _ _ _ _ _ _ _ _ _)
   | (with_reducible exact hash_second_chain.mono _ _ _ _ _ _ _ _ _ _ _)
   | (with_reducible exact LeO.refl _)
   | (with_reducible exact LeO.none _)
   | (with_reducible refine LeO.ite ?_ ?_)
   | (with_reducible refine LeO.bind ?_ (fun _ => ?_))
   | exact ih0 _ _ _ _ _ _ _ _ _ _ _ _ _
   | exact ih1 _ _ _ _ _ _ _ _ _ _
   | exact hash_second_chain.mono _ _ _ _ _ _ _ _ _ _ _
   | exact LeO.none _
   | refine LeO.ite ?_ ?_
   | refine LeO.bind ?_ (fun _ => ?_)
set_option maxHeartbeats 8000000 in
set_option maxRecDepth 100000 in
theorem hash_second_count.calls (k : Nat) (A0_0 : Option Addr) (c0_0 : Nat) (l0_0 : List Int) (a0_1 : Int) (a0_2 : Int) (A0_3 : Option Addr) (c0_3 : Nat) (l0_3 : List (S29)) (A0_4 : Option Addr) (c0_4 : Nat) (l0_4 : List Int) (A0_5 : Option Addr) (c0_5 : Nat) (l0_5 : List Int) (a0_6 : Int) (a0_7 : Int) (a0_8 : Int) (r1 : Int) (r2 : Option Int) (w : World) (hr0_0 : Kd.C (Kd.int .u8) w A0_0 l0_0.length l0_0) (hc0_0 : l0_0.length ≤ c0_0) (hr0_3 : Kd.C k29 w A0_3 l0_3.length l0_3) (hc0_3 : l0_3.length ≤ c0_3) (hr0_4 : Kd.C (Kd.int .u32) w A0_4 l0_4.length l0_4) (hc0_4 : l0_4.length ≤ c0_4) (hr0_5 : Kd.C (Kd.int .u32) w A0_5 l0_5.length l0_5) (hc0_5 : l0_5.length ≤ c0_5) (h : hash_second_count.f k l0_0 a0_1 a0_2 l0_3 l0_4 l0_5 a0_6 a0_7 a0_8 = some (r1, r2)) :
  Calls Try.prog 32 #[.agg #[.slice A0_0 l0_0.length c0_0, .int .i64 a0_1, .int .u64 a0_2, .slice A0_3 l0_3.length c0_3, .slice A0_4 l0_4.length c0_4, .slice A0_5 l0_5.length c0_5, .int .u32 a0_6, .int .u32 a0_7, .int .u64 a0_8]] w fun e w' => e = .returned (.tuple #[.int .i64 r1, errW r2]) ∧ Below w.heap.size w w' := by
 have hu92 := Try.underlying92
 have hu41 := Try.underlying41
 have hu97 := Try.underlying97
 have HR0_0 := Aside0.mk hr0_0
 have HC0_0 := Aside0.mk hc0_0
 clear hr0_0 hc0_0
 have HR0_3 := Aside0.mk hr0_3
 have HC0_3 := Aside0.mk hc0_3
 clear hr0_3 hc0_3
 have HR0_4 := Aside0.mk hr0_4
 have HC0_4 := Aside0.mk hc0_4
 clear hr0_4 hc0_4
 have HR0_5 := Aside0.mk hr0_5
 have HC0_5 := Aside0.mk hc0_5
 clear hr0_5 hc0_5
 have HB := Aside0.mk (Below.refl w.heap.size w)
 have H : (hash_second_count.l0 k 0 l0_5 (l0_5.length : Int) 0 l0_0 a0_1 a0_2 l0_3 l0_4 l0_5 a0_6 a0_7 a0_8) = some (r1, r2) := h
 clear h
 have H' := Aside0.mk H
 clear H
 go_enter Try.func32, Try.ntmps32
 go_wp2_with (first | ((with_reducible refine gate_ (.load 92 (.tmp 1)) rfl ?_); refine wpList_load_row rfl 92 (.tmp 1) rfl gb210 rfl 92 _ (0, 0) _ (by (with_reducible repeat (first | refine blk_drewN ?_ _ | refine blk_drew ?_ | refine blk_alloc ?_ _)); exact BK210.out) Try.underlying92 rfl (by kernel_rfl) ?_) | ((with_reducible refine gate_dst (N := 1) rfl ?_); refine box_event ?hg (N := 1) ?hd (cs := #[.slice A0_0 l0_0.length c0_0, .int .i64 a0_1, .int .u64 a0_2, .slice A0_3 l0_3.length c0_3, .slice A0_4 l0_4.length c0_4, .slice A0_5 l0_5.length c0_5, .int .u32 a0_6, .int .u32 a0_7, .int .u64 a0_8]) (t := 92) ?hr ?_; (case hd => rfl); (case hg => rfl); (case hr => first | (go_simp; done) | (go_simp; rfl)); intro gb210 hg w2 hbox hb; have n0_ := Aside0.mk (below_step (by repeat (first | (with_reducible first | exact HB.out | apply below_alloc | apply pw_below_drewN | apply below_drew1) | exact HB.out)) hb); have n1_ := Aside0.mk (hbox); have n2_ := Aside0.mk ((by rw [hg]; exact (below_size (by repeat (first | (with_reducible first | exact HB.out | apply below_alloc | apply pw_below_drewN | apply below_drew1) | exact HB.out))) : w.heap.size ≤ gb210)); have n3_ := Aside0.mk ((by rw [hg]; exact (below_size (by repeat (first | (with_reducible first | exact HB.out | apply below_alloc | apply pw_below_drewN | apply below_drew1) | exact HB.out))) : w.heap.size ≤ gb210)); clear HB; have HB := n0_; have BK210 := n1_; have GW210 := n2_; have GE210 := n3_; clear n0_ n1_ n2_ n3_; clear hb hbox hg; have hcz3_0 : w2.cell? ⟨gb210, 0, none⟩ = some (.slice A0_0 l0_0.length c0_0) := (blk_cell BK210.out 0).trans rfl; have hcz3_1 : w2.cell? ⟨gb210, 1, none⟩ = some (.int .i64 a0_1) := (blk_cell BK210.out 1).trans rfl; have hcz3_2 : w2.cell? ⟨gb210, 2, none⟩ = some (.int .u64 a0_2) := (blk_cell BK210.out 2).trans rfl; have hcz3_3 : w2.cell? ⟨gb210, 3, none⟩ = some (.slice A0_3 l0_3.length c0_3) := (blk_cell BK210.out 3).trans rfl; have hcz3_4 : w2.cell? ⟨gb210, 4, none⟩ = some (.slice A0_4 l0_4.length c0_4) := (blk_cell BK210.out 4).trans rfl; have hcz3_5 : w2.cell? ⟨gb210, 5, none⟩ = some (.slice A0_5 l0_5.length c0_5) := (blk_cell BK210.out 5).trans rfl; have hcz3_6 : w2.cell? ⟨gb210, 6, none⟩ = some (.int .u32 a0_6) := (blk_cell BK210.out 6).trans rfl; have hcz3_7 : w2.cell? ⟨gb210, 7, none⟩ = some (.int .u32 a0_7) := (blk_cell BK210.out 7).trans rfl; have hcz3_8 : w2.cell? ⟨gb210, 8, none⟩ = some (.int .u64 a0_8) := (blk_cell BK210.out 8).trans rfl; have hfz3_0 := blk_frozen BK210.out 0; have hfz3_1 := blk_frozen BK210.out 1; have hfz3_2 := blk_frozen BK210.out 2; have hfz3_3 := blk_frozen BK210.out 3; have hfz3_4 := blk_frozen BK210.out 4; have hfz3_5 := blk_frozen BK210.out 5; have hfz3_6 := blk_frozen BK210.out 6; have hfz3_7 := blk_frozen BK210.out 7; have hfz3_8 := blk_frozen BK210.out 8))
 go_loopg [4, 13] k (fun kq v4 v13 w' => ∃ (x4_1 : Int) (x13_1 : Int), v4 = .int .u32 x4_1 ∧ v13 = .int .i64 x13_1 ∧ Aside0 (hash_second_count.l0 kq x4_1 l0_5 (l0_5.length : Int) x13_1 l0_0 a0_1 a0_2 l0_3 l0_4 l0_5 a0_6 a0_7 a0_8 = some (r1, r2)) ∧ Aside0 (kq ≤ k) ∧ Aside0 (w'.heap[gb210]? = some (.cells #[(.slice A0_0 l0_0.length c0_0), .int .i64 a0_1, .int .u64 a0_2, (.slice A0_3 l0_3.length c0_3), (.slice A0_4 l0_4.length c0_4), (.slice A0_5 l0_5.length c0_5), .int .u32 a0_6, .int .u32 a0_7, .int .u64 a0_8] 92 (0, 0))) ∧ Aside0 (Below w.heap.size w w'))
 case atStart => exact ⟨(0), (0), (by first | rfl | (simp; done) | (simp [*]; done)), (by first | rfl | (simp; done) | (simp [*]; done)), H', ⟨Nat.le_refl _⟩, ⟨by (with_reducible repeat (first | refine blk_drewN ?_ _ | refine blk_drew ?_ | refine blk_alloc ?_ _)); exact BK210.out⟩, ⟨by repeat (first | (with_reducible first | exact HB.out | apply below_alloc | apply pw_below_drewN | apply below_drew1 | refine below_set ?_ GE210.out) | exact HB.out)⟩⟩
 case round =>
  clear H'
  try clear p2
  try clear c3
  try clear hcz3_0
  try clear hcz3_1
  try clear hcz3_2
  try clear hcz3_3
  try clear hcz3_4
  try clear hcz3_5
  try clear hcz3_6
  try clear hcz3_7
  try clear hcz3_8
  try clear hfz3_0
  try clear hfz3_1
  try clear hfz3_2
  try clear hfz3_3
  try clear hfz3_4
  try clear hfz3_5
  try clear hfz3_6
  try clear hfz3_7
  try clear hfz3_8
  obtain ⟨x4_1, x13_1, rfl, rfl, HA, HK1, BK210, HB⟩ := hrel
  cases gk with
  | zero => exact absurd HA.out (by simp [hash_second_count.l0])
  | succ k1 =>
   have H := HA.out
   clear HA
   simp only [hash_second_count.l0] at H
   by_cases c4 : x13_1 < (l0_5.length : Int)
   ·rw [if_pos c4] at H
    have c4b0 : decide (x13_1 < (l0_5.length : Int)) = true := decide_eq_true c4
    clear c4
    by_cases c5 : 0 ≤ x13_1
    ·rw [if_pos c5] at H
     have c5b0 : decide (0 ≤ x13_1) = true := decide_eq_true c5
     clear c5
     by_cases c6 : x13_1 < (l0_5.length : Int)
     ·rw [if_pos c6] at H
      have c6b0 : decide (x13_1 < (l0_5.length : Int)) = true := decide_eq_true c6
      clear c6
      obtain ⟨ji7, hji7⟩ : ∃ j_ : Int, (mx x4_1 (rd l0_5 x13_1)) = j_ := ⟨_, rfl⟩
      replace H : (hash_second_count.l0 k1 ji7 l0_5 (l0_5.length : Int) (wrap64 (x13_1 + 1)) l0_0 a0_1 a0_2 l0_3 l0_4 l0_5 a0_6 a0_7 a0_8) = some (r1, r2) := by first | (rw [hji7] at H; exact H) | (simp only [hji7] at H ⊢; exact H)
      have hji7_ : (if x4_1 < (rd l0_5 x13_1) then (rd l0_5 x13_1) else x4_1) = ji7 := hji7
      have H' := Aside0.mk H
      clear H
      have p211 : 0 ≤ (x13_1 : Int) := of_decide_eq_true (by assumption)
      have q211 : x13_1 < (l0_5.length : Int) := of_decide_eq_true (by assumption)
      obtain ⟨ad211, e211, hx211_0⟩ := Kd.at_int HR0_5.out x13_1 p211 q211
      cases e211
      replace hx211_0 := (HB.out.cell (World.block_lt_of_cell? w _ hx211_0)).trans hx211_0
      replace p211 := eq_true p211
      replace q211 := eq_true q211
      go_wp2
      go_roundg k1
      case measure => have := HK1.out; omega
      case rel => exact ⟨(ji7), (wrap64 (x13_1 + 1)), (by first | rfl | (simp; done) | (simp only [← hji7] <;> (first | rfl | simp)) | (simp [*]; done)), (by first | rfl | (simp; done) | (simp [*]; done)), H', ⟨by have := HK1.out; omega⟩, ⟨by (with_reducible repeat (first | refine blk_drewN ?_ _ | refine blk_drew ?_ | refine blk_alloc ?_ _)); exact BK210.out⟩, ⟨by repeat (first | (with_reducible first | exact HB.out | apply below_alloc | apply pw_below_drewN | apply below_drew1 | refine below_set ?_ GE210.out) | exact HB.out)⟩⟩
     ·rw [if_neg c6] at H
      exact absurd H (by simp)
    ·rw [if_neg c5] at H
     exact absurd H (by simp)
   ·rw [if_neg c4] at H
    have c4b0 : decide (x13_1 < (l0_5.length : Int)) = false := decide_eq_false c4
    clear c4
    by_cases c8 : x4_1 = 0
    ·rw [if_pos c8] at H
     have c8b0 : (x4_1 == 0) = true := beq_iff_eq.mpr c8
     have c8b1 : (x4_1 != 0) = false := bne_eq_false_iff_eq.mpr c8
     clear c8
     simp only [Option.some.injEq, Prod.mk.injEq] at H
     obtain ⟨rfl, rfl⟩ := H
     have hcz9_0 : wr.cell? ⟨gb210, 0, none⟩ = some (.slice A0_0 l0_0.length c0_0) := (blk_cell BK210.out 0).trans rfl
     have hcz9_1 : wr.cell? ⟨gb210, 1, none⟩ = some (.int .i64 a0_1) := (blk_cell BK210.out 1).trans rfl
     have hcz9_2 : wr.cell? ⟨gb210, 2, none⟩ = some (.int .u64 a0_2) := (blk_cell BK210.out 2).trans rfl
     have hcz9_3 : wr.cell? ⟨gb210, 3, none⟩ = some (.slice A0_3 l0_3.length c0_3) := (blk_cell BK210.out 3).trans rfl
     have hcz9_4 : wr.cell? ⟨gb210, 4, none⟩ = some (.slice A0_4 l0_4.length c0_4) := (blk_cell BK210.out 4).trans rfl
     have hcz9_5 : wr.cell? ⟨gb210, 5, none⟩ = some (.slice A0_5 l0_5.length c0_5) := (blk_cell BK210.out 5).trans rfl
     have hcz9_6 : wr.cell? ⟨gb210, 6, none⟩ = some (.int .u32 a0_6) := (blk_cell BK210.out 6).trans rfl
     have hcz9_7 : wr.cell? ⟨gb210, 7, none⟩ = some (.int .u32 a0_7) := (blk_cell BK210.out 7).trans rfl
     have hcz9_8 : wr.cell? ⟨gb210, 8, none⟩ = some (.int .u64 a0_8) := (blk_cell BK210.out 8).trans rfl
     have hfz9_0 := blk_frozen BK210.out 0
     have hfz9_1 := blk_frozen BK210.out 1
     have hfz9_2 := blk_frozen BK210.out 2
     have hfz9_3 := blk_frozen BK210.out 3
     have hfz9_4 := blk_frozen BK210.out 4
     have hfz9_5 := blk_frozen BK210.out 5
     have hfz9_6 := blk_frozen BK210.out 6
     have hfz9_7 := blk_frozen BK210.out 7
     have hfz9_8 := blk_frozen BK210.out 8
     go_wp2
     go_ret2
     exact ⟨by first | rfl | (simp [errW_none, errW_some] <;> rfl) | (simp [*, errW_none, errW_some] <;> rfl), by repeat (first | (with_reducible first | exact HB.out | apply below_alloc | apply pw_below_drewN | apply below_drew1 | refine below_set ?_ GE210.out) | exact HB.out)⟩
    ·rw [if_neg c8] at H
     have c8b0 : (x4_1 == 0) = false := beq_eq_false_iff_ne.mpr c8
     have c8b1 : (x4_1 != 0) = true := bne_iff_ne.mpr c8
     have H' := Aside0.mk H
     clear H
     go_wp2
     go_loopg [7] k1 (fun kq v7 w' => ∃ (x7_2 : Int), v7 = .int .u32 x7_2 ∧ Aside0 (hash_second_count.l1 kq x7_2 l0_0 a0_1 a0_2 l0_3 l0_4 l0_5 a0_6 a0_7 a0_8 = some (r1, r2)) ∧ Aside0 (kq ≤ k1) ∧ Aside0 (w'.heap[gb210]? = some (.cells #[(.slice A0_0 l0_0.length c0_0), .int .i64 a0_1, .int .u64 a0_2, (.slice A0_3 l0_3.length c0_3), (.slice A0_4 l0_4.length c0_4), (.slice A0_5 l0_5.length c0_5), .int .u32 a0_6, .int .u32 a0_7, .int .u64 a0_8] 92 (0, 0))) ∧ Aside0 (Below w.heap.size w w'))
     case atStart => exact ⟨(x4_1), (by first | rfl | (simp; done) | (simp [*]; done)), H', ⟨Nat.le_refl _⟩, ⟨by (with_reducible repeat (first | refine blk_drewN ?_ _ | refine blk_drew ?_ | refine blk_alloc ?_ _)); exact BK210.out⟩, ⟨by repeat (first | (with_reducible first | exact HB.out | apply below_alloc | apply pw_below_drewN | apply below_drew1 | refine below_set ?_ GE210.out) | exact HB.out)⟩⟩
     case round =>
      clear H'
      try clear p2
      try clear q2
      try clear hx2
      try clear c3
      try clear c4
      try clear c4b0
      try clear c5
      try clear c5b0
      try clear c6
      try clear c6b0
      try clear p6
      try clear c8
      try clear c8b0
      try clear c8b1
      try clear hcz3_0
      try clear hcz3_1
      try clear hcz3_2
      try clear hcz3_3
      try clear hcz3_4
      try clear hcz3_5
      try clear hcz3_6
      try clear hcz3_7
      try clear hcz3_8
      try clear hcz9_0
      try clear hcz9_1
      try clear hcz9_2
      try clear hcz9_3
      try clear hcz9_4
      try clear hcz9_5
      try clear hcz9_6
      try clear hcz9_7
      try clear hcz9_8
      try clear hfz3_0
      try clear hfz3_1
      try clear hfz3_2
      try clear hfz3_3
      try clear hfz3_4
      try clear hfz3_5
      try clear hfz3_6
      try clear hfz3_7
      try clear hfz3_8
      try clear hfz9_0
      try clear hfz9_1
      try clear hfz9_2
      try clear hfz9_3
      try clear hfz9_4
      try clear hfz9_5
      try clear hfz9_6
      try clear hfz9_7
      try clear hfz9_8
      try clear hx211_0
      try clear p2
      try clear p211
      try clear q211
      obtain ⟨x7_2, rfl, HA, HK2, BK210, HB⟩ := hrel
      cases gk with
      | zero => exact absurd HA.out (by simp [hash_second_count.l1])
      | succ k2 =>
       have H := HA.out
       clear HA
       simp only [hash_second_count.l1] at H
       by_cases c10 : x7_2 ≥ 4096
       ·rw [if_pos c10] at H
        have c10b0 : decide (4096 ≤ x7_2) = true := decide_eq_true c10
        clear c10
        simp only [Option.some.injEq, Prod.mk.injEq] at H
        obtain ⟨rfl, rfl⟩ := H
        go_wp2
        go_ret2
        exact ⟨by first | rfl | (simp [errW_none, errW_some] <;> rfl) | (simp [*, errW_none, errW_some] <;> rfl), by repeat (first | (with_reducible first | exact HB.out | apply below_alloc | apply pw_below_drewN | apply below_drew1 | refine below_set ?_ GE210.out) | exact HB.out)⟩
       ·rw [if_neg c10] at H
        have c10b0 : decide (4096 ≤ x7_2) = false := decide_eq_false c10
        clear c10
        replace H := Option.bind_eq_some_iff.mp H
        obtain ⟨⟨t212, t213⟩, A110, H⟩ := H
        replace H : (if t213.isNone = true then (if (Go.bits .and .u32 t212 1) = 1 then (some (wrap64 ((wrap64 (x7_2)) + 1), none)) else (hash_second_count.l1 k2 ((x7_2 + 1) % 4294967296) l0_0 a0_1 a0_2 l0_3 l0_4 l0_5 a0_6 a0_7 a0_8)) else (some (0, some (t213.getD 0)))) = some (r1, r2) := H
        have A11 := Aside0.mk A110
        clear A110
        rcases t213 with _ | q214
        ·have H1 : (if (Go.bits .and .u32 t212 1) = 1 then (some (wrap64 ((wrap64 (x7_2)) + 1), none)) else (hash_second_count.l1 k2 ((x7_2 + 1) % 4294967296) l0_0 a0_1 a0_2 l0_3 l0_4 l0_5 a0_6 a0_7 a0_8)) = some (r1, r2) := by rw [if_pos (show (none : Option Int).isNone = true by rfl)] at H; exact H
         clear H
         have H := H1
         clear H1
         try simp only [errW_none, errW_some]
         by_cases c12 : (Go.bits .and .u32 t212 1) = 1
         ·rw [if_pos c12] at H
          have c12b0 : ((Go.bits .and .u32 t212 1) == 1) = true := beq_iff_eq.mpr c12
          have c12b1 : ((Go.bits .and .u32 t212 1) != 1) = false := bne_eq_false_iff_eq.mpr c12
          clear c12
          simp only [Option.some.injEq, Prod.mk.injEq] at H
          obtain ⟨rfl, rfl⟩ := H
          have hcz13_0 : wr.cell? ⟨gb210, 0, none⟩ = some (.slice A0_0 l0_0.length c0_0) := (blk_cell BK210.out 0).trans rfl
          have hcz13_1 : wr.cell? ⟨gb210, 1, none⟩ = some (.int .i64 a0_1) := (blk_cell BK210.out 1).trans rfl
          have hcz13_2 : wr.cell? ⟨gb210, 2, none⟩ = some (.int .u64 a0_2) := (blk_cell BK210.out 2).trans rfl
          have hcz13_3 : wr.cell? ⟨gb210, 3, none⟩ = some (.slice A0_3 l0_3.length c0_3) := (blk_cell BK210.out 3).trans rfl
          have hcz13_4 : wr.cell? ⟨gb210, 4, none⟩ = some (.slice A0_4 l0_4.length c0_4) := (blk_cell BK210.out 4).trans rfl
          have hcz13_5 : wr.cell? ⟨gb210, 5, none⟩ = some (.slice A0_5 l0_5.length c0_5) := (blk_cell BK210.out 5).trans rfl
          have hcz13_6 : wr.cell? ⟨gb210, 6, none⟩ = some (.int .u32 a0_6) := (blk_cell BK210.out 6).trans rfl
          have hcz13_7 : wr.cell? ⟨gb210, 7, none⟩ = some (.int .u32 a0_7) := (blk_cell BK210.out 7).trans rfl
          have hcz13_8 : wr.cell? ⟨gb210, 8, none⟩ = some (.int .u64 a0_8) := (blk_cell BK210.out 8).trans rfl
          have hfz13_0 := blk_frozen BK210.out 0
          have hfz13_1 := blk_frozen BK210.out 1
          have hfz13_2 := blk_frozen BK210.out 2
          have hfz13_3 := blk_frozen BK210.out 3
          have hfz13_4 := blk_frozen BK210.out 4
          have hfz13_5 := blk_frozen BK210.out 5
          have hfz13_6 := blk_frozen BK210.out 6
          have hfz13_7 := blk_frozen BK210.out 7
          have hfz13_8 := blk_frozen BK210.out 8
          go_wp2_with (first | ((with_reducible refine gate_ (.load 92 (.tmp 1)) rfl ?_); refine wpList_load_row rfl 92 (.tmp 1) rfl gb210 rfl 92 _ (0, 0) _ (by (with_reducible repeat (first | refine blk_drewN ?_ _ | refine blk_drew ?_ | refine blk_alloc ?_ _)); exact BK210.out) Try.underlying92 rfl (by kernel_rfl) ?_) | ((with_reducible refine gate_callee (f := 54) rfl ?_); refine goesL_ (some 35) rfl rfl Try.func54 (by kernel_rfl) rfl #[.agg #[.slice A0_0 l0_0.length c0_0, .int .i64 a0_1, .int .u64 a0_2, .slice A0_3 l0_3.length c0_3, .slice A0_4 l0_4.length c0_4, .slice A0_5 l0_5.length c0_5, .int .u32 a0_6, .int .u32 a0_7, .int .u64 a0_8], .int .u32 x7_2] rfl (by (try simp only [List.map_toArray, List.map_cons, List.map_nil]); first | done | rfl | (simp only [List.length_drop, List.length_take]; rfl)) ?_; (with_reducible refine (hash_second_chain.calls k2 _ _ l0_0 a0_1 a0_2 _ _ l0_3 _ _ l0_4 _ _ l0_5 a0_6 a0_7 a0_8 x7_2 t212 none _ ?side1 ?side2 ?side3 ?side4 ?side5 ?side6 ?side7 ?side8 A11.out).mono ?_); (case side1 => repeat (first | exact (Kd.C_below HR0_0.out HB.out) | (with_reducible refine Kd.C_alloc ?_ _) | (with_reducible refine Kd.C_drewN ?_ _) | (with_reducible refine Kd.C_drew ?_))); (case side2 => exact HC0_0.out); (case side3 => repeat (first | exact (Kd.C_below HR0_3.out HB.out) | (with_reducible refine Kd.C_alloc ?_ _) | (with_reducible refine Kd.C_drewN ?_ _) | (with_reducible refine Kd.C_drew ?_))); (case side4 => exact HC0_3.out); (case side5 => repeat (first | exact (Kd.C_below HR0_4.out HB.out) | (with_reducible refine Kd.C_alloc ?_ _) | (with_reducible refine Kd.C_drewN ?_ _) | (with_reducible refine Kd.C_drew ?_))); (case side6 => exact HC0_4.out); (case side7 => repeat (first | exact (Kd.C_below HR0_5.out HB.out) | (with_reducible refine Kd.C_alloc ?_ _) | (with_reducible refine Kd.C_drewN ?_ _) | (with_reducible refine Kd.C_drew ?_))); (case side8 => exact HC0_5.out); rintro e w14 ⟨rfl, hb⟩; refine ⟨_, rfl, ?_⟩; have n0_ := Aside0.mk (blk_below (g := gb210) (o := .cells #[.slice A0_0 l0_0.length c0_0, .int .i64 a0_1, .int .u64 a0_2, .slice A0_3 l0_3.length c0_3, .slice A0_4 l0_4.length c0_4, .slice A0_5 l0_5.length c0_5, .int .u32 a0_6, .int .u32 a0_7, .int .u64 a0_8] 92 (0, 0)) (by (with_reducible repeat (first | refine blk_drewN ?_ _ | refine blk_drew ?_ | refine blk_alloc ?_ _)); exact BK210.out) hb); have n1_ := Aside0.mk (below_step (by repeat (first | (with_reducible first | exact HB.out | apply below_alloc | apply pw_below_drewN | apply below_drew1 | refine below_set ?_ GE210.out) | exact HB.out)) hb); clear BK210; clear HB; have BK210 := n0_; have HB := n1_; clear n0_ n1_; (try clear hb); (try clear hb2); (try clear hk); (try clear hi); (try simp only [errW_none, errW_some])))
          go_ret2
          exact ⟨by first | rfl | (simp [errW_none, errW_some] <;> rfl) | (simp [*, errW_none, errW_some] <;> rfl), by repeat (first | (with_reducible first | exact HB.out | apply below_alloc | apply pw_below_drewN | apply below_drew1 | refine below_set ?_ GE210.out) | exact HB.out)⟩
         ·rw [if_neg c12] at H
          have c12b0 : ((Go.bits .and .u32 t212 1) == 1) = false := beq_eq_false_iff_ne.mpr c12
          have c12b1 : ((Go.bits .and .u32 t212 1) != 1) = true := bne_iff_ne.mpr c12
          have H' := Aside0.mk H
          clear H
          have hcz15_0 : wr.cell? ⟨gb210, 0, none⟩ = some (.slice A0_0 l0_0.length c0_0) := (blk_cell BK210.out 0).trans rfl
          have hcz15_1 : wr.cell? ⟨gb210, 1, none⟩ = some (.int .i64 a0_1) := (blk_cell BK210.out 1).trans rfl
          have hcz15_2 : wr.cell? ⟨gb210, 2, none⟩ = some (.int .u64 a0_2) := (blk_cell BK210.out 2).trans rfl
          have hcz15_3 : wr.cell? ⟨gb210, 3, none⟩ = some (.slice A0_3 l0_3.length c0_3) := (blk_cell BK210.out 3).trans rfl
          have hcz15_4 : wr.cell? ⟨gb210, 4, none⟩ = some (.slice A0_4 l0_4.length c0_4) := (blk_cell BK210.out 4).trans rfl
          have hcz15_5 : wr.cell? ⟨gb210, 5, none⟩ = some (.slice A0_5 l0_5.length c0_5) := (blk_cell BK210.out 5).trans rfl
          have hcz15_6 : wr.cell? ⟨gb210, 6, none⟩ = some (.int .u32 a0_6) := (blk_cell BK210.out 6).trans rfl
          have hcz15_7 : wr.cell? ⟨gb210, 7, none⟩ = some (.int .u32 a0_7) := (blk_cell BK210.out 7).trans rfl
          have hcz15_8 : wr.cell? ⟨gb210, 8, none⟩ = some (.int .u64 a0_8) := (blk_cell BK210.out 8).trans rfl
          have hfz15_0 := blk_frozen BK210.out 0
          have hfz15_1 := blk_frozen BK210.out 1
          have hfz15_2 := blk_frozen BK210.out 2
          have hfz15_3 := blk_frozen BK210.out 3
          have hfz15_4 := blk_frozen BK210.out 4
          have hfz15_5 := blk_frozen BK210.out 5
          have hfz15_6 := blk_frozen BK210.out 6
          have hfz15_7 := blk_frozen BK210.out 7
          have hfz15_8 := blk_frozen BK210.out 8
          go_wp2_with (first | ((with_reducible refine gate_ (.load 92 (.tmp 1)) rfl ?_); refine wpList_load_row rfl 92 (.tmp 1) rfl gb210 rfl 92 _ (0, 0) _ (by (with_reducible repeat (first | refine blk_drewN ?_ _ | refine blk_drew ?_ | refine blk_alloc ?_ _)); exact BK210.out) Try.underlying92 rfl (by kernel_rfl) ?_) | ((with_reducible refine gate_callee (f := 54) rfl ?_); refine goesL_ (some 35) rfl rfl Try.func54 (by kernel_rfl) rfl #[.agg #[.slice A0_0 l0_0.length c0_0, .int .i64 a0_1, .int .u64 a0_2, .slice A0_3 l0_3.length c0_3, .slice A0_4 l0_4.length c0_4, .slice A0_5 l0_5.length c0_5, .int .u32 a0_6, .int .u32 a0_7, .int .u64 a0_8], .int .u32 x7_2] rfl (by (try simp only [List.map_toArray, List.map_cons, List.map_nil]); first | done | rfl | (simp only [List.length_drop, List.length_take]; rfl)) ?_; (with_reducible refine (hash_second_chain.calls k2 _ _ l0_0 a0_1 a0_2 _ _ l0_3 _ _ l0_4 _ _ l0_5 a0_6 a0_7 a0_8 x7_2 t212 none _ ?side1 ?side2 ?side3 ?side4 ?side5 ?side6 ?side7 ?side8 A11.out).mono ?_); (case side1 => repeat (first | exact (Kd.C_below HR0_0.out HB.out) | (with_reducible refine Kd.C_alloc ?_ _) | (with_reducible refine Kd.C_drewN ?_ _) | (with_reducible refine Kd.C_drew ?_))); (case side2 => exact HC0_0.out); (case side3 => repeat (first | exact (Kd.C_below HR0_3.out HB.out) | (with_reducible refine Kd.C_alloc ?_ _) | (with_reducible refine Kd.C_drewN ?_ _) | (with_reducible refine Kd.C_drew ?_))); (case side4 => exact HC0_3.out); (case side5 => repeat (first | exact (Kd.C_below HR0_4.out HB.out) | (with_reducible refine Kd.C_alloc ?_ _) | (with_reducible refine Kd.C_drewN ?_ _) | (with_reducible refine Kd.C_drew ?_))); (case side6 => exact HC0_4.out); (case side7 => repeat (first | exact (Kd.C_below HR0_5.out HB.out) | (with_reducible refine Kd.C_alloc ?_ _) | (with_reducible refine Kd.C_drewN ?_ _) | (with_reducible refine Kd.C_drew ?_))); (case side8 => exact HC0_5.out); rintro e w16 ⟨rfl, hb⟩; refine ⟨_, rfl, ?_⟩; have n0_ := Aside0.mk (blk_below (g := gb210) (o := .cells #[.slice A0_0 l0_0.length c0_0, .int .i64 a0_1, .int .u64 a0_2, .slice A0_3 l0_3.length c0_3, .slice A0_4 l0_4.length c0_4, .slice A0_5 l0_5.length c0_5, .int .u32 a0_6, .int .u32 a0_7, .int .u64 a0_8] 92 (0, 0)) (by (with_reducible repeat (first | refine blk_drewN ?_ _ | refine blk_drew ?_ | refine blk_alloc ?_ _)); exact BK210.out) hb); have n1_ := Aside0.mk (below_step (by repeat (first | (with_reducible first | exact HB.out | apply below_alloc | apply pw_below_drewN | apply below_drew1 | refine below_set ?_ GE210.out) | exact HB.out)) hb); clear BK210; clear HB; have BK210 := n0_; have HB := n1_; clear n0_ n1_; (try clear hb); (try clear hb2); (try clear hk); (try clear hi); (try simp only [errW_none, errW_some])))
          go_roundg k2
          case measure => have := HK1.out; have := HK2.out; omega
          case rel => exact ⟨((x7_2 + 1) % 4294967296), (by first | rfl | (simp; done) | (simp [*]; done)), H', ⟨by have := HK1.out; have := HK2.out; omega⟩, ⟨by (with_reducible repeat (first | refine blk_drewN ?_ _ | refine blk_drew ?_ | refine blk_alloc ?_ _)); exact BK210.out⟩, ⟨by repeat (first | (with_reducible first | exact HB.out | apply below_alloc | apply pw_below_drewN | apply below_drew1 | refine below_set ?_ GE210.out) | exact HB.out)⟩⟩
        ·have H1 : (some (0, some q214)) = some (r1, r2) := by rw [if_neg (show ¬ (some q214).isNone = true by simp)] at H; exact H
         clear H
         have H := H1
         clear H1
         try simp only [errW_none, errW_some]
         simp only [Option.some.injEq, Prod.mk.injEq] at H
         obtain ⟨rfl, rfl⟩ := H
         have hcz17_0 : wr.cell? ⟨gb210, 0, none⟩ = some (.slice A0_0 l0_0.length c0_0) := (blk_cell BK210.out 0).trans rfl
         have hcz17_1 : wr.cell? ⟨gb210, 1, none⟩ = some (.int .i64 a0_1) := (blk_cell BK210.out 1).trans rfl
         have hcz17_2 : wr.cell? ⟨gb210, 2, none⟩ = some (.int .u64 a0_2) := (blk_cell BK210.out 2).trans rfl
         have hcz17_3 : wr.cell? ⟨gb210, 3, none⟩ = some (.slice A0_3 l0_3.length c0_3) := (blk_cell BK210.out 3).trans rfl
         have hcz17_4 : wr.cell? ⟨gb210, 4, none⟩ = some (.slice A0_4 l0_4.length c0_4) := (blk_cell BK210.out 4).trans rfl
         have hcz17_5 : wr.cell? ⟨gb210, 5, none⟩ = some (.slice A0_5 l0_5.length c0_5) := (blk_cell BK210.out 5).trans rfl
         have hcz17_6 : wr.cell? ⟨gb210, 6, none⟩ = some (.int .u32 a0_6) := (blk_cell BK210.out 6).trans rfl
         have hcz17_7 : wr.cell? ⟨gb210, 7, none⟩ = some (.int .u32 a0_7) := (blk_cell BK210.out 7).trans rfl
         have hcz17_8 : wr.cell? ⟨gb210, 8, none⟩ = some (.int .u64 a0_8) := (blk_cell BK210.out 8).trans rfl
         have hfz17_0 := blk_frozen BK210.out 0
         have hfz17_1 := blk_frozen BK210.out 1
         have hfz17_2 := blk_frozen BK210.out 2
         have hfz17_3 := blk_frozen BK210.out 3
         have hfz17_4 := blk_frozen BK210.out 4
         have hfz17_5 := blk_frozen BK210.out 5
         have hfz17_6 := blk_frozen BK210.out 6
         have hfz17_7 := blk_frozen BK210.out 7
         have hfz17_8 := blk_frozen BK210.out 8
         go_wp2_with (first | ((with_reducible refine gate_ (.load 92 (.tmp 1)) rfl ?_); refine wpList_load_row rfl 92 (.tmp 1) rfl gb210 rfl 92 _ (0, 0) _ (by (with_reducible repeat (first | refine blk_drewN ?_ _ | refine blk_drew ?_ | refine blk_alloc ?_ _)); exact BK210.out) Try.underlying92 rfl (by kernel_rfl) ?_) | ((with_reducible refine gate_callee (f := 54) rfl ?_); refine goesL_ (some 35) rfl rfl Try.func54 (by kernel_rfl) rfl #[.agg #[.slice A0_0 l0_0.length c0_0, .int .i64 a0_1, .int .u64 a0_2, .slice A0_3 l0_3.length c0_3, .slice A0_4 l0_4.length c0_4, .slice A0_5 l0_5.length c0_5, .int .u32 a0_6, .int .u32 a0_7, .int .u64 a0_8], .int .u32 x7_2] rfl (by (try simp only [List.map_toArray, List.map_cons, List.map_nil]); first | done | rfl | (simp only [List.length_drop, List.length_take]; rfl)) ?_; (with_reducible refine (hash_second_chain.calls k2 _ _ l0_0 a0_1 a0_2 _ _ l0_3 _ _ l0_4 _ _ l0_5 a0_6 a0_7 a0_8 x7_2 t212 (some q214) _ ?side1 ?side2 ?side3 ?side4 ?side5 ?side6 ?side7 ?side8 A11.out).mono ?_); (case side1 => repeat (first | exact (Kd.C_below HR0_0.out HB.out) | (with_reducible refine Kd.C_alloc ?_ _) | (with_reducible refine Kd.C_drewN ?_ _) | (with_reducible refine Kd.C_drew ?_))); (case side2 => exact HC0_0.out); (case side3 => repeat (first | exact (Kd.C_below HR0_3.out HB.out) | (with_reducible refine Kd.C_alloc ?_ _) | (with_reducible refine Kd.C_drewN ?_ _) | (with_reducible refine Kd.C_drew ?_))); (case side4 => exact HC0_3.out); (case side5 => repeat (first | exact (Kd.C_below HR0_4.out HB.out) | (with_reducible refine Kd.C_alloc ?_ _) | (with_reducible refine Kd.C_drewN ?_ _) | (with_reducible refine Kd.C_drew ?_))); (case side6 => exact HC0_4.out); (case side7 => repeat (first | exact (Kd.C_below HR0_5.out HB.out) | (with_reducible refine Kd.C_alloc ?_ _) | (with_reducible refine Kd.C_drewN ?_ _) | (with_reducible refine Kd.C_drew ?_))); (case side8 => exact HC0_5.out); rintro e w18 ⟨rfl, hb⟩; refine ⟨_, rfl, ?_⟩; have n0_ := Aside0.mk (blk_below (g := gb210) (o := .cells #[.slice A0_0 l0_0.length c0_0, .int .i64 a0_1, .int .u64 a0_2, .slice A0_3 l0_3.length c0_3, .slice A0_4 l0_4.length c0_4, .slice A0_5 l0_5.length c0_5, .int .u32 a0_6, .int .u32 a0_7, .int .u64 a0_8] 92 (0, 0)) (by (with_reducible repeat (first | refine blk_drewN ?_ _ | refine blk_drew ?_ | refine blk_alloc ?_ _)); exact BK210.out) hb); have n1_ := Aside0.mk (below_step (by repeat (first | (with_reducible first | exact HB.out | apply below_alloc | apply pw_below_drewN | apply below_drew1 | refine below_set ?_ GE210.out) | exact HB.out)) hb); clear BK210; clear HB; have BK210 := n0_; have HB := n1_; clear n0_ n1_; (try clear hb); (try clear hb2); (try clear hk); (try clear hi); (try simp only [errW_none, errW_some])))
         go_ret2
         exact ⟨by first | rfl | (simp [errW_none, errW_some] <;> rfl) | (simp [*, errW_none, errW_some] <;> rfl), by repeat (first | (with_reducible first | exact HB.out | apply below_alloc | apply pw_below_drewN | apply below_drew1 | refine below_set ?_ GE210.out) | exact HB.out)⟩
def hash_Gnu.l0 : Nat → ByteArray → Int → Int → Int → Option (Int)
 | 0, _, _, _, _ => none
 | k + 1, x0, x3, x6, x7 => if x7 < x6 then (if 0 ≤ x7 then (if x7 < (x0.size : Int) then (hash_Gnu.l0 k x0 ((((x3 * 33) % 4294967296) + ((bt x0 x7) % 4294967296)) % 4294967296) x6 (wrap64 (x7 + 1))) else (none)) else (none)) else (some x3)
def hash_Gnu.f (k : Nat) (a0 : ByteArray) : Option (Int) := hash_Gnu.l0 k a0 5381 (a0.size : Int) 0
theorem hash_Gnu.mono_l : ∀ k, (∀ y0 y1 y2 y3, LeO (hash_Gnu.l0 k y0 y1 y2 y3) (hash_Gnu.l0 (k + 1) y0 y1 y2 y3))
 | 0 => fun _ _ _ _ r h => by simp [hash_Gnu.l0] at h
 | k + 1 => by
  have ih0 := hash_Gnu.mono_l k
  ·intro y0 y1 y2 y3
   unfold hash_Gnu.l0
   repeat' first
   | (with_reducible exact ih0 _ _ _ _)
   | (with_reducible exact LeO.refl _)
   | (with_reducible exact LeO.none _)
   | (with_reducible refine LeO.ite ?_ ?_)
   | (with_reducible refine LeO.bind ?_ (fun _ => ?_))
   | exact ih0 _ _ _ _
   | exact LeO.none _
   | refine LeO.ite ?_ ?_
   | refine LeO.bind ?_ (fun _ => ?_)
theorem hash_Gnu.mono : ∀ a0 k, LeO (hash_Gnu.f k a0) (hash_Gnu.f (k + 1) a0) := by
 intro a0 k
 have ih0 := hash_Gnu.mono_l k
 unfold hash_Gnu.f
 repeat' first
   | (with_reducible exact ih0 _ _ _ _)
   | (with_reducible exact LeO.refl _)
   | (with_reducible exact LeO.none _)
   | (with_reducible refine LeO.ite ?_ ?_)
   | (with_reducible refine LeO.bind ?_ (fun _ => ?_))
   | exact ih0 _ _ _ _
   | exact LeO.none _
   | refine LeO.ite ?_ ?_
   | refine LeO.bind ?_ (fun _ => ?_)
set_option maxHeartbeats 8000000 in
set_option maxRecDepth 100000 in
theorem hash_Gnu.calls (k : Nat) (a0 : ByteArray) (r : Int) (w : World) (h : hash_Gnu.f k a0 = some r) :
  Calls Try.prog 15 #[.string a0] w fun e w' => e = .returned (.int .u32 r) ∧ Drawn0 w w' := by
 have H : (hash_Gnu.l0 k a0 5381 (a0.size : Int) 0) = some r := h
 clear h
 have H' := Aside0.mk H
 clear H
 go_enter Try.func15, Try.ntmps15
 go_wp2
 go_loopg [3, 7] k (fun kq v3 v7 w' => ∃ (x3_1 : Int) (x7_1 : Int), v3 = .int .u32 x3_1 ∧ v7 = .int .i64 x7_1 ∧ Aside0 (hash_Gnu.l0 kq a0 x3_1 (a0.size : Int) x7_1 = some r) ∧ Aside0 (kq ≤ k) ∧ Drawn0 w w')
 case atStart => exact ⟨(5381), (0), (by first | rfl | (simp; done) | (simp [*]; done)), (by first | rfl | (simp; done) | (simp [*]; done)), H', ⟨Nat.le_refl _⟩, by repeat (first | exact Drawn0.refl _ | apply Drawn0.step)⟩
 case round =>
  clear H'
  try clear c1
  obtain ⟨x3_1, x7_1, rfl, rfl, HA, HK1, ⟨m1, rfl⟩⟩ := hrel
  cases gk with
  | zero => exact absurd HA.out (by simp [hash_Gnu.l0])
  | succ k1 =>
   have H := HA.out
   clear HA
   simp only [hash_Gnu.l0] at H
   by_cases c2 : x7_1 < (a0.size : Int)
   ·rw [if_pos c2] at H
    have c2b0 : decide (x7_1 < (a0.size : Int)) = true := decide_eq_true c2
    clear c2
    by_cases c3 : 0 ≤ x7_1
    ·rw [if_pos c3] at H
     have c3b0 : decide (0 ≤ x7_1) = true := decide_eq_true c3
     clear c3
     by_cases c4 : x7_1 < (a0.size : Int)
     ·rw [if_pos c4] at H
      have c4b0 : decide (x7_1 < (a0.size : Int)) = true := decide_eq_true c4
      clear c4
      have H' := Aside0.mk H
      clear H
      have p5 : 0 ≤ (x7_1 : Int) := of_decide_eq_true (by assumption)
      have q5 : x7_1 < (a0.size : Int) := of_decide_eq_true (by assumption)
      have hx5 := bt_at a0 x7_1
      replace p5 := eq_true p5
      replace q5 := eq_true q5
      go_wp2
      go_roundg k1
      case measure => have := HK1.out; omega
      case rel => exact ⟨((((x3_1 * 33) % 4294967296) + ((bt a0 x7_1) % 4294967296)) % 4294967296), (wrap64 (x7_1 + 1)), (by first | rfl | (simp; done) | (simp [*]; done)), (by first | rfl | (simp; done) | (simp [*]; done)), H', ⟨by have := HK1.out; omega⟩, by repeat (first | exact Drawn0.refl _ | apply Drawn0.step)⟩
     ·rw [if_neg c4] at H
      exact absurd H (by simp)
    ·rw [if_neg c3] at H
     exact absurd H (by simp)
   ·rw [if_neg c2] at H
    have c2b0 : decide (x7_1 < (a0.size : Int)) = false := decide_eq_false c2
    clear c2
    obtain rfl := Option.some.inj H
    go_wp2
    go_ret
    exact ⟨by first | rfl | (simp; done) | (simp [*]; done), by repeat (first | exact Drawn0.refl _ | apply Drawn0.step)⟩
end Go.Proofs.Ythopdoamajjojaa.QBindF
