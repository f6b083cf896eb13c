-- Laid by wip/hook.py (this session's own program) out of the translation; with contracts that were written by hand.
import Derived.Test.YthopdoamajjojaaQHashBx0
import Derived.Test.YthopdoamajjojaaQHashBx2
import Derived.Test.YthopdoamajjojaaQHashBx3
namespace Go.Proofs.Ythopdoamajjojaa.QHashB
open Go.RowKit Go.Proofs.YthopdoamajjojaaW.PrintWords Go.Proofs.YthopdoamajjojaaW.PrintLast Go.Proofs.YthopdoamajjojaaW.PrintMore
attribute [local go_sem] max2_int min2_int max_two min_two max_three min_three max_four min_four   -- for this text's walks alone
set_option linter.unusedVariables false
set_option linter.unusedSimpArgs false

/-! ### hash_second_chain: function 54 -/
def hash_second_chain.f (k : Nat) (l0_0 : List Int) (a0_1 : Int) (a0_2 : Int) (l0_3 : List (S29)) (l0_4 : List Int) (l0_5 : List Int) (a0_6 : Int) (a0_7 : Int) (a0_8 : Int) (a1 : Int) : Option (Int × Option Int) := (hash_file_words.f k l0_0 a0_1 a0_2 l0_3 (IntKind.u64.wrap (a0_8 + (4 * ((a1 - a0_6) % 4294967296)))) 1).bind fun bt175 => (if bt175.2.isNone = true then (if 0 < (bt175.1.length : Int) then (some (rd bt175.1 0, none)) else (none)) else (none))
theorem hash_second_chain.mono : ∀ a0 a1 a2 a3 a4 a5 a6 a7 a8 a9 k, LeO (hash_second_chain.f k a0 a1 a2 a3 a4 a5 a6 a7 a8 a9) (hash_second_chain.f (k + 1) a0 a1 a2 a3 a4 a5 a6 a7 a8 a9) := by
 intro a0 a1 a2 a3 a4 a5 a6 a7 a8 a9 k
 unfold hash_second_chain.f
 repeat' first
   | (with_reducible exact hash_file_words.mono _ _ _ _ _ _ _)
   | (with_reducible exact LeO.refl _)
   | (with_reducible exact LeO.none _)
   | (with_reducible refine LeO.ite ?_ ?_)
   | (with_reducible refine LeO.bind ?_ (fun _ => ?_))
   | exact hash_file_words.mono _ _ _ _ _ _ _
   | exact LeO.none _
   | refine LeO.ite ?_ ?_
   | refine LeO.bind ?_ (fun _ => ?_)
set_option maxHeartbeats 8000000 in
set_option maxRecDepth 100000 in
theorem hash_second_chain.calls (k : Nat) (A0_0 : Option Addr) (c0_0 : Nat) (l0_0 : List Int) (a0_1 : Int) (a0_2 : Int) (A0_3 : Option Addr) (c0_3 : Nat) (l0_3 : List (S29)) (A0_4 : Option Addr) (c0_4 : Nat) (l0_4 : List Int) (A0_5 : Option Addr) (c0_5 : Nat) (l0_5 : List Int) (a0_6 : Int) (a0_7 : Int) (a0_8 : Int) (a1 : Int) (r1 : Int) (r2 : Option Int) (w : World) (hr0_0 : Kd.C (Kd.int .u8) w A0_0 l0_0.length l0_0) (hc0_0 : l0_0.length ≤ c0_0) (hr0_3 : Kd.C k29 w A0_3 l0_3.length l0_3) (hc0_3 : l0_3.length ≤ c0_3) (hr0_4 : Kd.C (Kd.int .u32) w A0_4 l0_4.length l0_4) (hc0_4 : l0_4.length ≤ c0_4) (hr0_5 : Kd.C (Kd.int .u32) w A0_5 l0_5.length l0_5) (hc0_5 : l0_5.length ≤ c0_5) (h : hash_second_chain.f k l0_0 a0_1 a0_2 l0_3 l0_4 l0_5 a0_6 a0_7 a0_8 a1 = some (r1, r2)) :
  Calls Try.prog 54 #[.agg #[.slice A0_0 l0_0.length c0_0, .int .i64 a0_1, .int .u64 a0_2, .slice A0_3 l0_3.length c0_3, .slice A0_4 l0_4.length c0_4, .slice A0_5 l0_5.length c0_5, .int .u32 a0_6, .int .u32 a0_7, .int .u64 a0_8], .int .u32 a1] w fun e w' => e = .returned (.tuple #[.int .u32 r1, errW r2]) ∧ Below w.heap.size w w' := by
 have hu92 := Try.underlying92
 have hu86 := Try.underlying86
 have hu41 := Try.underlying41
 have hu97 := Try.underlying97
 have HR0_0 := Aside0.mk hr0_0
 have HC0_0 := Aside0.mk hc0_0
 clear hr0_0 hc0_0
 have HR0_3 := Aside0.mk hr0_3
 have HC0_3 := Aside0.mk hc0_3
 clear hr0_3 hc0_3
 have HR0_4 := Aside0.mk hr0_4
 have HC0_4 := Aside0.mk hc0_4
 clear hr0_4 hc0_4
 have HR0_5 := Aside0.mk hr0_5
 have HC0_5 := Aside0.mk hc0_5
 clear hr0_5 hc0_5
 have HB := Aside0.mk (Below.refl w.heap.size w)
 have H : ((hash_file_words.f k l0_0 a0_1 a0_2 l0_3 (IntKind.u64.wrap (a0_8 + (4 * ((a1 - a0_6) % 4294967296)))) 1).bind fun bt175 => (if bt175.2.isNone = true then (if 0 < (bt175.1.length : Int) then (some (rd bt175.1 0, none)) else (none)) else (none))) = some (r1, r2) := h
 clear h
 replace H := Option.bind_eq_some_iff.mp H
 obtain ⟨⟨t175, t178⟩, A30, H⟩ := H
 replace H : (if t178.isNone = true then (if 0 < (t175.length : Int) then (some (rd t175 0, none)) else (none)) else (none)) = some (r1, r2) := H
 have A3 := Aside0.mk A30
 clear A30
 rcases t178 with _ | q179
 ·have H1 : (if 0 < (t175.length : Int) then (some (rd t175 0, none)) else (none)) = some (r1, r2) := by rw [if_pos (show (none : Option Int).isNone = true by rfl)] at H; exact H
  clear H
  have H := H1
  clear H1
  try simp only [errW_none, errW_some]
  by_cases c4 : 0 < (t175.length : Int)
  ·rw [if_pos c4] at H
   have c4b0 : decide (0 < (t175.length : Int)) = true := decide_eq_true c4
   have c4b1 : decide (0 < t175.length) = true := decide_eq_true (by omega)
   clear c4
   simp only [Option.some.injEq, Prod.mk.injEq] at H
   obtain ⟨rfl, rfl⟩ := H
   go_enter Try.func54, Try.ntmps54
   go_wp2_with (first | ((with_reducible refine gate_ (.load 92 (.tmp 2)) rfl ?_); refine wpList_load_row rfl 92 (.tmp 2) rfl gb174 rfl 92 _ (0, 0) _ (by (with_reducible repeat (first | refine blk_drewN ?_ _ | refine blk_drew ?_ | refine blk_alloc ?_ _)); exact BK174.out) Try.underlying92 rfl (by kernel_rfl) ?_) | ((with_reducible refine gate_dst (N := 2) rfl ?_); refine box_event ?hg (N := 2) ?hd (cs := #[.slice A0_0 l0_0.length c0_0, .int .i64 a0_1, .int .u64 a0_2, .slice A0_3 l0_3.length c0_3, .slice A0_4 l0_4.length c0_4, .slice A0_5 l0_5.length c0_5, .int .u32 a0_6, .int .u32 a0_7, .int .u64 a0_8]) (t := 92) ?hr ?_; (case hd => rfl); (case hg => rfl); (case hr => first | (go_simp; done) | (go_simp; rfl)); intro gb174 hg w5 hbox hb; have n0_ := Aside0.mk (below_step (by repeat (first | (with_reducible first | exact HB.out | apply below_alloc | apply pw_below_drewN | apply below_drew1) | exact HB.out)) hb); have n1_ := Aside0.mk (hbox); have n2_ := Aside0.mk ((by rw [hg]; exact (below_size (by repeat (first | (with_reducible first | exact HB.out | apply below_alloc | apply pw_below_drewN | apply below_drew1) | exact HB.out))) : w.heap.size ≤ gb174)); have n3_ := Aside0.mk ((by rw [hg]; exact (below_size (by repeat (first | (with_reducible first | exact HB.out | apply below_alloc | apply pw_below_drewN | apply below_drew1) | exact HB.out))) : w.heap.size ≤ gb174)); clear HB; have HB := n0_; have BK174 := n1_; have GW174 := n2_; have GE174 := n3_; clear n0_ n1_ n2_ n3_; clear hb hbox hg; have hcz6_0 : w5.cell? ⟨gb174, 0, none⟩ = some (.slice A0_0 l0_0.length c0_0) := (blk_cell BK174.out 0).trans rfl; have hcz6_1 : w5.cell? ⟨gb174, 1, none⟩ = some (.int .i64 a0_1) := (blk_cell BK174.out 1).trans rfl; have hcz6_2 : w5.cell? ⟨gb174, 2, none⟩ = some (.int .u64 a0_2) := (blk_cell BK174.out 2).trans rfl; have hcz6_3 : w5.cell? ⟨gb174, 3, none⟩ = some (.slice A0_3 l0_3.length c0_3) := (blk_cell BK174.out 3).trans rfl; have hcz6_4 : w5.cell? ⟨gb174, 4, none⟩ = some (.slice A0_4 l0_4.length c0_4) := (blk_cell BK174.out 4).trans rfl; have hcz6_5 : w5.cell? ⟨gb174, 5, none⟩ = some (.slice A0_5 l0_5.length c0_5) := (blk_cell BK174.out 5).trans rfl; have hcz6_6 : w5.cell? ⟨gb174, 6, none⟩ = some (.int .u32 a0_6) := (blk_cell BK174.out 6).trans rfl; have hcz6_7 : w5.cell? ⟨gb174, 7, none⟩ = some (.int .u32 a0_7) := (blk_cell BK174.out 7).trans rfl; have hcz6_8 : w5.cell? ⟨gb174, 8, none⟩ = some (.int .u64 a0_8) := (blk_cell BK174.out 8).trans rfl; have hfz6_0 := blk_frozen BK174.out 0; have hfz6_1 := blk_frozen BK174.out 1; have hfz6_2 := blk_frozen BK174.out 2; have hfz6_3 := blk_frozen BK174.out 3; have hfz6_4 := blk_frozen BK174.out 4; have hfz6_5 := blk_frozen BK174.out 5; have hfz6_6 := blk_frozen BK174.out 6; have hfz6_7 := blk_frozen BK174.out 7; have hfz6_8 := blk_frozen BK174.out 8) | ((with_reducible refine gate_callee (f := 52) rfl ?_); refine goesL_ (some 20) rfl rfl Try.func52 (by kernel_rfl) rfl #[.agg #[.slice A0_0 l0_0.length c0_0, .int .i64 a0_1, .int .u64 a0_2, .slice A0_3 l0_3.length c0_3], .int .u64 (IntKind.u64.wrap (a0_8 + (4 * ((a1 - a0_6) % 4294967296)))), .int .u64 1] rfl (by (try simp only [List.map_toArray, List.map_cons, List.map_nil]); first | done | rfl | (simp only [List.length_drop, List.length_take]; rfl)) ?_; (with_reducible refine (hash_file_words.calls k _ _ l0_0 a0_1 a0_2 _ _ l0_3 (IntKind.u64.wrap (a0_8 + (4 * ((a1 - a0_6) % 4294967296)))) 1 t175 none _ ?side1 ?side2 ?side3 ?side4 A3.out).mono ?_); (case side1 => repeat (first | exact (Kd.C_below HR0_0.out HB.out) | (with_reducible refine Kd.C_alloc ?_ _) | (with_reducible refine Kd.C_drewN ?_ _) | (with_reducible refine Kd.C_drew ?_))); (case side2 => exact HC0_0.out); (case side3 => repeat (first | exact (Kd.C_below HR0_3.out HB.out) | (with_reducible refine Kd.C_alloc ?_ _) | (with_reducible refine Kd.C_drewN ?_ _) | (with_reducible refine Kd.C_drew ?_))); (case side4 => exact HC0_3.out); rintro e w7 ⟨v176, rfl, ho0, hb⟩; refine ⟨_, rfl, ?_⟩; have n0_ := Aside0.mk (Kd.V_lower (Kd.V_mono (ok' := fun k_ => k_ ≠ gb174) ho0 (fun k_ hk_ => (Kd.freshB (g := gb174) (o := .cells #[.slice A0_0 l0_0.length c0_0, .int .i64 a0_1, .int .u64 a0_2, .slice A0_3 l0_3.length c0_3, .slice A0_4 l0_4.length c0_4, .slice A0_5 l0_5.length c0_5, .int .u32 a0_6, .int .u32 a0_7, .int .u64 a0_8] 92 (0, 0)) (by (with_reducible repeat (first | refine blk_drewN ?_ _ | refine blk_drew ?_ | refine blk_alloc ?_ _)); exact BK174.out) k_ hk_))) (below_size (by repeat (first | (with_reducible first | exact HB.out | apply below_alloc | apply pw_below_drewN | apply below_drew1 | refine below_set ?_ GE174.out) | exact HB.out)))); have n1_ := Aside0.mk (blk_below (g := gb174) (o := .cells #[.slice A0_0 l0_0.length c0_0, .int .i64 a0_1, .int .u64 a0_2, .slice A0_3 l0_3.length c0_3, .slice A0_4 l0_4.length c0_4, .slice A0_5 l0_5.length c0_5, .int .u32 a0_6, .int .u32 a0_7, .int .u64 a0_8] 92 (0, 0)) (by (with_reducible repeat (first | refine blk_drewN ?_ _ | refine blk_drew ?_ | refine blk_alloc ?_ _)); exact BK174.out) hb); have n2_ := Aside0.mk (below_step (by repeat (first | (with_reducible first | exact HB.out | apply below_alloc | apply pw_below_drewN | apply below_drew1 | refine below_set ?_ GE174.out) | exact HB.out)) hb); clear BK174; clear HB; have HO177 := n0_; have BK174 := n1_; have HB := n2_; clear n0_ n1_ n2_; (try clear hb); (try clear hb2); (try clear hk); (try clear hi); (try clear ho0); (try simp only [errW_none, errW_some]); obtain ⟨Ao8, co8, eo8⟩ := Kd.V_slice HO177.out; subst eo8; have p180 : 0 ≤ (0 : Int) := (by omega); have q180 : 0 < (t175.length : Int) := of_decide_eq_true (by assumption); obtain ⟨ad180, e180, hx180_0⟩ := Kd.at_int (Kd.V_reads' HO177.out).2.2 0 p180 q180; cases e180; have qi180 : (0 < t175.length) = True := eq_true (by omega); (try rw [show ((0 : Int)).toNat = 0 from rfl] at hx180_0); (try rw [Addr.add_zero'] at hx180_0); replace p180 := eq_true p180; replace q180 := eq_true q180))
   go_ret2
   exact ⟨by first | rfl | (simp [errW_none, errW_some] <;> rfl) | (simp [*, errW_none, errW_some] <;> rfl), by repeat (first | (with_reducible first | exact HB.out | apply below_alloc | apply pw_below_drewN | apply below_drew1 | refine below_set ?_ GE174.out) | exact HB.out)⟩
  ·rw [if_neg c4] at H
   exact absurd H (by simp)
 ·have H1 : (none) = some (r1, r2) := by rw [if_neg (show ¬ (some q179).isNone = true by simp)] at H; exact H
  clear H
  have H := H1
  clear H1
  try simp only [errW_none, errW_some]
  exact absurd H (by simp)

/-! ### hash_second_count: function 32 -/
mutual
def hash_second_count.l0 : Nat → Int → List Int → Int → Int → List Int → Int → Int → List (S29) → List Int → List Int → Int → Int → Int → Option (Int × Option Int)
 | 0, _, _, _, _, _, _, _, _, _, _, _, _, _ => none
 | k + 1, x4, x11, x12, x13, x182000, x182001, x182002, x182003, x182004, x182005, x182006, x182007, x182008 => if x13 < x12 then (if 0 ≤ x13 then (if x13 < (x11.length : Int) then (hash_second_count.l0 k (mx x4 (rd x11 x13)) x11 x12 (wrap64 (x13 + 1)) x182000 x182001 x182002 x182003 x182004 x182005 x182006 x182007 x182008) else (none)) else (none)) else (if x4 = 0 then (some (wrap64 (x182006), none)) else (hash_second_count.l1 k x4 x182000 x182001 x182002 x182003 x182004 x182005 x182006 x182007 x182008))
def hash_second_count.l1 : Nat → Int → List Int → Int → Int → List (S29) → List Int → List Int → Int → Int → Int → Option (Int × Option Int)
 | 0, _, _, _, _, _, _, _, _, _, _ => none
 | k + 1, x7, x182000, x182001, x182002, x182003, x182004, x182005, x182006, x182007, x182008 => if x7 ≥ 4096 then (none) else ((hash_second_chain.f k x182000 x182001 x182002 x182003 x182004 x182005 x182006 x182007 x182008 x7).bind fun bt183 => (if bt183.2.isNone = true then (if (Go.bits .and .u32 bt183.1 1) = 1 then (some (wrap64 ((wrap64 (x7)) + 1), none)) else (hash_second_count.l1 k ((x7 + 1) % 4294967296) x182000 x182001 x182002 x182003 x182004 x182005 x182006 x182007 x182008)) else (none)))
end
def hash_second_count.f (k : Nat) (l0_0 : List Int) (a0_1 : Int) (a0_2 : Int) (l0_3 : List (S29)) (l0_4 : List Int) (l0_5 : List Int) (a0_6 : Int) (a0_7 : Int) (a0_8 : Int) : Option (Int × Option Int) := hash_second_count.l0 k 0 l0_5 (l0_5.length : Int) 0 l0_0 a0_1 a0_2 l0_3 l0_4 l0_5 a0_6 a0_7 a0_8
theorem hash_second_count.mono_l : ∀ k, (∀ y0 y1 y2 y3 y4 y5 y6 y7 y8 y9 y10 y11 y12, LeO (hash_second_count.l0 k y0 y1 y2 y3 y4 y5 y6 y7 y8 y9 y10 y11 y12) (hash_second_count.l0 (k + 1) y0 y1 y2 y3 y4 y5 y6 y7 y8 y9 y10 y11 y12)) ∧ (∀ y0 y1 y2 y3 y4 y5 y6 y7 y8 y9, LeO (hash_second_count.l1 k y0 y1 y2 y3 y4 y5 y6 y7 y8 y9) (hash_second_count.l1 (k + 1) y0 y1 y2 y3 y4 y5 y6 y7 y8 y9))
 | 0 => ⟨fun _ _ _ _ _ _ _ _ _ _ _ _ _ r h => by simp [hash_second_count.l0] at h, fun _ _ _ _ _ _ _ _ _ _ r h => by simp [hash_second_count.l1] at h⟩
 | k + 1 => by
  obtain ⟨ih0, ih1⟩ := hash_second_count.mono_l k
  refine ⟨?_, ?_⟩
  ·intro y0 y1 y2 y3 y4 y5 y6 y7 y8 y9 y10 y11 y12
   unfold hash_second_count.l0
   repeat' first
   | (with_reducible exact ih0 _ _ _ _ _ _ _ _ _ _ _ _ _)
   | (with_reducible exact ih1 _ _ _ _ _ _ _ _ _ _)
   | (with_reducible exact hash_second_chain.mono _ _ _ _ _ _ _ _ _ _ _)
   | (with_reducible exact LeO.refl _)
   | (with_reducible exact LeO.none _)
   | (with_reducible refine LeO.ite ?_ ?_)
   | (with_reducible refine LeO.bind ?_ (fun _ => ?_))
   | exact ih0 _ _ _ _ _ _ _ _ _ _ _ _ _
   | exact ih1 _ _ _ _ _ _ _ _ _ _
   | exact hash_second_chain.mono _ _ _ _ _ _ _ _ _ _ _
   | exact LeO.none _
   | refine LeO.ite ?_ ?_
   | refine LeO.bind ?_ (fun _ => ?_)
  ·intro y0 y1 y2 y3 y4 y5 y6 y7 y8 y9
   unfold hash_second_count.l1
   repeat' first
   | (with_reducible exact ih0 _ _ _ _ _ _ _ _ _ _ _ _ _)
   | (with_reducible exact ih1 _ _ _ _ _ _ _ _ _ _)
   | (with_reducible exact hash_second_chain.mono _ _ _ _ _ _ _ _ _ _ _)
   | (with_reducible exact LeO.refl _)
   | (with_reducible exact LeO.none _)
   | (with_reducible refine LeO.ite ?_ ?_)
   | (with_reducible refine LeO.bind ?_ (fun _ => ?_))
   | exact ih0 _ _ _ _ _ _ _ _ _ _ _ _ _
   | exact ih1 _ _ _ _ _ _ _ _ _ _
   | exact hash_second_chain.mono _ _ _ _ _ _ _ _ _ _ _
   | exact LeO.none _
   | refine LeO.ite ?_ ?_
   | refine LeO.bind ?_ (fun _ => ?_)
theorem hash_second_count.mono : ∀ a0 a1 a2 a3 a4 a5 a6 a7 a8 k, LeO (hash_second_count.f k a0 a1 a2 a3 a4 a5 a6 a7 a8) (hash_second_count.f (k + 1) a0 a1 a2 a3 a4 a5 a6 a7 a8) := by
 intro a0 a1 a2 a3 a4 a5 a6 a7 a8 k
 obtain ⟨ih0, ih1⟩ := hash_second_count.mono_l k
 unfold hash_second_count.f
 repeat' first
   | (with_reducible exact ih0 _ _ _ _ _ _ _ _ _ _ _ _ _)
   | (with_reducible exact ih1 _ _ _ _ _ _ _ _ _ _)
   | (with_reducible exact hash_second_chain.mono _ _ _ _ _ _ _ _ _ _ _)
   | (with_reducible exact LeO.refl _)
   | (with_reducible exact LeO.none _)
   | (with_reducible refine LeO.ite ?_ ?_)
   | (with_reducible refine LeO.bind ?_ (fun _ => ?_))
   | exact ih0 _ _ _ _ _ _ _ _ _ _ _ _ _
   | exact ih1 _ _ _ _ _ _ _ _ _ _
   | exact hash_second_chain.mono _ _ _ _ _ _ _ _ _ _ _
   | exact LeO.none _
   | refine LeO.ite ?_ ?_
   | refine LeO.bind ?_ (fun _ => ?_)
set_option maxHeartbeats 8000000 in
set_option maxRecDepth 100000 in
theorem hash_second_count.calls (k : Nat) (A0_0 : Option Addr) (c0_0 : Nat) (l0_0 : List Int) (a0_1 : Int) (a0_2 : Int) (A0_3 : Option Addr) (c0_3 : Nat) (l0_3 : List (S29)) (A0_4 : Option Addr) (c0_4 : Nat) (l0_4 : List Int) (A0_5 : Option Addr) (c0_5 : Nat) (l0_5 : List Int) (a0_6 : Int) (a0_7 : Int) (a0_8 : Int) (r1 : Int) (r2 : Option Int) (w : World) (hr0_0 : Kd.C (Kd.int .u8) w A0_0 l0_0.length l0_0) (hc0_0 : l0_0.length ≤ c0_0) (hr0_3 : Kd.C k29 w A0_3 l0_3.length l0_3) (hc0_3 : l0_3.length ≤ c0_3) (hr0_4 : Kd.C (Kd.int .u32) w A0_4 l0_4.length l0_4) (hc0_4 : l0_4.length ≤ c0_4) (hr0_5 : Kd.C (Kd.int .u32) w A0_5 l0_5.length l0_5) (hc0_5 : l0_5.length ≤ c0_5) (h : hash_second_count.f k l0_0 a0_1 a0_2 l0_3 l0_4 l0_5 a0_6 a0_7 a0_8 = some (r1, r2)) :
  Calls Try.prog 32 #[.agg #[.slice A0_0 l0_0.length c0_0, .int .i64 a0_1, .int .u64 a0_2, .slice A0_3 l0_3.length c0_3, .slice A0_4 l0_4.length c0_4, .slice A0_5 l0_5.length c0_5, .int .u32 a0_6, .int .u32 a0_7, .int .u64 a0_8]] w fun e w' => e = .returned (.tuple #[.int .i64 r1, errW r2]) ∧ Below w.heap.size w w' := by
 have hu92 := Try.underlying92
 have hu41 := Try.underlying41
 have hu97 := Try.underlying97
 have HR0_0 := Aside0.mk hr0_0
 have HC0_0 := Aside0.mk hc0_0
 clear hr0_0 hc0_0
 have HR0_3 := Aside0.mk hr0_3
 have HC0_3 := Aside0.mk hc0_3
 clear hr0_3 hc0_3
 have HR0_4 := Aside0.mk hr0_4
 have HC0_4 := Aside0.mk hc0_4
 clear hr0_4 hc0_4
 have HR0_5 := Aside0.mk hr0_5
 have HC0_5 := Aside0.mk hc0_5
 clear hr0_5 hc0_5
 have HB := Aside0.mk (Below.refl w.heap.size w)
 have H : (hash_second_count.l0 k 0 l0_5 (l0_5.length : Int) 0 l0_0 a0_1 a0_2 l0_3 l0_4 l0_5 a0_6 a0_7 a0_8) = some (r1, r2) := h
 clear h
 have H' := Aside0.mk H
 clear H
 go_enter Try.func32, Try.ntmps32
 go_wp2_with (first | ((with_reducible refine gate_ (.load 92 (.tmp 1)) rfl ?_); refine wpList_load_row rfl 92 (.tmp 1) rfl gb181 rfl 92 _ (0, 0) _ (by (with_reducible repeat (first | refine blk_drewN ?_ _ | refine blk_drew ?_ | refine blk_alloc ?_ _)); exact BK181.out) Try.underlying92 rfl (by kernel_rfl) ?_) | ((with_reducible refine gate_dst (N := 1) rfl ?_); refine box_event ?hg (N := 1) ?hd (cs := #[.slice A0_0 l0_0.length c0_0, .int .i64 a0_1, .int .u64 a0_2, .slice A0_3 l0_3.length c0_3, .slice A0_4 l0_4.length c0_4, .slice A0_5 l0_5.length c0_5, .int .u32 a0_6, .int .u32 a0_7, .int .u64 a0_8]) (t := 92) ?hr ?_; (case hd => rfl); (case hg => rfl); (case hr => first | (go_simp; done) | (go_simp; rfl)); intro gb181 hg w2 hbox hb; have n0_ := Aside0.mk (below_step (by repeat (first | (with_reducible first | exact HB.out | apply below_alloc | apply pw_below_drewN | apply below_drew1) | exact HB.out)) hb); have n1_ := Aside0.mk (hbox); have n2_ := Aside0.mk ((by rw [hg]; exact (below_size (by repeat (first | (with_reducible first | exact HB.out | apply below_alloc | apply pw_below_drewN | apply below_drew1) | exact HB.out))) : w.heap.size ≤ gb181)); have n3_ := Aside0.mk ((by rw [hg]; exact (below_size (by repeat (first | (with_reducible first | exact HB.out | apply below_alloc | apply pw_below_drewN | apply below_drew1) | exact HB.out))) : w.heap.size ≤ gb181)); clear HB; have HB := n0_; have BK181 := n1_; have GW181 := n2_; have GE181 := n3_; clear n0_ n1_ n2_ n3_; clear hb hbox hg; have hcz3_0 : w2.cell? ⟨gb181, 0, none⟩ = some (.slice A0_0 l0_0.length c0_0) := (blk_cell BK181.out 0).trans rfl; have hcz3_1 : w2.cell? ⟨gb181, 1, none⟩ = some (.int .i64 a0_1) := (blk_cell BK181.out 1).trans rfl; have hcz3_2 : w2.cell? ⟨gb181, 2, none⟩ = some (.int .u64 a0_2) := (blk_cell BK181.out 2).trans rfl; have hcz3_3 : w2.cell? ⟨gb181, 3, none⟩ = some (.slice A0_3 l0_3.length c0_3) := (blk_cell BK181.out 3).trans rfl; have hcz3_4 : w2.cell? ⟨gb181, 4, none⟩ = some (.slice A0_4 l0_4.length c0_4) := (blk_cell BK181.out 4).trans rfl; have hcz3_5 : w2.cell? ⟨gb181, 5, none⟩ = some (.slice A0_5 l0_5.length c0_5) := (blk_cell BK181.out 5).trans rfl; have hcz3_6 : w2.cell? ⟨gb181, 6, none⟩ = some (.int .u32 a0_6) := (blk_cell BK181.out 6).trans rfl; have hcz3_7 : w2.cell? ⟨gb181, 7, none⟩ = some (.int .u32 a0_7) := (blk_cell BK181.out 7).trans rfl; have hcz3_8 : w2.cell? ⟨gb181, 8, none⟩ = some (.int .u64 a0_8) := (blk_cell BK181.out 8).trans rfl; have hfz3_0 := blk_frozen BK181.out 0; have hfz3_1 := blk_frozen BK181.out 1; have hfz3_2 := blk_frozen BK181.out 2; have hfz3_3 := blk_frozen BK181.out 3; have hfz3_4 := blk_frozen BK181.out 4; have hfz3_5 := blk_frozen BK181.out 5; have hfz3_6 := blk_frozen BK181.out 6; have hfz3_7 := blk_frozen BK181.out 7; have hfz3_8 := blk_frozen BK181.out 8))
 go_loopg [4, 13] k (fun kq v4 v13 w' => ∃ (x4_1 : Int) (x13_1 : Int), v4 = .int .u32 x4_1 ∧ v13 = .int .i64 x13_1 ∧ Aside0 (hash_second_count.l0 kq x4_1 l0_5 (l0_5.length : Int) x13_1 l0_0 a0_1 a0_2 l0_3 l0_4 l0_5 a0_6 a0_7 a0_8 = some (r1, r2)) ∧ Aside0 (kq ≤ k) ∧ Aside0 (w'.heap[gb181]? = some (.cells #[(.slice A0_0 l0_0.length c0_0), .int .i64 a0_1, .int .u64 a0_2, (.slice A0_3 l0_3.length c0_3), (.slice A0_4 l0_4.length c0_4), (.slice A0_5 l0_5.length c0_5), .int .u32 a0_6, .int .u32 a0_7, .int .u64 a0_8] 92 (0, 0))) ∧ Aside0 (Below w.heap.size w w'))
 case atStart => exact ⟨(0), (0), (by first | rfl | (simp; done) | (simp [*]; done)), (by first | rfl | (simp; done) | (simp [*]; done)), H', ⟨Nat.le_refl _⟩, ⟨by (with_reducible repeat (first | refine blk_drewN ?_ _ | refine blk_drew ?_ | refine blk_alloc ?_ _)); exact BK181.out⟩, ⟨by repeat (first | (with_reducible first | exact HB.out | apply below_alloc | apply pw_below_drewN | apply below_drew1 | refine below_set ?_ GE181.out) | exact HB.out)⟩⟩
 case round =>
  clear H'
  try clear p2
  try clear c3
  try clear hcz3_0
  try clear hcz3_1
  try clear hcz3_2
  try clear hcz3_3
  try clear hcz3_4
  try clear hcz3_5
  try clear hcz3_6
  try clear hcz3_7
  try clear hcz3_8
  try clear hfz3_0
  try clear hfz3_1
  try clear hfz3_2
  try clear hfz3_3
  try clear hfz3_4
  try clear hfz3_5
  try clear hfz3_6
  try clear hfz3_7
  try clear hfz3_8
  obtain ⟨x4_1, x13_1, rfl, rfl, HA, HK1, BK181, HB⟩ := hrel
  cases gk with
  | zero => exact absurd HA.out (by simp [hash_second_count.l0])
  | succ k1 =>
   have H := HA.out
   clear HA
   simp only [hash_second_count.l0] at H
   by_cases c4 : x13_1 < (l0_5.length : Int)
   ·rw [if_pos c4] at H
    have c4b0 : decide (x13_1 < (l0_5.length : Int)) = true := decide_eq_true c4
    clear c4
    by_cases c5 : 0 ≤ x13_1
    ·rw [if_pos c5] at H
     have c5b0 : decide (0 ≤ x13_1) = true := decide_eq_true c5
     clear c5
     by_cases c6 : x13_1 < (l0_5.length : Int)
     ·rw [if_pos c6] at H
      have c6b0 : decide (x13_1 < (l0_5.length : Int)) = true := decide_eq_true c6
      clear c6
      obtain ⟨ji7, hji7⟩ : ∃ j_ : Int, (mx x4_1 (rd l0_5 x13_1)) = j_ := ⟨_, rfl⟩
      replace H : (hash_second_count.l0 k1 ji7 l0_5 (l0_5.length : Int) (wrap64 (x13_1 + 1)) l0_0 a0_1 a0_2 l0_3 l0_4 l0_5 a0_6 a0_7 a0_8) = some (r1, r2) := by first | (rw [hji7] at H; exact H) | (simp only [hji7] at H ⊢; exact H)
      have hji7_ : (if x4_1 < (rd l0_5 x13_1) then (rd l0_5 x13_1) else x4_1) = ji7 := hji7
      have H' := Aside0.mk H
      clear H
      have p182 : 0 ≤ (x13_1 : Int) := of_decide_eq_true (by assumption)
      have q182 : x13_1 < (l0_5.length : Int) := of_decide_eq_true (by assumption)
      obtain ⟨ad182, e182, hx182_0⟩ := Kd.at_int HR0_5.out x13_1 p182 q182
      cases e182
      replace hx182_0 := (HB.out.cell (World.block_lt_of_cell? w _ hx182_0)).trans hx182_0
      replace p182 := eq_true p182
      replace q182 := eq_true q182
      go_wp2
      go_roundg k1
      case measure => have := HK1.out; omega
      case rel => exact ⟨(ji7), (wrap64 (x13_1 + 1)), (by first | rfl | (simp; done) | (simp only [← hji7] <;> (first | rfl | simp)) | (simp [*]; done)), (by first | rfl | (simp; done) | (simp [*]; done)), H', ⟨by have := HK1.out; omega⟩, ⟨by (with_reducible repeat (first | refine blk_drewN ?_ _ | refine blk_drew ?_ | refine blk_alloc ?_ _)); exact BK181.out⟩, ⟨by repeat (first | (with_reducible first | exact HB.out | apply below_alloc | apply pw_below_drewN | apply below_drew1 | refine below_set ?_ GE181.out) | exact HB.out)⟩⟩
     ·rw [if_neg c6] at H
      exact absurd H (by simp)
    ·rw [if_neg c5] at H
     exact absurd H (by simp)
   ·rw [if_neg c4] at H
    have c4b0 : decide (x13_1 < (l0_5.length : Int)) = false := decide_eq_false c4
    clear c4
    by_cases c8 : x4_1 = 0
    ·rw [if_pos c8] at H
     have c8b0 : (x4_1 == 0) = true := beq_iff_eq.mpr c8
     have c8b1 : (x4_1 != 0) = false := bne_eq_false_iff_eq.mpr c8
     clear c8
     simp only [Option.some.injEq, Prod.mk.injEq] at H
     obtain ⟨rfl, rfl⟩ := H
     have hcz9_0 : wr.cell? ⟨gb181, 0, none⟩ = some (.slice A0_0 l0_0.length c0_0) := (blk_cell BK181.out 0).trans rfl
     have hcz9_1 : wr.cell? ⟨gb181, 1, none⟩ = some (.int .i64 a0_1) := (blk_cell BK181.out 1).trans rfl
     have hcz9_2 : wr.cell? ⟨gb181, 2, none⟩ = some (.int .u64 a0_2) := (blk_cell BK181.out 2).trans rfl
     have hcz9_3 : wr.cell? ⟨gb181, 3, none⟩ = some (.slice A0_3 l0_3.length c0_3) := (blk_cell BK181.out 3).trans rfl
     have hcz9_4 : wr.cell? ⟨gb181, 4, none⟩ = some (.slice A0_4 l0_4.length c0_4) := (blk_cell BK181.out 4).trans rfl
     have hcz9_5 : wr.cell? ⟨gb181, 5, none⟩ = some (.slice A0_5 l0_5.length c0_5) := (blk_cell BK181.out 5).trans rfl
     have hcz9_6 : wr.cell? ⟨gb181, 6, none⟩ = some (.int .u32 a0_6) := (blk_cell BK181.out 6).trans rfl
     have hcz9_7 : wr.cell? ⟨gb181, 7, none⟩ = some (.int .u32 a0_7) := (blk_cell BK181.out 7).trans rfl
     have hcz9_8 : wr.cell? ⟨gb181, 8, none⟩ = some (.int .u64 a0_8) := (blk_cell BK181.out 8).trans rfl
     have hfz9_0 := blk_frozen BK181.out 0
     have hfz9_1 := blk_frozen BK181.out 1
     have hfz9_2 := blk_frozen BK181.out 2
     have hfz9_3 := blk_frozen BK181.out 3
     have hfz9_4 := blk_frozen BK181.out 4
     have hfz9_5 := blk_frozen BK181.out 5
     have hfz9_6 := blk_frozen BK181.out 6
     have hfz9_7 := blk_frozen BK181.out 7
     have hfz9_8 := blk_frozen BK181.out 8
     go_wp2
     go_ret2
     exact ⟨by first | rfl | (simp [errW_none, errW_some] <;> rfl) | (simp [*, errW_none, errW_some] <;> rfl), by repeat (first | (with_reducible first | exact HB.out | apply below_alloc | apply pw_below_drewN | apply below_drew1 | refine below_set ?_ GE181.out) | exact HB.out)⟩
    ·rw [if_neg c8] at H
     have c8b0 : (x4_1 == 0) = false := beq_eq_false_iff_ne.mpr c8
     have c8b1 : (x4_1 != 0) = true := bne_iff_ne.mpr c8
     have H' := Aside0.mk H
     clear H
     go_wp2
     go_loopg [7] k1 (fun kq v7 w' => ∃ (x7_2 : Int), v7 = .int .u32 x7_2 ∧ Aside0 (hash_second_count.l1 kq x7_2 l0_0 a0_1 a0_2 l0_3 l0_4 l0_5 a0_6 a0_7 a0_8 = some (r1, r2)) ∧ Aside0 (kq ≤ k1) ∧ Aside0 (w'.heap[gb181]? = some (.cells #[(.slice A0_0 l0_0.length c0_0), .int .i64 a0_1, .int .u64 a0_2, (.slice A0_3 l0_3.length c0_3), (.slice A0_4 l0_4.length c0_4), (.slice A0_5 l0_5.length c0_5), .int .u32 a0_6, .int .u32 a0_7, .int .u64 a0_8] 92 (0, 0))) ∧ Aside0 (Below w.heap.size w w'))
     case atStart => exact ⟨(x4_1), (by first | rfl | (simp; done) | (simp [*]; done)), H', ⟨Nat.le_refl _⟩, ⟨by (with_reducible repeat (first | refine blk_drewN ?_ _ | refine blk_drew ?_ | refine blk_alloc ?_ _)); exact BK181.out⟩, ⟨by repeat (first | (with_reducible first | exact HB.out | apply below_alloc | apply pw_below_drewN | apply below_drew1 | refine below_set ?_ GE181.out) | exact HB.out)⟩⟩
     case round =>
      clear H'
      try clear p1
      try clear q1
      try clear hx1
      try clear p2
      try clear c3
      try clear c4
      try clear c4b0
      try clear c5
      try clear c5b0
      try clear c6
      try clear c6b0
      try clear p6
      try clear c8
      try clear c8b0
      try clear c8b1
      try clear hcz3_0
      try clear hcz3_1
      try clear hcz3_2
      try clear hcz3_3
      try clear hcz3_4
      try clear hcz3_5
      try clear hcz3_6
      try clear hcz3_7
      try clear hcz3_8
      try clear hcz9_0
      try clear hcz9_1
      try clear hcz9_2
      try clear hcz9_3
      try clear hcz9_4
      try clear hcz9_5
      try clear hcz9_6
      try clear hcz9_7
      try clear hcz9_8
      try clear hfz3_0
      try clear hfz3_1
      try clear hfz3_2
      try clear hfz3_3
      try clear hfz3_4
      try clear hfz3_5
      try clear hfz3_6
      try clear hfz3_7
      try clear hfz3_8
      try clear hfz9_0
      try clear hfz9_1
      try clear hfz9_2
      try clear hfz9_3
      try clear hfz9_4
      try clear hfz9_5
      try clear hfz9_6
      try clear hfz9_7
      try clear hfz9_8
      try clear hx182_0
      try clear p182
      try clear p2
      try clear q182
      obtain ⟨x7_2, rfl, HA, HK2, BK181, HB⟩ := hrel
      cases gk with
      | zero => exact absurd HA.out (by simp [hash_second_count.l1])
      | succ k2 =>
       have H := HA.out
       clear HA
       simp only [hash_second_count.l1] at H
       by_cases c10 : x7_2 ≥ 4096
       ·rw [if_pos c10] at H
        exact absurd H (by simp)
       ·rw [if_neg c10] at H
        have c10b0 : decide (4096 ≤ x7_2) = false := decide_eq_false c10
        clear c10
        replace H := Option.bind_eq_some_iff.mp H
        obtain ⟨⟨t183, t184⟩, A110, H⟩ := H
        replace H : (if t184.isNone = true then (if (Go.bits .and .u32 t183 1) = 1 then (some (wrap64 ((wrap64 (x7_2)) + 1), none)) else (hash_second_count.l1 k2 ((x7_2 + 1) % 4294967296) l0_0 a0_1 a0_2 l0_3 l0_4 l0_5 a0_6 a0_7 a0_8)) else (none)) = some (r1, r2) := H
        have A11 := Aside0.mk A110
        clear A110
        rcases t184 with _ | q185
        ·have H1 : (if (Go.bits .and .u32 t183 1) = 1 then (some (wrap64 ((wrap64 (x7_2)) + 1), none)) else (hash_second_count.l1 k2 ((x7_2 + 1) % 4294967296) l0_0 a0_1 a0_2 l0_3 l0_4 l0_5 a0_6 a0_7 a0_8)) = some (r1, r2) := by rw [if_pos (show (none : Option Int).isNone = true by rfl)] at H; exact H
         clear H
         have H := H1
         clear H1
         try simp only [errW_none, errW_some]
         by_cases c12 : (Go.bits .and .u32 t183 1) = 1
         ·rw [if_pos c12] at H
          have c12b0 : ((Go.bits .and .u32 t183 1) == 1) = true := beq_iff_eq.mpr c12
          have c12b1 : ((Go.bits .and .u32 t183 1) != 1) = false := bne_eq_false_iff_eq.mpr c12
          clear c12
          simp only [Option.some.injEq, Prod.mk.injEq] at H
          obtain ⟨rfl, rfl⟩ := H
          have hcz13_0 : wr.cell? ⟨gb181, 0, none⟩ = some (.slice A0_0 l0_0.length c0_0) := (blk_cell BK181.out 0).trans rfl
          have hcz13_1 : wr.cell? ⟨gb181, 1, none⟩ = some (.int .i64 a0_1) := (blk_cell BK181.out 1).trans rfl
          have hcz13_2 : wr.cell? ⟨gb181, 2, none⟩ = some (.int .u64 a0_2) := (blk_cell BK181.out 2).trans rfl
          have hcz13_3 : wr.cell? ⟨gb181, 3, none⟩ = some (.slice A0_3 l0_3.length c0_3) := (blk_cell BK181.out 3).trans rfl
          have hcz13_4 : wr.cell? ⟨gb181, 4, none⟩ = some (.slice A0_4 l0_4.length c0_4) := (blk_cell BK181.out 4).trans rfl
          have hcz13_5 : wr.cell? ⟨gb181, 5, none⟩ = some (.slice A0_5 l0_5.length c0_5) := (blk_cell BK181.out 5).trans rfl
          have hcz13_6 : wr.cell? ⟨gb181, 6, none⟩ = some (.int .u32 a0_6) := (blk_cell BK181.out 6).trans rfl
          have hcz13_7 : wr.cell? ⟨gb181, 7, none⟩ = some (.int .u32 a0_7) := (blk_cell BK181.out 7).trans rfl
          have hcz13_8 : wr.cell? ⟨gb181, 8, none⟩ = some (.int .u64 a0_8) := (blk_cell BK181.out 8).trans rfl
          have hfz13_0 := blk_frozen BK181.out 0
          have hfz13_1 := blk_frozen BK181.out 1
          have hfz13_2 := blk_frozen BK181.out 2
          have hfz13_3 := blk_frozen BK181.out 3
          have hfz13_4 := blk_frozen BK181.out 4
          have hfz13_5 := blk_frozen BK181.out 5
          have hfz13_6 := blk_frozen BK181.out 6
          have hfz13_7 := blk_frozen BK181.out 7
          have hfz13_8 := blk_frozen BK181.out 8
          go_wp2_with (first | ((with_reducible refine gate_ (.load 92 (.tmp 1)) rfl ?_); refine wpList_load_row rfl 92 (.tmp 1) rfl gb181 rfl 92 _ (0, 0) _ (by (with_reducible repeat (first | refine blk_drewN ?_ _ | refine blk_drew ?_ | refine blk_alloc ?_ _)); exact BK181.out) Try.underlying92 rfl (by kernel_rfl) ?_) | ((with_reducible refine gate_callee (f := 54) rfl ?_); refine goesL_ (some 35) rfl rfl Try.func54 (by kernel_rfl) rfl #[.agg #[.slice A0_0 l0_0.length c0_0, .int .i64 a0_1, .int .u64 a0_2, .slice A0_3 l0_3.length c0_3, .slice A0_4 l0_4.length c0_4, .slice A0_5 l0_5.length c0_5, .int .u32 a0_6, .int .u32 a0_7, .int .u64 a0_8], .int .u32 x7_2] rfl (by (try simp only [List.map_toArray, List.map_cons, List.map_nil]); first | done | rfl | (simp only [List.length_drop, List.length_take]; rfl)) ?_; (with_reducible refine (hash_second_chain.calls k2 _ _ l0_0 a0_1 a0_2 _ _ l0_3 _ _ l0_4 _ _ l0_5 a0_6 a0_7 a0_8 x7_2 t183 none _ ?side1 ?side2 ?side3 ?side4 ?side5 ?side6 ?side7 ?side8 A11.out).mono ?_); (case side1 => repeat (first | exact (Kd.C_below HR0_0.out HB.out) | (with_reducible refine Kd.C_alloc ?_ _) | (with_reducible refine Kd.C_drewN ?_ _) | (with_reducible refine Kd.C_drew ?_))); (case side2 => exact HC0_0.out); (case side3 => repeat (first | exact (Kd.C_below HR0_3.out HB.out) | (with_reducible refine Kd.C_alloc ?_ _) | (with_reducible refine Kd.C_drewN ?_ _) | (with_reducible refine Kd.C_drew ?_))); (case side4 => exact HC0_3.out); (case side5 => repeat (first | exact (Kd.C_below HR0_4.out HB.out) | (with_reducible refine Kd.C_alloc ?_ _) | (with_reducible refine Kd.C_drewN ?_ _) | (with_reducible refine Kd.C_drew ?_))); (case side6 => exact HC0_4.out); (case side7 => repeat (first | exact (Kd.C_below HR0_5.out HB.out) | (with_reducible refine Kd.C_alloc ?_ _) | (with_reducible refine Kd.C_drewN ?_ _) | (with_reducible refine Kd.C_drew ?_))); (case side8 => exact HC0_5.out); rintro e w14 ⟨rfl, hb⟩; refine ⟨_, rfl, ?_⟩; have n0_ := Aside0.mk (blk_below (g := gb181) (o := .cells #[.slice A0_0 l0_0.length c0_0, .int .i64 a0_1, .int .u64 a0_2, .slice A0_3 l0_3.length c0_3, .slice A0_4 l0_4.length c0_4, .slice A0_5 l0_5.length c0_5, .int .u32 a0_6, .int .u32 a0_7, .int .u64 a0_8] 92 (0, 0)) (by (with_reducible repeat (first | refine blk_drewN ?_ _ | refine blk_drew ?_ | refine blk_alloc ?_ _)); exact BK181.out) hb); have n1_ := Aside0.mk (below_step (by repeat (first | (with_reducible first | exact HB.out | apply below_alloc | apply pw_below_drewN | apply below_drew1 | refine below_set ?_ GE181.out) | exact HB.out)) hb); clear BK181; clear HB; have BK181 := n0_; have HB := n1_; clear n0_ n1_; (try clear hb); (try clear hb2); (try clear hk); (try clear hi); (try simp only [errW_none, errW_some])))
          go_ret2
          exact ⟨by first | rfl | (simp [errW_none, errW_some] <;> rfl) | (simp [*, errW_none, errW_some] <;> rfl), by repeat (first | (with_reducible first | exact HB.out | apply below_alloc | apply pw_below_drewN | apply below_drew1 | refine below_set ?_ GE181.out) | exact HB.out)⟩
         ·rw [if_neg c12] at H
          have c12b0 : ((Go.bits .and .u32 t183 1) == 1) = false := beq_eq_false_iff_ne.mpr c12
          have c12b1 : ((Go.bits .and .u32 t183 1) != 1) = true := bne_iff_ne.mpr c12
          have H' := Aside0.mk H
          clear H
          have hcz15_0 : wr.cell? ⟨gb181, 0, none⟩ = some (.slice A0_0 l0_0.length c0_0) := (blk_cell BK181.out 0).trans rfl
          have hcz15_1 : wr.cell? ⟨gb181, 1, none⟩ = some (.int .i64 a0_1) := (blk_cell BK181.out 1).trans rfl
          have hcz15_2 : wr.cell? ⟨gb181, 2, none⟩ = some (.int .u64 a0_2) := (blk_cell BK181.out 2).trans rfl
          have hcz15_3 : wr.cell? ⟨gb181, 3, none⟩ = some (.slice A0_3 l0_3.length c0_3) := (blk_cell BK181.out 3).trans rfl
          have hcz15_4 : wr.cell? ⟨gb181, 4, none⟩ = some (.slice A0_4 l0_4.length c0_4) := (blk_cell BK181.out 4).trans rfl
          have hcz15_5 : wr.cell? ⟨gb181, 5, none⟩ = some (.slice A0_5 l0_5.length c0_5) := (blk_cell BK181.out 5).trans rfl
          have hcz15_6 : wr.cell? ⟨gb181, 6, none⟩ = some (.int .u32 a0_6) := (blk_cell BK181.out 6).trans rfl
          have hcz15_7 : wr.cell? ⟨gb181, 7, none⟩ = some (.int .u32 a0_7) := (blk_cell BK181.out 7).trans rfl
          have hcz15_8 : wr.cell? ⟨gb181, 8, none⟩ = some (.int .u64 a0_8) := (blk_cell BK181.out 8).trans rfl
          have hfz15_0 := blk_frozen BK181.out 0
          have hfz15_1 := blk_frozen BK181.out 1
          have hfz15_2 := blk_frozen BK181.out 2
          have hfz15_3 := blk_frozen BK181.out 3
          have hfz15_4 := blk_frozen BK181.out 4
          have hfz15_5 := blk_frozen BK181.out 5
          have hfz15_6 := blk_frozen BK181.out 6
          have hfz15_7 := blk_frozen BK181.out 7
          have hfz15_8 := blk_frozen BK181.out 8
          go_wp2_with (first | ((with_reducible refine gate_ (.load 92 (.tmp 1)) rfl ?_); refine wpList_load_row rfl 92 (.tmp 1) rfl gb181 rfl 92 _ (0, 0) _ (by (with_reducible repeat (first | refine blk_drewN ?_ _ | refine blk_drew ?_ | refine blk_alloc ?_ _)); exact BK181.out) Try.underlying92 rfl (by kernel_rfl) ?_) | ((with_reducible refine gate_callee (f := 54) rfl ?_); refine goesL_ (some 35) rfl rfl Try.func54 (by kernel_rfl) rfl #[.agg #[.slice A0_0 l0_0.length c0_0, .int .i64 a0_1, .int .u64 a0_2, .slice A0_3 l0_3.length c0_3, .slice A0_4 l0_4.length c0_4, .slice A0_5 l0_5.length c0_5, .int .u32 a0_6, .int .u32 a0_7, .int .u64 a0_8], .int .u32 x7_2] rfl (by (try simp only [List.map_toArray, List.map_cons, List.map_nil]); first | done | rfl | (simp only [List.length_drop, List.length_take]; rfl)) ?_; (with_reducible refine (hash_second_chain.calls k2 _ _ l0_0 a0_1 a0_2 _ _ l0_3 _ _ l0_4 _ _ l0_5 a0_6 a0_7 a0_8 x7_2 t183 none _ ?side1 ?side2 ?side3 ?side4 ?side5 ?side6 ?side7 ?side8 A11.out).mono ?_); (case side1 => repeat (first | exact (Kd.C_below HR0_0.out HB.out) | (with_reducible refine Kd.C_alloc ?_ _) | (with_reducible refine Kd.C_drewN ?_ _) | (with_reducible refine Kd.C_drew ?_))); (case side2 => exact HC0_0.out); (case side3 => repeat (first | exact (Kd.C_below HR0_3.out HB.out) | (with_reducible refine Kd.C_alloc ?_ _) | (with_reducible refine Kd.C_drewN ?_ _) | (with_reducible refine Kd.C_drew ?_))); (case side4 => exact HC0_3.out); (case side5 => repeat (first | exact (Kd.C_below HR0_4.out HB.out) | (with_reducible refine Kd.C_alloc ?_ _) | (with_reducible refine Kd.C_drewN ?_ _) | (with_reducible refine Kd.C_drew ?_))); (case side6 => exact HC0_4.out); (case side7 => repeat (first | exact (Kd.C_below HR0_5.out HB.out) | (with_reducible refine Kd.C_alloc ?_ _) | (with_reducible refine Kd.C_drewN ?_ _) | (with_reducible refine Kd.C_drew ?_))); (case side8 => exact HC0_5.out); rintro e w16 ⟨rfl, hb⟩; refine ⟨_, rfl, ?_⟩; have n0_ := Aside0.mk (blk_below (g := gb181) (o := .cells #[.slice A0_0 l0_0.length c0_0, .int .i64 a0_1, .int .u64 a0_2, .slice A0_3 l0_3.length c0_3, .slice A0_4 l0_4.length c0_4, .slice A0_5 l0_5.length c0_5, .int .u32 a0_6, .int .u32 a0_7, .int .u64 a0_8] 92 (0, 0)) (by (with_reducible repeat (first | refine blk_drewN ?_ _ | refine blk_drew ?_ | refine blk_alloc ?_ _)); exact BK181.out) hb); have n1_ := Aside0.mk (below_step (by repeat (first | (with_reducible first | exact HB.out | apply below_alloc | apply pw_below_drewN | apply below_drew1 | refine below_set ?_ GE181.out) | exact HB.out)) hb); clear BK181; clear HB; have BK181 := n0_; have HB := n1_; clear n0_ n1_; (try clear hb); (try clear hb2); (try clear hk); (try clear hi); (try simp only [errW_none, errW_some])))
          go_roundg k2
          case measure => have := HK1.out; have := HK2.out; omega
          case rel => exact ⟨((x7_2 + 1) % 4294967296), (by first | rfl | (simp; done) | (simp [*]; done)), H', ⟨by have := HK1.out; have := HK2.out; omega⟩, ⟨by (with_reducible repeat (first | refine blk_drewN ?_ _ | refine blk_drew ?_ | refine blk_alloc ?_ _)); exact BK181.out⟩, ⟨by repeat (first | (with_reducible first | exact HB.out | apply below_alloc | apply pw_below_drewN | apply below_drew1 | refine below_set ?_ GE181.out) | exact HB.out)⟩⟩
        ·have H1 : (none) = some (r1, r2) := by rw [if_neg (show ¬ (some q185).isNone = true by simp)] at H; exact H
         clear H
         have H := H1
         clear H1
         try simp only [errW_none, errW_some]
         exact absurd H (by simp)

/-! ### hash_Count: function 12 -/
def hash_Count.f (k : Nat) (l0 : List Int) (a1_0 : Int) (a1_1 : Int) (l1_2 : List (S29)) (l2_0 : List Int) (a2_1 : Int) (a2_2 : Int) (a2_3 : Int) (a2_4 : Int) (a2_5 : Int) (a2_6 : Int) (a2_7 : Int) (a2_8 : Int) (a2_9 : Int) (a2_10 : Int) (a2_11 : Int) (a2_12 : Int) (a2_13 : Int) (a2_14 : Bool) (a2_15 : Bool) (a2_16 : Bool) (a2_17 : Int) (a2_18 : Int) (a2_19 : Int) (a2_20 : Int) (a2_21 : Int) (a2_22 : Int) (a2_23 : Int) (a2_24 : Int) (a2_25 : Int) (a2_26 : Int) (a2_27 : Int) (a2_28 : Int) (a2_29 : Int) (a2_30 : Int) (a2_31 : Int) (a2_32 : Bool) (a2_33 : Bool) (a2_34 : Bool) (a2_35 : Bool) (a2_36 : Bool) : Option (Int × Option Int) := if a2_3 = 0 then (if a2_25 = 0 then (none) else ((hash_file_gnu.f k l0 a1_0 a1_1 l1_2 a2_25).bind fun bt189 => (if bt189.2.2.2.2.2.2.2.2.2.isNone = true then ((hash_second_count.f k bt189.1 bt189.2.1 bt189.2.2.1 bt189.2.2.2.1 bt189.2.2.2.2.1 bt189.2.2.2.2.2.1 bt189.2.2.2.2.2.2.1 bt189.2.2.2.2.2.2.2.1 bt189.2.2.2.2.2.2.2.2.1).bind fun bt209 => (some (bt209.1, bt209.2))) else (none)))) else (none)
theorem hash_Count.mono : ∀ a0 a1 a2 a3 a4 a5 a6 a7 a8 a9 a10 a11 a12 a13 a14 a15 a16 a17 a18 a19 a20 a21 a22 a23 a24 a25 a26 a27 a28 a29 a30 a31 a32 a33 a34 a35 a36 a37 a38 a39 a40 k, LeO (hash_Count.f k a0 a1 a2 a3 a4 a5 a6 a7 a8 a9 a10 a11 a12 a13 a14 a15 a16 a17 a18 a19 a20 a21 a22 a23 a24 a25 a26 a27 a28 a29 a30 a31 a32 a33 a34 a35 a36 a37 a38 a39 a40) (hash_Count.f (k + 1) a0 a1 a2 a3 a4 a5 a6 a7 a8 a9 a10 a11 a12 a13 a14 a15 a16 a17 a18 a19 a20 a21 a22 a23 a24 a25 a26 a27 a28 a29 a30 a31 a32 a33 a34 a35 a36 a37 a38 a39 a40) := by
 intro a0 a1 a2 a3 a4 a5 a6 a7 a8 a9 a10 a11 a12 a13 a14 a15 a16 a17 a18 a19 a20 a21 a22 a23 a24 a25 a26 a27 a28 a29 a30 a31 a32 a33 a34 a35 a36 a37 a38 a39 a40 k
 unfold hash_Count.f
 repeat' first
   | (with_reducible exact hash_file_gnu.mono _ _ _ _ _ _)
   | (with_reducible exact hash_second_count.mono _ _ _ _ _ _ _ _ _ _)
   | (with_reducible exact LeO.refl _)
   | (with_reducible exact LeO.none _)
   | (with_reducible refine LeO.ite ?_ ?_)
   | (with_reducible refine LeO.bind ?_ (fun _ => ?_))
   | exact hash_file_gnu.mono _ _ _ _ _ _
   | exact hash_second_count.mono _ _ _ _ _ _ _ _ _ _
   | exact LeO.none _
   | refine LeO.ite ?_ ?_
   | refine LeO.bind ?_ (fun _ => ?_)
set_option maxHeartbeats 8000000 in
set_option maxRecDepth 100000 in
theorem hash_Count.calls (k : Nat) (A0 : Option Addr) (c0 : Nat) (l0 : List Int) (a1_0 : Int) (a1_1 : Int) (A1_2 : Option Addr) (c1_2 : Nat) (l1_2 : List (S29)) (A2_0 : Option Addr) (c2_0 : Nat) (l2_0 : List Int) (a2_1 : Int) (a2_2 : Int) (a2_3 : Int) (a2_4 : Int) (a2_5 : Int) (a2_6 : Int) (a2_7 : Int) (a2_8 : Int) (a2_9 : Int) (a2_10 : Int) (a2_11 : Int) (a2_12 : Int) (a2_13 : Int) (a2_14 : Bool) (a2_15 : Bool) (a2_16 : Bool) (a2_17 : Int) (a2_18 : Int) (a2_19 : Int) (a2_20 : Int) (a2_21 : Int) (a2_22 : Int) (a2_23 : Int) (a2_24 : Int) (a2_25 : Int) (a2_26 : Int) (a2_27 : Int) (a2_28 : Int) (a2_29 : Int) (a2_30 : Int) (a2_31 : Int) (a2_32 : Bool) (a2_33 : Bool) (a2_34 : Bool) (a2_35 : Bool) (a2_36 : Bool) (r1 : Int) (r2 : Option Int) (w : World) (hr0 : Kd.C (Kd.int .u8) w A0 l0.length l0) (hc0 : l0.length ≤ c0) (hr1_2 : Kd.C k29 w A1_2 l1_2.length l1_2) (hc1_2 : l1_2.length ≤ c1_2) (hr2_0 : Kd.C (Kd.int .u64) w A2_0 l2_0.length l2_0) (hc2_0 : l2_0.length ≤ c2_0) (h : hash_Count.f k l0 a1_0 a1_1 l1_2 l2_0 a2_1 a2_2 a2_3 a2_4 a2_5 a2_6 a2_7 a2_8 a2_9 a2_10 a2_11 a2_12 a2_13 a2_14 a2_15 a2_16 a2_17 a2_18 a2_19 a2_20 a2_21 a2_22 a2_23 a2_24 a2_25 a2_26 a2_27 a2_28 a2_29 a2_30 a2_31 a2_32 a2_33 a2_34 a2_35 a2_36 = some (r1, r2)) :
  Calls Try.prog 12 #[.slice A0 l0.length c0, .agg #[.int .i64 a1_0, .int .u64 a1_1, .slice A1_2 l1_2.length c1_2], .agg #[.slice A2_0 l2_0.length c2_0, .int .u64 a2_1, .int .u64 a2_2, .int .u64 a2_3, .int .u64 a2_4, .int .u64 a2_5, .int .u64 a2_6, .int .u64 a2_7, .int .u64 a2_8, .int .u64 a2_9, .int .u64 a2_10, .int .u64 a2_11, .int .u64 a2_12, .int .u64 a2_13, .bool a2_14, .bool a2_15, .bool a2_16, .int .u64 a2_17, .int .u64 a2_18, .int .u64 a2_19, .int .u64 a2_20, .int .u64 a2_21, .int .u64 a2_22, .int .u64 a2_23, .int .u64 a2_24, .int .u64 a2_25, .int .u64 a2_26, .int .u64 a2_27, .int .u64 a2_28, .int .u64 a2_29, .int .u64 a2_30, .int .u64 a2_31, .bool a2_32, .bool a2_33, .bool a2_34, .bool a2_35, .bool a2_36]] w fun e w' => e = .returned (.tuple #[.int .i64 r1, errW r2]) ∧ Below w.heap.size w w' := by
 have hu32 := Try.underlying32
 have hu35 := Try.underlying35
 have hu86 := Try.underlying86
 have hu88 := Try.underlying88
 have hu92 := Try.underlying92
 have hu41 := Try.underlying41
 have hu97 := Try.underlying97
 have HR0 := Aside0.mk hr0
 have HC0 := Aside0.mk hc0
 clear hr0 hc0
 have HR1_2 := Aside0.mk hr1_2
 have HC1_2 := Aside0.mk hc1_2
 clear hr1_2 hc1_2
 have HR2_0 := Aside0.mk hr2_0
 have HC2_0 := Aside0.mk hc2_0
 clear hr2_0 hc2_0
 have HB := Aside0.mk (Below.refl w.heap.size w)
 have H : (if a2_3 = 0 then (if a2_25 = 0 then (none) else ((hash_file_gnu.f k l0 a1_0 a1_1 l1_2 a2_25).bind fun bt189 => (if bt189.2.2.2.2.2.2.2.2.2.isNone = true then ((hash_second_count.f k bt189.1 bt189.2.1 bt189.2.2.1 bt189.2.2.2.1 bt189.2.2.2.2.1 bt189.2.2.2.2.2.1 bt189.2.2.2.2.2.2.1 bt189.2.2.2.2.2.2.2.1 bt189.2.2.2.2.2.2.2.2.1).bind fun bt209 => (some (bt209.1, bt209.2))) else (none)))) else (none)) = some (r1, r2) := h
 clear h
 by_cases c4 : a2_3 = 0
 ·rw [if_pos c4] at H
  have c4b0 : (a2_3 == 0) = true := beq_iff_eq.mpr c4
  have c4b1 : (a2_3 != 0) = false := bne_eq_false_iff_eq.mpr c4
  clear c4
  by_cases c5 : a2_25 = 0
  ·rw [if_pos c5] at H
   exact absurd H (by simp)
  ·rw [if_neg c5] at H
   have c5b0 : (a2_25 == 0) = false := beq_eq_false_iff_ne.mpr c5
   have c5b1 : (a2_25 != 0) = true := bne_iff_ne.mpr c5
   replace H := Option.bind_eq_some_iff.mp H
   obtain ⟨⟨t189, t192, t193, t194, t197, t200, t203, t204, t205, t206⟩, A60, H⟩ := H
   replace H : (if t206.isNone = true then ((hash_second_count.f k t189 t192 t193 t194 t197 t200 t203 t204 t205).bind fun bt209 => (some (bt209.1, bt209.2))) else (none)) = some (r1, r2) := H
   have A6 := Aside0.mk A60
   clear A60
   rcases t206 with _ | q208
   ·have H1 : ((hash_second_count.f k t189 t192 t193 t194 t197 t200 t203 t204 t205).bind fun bt209 => (some (bt209.1, bt209.2))) = some (r1, r2) := by rw [if_pos (show (none : Option Int).isNone = true by rfl)] at H; exact H
    clear H
    have H := H1
    clear H1
    try simp only [errW_none, errW_some]
    replace H := Option.bind_eq_some_iff.mp H
    obtain ⟨⟨t209, t210⟩, A70, H⟩ := H
    replace H : (some (t209, t210)) = some (r1, r2) := H
    have A7 := Aside0.mk A70
    clear A70
    simp only [Option.some.injEq, Prod.mk.injEq] at H
    obtain ⟨rfl, rfl⟩ := H
    go_enter Try.func12, Try.ntmps12
    go_wp2_with (first | ((with_reducible refine gate_ (.load 35 (.tmp 5)) rfl ?_); refine wpList_load_row rfl 35 (.tmp 5) rfl gb187 rfl 35 _ (0, 0) _ (by (with_reducible repeat (first | refine blk_drewN ?_ _ | refine blk_drew ?_ | refine blk_alloc ?_ _)); exact BK187.out) Try.underlying35 rfl (by kernel_rfl) ?_) | ((with_reducible refine gate_ (.load 92 (.tmp 11)) rfl ?_); refine wpList_load_row rfl 92 (.tmp 11) rfl gb207 rfl 92 _ (0, 0) _ (by (with_reducible repeat (first | refine blk_drewN ?_ _ | refine blk_drew ?_ | refine blk_alloc ?_ _)); exact BK207.out) Try.underlying92 rfl (by kernel_rfl) ?_) | ((with_reducible refine gate_dst (N := 4) rfl ?_); refine box_event ?hg (N := 4) ?hd (cs := #[.int .i64 a1_0, .int .u64 a1_1, .slice A1_2 l1_2.length c1_2]) (t := 32) ?hr ?_; (case hd => rfl); (case hg => rfl); (case hr => first | (go_simp; done) | (go_simp; rfl)); intro gb186 hg w8 hbox hb; have n0_ := Aside0.mk (below_step (by repeat (first | (with_reducible first | exact HB.out | apply below_alloc | apply pw_below_drewN | apply below_drew1) | exact HB.out)) hb); have n1_ := Aside0.mk (hbox); have n2_ := Aside0.mk ((by rw [hg]; exact (below_size (by repeat (first | (with_reducible first | exact HB.out | apply below_alloc | apply pw_below_drewN | apply below_drew1) | exact HB.out))) : w.heap.size ≤ gb186)); have n3_ := Aside0.mk ((by rw [hg]; exact (below_size (by repeat (first | (with_reducible first | exact HB.out | apply below_alloc | apply pw_below_drewN | apply below_drew1) | exact HB.out))) : w.heap.size ≤ gb186)); clear HB; have HB := n0_; have BK186 := n1_; have GW186 := n2_; have GE186 := n3_; clear n0_ n1_ n2_ n3_; clear hb hbox hg) | ((with_reducible refine gate_dst (N := 5) rfl ?_); refine box_event ?hg (N := 5) ?hd (cs := #[.slice A2_0 l2_0.length c2_0, .int .u64 a2_1, .int .u64 a2_2, .int .u64 a2_3, .int .u64 a2_4, .int .u64 a2_5, .int .u64 a2_6, .int .u64 a2_7, .int .u64 a2_8, .int .u64 a2_9, .int .u64 a2_10, .int .u64 a2_11, .int .u64 a2_12, .int .u64 a2_13, .bool a2_14, .bool a2_15, .bool a2_16, .int .u64 a2_17, .int .u64 a2_18, .int .u64 a2_19, .int .u64 a2_20, .int .u64 a2_21, .int .u64 a2_22, .int .u64 a2_23, .int .u64 a2_24, .int .u64 a2_25, .int .u64 a2_26, .int .u64 a2_27, .int .u64 a2_28, .int .u64 a2_29, .int .u64 a2_30, .int .u64 a2_31, .bool a2_32, .bool a2_33, .bool a2_34, .bool a2_35, .bool a2_36]) (t := 35) ?hr ?_; (case hd => rfl); (case hg => rfl); (case hr => first | (go_simp; done) | (go_simp; rfl)); intro gb187 hg w9 hbox hb; have n0_ := Aside0.mk (blk_below (g := gb186) (o := .cells #[.int .i64 a1_0, .int .u64 a1_1, .slice A1_2 l1_2.length c1_2] 32 (0, 0)) (by (with_reducible repeat (first | refine blk_drewN ?_ _ | refine blk_drew ?_ | refine blk_alloc ?_ _)); exact BK186.out) hb); have n1_ := Aside0.mk (below_step (by repeat (first | (with_reducible first | exact HB.out | apply below_alloc | apply pw_below_drewN | apply below_drew1 | refine below_set ?_ GE186.out) | exact HB.out)) hb); have n2_ := Aside0.mk (hbox); have n3_ := Aside0.mk ((by rw [hg]; exact (below_size (by repeat (first | (with_reducible first | exact HB.out | apply below_alloc | apply pw_below_drewN | apply below_drew1 | refine below_set ?_ GE186.out) | exact HB.out))) : w.heap.size ≤ gb187)); have n4_ := Aside0.mk ((by rw [hg]; exact (below_size (by repeat (first | (with_reducible first | exact HB.out | apply below_alloc | apply pw_below_drewN | apply below_drew1 | refine below_set ?_ GE186.out) | exact HB.out))) : w.heap.size ≤ gb187)); have n5_ := Aside0.mk ((by rw [hg]; exact Nat.ne_of_lt (blk_lt (g := gb186) (o := .cells #[.int .i64 a1_0, .int .u64 a1_1, .slice A1_2 l1_2.length c1_2] 32 (0, 0)) (by (with_reducible repeat (first | refine blk_drewN ?_ _ | refine blk_drew ?_ | refine blk_alloc ?_ _)); exact BK186.out)) : gb186 ≠ gb187)); have n6_ := Aside0.mk ((by rw [hg]; exact Nat.ne_of_gt (blk_lt (g := gb186) (o := .cells #[.int .i64 a1_0, .int .u64 a1_1, .slice A1_2 l1_2.length c1_2] 32 (0, 0)) (by (with_reducible repeat (first | refine blk_drewN ?_ _ | refine blk_drew ?_ | refine blk_alloc ?_ _)); exact BK186.out)) : gb187 ≠ gb186)); clear BK186; clear HB; have BK186 := n0_; have HB := n1_; have BK187 := n2_; have GW187 := n3_; have GE187 := n4_; have NB186_187 := n5_; have NB187_186 := n6_; clear n0_ n1_ n2_ n3_ n4_ n5_ n6_; clear hb hbox hg; have hnb10 := NB186_187.out; have hnc10 := NB187_186.out; have hcz11_0 : w9.cell? ⟨gb186, 0, none⟩ = some (.int .i64 a1_0) := (blk_cell BK186.out 0).trans rfl; have hcz11_1 : w9.cell? ⟨gb186, 1, none⟩ = some (.int .u64 a1_1) := (blk_cell BK186.out 1).trans rfl; have hcz11_2 : w9.cell? ⟨gb186, 2, none⟩ = some (.slice A1_2 l1_2.length c1_2) := (blk_cell BK186.out 2).trans rfl; have hfz11_0 := blk_frozen BK186.out 0; have hfz11_1 := blk_frozen BK186.out 1; have hfz11_2 := blk_frozen BK186.out 2) | ((with_reducible refine gate_dst (N := 8) rfl ?_); refine box_event ?hg (N := 8) ?hd (cs := #[.slice none 0 0, .int .i64 0, .int .u64 0, .slice none 0 0]) (t := 86) ?hr ?_; (case hd => rfl); (case hg => rfl); (case hr => first | (go_simp; done) | (go_simp; rfl)); intro gb188 hg w12 hbox hb; have n0_ := Aside0.mk (blk_below (g := gb186) (o := .cells #[.int .i64 a1_0, .int .u64 a1_1, .slice A1_2 l1_2.length c1_2] 32 (0, 0)) (by (with_reducible repeat (first | refine blk_drewN ?_ _ | refine blk_drew ?_ | refine blk_alloc ?_ _)); exact BK186.out) hb); have n1_ := Aside0.mk (blk_below (g := gb187) (o := .cells #[.slice A2_0 l2_0.length c2_0, .int .u64 a2_1, .int .u64 a2_2, .int .u64 a2_3, .int .u64 a2_4, .int .u64 a2_5, .int .u64 a2_6, .int .u64 a2_7, .int .u64 a2_8, .int .u64 a2_9, .int .u64 a2_10, .int .u64 a2_11, .int .u64 a2_12, .int .u64 a2_13, .bool a2_14, .bool a2_15, .bool a2_16, .int .u64 a2_17, .int .u64 a2_18, .int .u64 a2_19, .int .u64 a2_20, .int .u64 a2_21, .int .u64 a2_22, .int .u64 a2_23, .int .u64 a2_24, .int .u64 a2_25, .int .u64 a2_26, .int .u64 a2_27, .int .u64 a2_28, .int .u64 a2_29, .int .u64 a2_30, .int .u64 a2_31, .bool a2_32, .bool a2_33, .bool a2_34, .bool a2_35, .bool a2_36] 35 (0, 0)) (by (with_reducible repeat (first | refine blk_drewN ?_ _ | refine blk_drew ?_ | refine blk_alloc ?_ _)); exact BK187.out) hb); have n2_ := Aside0.mk (below_step (by repeat (first | (with_reducible first | exact HB.out | apply below_alloc | apply pw_below_drewN | apply below_drew1 | refine below_set ?_ GE186.out | refine below_set ?_ GE187.out) | exact HB.out)) hb); have n3_ := Aside0.mk (hbox); have n4_ := Aside0.mk ((by rw [hg]; exact (below_size (by repeat (first | (with_reducible first | exact HB.out | apply below_alloc | apply pw_below_drewN | apply below_drew1 | refine below_set ?_ GE186.out | refine below_set ?_ GE187.out) | exact HB.out))) : w.heap.size ≤ gb188)); have n5_ := Aside0.mk ((by rw [hg]; exact (below_size (by repeat (first | (with_reducible first | exact HB.out | apply below_alloc | apply pw_below_drewN | apply below_drew1 | refine below_set ?_ GE186.out | refine below_set ?_ GE187.out) | exact HB.out))) : w.heap.size ≤ gb188)); have n6_ := Aside0.mk ((by rw [hg]; exact Nat.ne_of_lt (blk_lt (g := gb186) (o := .cells #[.int .i64 a1_0, .int .u64 a1_1, .slice A1_2 l1_2.length c1_2] 32 (0, 0)) (by (with_reducible repeat (first | refine blk_drewN ?_ _ | refine blk_drew ?_ | refine blk_alloc ?_ _)); exact BK186.out)) : gb186 ≠ gb188)); have n7_ := Aside0.mk ((by rw [hg]; exact Nat.ne_of_gt (blk_lt (g := gb186) (o := .cells #[.int .i64 a1_0, .int .u64 a1_1, .slice A1_2 l1_2.length c1_2] 32 (0, 0)) (by (with_reducible repeat (first | refine blk_drewN ?_ _ | refine blk_drew ?_ | refine blk_alloc ?_ _)); exact BK186.out)) : gb188 ≠ gb186)); have n8_ := Aside0.mk ((by rw [hg]; exact Nat.ne_of_lt (blk_lt (g := gb187) (o := .cells #[.slice A2_0 l2_0.length c2_0, .int .u64 a2_1, .int .u64 a2_2, .int .u64 a2_3, .int .u64 a2_4, .int .u64 a2_5, .int .u64 a2_6, .int .u64 a2_7, .int .u64 a2_8, .int .u64 a2_9, .int .u64 a2_10, .int .u64 a2_11, .int .u64 a2_12, .int .u64 a2_13, .bool a2_14, .bool a2_15, .bool a2_16, .int .u64 a2_17, .int .u64 a2_18, .int .u64 a2_19, .int .u64 a2_20, .int .u64 a2_21, .int .u64 a2_22, .int .u64 a2_23, .int .u64 a2_24, .int .u64 a2_25, .int .u64 a2_26, .int .u64 a2_27, .int .u64 a2_28, .int .u64 a2_29, .int .u64 a2_30, .int .u64 a2_31, .bool a2_32, .bool a2_33, .bool a2_34, .bool a2_35, .bool a2_36] 35 (0, 0)) (by (with_reducible repeat (first | refine blk_drewN ?_ _ | refine blk_drew ?_ | refine blk_alloc ?_ _)); exact BK187.out)) : gb187 ≠ gb188)); have n9_ := Aside0.mk ((by rw [hg]; exact Nat.ne_of_gt (blk_lt (g := gb187) (o := .cells #[.slice A2_0 l2_0.length c2_0, .int .u64 a2_1, .int .u64 a2_2, .int .u64 a2_3, .int .u64 a2_4, .int .u64 a2_5, .int .u64 a2_6, .int .u64 a2_7, .int .u64 a2_8, .int .u64 a2_9, .int .u64 a2_10, .int .u64 a2_11, .int .u64 a2_12, .int .u64 a2_13, .bool a2_14, .bool a2_15, .bool a2_16, .int .u64 a2_17, .int .u64 a2_18, .int .u64 a2_19, .int .u64 a2_20, .int .u64 a2_21, .int .u64 a2_22, .int .u64 a2_23, .int .u64 a2_24, .int .u64 a2_25, .int .u64 a2_26, .int .u64 a2_27, .int .u64 a2_28, .int .u64 a2_29, .int .u64 a2_30, .int .u64 a2_31, .bool a2_32, .bool a2_33, .bool a2_34, .bool a2_35, .bool a2_36] 35 (0, 0)) (by (with_reducible repeat (first | refine blk_drewN ?_ _ | refine blk_drew ?_ | refine blk_alloc ?_ _)); exact BK187.out)) : gb188 ≠ gb187)); clear BK186; clear BK187; clear HB; have BK186 := n0_; have BK187 := n1_; have HB := n2_; have BK188 := n3_; have GW188 := n4_; have GE188 := n5_; have NB186_188 := n6_; have NB188_186 := n7_; have NB187_188 := n8_; have NB188_187 := n9_; clear n0_ n1_ n2_ n3_ n4_ n5_ n6_ n7_ n8_ n9_; clear hb hbox hg; have hnb13 := NB188_186.out; have hnc13 := NB186_188.out; have hnb14 := NB188_187.out; have hnc14 := NB187_188.out; have hcz15_0 : w12.cell? ⟨gb188, 0, none⟩ = some (.slice none 0 0) := (blk_cell BK188.out 0).trans rfl; have hcz15_1 : w12.cell? ⟨gb188, 1, none⟩ = some (.int .i64 0) := (blk_cell BK188.out 1).trans rfl; have hcz15_2 : w12.cell? ⟨gb188, 2, none⟩ = some (.int .u64 0) := (blk_cell BK188.out 2).trans rfl; have hcz15_3 : w12.cell? ⟨gb188, 3, none⟩ = some (.slice none 0 0) := (blk_cell BK188.out 3).trans rfl; have hfz15_0 := blk_frozen BK188.out 0; have hfz15_1 := blk_frozen BK188.out 1; have hfz15_2 := blk_frozen BK188.out 2; have hfz15_3 := blk_frozen BK188.out 3) | ((with_reducible refine gate_store (t := 86) (p := 8) rfl ?_); refine store_event (t := 86) (p := 8) (v := ?vo_w16) (w1 := ((((w12.setCell ⟨gb188, 0, none⟩ (.slice A0 l0.length c0)).setCell ⟨gb188, 1, none⟩ (.int .i64 a1_0)).setCell ⟨gb188, 2, none⟩ (.int .u64 a1_1)).setCell ⟨gb188, 3, none⟩ (.slice A1_2 l1_2.length c1_2))) ?hg ?ho ?hn ?hr ?_; (case ho => rfl); (case hg => rfl); (case hn => rfl); (case hr => first | (go_simp; done) | (go_simp; rfl)); intro w16 hw; have n0_ : Aside0 (w16.heap[gb186]? = some (.cells #[.int .i64 a1_0, .int .u64 a1_1, .slice A1_2 l1_2.length c1_2] 32 (0, 0))) := ⟨(by rw [hw]; exact (by (with_reducible repeat (first | refine blk_drewN ?_ _ | refine blk_drew ?_ | refine blk_alloc ?_ _)); refine blk_far ?_ NB186_188.out _; (with_reducible repeat (first | refine blk_drewN ?_ _ | refine blk_drew ?_ | refine blk_alloc ?_ _)); refine blk_far ?_ NB186_188.out _; (with_reducible repeat (first | refine blk_drewN ?_ _ | refine blk_drew ?_ | refine blk_alloc ?_ _)); refine blk_far ?_ NB186_188.out _; (with_reducible repeat (first | refine blk_drewN ?_ _ | refine blk_drew ?_ | refine blk_alloc ?_ _)); refine blk_far ?_ NB186_188.out _; (with_reducible repeat (first | refine blk_drewN ?_ _ | refine blk_drew ?_ | refine blk_alloc ?_ _)); exact BK186.out))⟩; have n1_ : Aside0 (w16.heap[gb187]? = some (.cells #[.slice A2_0 l2_0.length c2_0, .int .u64 a2_1, .int .u64 a2_2, .int .u64 a2_3, .int .u64 a2_4, .int .u64 a2_5, .int .u64 a2_6, .int .u64 a2_7, .int .u64 a2_8, .int .u64 a2_9, .int .u64 a2_10, .int .u64 a2_11, .int .u64 a2_12, .int .u64 a2_13, .bool a2_14, .bool a2_15, .bool a2_16, .int .u64 a2_17, .int .u64 a2_18, .int .u64 a2_19, .int .u64 a2_20, .int .u64 a2_21, .int .u64 a2_22, .int .u64 a2_23, .int .u64 a2_24, .int .u64 a2_25, .int .u64 a2_26, .int .u64 a2_27, .int .u64 a2_28, .int .u64 a2_29, .int .u64 a2_30, .int .u64 a2_31, .bool a2_32, .bool a2_33, .bool a2_34, .bool a2_35, .bool a2_36] 35 (0, 0))) := ⟨(by rw [hw]; exact (by (with_reducible repeat (first | refine blk_drewN ?_ _ | refine blk_drew ?_ | refine blk_alloc ?_ _)); refine blk_far ?_ NB187_188.out _; (with_reducible repeat (first | refine blk_drewN ?_ _ | refine blk_drew ?_ | refine blk_alloc ?_ _)); refine blk_far ?_ NB187_188.out _; (with_reducible repeat (first | refine blk_drewN ?_ _ | refine blk_drew ?_ | refine blk_alloc ?_ _)); refine blk_far ?_ NB187_188.out _; (with_reducible repeat (first | refine blk_drewN ?_ _ | refine blk_drew ?_ | refine blk_alloc ?_ _)); refine blk_far ?_ NB187_188.out _; (with_reducible repeat (first | refine blk_drewN ?_ _ | refine blk_drew ?_ | refine blk_alloc ?_ _)); exact BK187.out))⟩; have n2_ : Aside0 (w16.heap[gb188]? = some (.cells #[.slice A0 l0.length c0, .int .i64 a1_0, .int .u64 a1_1, .slice A1_2 l1_2.length c1_2] 86 (0, 0))) := ⟨(by rw [hw]; exact (by (with_reducible repeat (first | refine blk_drewN ?_ _ | refine blk_drew ?_ | refine blk_alloc ?_ _)); refine blk_put (cs := #[.slice A0 l0.length c0, .int .i64 a1_0, .int .u64 a1_1, .slice none 0 0]) ?_ 3 _ rfl; (with_reducible repeat (first | refine blk_drewN ?_ _ | refine blk_drew ?_ | refine blk_alloc ?_ _)); refine blk_put (cs := #[.slice A0 l0.length c0, .int .i64 a1_0, .int .u64 0, .slice none 0 0]) ?_ 2 _ rfl; (with_reducible repeat (first | refine blk_drewN ?_ _ | refine blk_drew ?_ | refine blk_alloc ?_ _)); refine blk_put (cs := #[.slice A0 l0.length c0, .int .i64 0, .int .u64 0, .slice none 0 0]) ?_ 1 _ rfl; (with_reducible repeat (first | refine blk_drewN ?_ _ | refine blk_drew ?_ | refine blk_alloc ?_ _)); refine blk_put (cs := #[.slice none 0 0, .int .i64 0, .int .u64 0, .slice none 0 0]) ?_ 0 _ rfl; (with_reducible repeat (first | refine blk_drewN ?_ _ | refine blk_drew ?_ | refine blk_alloc ?_ _)); exact BK188.out))⟩; have n3_ : Aside0 (Below w.heap.size w w16) := ⟨(by rw [hw]; exact (by repeat (first | (with_reducible first | exact HB.out | apply below_alloc | apply pw_below_drewN | apply below_drew1 | refine below_set ?_ GE186.out | refine below_set ?_ GE187.out | refine below_set ?_ GE188.out) | exact HB.out)))⟩; clear hw; clear BK186; clear BK187; clear BK188; clear HB; have BK186 := n0_; have BK187 := n1_; have BK188 := n2_; have HB := n3_; clear n0_ n1_ n2_ n3_; have hcz17_0 : w16.cell? ⟨gb187, 0, none⟩ = some (.slice A2_0 l2_0.length c2_0) := (blk_cell BK187.out 0).trans rfl; have hcz17_1 : w16.cell? ⟨gb187, 1, none⟩ = some (.int .u64 a2_1) := (blk_cell BK187.out 1).trans rfl; have hcz17_2 : w16.cell? ⟨gb187, 2, none⟩ = some (.int .u64 a2_2) := (blk_cell BK187.out 2).trans rfl; have hcz17_3 : w16.cell? ⟨gb187, 3, none⟩ = some (.int .u64 a2_3) := (blk_cell BK187.out 3).trans rfl; have hcz17_4 : w16.cell? ⟨gb187, 4, none⟩ = some (.int .u64 a2_4) := (blk_cell BK187.out 4).trans rfl; have hcz17_5 : w16.cell? ⟨gb187, 5, none⟩ = some (.int .u64 a2_5) := (blk_cell BK187.out 5).trans rfl; have hcz17_6 : w16.cell? ⟨gb187, 6, none⟩ = some (.int .u64 a2_6) := (blk_cell BK187.out 6).trans rfl; have hcz17_7 : w16.cell? ⟨gb187, 7, none⟩ = some (.int .u64 a2_7) := (blk_cell BK187.out 7).trans rfl; have hcz17_8 : w16.cell? ⟨gb187, 8, none⟩ = some (.int .u64 a2_8) := (blk_cell BK187.out 8).trans rfl; have hcz17_9 : w16.cell? ⟨gb187, 9, none⟩ = some (.int .u64 a2_9) := (blk_cell BK187.out 9).trans rfl; have hcz17_10 : w16.cell? ⟨gb187, 10, none⟩ = some (.int .u64 a2_10) := (blk_cell BK187.out 10).trans rfl; have hcz17_11 : w16.cell? ⟨gb187, 11, none⟩ = some (.int .u64 a2_11) := (blk_cell BK187.out 11).trans rfl; have hcz17_12 : w16.cell? ⟨gb187, 12, none⟩ = some (.int .u64 a2_12) := (blk_cell BK187.out 12).trans rfl; have hcz17_13 : w16.cell? ⟨gb187, 13, none⟩ = some (.int .u64 a2_13) := (blk_cell BK187.out 13).trans rfl; have hcz17_14 : w16.cell? ⟨gb187, 14, none⟩ = some (.bool a2_14) := (blk_cell BK187.out 14).trans rfl; have hcz17_15 : w16.cell? ⟨gb187, 15, none⟩ = some (.bool a2_15) := (blk_cell BK187.out 15).trans rfl; have hcz17_16 : w16.cell? ⟨gb187, 16, none⟩ = some (.bool a2_16) := (blk_cell BK187.out 16).trans rfl; have hcz17_17 : w16.cell? ⟨gb187, 17, none⟩ = some (.int .u64 a2_17) := (blk_cell BK187.out 17).trans rfl; have hcz17_18 : w16.cell? ⟨gb187, 18, none⟩ = some (.int .u64 a2_18) := (blk_cell BK187.out 18).trans rfl; have hcz17_19 : w16.cell? ⟨gb187, 19, none⟩ = some (.int .u64 a2_19) := (blk_cell BK187.out 19).trans rfl; have hcz17_20 : w16.cell? ⟨gb187, 20, none⟩ = some (.int .u64 a2_20) := (blk_cell BK187.out 20).trans rfl; have hcz17_21 : w16.cell? ⟨gb187, 21, none⟩ = some (.int .u64 a2_21) := (blk_cell BK187.out 21).trans rfl; have hcz17_22 : w16.cell? ⟨gb187, 22, none⟩ = some (.int .u64 a2_22) := (blk_cell BK187.out 22).trans rfl; have hcz17_23 : w16.cell? ⟨gb187, 23, none⟩ = some (.int .u64 a2_23) := (blk_cell BK187.out 23).trans rfl; have hcz17_24 : w16.cell? ⟨gb187, 24, none⟩ = some (.int .u64 a2_24) := (blk_cell BK187.out 24).trans rfl; have hcz17_25 : w16.cell? ⟨gb187, 25, none⟩ = some (.int .u64 a2_25) := (blk_cell BK187.out 25).trans rfl; have hcz17_26 : w16.cell? ⟨gb187, 26, none⟩ = some (.int .u64 a2_26) := (blk_cell BK187.out 26).trans rfl; have hcz17_27 : w16.cell? ⟨gb187, 27, none⟩ = some (.int .u64 a2_27) := (blk_cell BK187.out 27).trans rfl; have hcz17_28 : w16.cell? ⟨gb187, 28, none⟩ = some (.int .u64 a2_28) := (blk_cell BK187.out 28).trans rfl; have hcz17_29 : w16.cell? ⟨gb187, 29, none⟩ = some (.int .u64 a2_29) := (blk_cell BK187.out 29).trans rfl; have hcz17_30 : w16.cell? ⟨gb187, 30, none⟩ = some (.int .u64 a2_30) := (blk_cell BK187.out 30).trans rfl; have hcz17_31 : w16.cell? ⟨gb187, 31, none⟩ = some (.int .u64 a2_31) := (blk_cell BK187.out 31).trans rfl; have hcz17_32 : w16.cell? ⟨gb187, 32, none⟩ = some (.bool a2_32) := (blk_cell BK187.out 32).trans rfl; have hcz17_33 : w16.cell? ⟨gb187, 33, none⟩ = some (.bool a2_33) := (blk_cell BK187.out 33).trans rfl; have hcz17_34 : w16.cell? ⟨gb187, 34, none⟩ = some (.bool a2_34) := (blk_cell BK187.out 34).trans rfl; have hcz17_35 : w16.cell? ⟨gb187, 35, none⟩ = some (.bool a2_35) := (blk_cell BK187.out 35).trans rfl; have hcz17_36 : w16.cell? ⟨gb187, 36, none⟩ = some (.bool a2_36) := (blk_cell BK187.out 36).trans rfl; have hfz17_0 := blk_frozen BK187.out 0; have hfz17_1 := blk_frozen BK187.out 1; have hfz17_2 := blk_frozen BK187.out 2; have hfz17_3 := blk_frozen BK187.out 3; have hfz17_4 := blk_frozen BK187.out 4; have hfz17_5 := blk_frozen BK187.out 5; have hfz17_6 := blk_frozen BK187.out 6; have hfz17_7 := blk_frozen BK187.out 7; have hfz17_8 := blk_frozen BK187.out 8; have hfz17_9 := blk_frozen BK187.out 9; have hfz17_10 := blk_frozen BK187.out 10; have hfz17_11 := blk_frozen BK187.out 11; have hfz17_12 := blk_frozen BK187.out 12; have hfz17_13 := blk_frozen BK187.out 13; have hfz17_14 := blk_frozen BK187.out 14; have hfz17_15 := blk_frozen BK187.out 15; have hfz17_16 := blk_frozen BK187.out 16; have hfz17_17 := blk_frozen BK187.out 17; have hfz17_18 := blk_frozen BK187.out 18; have hfz17_19 := blk_frozen BK187.out 19; have hfz17_20 := blk_frozen BK187.out 20; have hfz17_21 := blk_frozen BK187.out 21; have hfz17_22 := blk_frozen BK187.out 22; have hfz17_23 := blk_frozen BK187.out 23; have hfz17_24 := blk_frozen BK187.out 24; have hfz17_25 := blk_frozen BK187.out 25; have hfz17_26 := blk_frozen BK187.out 26; have hfz17_27 := blk_frozen BK187.out 27; have hfz17_28 := blk_frozen BK187.out 28; have hfz17_29 := blk_frozen BK187.out 29; have hfz17_30 := blk_frozen BK187.out 30; have hfz17_31 := blk_frozen BK187.out 31; have hfz17_32 := blk_frozen BK187.out 32; have hfz17_33 := blk_frozen BK187.out 33; have hfz17_34 := blk_frozen BK187.out 34; have hfz17_35 := blk_frozen BK187.out 35; have hfz17_36 := blk_frozen BK187.out 36; have hcz18_0 : w16.cell? ⟨gb188, 0, none⟩ = some (.slice A0 l0.length c0) := (blk_cell BK188.out 0).trans rfl; have hcz18_1 : w16.cell? ⟨gb188, 1, none⟩ = some (.int .i64 a1_0) := (blk_cell BK188.out 1).trans rfl; have hcz18_2 : w16.cell? ⟨gb188, 2, none⟩ = some (.int .u64 a1_1) := (blk_cell BK188.out 2).trans rfl; have hcz18_3 : w16.cell? ⟨gb188, 3, none⟩ = some (.slice A1_2 l1_2.length c1_2) := (blk_cell BK188.out 3).trans rfl; have hfz18_0 := blk_frozen BK188.out 0; have hfz18_1 := blk_frozen BK188.out 1; have hfz18_2 := blk_frozen BK188.out 2; have hfz18_3 := blk_frozen BK188.out 3) | ((with_reducible refine gate_callee (f := 31) rfl ?_); refine goesL_ (some 39) rfl rfl Try.func31 (by kernel_rfl) rfl #[.agg #[.slice A0 l0.length c0, .int .i64 a1_0, .int .u64 a1_1, .slice A1_2 l1_2.length c1_2], .int .u64 a2_25] rfl (by (try simp only [List.map_toArray, List.map_cons, List.map_nil]); first | done | rfl | (simp only [List.length_drop, List.length_take]; rfl)) ?_; (with_reducible refine (hash_file_gnu.calls k (fun k_ => k_ < w.heap.size) _ _ l0 a1_0 a1_1 (fun k_ => k_ < w.heap.size) _ _ l1_2 a2_25 t189 t192 t193 t194 t197 t200 t203 t204 t205 none _ ?side1 ?side2 A6.out).mono ?_); (case side1 => exact Kd.V_mk HC0.out (Kd.F_below (Kd.C_F (Kd.heap_int .u8) HR0.out) (by repeat (first | (with_reducible first | exact HB.out | apply below_alloc | apply pw_below_drewN | apply below_drew1 | refine below_set ?_ GE186.out | refine below_set ?_ GE187.out | refine below_set ?_ GE188.out) | exact HB.out)))); (case side2 => exact Kd.V_mk HC1_2.out (Kd.F_below (Kd.C_F k29_heap HR1_2.out) (by repeat (first | (with_reducible first | exact HB.out | apply below_alloc | apply pw_below_drewN | apply below_drew1 | refine below_set ?_ GE186.out | refine below_set ?_ GE187.out | refine below_set ?_ GE188.out) | exact HB.out)))); rintro e w19 ⟨v190, v195, v198, v201, rfl, ho0, ho1, ho2, ho3, hb⟩; refine ⟨_, rfl, ?_⟩; have n0_ := Aside0.mk (Kd.V_lower (Kd.V_mono (ok' := fun k_ => k_ ≠ gb186 ∧ k_ ≠ gb187 ∧ k_ ≠ gb188) ho0 (fun k_ hk_ => ⟨Or.elim hk_ (fun hs_ => Or.elim hs_ (fun hs_ => fun e_ => Nat.not_le.2 hs_ (by rw [e_]; exact GW186.out)) (fun hs_ => fun e_ => Nat.not_le.2 hs_ (by rw [e_]; exact GW186.out))) (fun hn_ => (Kd.freshB (g := gb186) (o := .cells #[.int .i64 a1_0, .int .u64 a1_1, .slice A1_2 l1_2.length c1_2] 32 (0, 0)) (by (with_reducible repeat (first | refine blk_drewN ?_ _ | refine blk_drew ?_ | refine blk_alloc ?_ _)); exact BK186.out) k_ hn_)), Or.elim hk_ (fun hs_ => Or.elim hs_ (fun hs_ => fun e_ => Nat.not_le.2 hs_ (by rw [e_]; exact GW187.out)) (fun hs_ => fun e_ => Nat.not_le.2 hs_ (by rw [e_]; exact GW187.out))) (fun hn_ => (Kd.freshB (g := gb187) (o := .cells #[.slice A2_0 l2_0.length c2_0, .int .u64 a2_1, .int .u64 a2_2, .int .u64 a2_3, .int .u64 a2_4, .int .u64 a2_5, .int .u64 a2_6, .int .u64 a2_7, .int .u64 a2_8, .int .u64 a2_9, .int .u64 a2_10, .int .u64 a2_11, .int .u64 a2_12, .int .u64 a2_13, .bool a2_14, .bool a2_15, .bool a2_16, .int .u64 a2_17, .int .u64 a2_18, .int .u64 a2_19, .int .u64 a2_20, .int .u64 a2_21, .int .u64 a2_22, .int .u64 a2_23, .int .u64 a2_24, .int .u64 a2_25, .int .u64 a2_26, .int .u64 a2_27, .int .u64 a2_28, .int .u64 a2_29, .int .u64 a2_30, .int .u64 a2_31, .bool a2_32, .bool a2_33, .bool a2_34, .bool a2_35, .bool a2_36] 35 (0, 0)) (by (with_reducible repeat (first | refine blk_drewN ?_ _ | refine blk_drew ?_ | refine blk_alloc ?_ _)); exact BK187.out) k_ hn_)), Or.elim hk_ (fun hs_ => Or.elim hs_ (fun hs_ => fun e_ => Nat.not_le.2 hs_ (by rw [e_]; exact GW188.out)) (fun hs_ => fun e_ => Nat.not_le.2 hs_ (by rw [e_]; exact GW188.out))) (fun hn_ => (Kd.freshB (g := gb188) (o := .cells #[.slice A0 l0.length c0, .int .i64 a1_0, .int .u64 a1_1, .slice A1_2 l1_2.length c1_2] 86 (0, 0)) (by (with_reducible repeat (first | refine blk_drewN ?_ _ | refine blk_drew ?_ | refine blk_alloc ?_ _)); exact BK188.out) k_ hn_))⟩)) (below_size (by repeat (first | (with_reducible first | exact HB.out | apply below_alloc | apply pw_below_drewN | apply below_drew1 | refine below_set ?_ GE186.out | refine below_set ?_ GE187.out | refine below_set ?_ GE188.out) | exact HB.out)))); have n1_ := Aside0.mk (Kd.V_lower (Kd.V_mono (ok' := fun k_ => k_ ≠ gb186 ∧ k_ ≠ gb187 ∧ k_ ≠ gb188) ho1 (fun k_ hk_ => ⟨Or.elim hk_ (fun hs_ => Or.elim hs_ (fun hs_ => fun e_ => Nat.not_le.2 hs_ (by rw [e_]; exact GW186.out)) (fun hs_ => fun e_ => Nat.not_le.2 hs_ (by rw [e_]; exact GW186.out))) (fun hn_ => (Kd.freshB (g := gb186) (o := .cells #[.int .i64 a1_0, .int .u64 a1_1, .slice A1_2 l1_2.length c1_2] 32 (0, 0)) (by (with_reducible repeat (first | refine blk_drewN ?_ _ | refine blk_drew ?_ | refine blk_alloc ?_ _)); exact BK186.out) k_ hn_)), Or.elim hk_ (fun hs_ => Or.elim hs_ (fun hs_ => fun e_ => Nat.not_le.2 hs_ (by rw [e_]; exact GW187.out)) (fun hs_ => fun e_ => Nat.not_le.2 hs_ (by rw [e_]; exact GW187.out))) (fun hn_ => (Kd.freshB (g := gb187) (o := .cells #[.slice A2_0 l2_0.length c2_0, .int .u64 a2_1, .int .u64 a2_2, .int .u64 a2_3, .int .u64 a2_4, .int .u64 a2_5, .int .u64 a2_6, .int .u64 a2_7, .int .u64 a2_8, .int .u64 a2_9, .int .u64 a2_10, .int .u64 a2_11, .int .u64 a2_12, .int .u64 a2_13, .bool a2_14, .bool a2_15, .bool a2_16, .int .u64 a2_17, .int .u64 a2_18, .int .u64 a2_19, .int .u64 a2_20, .int .u64 a2_21, .int .u64 a2_22, .int .u64 a2_23, .int .u64 a2_24, .int .u64 a2_25, .int .u64 a2_26, .int .u64 a2_27, .int .u64 a2_28, .int .u64 a2_29, .int .u64 a2_30, .int .u64 a2_31, .bool a2_32, .bool a2_33, .bool a2_34, .bool a2_35, .bool a2_36] 35 (0, 0)) (by (with_reducible repeat (first | refine blk_drewN ?_ _ | refine blk_drew ?_ | refine blk_alloc ?_ _)); exact BK187.out) k_ hn_)), Or.elim hk_ (fun hs_ => Or.elim hs_ (fun hs_ => fun e_ => Nat.not_le.2 hs_ (by rw [e_]; exact GW188.out)) (fun hs_ => fun e_ => Nat.not_le.2 hs_ (by rw [e_]; exact GW188.out))) (fun hn_ => (Kd.freshB (g := gb188) (o := .cells #[.slice A0 l0.length c0, .int .i64 a1_0, .int .u64 a1_1, .slice A1_2 l1_2.length c1_2] 86 (0, 0)) (by (with_reducible repeat (first | refine blk_drewN ?_ _ | refine blk_drew ?_ | refine blk_alloc ?_ _)); exact BK188.out) k_ hn_))⟩)) (below_size (by repeat (first | (with_reducible first | exact HB.out | apply below_alloc | apply pw_below_drewN | apply below_drew1 | refine below_set ?_ GE186.out | refine below_set ?_ GE187.out | refine below_set ?_ GE188.out) | exact HB.out)))); have n2_ := Aside0.mk (Kd.V_lower (Kd.V_mono (ok' := fun k_ => k_ ≠ gb186 ∧ k_ ≠ gb187 ∧ k_ ≠ gb188) ho2 (fun k_ hk_ => ⟨Or.elim hk_ (fun hs_ => Or.elim hs_ (fun hs_ => fun e_ => Nat.not_le.2 hs_ (by rw [e_]; exact GW186.out)) (fun hs_ => fun e_ => Nat.not_le.2 hs_ (by rw [e_]; exact GW186.out))) (fun hn_ => (Kd.freshB (g := gb186) (o := .cells #[.int .i64 a1_0, .int .u64 a1_1, .slice A1_2 l1_2.length c1_2] 32 (0, 0)) (by (with_reducible repeat (first | refine blk_drewN ?_ _ | refine blk_drew ?_ | refine blk_alloc ?_ _)); exact BK186.out) k_ hn_)), Or.elim hk_ (fun hs_ => Or.elim hs_ (fun hs_ => fun e_ => Nat.not_le.2 hs_ (by rw [e_]; exact GW187.out)) (fun hs_ => fun e_ => Nat.not_le.2 hs_ (by rw [e_]; exact GW187.out))) (fun hn_ => (Kd.freshB (g := gb187) (o := .cells #[.slice A2_0 l2_0.length c2_0, .int .u64 a2_1, .int .u64 a2_2, .int .u64 a2_3, .int .u64 a2_4, .int .u64 a2_5, .int .u64 a2_6, .int .u64 a2_7, .int .u64 a2_8, .int .u64 a2_9, .int .u64 a2_10, .int .u64 a2_11, .int .u64 a2_12, .int .u64 a2_13, .bool a2_14, .bool a2_15, .bool a2_16, .int .u64 a2_17, .int .u64 a2_18, .int .u64 a2_19, .int .u64 a2_20, .int .u64 a2_21, .int .u64 a2_22, .int .u64 a2_23, .int .u64 a2_24, .int .u64 a2_25, .int .u64 a2_26, .int .u64 a2_27, .int .u64 a2_28, .int .u64 a2_29, .int .u64 a2_30, .int .u64 a2_31, .bool a2_32, .bool a2_33, .bool a2_34, .bool a2_35, .bool a2_36] 35 (0, 0)) (by (with_reducible repeat (first | refine blk_drewN ?_ _ | refine blk_drew ?_ | refine blk_alloc ?_ _)); exact BK187.out) k_ hn_)), Or.elim hk_ (fun hs_ => Or.elim hs_ (fun hs_ => fun e_ => Nat.not_le.2 hs_ (by rw [e_]; exact GW188.out)) (fun hs_ => fun e_ => Nat.not_le.2 hs_ (by rw [e_]; exact GW188.out))) (fun hn_ => (Kd.freshB (g := gb188) (o := .cells #[.slice A0 l0.length c0, .int .i64 a1_0, .int .u64 a1_1, .slice A1_2 l1_2.length c1_2] 86 (0, 0)) (by (with_reducible repeat (first | refine blk_drewN ?_ _ | refine blk_drew ?_ | refine blk_alloc ?_ _)); exact BK188.out) k_ hn_))⟩)) (below_size (by repeat (first | (with_reducible first | exact HB.out | apply below_alloc | apply pw_below_drewN | apply below_drew1 | refine below_set ?_ GE186.out | refine below_set ?_ GE187.out | refine below_set ?_ GE188.out) | exact HB.out)))); have n3_ := Aside0.mk (Kd.V_lower (Kd.V_mono (ok' := fun k_ => k_ ≠ gb186 ∧ k_ ≠ gb187 ∧ k_ ≠ gb188) ho3 (fun k_ hk_ => ⟨Or.elim hk_ (fun hs_ => Or.elim hs_ (fun hs_ => fun e_ => Nat.not_le.2 hs_ (by rw [e_]; exact GW186.out)) (fun hs_ => fun e_ => Nat.not_le.2 hs_ (by rw [e_]; exact GW186.out))) (fun hn_ => (Kd.freshB (g := gb186) (o := .cells #[.int .i64 a1_0, .int .u64 a1_1, .slice A1_2 l1_2.length c1_2] 32 (0, 0)) (by (with_reducible repeat (first | refine blk_drewN ?_ _ | refine blk_drew ?_ | refine blk_alloc ?_ _)); exact BK186.out) k_ hn_)), Or.elim hk_ (fun hs_ => Or.elim hs_ (fun hs_ => fun e_ => Nat.not_le.2 hs_ (by rw [e_]; exact GW187.out)) (fun hs_ => fun e_ => Nat.not_le.2 hs_ (by rw [e_]; exact GW187.out))) (fun hn_ => (Kd.freshB (g := gb187) (o := .cells #[.slice A2_0 l2_0.length c2_0, .int .u64 a2_1, .int .u64 a2_2, .int .u64 a2_3, .int .u64 a2_4, .int .u64 a2_5, .int .u64 a2_6, .int .u64 a2_7, .int .u64 a2_8, .int .u64 a2_9, .int .u64 a2_10, .int .u64 a2_11, .int .u64 a2_12, .int .u64 a2_13, .bool a2_14, .bool a2_15, .bool a2_16, .int .u64 a2_17, .int .u64 a2_18, .int .u64 a2_19, .int .u64 a2_20, .int .u64 a2_21, .int .u64 a2_22, .int .u64 a2_23, .int .u64 a2_24, .int .u64 a2_25, .int .u64 a2_26, .int .u64 a2_27, .int .u64 a2_28, .int .u64 a2_29, .int .u64 a2_30, .int .u64 a2_31, .bool a2_32, .bool a2_33, .bool a2_34, .bool a2_35, .bool a2_36] 35 (0, 0)) (by (with_reducible repeat (first | refine blk_drewN ?_ _ | refine blk_drew ?_ | refine blk_alloc ?_ _)); exact BK187.out) k_ hn_)), Or.elim hk_ (fun hs_ => Or.elim hs_ (fun hs_ => fun e_ => Nat.not_le.2 hs_ (by rw [e_]; exact GW188.out)) (fun hs_ => fun e_ => Nat.not_le.2 hs_ (by rw [e_]; exact GW188.out))) (fun hn_ => (Kd.freshB (g := gb188) (o := .cells #[.slice A0 l0.length c0, .int .i64 a1_0, .int .u64 a1_1, .slice A1_2 l1_2.length c1_2] 86 (0, 0)) (by (with_reducible repeat (first | refine blk_drewN ?_ _ | refine blk_drew ?_ | refine blk_alloc ?_ _)); exact BK188.out) k_ hn_))⟩)) (below_size (by repeat (first | (with_reducible first | exact HB.out | apply below_alloc | apply pw_below_drewN | apply below_drew1 | refine below_set ?_ GE186.out | refine below_set ?_ GE187.out | refine below_set ?_ GE188.out) | exact HB.out)))); have n4_ := Aside0.mk (blk_below (g := gb186) (o := .cells #[.int .i64 a1_0, .int .u64 a1_1, .slice A1_2 l1_2.length c1_2] 32 (0, 0)) (by (with_reducible repeat (first | refine blk_drewN ?_ _ | refine blk_drew ?_ | refine blk_alloc ?_ _)); exact BK186.out) hb); have n5_ := Aside0.mk (blk_below (g := gb187) (o := .cells #[.slice A2_0 l2_0.length c2_0, .int .u64 a2_1, .int .u64 a2_2, .int .u64 a2_3, .int .u64 a2_4, .int .u64 a2_5, .int .u64 a2_6, .int .u64 a2_7, .int .u64 a2_8, .int .u64 a2_9, .int .u64 a2_10, .int .u64 a2_11, .int .u64 a2_12, .int .u64 a2_13, .bool a2_14, .bool a2_15, .bool a2_16, .int .u64 a2_17, .int .u64 a2_18, .int .u64 a2_19, .int .u64 a2_20, .int .u64 a2_21, .int .u64 a2_22, .int .u64 a2_23, .int .u64 a2_24, .int .u64 a2_25, .int .u64 a2_26, .int .u64 a2_27, .int .u64 a2_28, .int .u64 a2_29, .int .u64 a2_30, .int .u64 a2_31, .bool a2_32, .bool a2_33, .bool a2_34, .bool a2_35, .bool a2_36] 35 (0, 0)) (by (with_reducible repeat (first | refine blk_drewN ?_ _ | refine blk_drew ?_ | refine blk_alloc ?_ _)); exact BK187.out) hb); have n6_ := Aside0.mk (blk_below (g := gb188) (o := .cells #[.slice A0 l0.length c0, .int .i64 a1_0, .int .u64 a1_1, .slice A1_2 l1_2.length c1_2] 86 (0, 0)) (by (with_reducible repeat (first | refine blk_drewN ?_ _ | refine blk_drew ?_ | refine blk_alloc ?_ _)); exact BK188.out) hb); have n7_ := Aside0.mk (below_step (by repeat (first | (with_reducible first | exact HB.out | apply below_alloc | apply pw_below_drewN | apply below_drew1 | refine below_set ?_ GE186.out | refine below_set ?_ GE187.out | refine below_set ?_ GE188.out) | exact HB.out)) hb); clear BK186; clear BK187; clear BK188; clear HB; have HO191 := n0_; have HO196 := n1_; have HO199 := n2_; have HO202 := n3_; have BK186 := n4_; have BK187 := n5_; have BK188 := n6_; have HB := n7_; clear n0_ n1_ n2_ n3_ n4_ n5_ n6_ n7_; (try clear hb); (try clear hb2); (try clear hk); (try clear hi); (try clear ho0); (try clear ho1); (try clear ho2); (try clear ho3); (try simp only [errW_none, errW_some]); obtain ⟨Ao20, co20, eo20⟩ := Kd.V_slice HO191.out; subst eo20; obtain ⟨Ao21, co21, eo21⟩ := Kd.V_slice HO196.out; subst eo21; obtain ⟨Ao22, co22, eo22⟩ := Kd.V_slice HO199.out; subst eo22; obtain ⟨Ao23, co23, eo23⟩ := Kd.V_slice HO202.out; subst eo23) | ((with_reducible refine gate_dst (N := 11) rfl ?_); refine box_event2 ?hg (N := 11) ?hd (cs := #[.slice Ao20 t189.length co20, .int .i64 t192, .int .u64 t193, .slice Ao21 t194.length co21, .slice Ao22 t197.length co22, .slice Ao23 t200.length co23, .int .u32 t203, .int .u32 t204, .int .u64 t205]) (t := 92) (zs := ?zs) ?hr rfl rfl rfl (fun _ => rfl) (fun _ => rfl) (by kernel_rfl) ?hz (by first | kernel_rfl | rfl) ?_; (case hd => rfl); (case hg => rfl); (case hr => first | (go_simp; done) | (go_simp; rfl)); (case hz => rfl); intro gb207 hg w24 hbox hb; have n0_ := Aside0.mk (Kd.V_below (Kd.V_elderB (by (with_reducible repeat (first | apply Kd.V_alloc | apply Kd.V_drewN | apply Kd.V_drew)); exact HO191.out) gb207 (Nat.le_of_eq hg.symm)) hb); have n1_ := Aside0.mk (Kd.V_below (Kd.V_elderB (by (with_reducible repeat (first | apply Kd.V_alloc | apply Kd.V_drewN | apply Kd.V_drew)); exact HO196.out) gb207 (Nat.le_of_eq hg.symm)) hb); have n2_ := Aside0.mk (Kd.V_below (Kd.V_elderB (by (with_reducible repeat (first | apply Kd.V_alloc | apply Kd.V_drewN | apply Kd.V_drew)); exact HO199.out) gb207 (Nat.le_of_eq hg.symm)) hb); have n3_ := Aside0.mk (Kd.V_below (Kd.V_elderB (by (with_reducible repeat (first | apply Kd.V_alloc | apply Kd.V_drewN | apply Kd.V_drew)); exact HO202.out) gb207 (Nat.le_of_eq hg.symm)) hb); have n4_ := Aside0.mk (blk_below (g := gb186) (o := .cells #[.int .i64 a1_0, .int .u64 a1_1, .slice A1_2 l1_2.length c1_2] 32 (0, 0)) (by (with_reducible repeat (first | refine blk_drewN ?_ _ | refine blk_drew ?_ | refine blk_alloc ?_ _)); exact BK186.out) hb); have n5_ := Aside0.mk (blk_below (g := gb187) (o := .cells #[.slice A2_0 l2_0.length c2_0, .int .u64 a2_1, .int .u64 a2_2, .int .u64 a2_3, .int .u64 a2_4, .int .u64 a2_5, .int .u64 a2_6, .int .u64 a2_7, .int .u64 a2_8, .int .u64 a2_9, .int .u64 a2_10, .int .u64 a2_11, .int .u64 a2_12, .int .u64 a2_13, .bool a2_14, .bool a2_15, .bool a2_16, .int .u64 a2_17, .int .u64 a2_18, .int .u64 a2_19, .int .u64 a2_20, .int .u64 a2_21, .int .u64 a2_22, .int .u64 a2_23, .int .u64 a2_24, .int .u64 a2_25, .int .u64 a2_26, .int .u64 a2_27, .int .u64 a2_28, .int .u64 a2_29, .int .u64 a2_30, .int .u64 a2_31, .bool a2_32, .bool a2_33, .bool a2_34, .bool a2_35, .bool a2_36] 35 (0, 0)) (by (with_reducible repeat (first | refine blk_drewN ?_ _ | refine blk_drew ?_ | refine blk_alloc ?_ _)); exact BK187.out) hb); have n6_ := Aside0.mk (blk_below (g := gb188) (o := .cells #[.slice A0 l0.length c0, .int .i64 a1_0, .int .u64 a1_1, .slice A1_2 l1_2.length c1_2] 86 (0, 0)) (by (with_reducible repeat (first | refine blk_drewN ?_ _ | refine blk_drew ?_ | refine blk_alloc ?_ _)); exact BK188.out) hb); have n7_ := Aside0.mk (below_step (by repeat (first | (with_reducible first | exact HB.out | apply below_alloc | apply pw_below_drewN | apply below_drew1 | refine below_set ?_ GE186.out | refine below_set ?_ GE187.out | refine below_set ?_ GE188.out) | exact HB.out)) hb); have n8_ := Aside0.mk (hbox); have n9_ := Aside0.mk ((by rw [hg]; exact (below_size (by repeat (first | (with_reducible first | exact HB.out | apply below_alloc | apply pw_below_drewN | apply below_drew1 | refine below_set ?_ GE186.out | refine below_set ?_ GE187.out | refine below_set ?_ GE188.out) | exact HB.out))) : w.heap.size ≤ gb207)); have n10_ := Aside0.mk ((by rw [hg]; exact (below_size (by repeat (first | (with_reducible first | exact HB.out | apply below_alloc | apply pw_below_drewN | apply below_drew1 | refine below_set ?_ GE186.out | refine below_set ?_ GE187.out | refine below_set ?_ GE188.out) | exact HB.out))) : w.heap.size ≤ gb207)); have n11_ := Aside0.mk ((by rw [hg]; exact Nat.ne_of_lt (blk_lt (g := gb186) (o := .cells #[.int .i64 a1_0, .int .u64 a1_1, .slice A1_2 l1_2.length c1_2] 32 (0, 0)) (by (with_reducible repeat (first | refine blk_drewN ?_ _ | refine blk_drew ?_ | refine blk_alloc ?_ _)); exact BK186.out)) : gb186 ≠ gb207)); have n12_ := Aside0.mk ((by rw [hg]; exact Nat.ne_of_gt (blk_lt (g := gb186) (o := .cells #[.int .i64 a1_0, .int .u64 a1_1, .slice A1_2 l1_2.length c1_2] 32 (0, 0)) (by (with_reducible repeat (first | refine blk_drewN ?_ _ | refine blk_drew ?_ | refine blk_alloc ?_ _)); exact BK186.out)) : gb207 ≠ gb186)); have n13_ := Aside0.mk ((by rw [hg]; exact Nat.ne_of_lt (blk_lt (g := gb187) (o := .cells #[.slice A2_0 l2_0.length c2_0, .int .u64 a2_1, .int .u64 a2_2, .int .u64 a2_3, .int .u64 a2_4, .int .u64 a2_5, .int .u64 a2_6, .int .u64 a2_7, .int .u64 a2_8, .int .u64 a2_9, .int .u64 a2_10, .int .u64 a2_11, .int .u64 a2_12, .int .u64 a2_13, .bool a2_14, .bool a2_15, .bool a2_16, .int .u64 a2_17, .int .u64 a2_18, .int .u64 a2_19, .int .u64 a2_20, .int .u64 a2_21, .int .u64 a2_22, .int .u64 a2_23, .int .u64 a2_24, .int .u64 a2_25, .int .u64 a2_26, .int .u64 a2_27, .int .u64 a2_28, .int .u64 a2_29, .int .u64 a2_30, .int .u64 a2_31, .bool a2_32, .bool a2_33, .bool a2_34, .bool a2_35, .bool a2_36] 35 (0, 0)) (by (with_reducible repeat (first | refine blk_drewN ?_ _ | refine blk_drew ?_ | refine blk_alloc ?_ _)); exact BK187.out)) : gb187 ≠ gb207)); have n14_ := Aside0.mk ((by rw [hg]; exact Nat.ne_of_gt (blk_lt (g := gb187) (o := .cells #[.slice A2_0 l2_0.length c2_0, .int .u64 a2_1, .int .u64 a2_2, .int .u64 a2_3, .int .u64 a2_4, .int .u64 a2_5, .int .u64 a2_6, .int .u64 a2_7, .int .u64 a2_8, .int .u64 a2_9, .int .u64 a2_10, .int .u64 a2_11, .int .u64 a2_12, .int .u64 a2_13, .bool a2_14, .bool a2_15, .bool a2_16, .int .u64 a2_17, .int .u64 a2_18, .int .u64 a2_19, .int .u64 a2_20, .int .u64 a2_21, .int .u64 a2_22, .int .u64 a2_23, .int .u64 a2_24, .int .u64 a2_25, .int .u64 a2_26, .int .u64 a2_27, .int .u64 a2_28, .int .u64 a2_29, .int .u64 a2_30, .int .u64 a2_31, .bool a2_32, .bool a2_33, .bool a2_34, .bool a2_35, .bool a2_36] 35 (0, 0)) (by (with_reducible repeat (first | refine blk_drewN ?_ _ | refine blk_drew ?_ | refine blk_alloc ?_ _)); exact BK187.out)) : gb207 ≠ gb187)); have n15_ := Aside0.mk ((by rw [hg]; exact Nat.ne_of_lt (blk_lt (g := gb188) (o := .cells #[.slice A0 l0.length c0, .int .i64 a1_0, .int .u64 a1_1, .slice A1_2 l1_2.length c1_2] 86 (0, 0)) (by (with_reducible repeat (first | refine blk_drewN ?_ _ | refine blk_drew ?_ | refine blk_alloc ?_ _)); exact BK188.out)) : gb188 ≠ gb207)); have n16_ := Aside0.mk ((by rw [hg]; exact Nat.ne_of_gt (blk_lt (g := gb188) (o := .cells #[.slice A0 l0.length c0, .int .i64 a1_0, .int .u64 a1_1, .slice A1_2 l1_2.length c1_2] 86 (0, 0)) (by (with_reducible repeat (first | refine blk_drewN ?_ _ | refine blk_drew ?_ | refine blk_alloc ?_ _)); exact BK188.out)) : gb207 ≠ gb188)); clear HO191; clear HO196; clear HO199; clear HO202; clear BK186; clear BK187; clear BK188; clear HB; have HO191 := n0_; have HO196 := n1_; have HO199 := n2_; have HO202 := n3_; have BK186 := n4_; have BK187 := n5_; have BK188 := n6_; have HB := n7_; have BK207 := n8_; have GW207 := n9_; have GE207 := n10_; have NB186_207 := n11_; have NB207_186 := n12_; have NB187_207 := n13_; have NB207_187 := n14_; have NB188_207 := n15_; have NB207_188 := n16_; clear n0_ n1_ n2_ n3_ n4_ n5_ n6_ n7_ n8_ n9_ n10_ n11_ n12_ n13_ n14_ n15_ n16_; clear hb hbox hg; have hnb25 := NB207_186.out; have hnc25 := NB186_207.out; have hnb26 := NB207_187.out; have hnc26 := NB187_207.out; have hnb27 := NB207_188.out; have hnc27 := NB188_207.out; have hcz28_0 : w24.cell? ⟨gb207, 0, none⟩ = some (.slice Ao20 t189.length co20) := (blk_cell BK207.out 0).trans rfl; have hcz28_1 : w24.cell? ⟨gb207, 1, none⟩ = some (.int .i64 t192) := (blk_cell BK207.out 1).trans rfl; have hcz28_2 : w24.cell? ⟨gb207, 2, none⟩ = some (.int .u64 t193) := (blk_cell BK207.out 2).trans rfl; have hcz28_3 : w24.cell? ⟨gb207, 3, none⟩ = some (.slice Ao21 t194.length co21) := (blk_cell BK207.out 3).trans rfl; have hcz28_4 : w24.cell? ⟨gb207, 4, none⟩ = some (.slice Ao22 t197.length co22) := (blk_cell BK207.out 4).trans rfl; have hcz28_5 : w24.cell? ⟨gb207, 5, none⟩ = some (.slice Ao23 t200.length co23) := (blk_cell BK207.out 5).trans rfl; have hcz28_6 : w24.cell? ⟨gb207, 6, none⟩ = some (.int .u32 t203) := (blk_cell BK207.out 6).trans rfl; have hcz28_7 : w24.cell? ⟨gb207, 7, none⟩ = some (.int .u32 t204) := (blk_cell BK207.out 7).trans rfl; have hcz28_8 : w24.cell? ⟨gb207, 8, none⟩ = some (.int .u64 t205) := (blk_cell BK207.out 8).trans rfl; have hfz28_0 := blk_frozen BK207.out 0; have hfz28_1 := blk_frozen BK207.out 1; have hfz28_2 := blk_frozen BK207.out 2; have hfz28_3 := blk_frozen BK207.out 3; have hfz28_4 := blk_frozen BK207.out 4; have hfz28_5 := blk_frozen BK207.out 5; have hfz28_6 := blk_frozen BK207.out 6; have hfz28_7 := blk_frozen BK207.out 7; have hfz28_8 := blk_frozen BK207.out 8) | ((with_reducible refine gate_callee (f := 32) rfl ?_); refine goesL_ (some 46) rfl rfl Try.func32 (by kernel_rfl) rfl #[.agg #[.slice Ao20 t189.length co20, .int .i64 t192, .int .u64 t193, .slice Ao21 t194.length co21, .slice Ao22 t197.length co22, .slice Ao23 t200.length co23, .int .u32 t203, .int .u32 t204, .int .u64 t205]] rfl (by (try simp only [List.map_toArray, List.map_cons, List.map_nil]); first | done | rfl | (simp only [List.length_drop, List.length_take]; rfl)) ?_; (with_reducible refine (hash_second_count.calls k _ _ t189 t192 t193 _ _ t194 _ _ t197 _ _ t200 t203 t204 t205 t209 t210 _ ?side1 ?side2 ?side3 ?side4 ?side5 ?side6 ?side7 ?side8 A7.out).mono ?_); (case side1 => repeat (first | exact (Kd.V_reads' HO191.out).2.2 | (with_reducible refine Kd.C_alloc ?_ _) | (with_reducible refine Kd.C_drewN ?_ _) | (with_reducible refine Kd.C_drew ?_))); (case side2 => exact (Kd.V_reads' HO191.out).2.1); (case side3 => repeat (first | exact (Kd.V_reads' HO196.out).2.2 | (with_reducible refine Kd.C_alloc ?_ _) | (with_reducible refine Kd.C_drewN ?_ _) | (with_reducible refine Kd.C_drew ?_))); (case side4 => exact (Kd.V_reads' HO196.out).2.1); (case side5 => repeat (first | exact (Kd.V_reads' HO199.out).2.2 | (with_reducible refine Kd.C_alloc ?_ _) | (with_reducible refine Kd.C_drewN ?_ _) | (with_reducible refine Kd.C_drew ?_))); (case side6 => exact (Kd.V_reads' HO199.out).2.1); (case side7 => repeat (first | exact (Kd.V_reads' HO202.out).2.2 | (with_reducible refine Kd.C_alloc ?_ _) | (with_reducible refine Kd.C_drewN ?_ _) | (with_reducible refine Kd.C_drew ?_))); (case side8 => exact (Kd.V_reads' HO202.out).2.1); rintro e w29 ⟨rfl, hb⟩; refine ⟨_, rfl, ?_⟩; have n0_ := Aside0.mk (Kd.V_below (by (with_reducible repeat (first | apply Kd.V_alloc | apply Kd.V_drewN | apply Kd.V_drew)); exact HO191.out) hb); have n1_ := Aside0.mk (Kd.V_below (by (with_reducible repeat (first | apply Kd.V_alloc | apply Kd.V_drewN | apply Kd.V_drew)); exact HO196.out) hb); have n2_ := Aside0.mk (Kd.V_below (by (with_reducible repeat (first | apply Kd.V_alloc | apply Kd.V_drewN | apply Kd.V_drew)); exact HO199.out) hb); have n3_ := Aside0.mk (Kd.V_below (by (with_reducible repeat (first | apply Kd.V_alloc | apply Kd.V_drewN | apply Kd.V_drew)); exact HO202.out) hb); have n4_ := Aside0.mk (blk_below (g := gb186) (o := .cells #[.int .i64 a1_0, .int .u64 a1_1, .slice A1_2 l1_2.length c1_2] 32 (0, 0)) (by (with_reducible repeat (first | refine blk_drewN ?_ _ | refine blk_drew ?_ | refine blk_alloc ?_ _)); exact BK186.out) hb); have n5_ := Aside0.mk (blk_below (g := gb187) (o := .cells #[.slice A2_0 l2_0.length c2_0, .int .u64 a2_1, .int .u64 a2_2, .int .u64 a2_3, .int .u64 a2_4, .int .u64 a2_5, .int .u64 a2_6, .int .u64 a2_7, .int .u64 a2_8, .int .u64 a2_9, .int .u64 a2_10, .int .u64 a2_11, .int .u64 a2_12, .int .u64 a2_13, .bool a2_14, .bool a2_15, .bool a2_16, .int .u64 a2_17, .int .u64 a2_18, .int .u64 a2_19, .int .u64 a2_20, .int .u64 a2_21, .int .u64 a2_22, .int .u64 a2_23, .int .u64 a2_24, .int .u64 a2_25, .int .u64 a2_26, .int .u64 a2_27, .int .u64 a2_28, .int .u64 a2_29, .int .u64 a2_30, .int .u64 a2_31, .bool a2_32, .bool a2_33, .bool a2_34, .bool a2_35, .bool a2_36] 35 (0, 0)) (by (with_reducible repeat (first | refine blk_drewN ?_ _ | refine blk_drew ?_ | refine blk_alloc ?_ _)); exact BK187.out) hb); have n6_ := Aside0.mk (blk_below (g := gb188) (o := .cells #[.slice A0 l0.length c0, .int .i64 a1_0, .int .u64 a1_1, .slice A1_2 l1_2.length c1_2] 86 (0, 0)) (by (with_reducible repeat (first | refine blk_drewN ?_ _ | refine blk_drew ?_ | refine blk_alloc ?_ _)); exact BK188.out) hb); have n7_ := Aside0.mk (blk_below (g := gb207) (o := .cells #[.slice Ao20 t189.length co20, .int .i64 t192, .int .u64 t193, .slice Ao21 t194.length co21, .slice Ao22 t197.length co22, .slice Ao23 t200.length co23, .int .u32 t203, .int .u32 t204, .int .u64 t205] 92 (0, 0)) (by (with_reducible repeat (first | refine blk_drewN ?_ _ | refine blk_drew ?_ | refine blk_alloc ?_ _)); exact BK207.out) hb); have n8_ := Aside0.mk (below_step (by repeat (first | (with_reducible first | exact HB.out | apply below_alloc | apply pw_below_drewN | apply below_drew1 | refine below_set ?_ GE186.out | refine below_set ?_ GE187.out | refine below_set ?_ GE188.out | refine below_set ?_ GE207.out) | exact HB.out)) hb); clear HO191; clear HO196; clear HO199; clear HO202; clear BK186; clear BK187; clear BK188; clear BK207; clear HB; have HO191 := n0_; have HO196 := n1_; have HO199 := n2_; have HO202 := n3_; have BK186 := n4_; have BK187 := n5_; have BK188 := n6_; have BK207 := n7_; have HB := n8_; clear n0_ n1_ n2_ n3_ n4_ n5_ n6_ n7_ n8_; (try clear hb); (try clear hb2); (try clear hk); (try clear hi); (try simp only [errW_none, errW_some])))
    go_ret2
    exact ⟨by first | rfl | (simp [errW_none, errW_some] <;> rfl) | (simp [*, errW_none, errW_some] <;> rfl), by repeat (first | (with_reducible first | exact HB.out | apply below_alloc | apply pw_below_drewN | apply below_drew1 | refine below_set ?_ GE186.out | refine below_set ?_ GE187.out | refine below_set ?_ GE188.out | refine below_set ?_ GE207.out) | exact HB.out)⟩
   ·have H1 : (none) = some (r1, r2) := by rw [if_neg (show ¬ (some q208).isNone = true by simp)] at H; exact H
    clear H
    have H := H1
    clear H1
    try simp only [errW_none, errW_some]
    exact absurd H (by simp)
 ·rw [if_neg c4] at H
  exact absurd H (by simp)

end Go.Proofs.Ythopdoamajjojaa.QHashB
