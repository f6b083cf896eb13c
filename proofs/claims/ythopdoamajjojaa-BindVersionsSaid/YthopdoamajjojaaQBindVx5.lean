-- Laid by wip/hook.py (this session's own program) out of the translation; with contracts that were written by hand.
import Derived.Test.YthopdoamajjojaaQBindVx0
import Derived.Test.YthopdoamajjojaaQBindVx4
namespace Go.Proofs.Ythopdoamajjojaa.QBindV
open Go.RowKit Go.Proofs.YthopdoamajjojaaW.PrintWords Go.Proofs.YthopdoamajjojaaW.PrintLast Go.Proofs.YthopdoamajjojaaW.PrintMore
attribute [local go_sem] max2_int min2_int max_two min_two max_three min_three max_four min_four   -- for this text's walks alone
set_option linter.unusedVariables false
set_option linter.unusedSimpArgs false

/-! ### hash_file_sysv: function 30 -/
mutual
def hash_file_sysv.j0 : Nat → Int → List Int → Bool → List Int → Int → Int → List (S29) → Option (List Int × List Int × Option Int)
 | 0, _, _, _, _, _, _, _ => none
 | k + 1, x1, x6, x20, x151000, x151001, x151002, x151003 => if x20 = true then (none) else (if 0 < (x6.length : Int) then (if (rd x6 0) > 4096 then (hash_file_sysv.j1 k x1 x6 true x151000 x151001 x151002 x151003) else (if 1 < (x6.length : Int) then (hash_file_sysv.j1 k x1 x6 (decide ((rd x6 1) > 4096)) x151000 x151001 x151002 x151003) else (none))) else (none))
def hash_file_sysv.j1 : Nat → Int → List Int → Bool → List Int → Int → Int → List (S29) → Option (List Int × List Int × Option Int)
 | 0, _, _, _, _, _, _, _ => none
 | k + 1, x1, x6, x33, x151000, x151001, x151002, x151003 => if x33 = true then (none) else (if 0 < (x6.length : Int) then (if 1 < (x6.length : Int) then ((hash_file_words.f k x151000 x151001 x151002 x151003 x1 (IntKind.u64.wrap ((IntKind.u64.wrap (2 + (IntKind.u64.wrap (rd x6 0)))) + (IntKind.u64.wrap (rd x6 1))))).bind fun bt163 => (if bt163.2.isNone = true then (if 2 ≤ ((2 + (rd x6 0)) % 4294967296) then (if ((2 + (rd x6 0)) % 4294967296) ≤ (bt163.1.length : Int) then (if 0 ≤ ((2 + (rd x6 0)) % 4294967296) then (some (((bt163.1.take (((2 + (rd x6 0)) % 4294967296) : Int).toNat).drop 2), (bt163.1.drop (((2 + (rd x6 0)) % 4294967296) : Int).toNat), none)) else (none)) else (none)) else (none)) else (none))) else (none)) else (none))
end
def hash_file_sysv.f (k : Nat) (l0_0 : List Int) (a0_1 : Int) (a0_2 : Int) (l0_3 : List (S29)) (a1 : Int) : Option (List Int × List Int × Option Int) := (hash_file_words.f k l0_0 a0_1 a0_2 l0_3 a1 2).bind fun bt152 => (if bt152.2.isNone = true then (if 0 < (bt152.1.length : Int) then (if (rd bt152.1 0) = 0 then (hash_file_sysv.j0 k a1 bt152.1 true l0_0 a0_1 a0_2 l0_3) else (if 1 < (bt152.1.length : Int) then (hash_file_sysv.j0 k a1 bt152.1 ((rd bt152.1 1) == 0) l0_0 a0_1 a0_2 l0_3) else (none))) else (none)) else (none))
theorem hash_file_sysv.mono_l : ∀ k, (∀ y0 y1 y2 y3 y4 y5 y6, LeO (hash_file_sysv.j0 k y0 y1 y2 y3 y4 y5 y6) (hash_file_sysv.j0 (k + 1) y0 y1 y2 y3 y4 y5 y6)) ∧ (∀ y0 y1 y2 y3 y4 y5 y6, LeO (hash_file_sysv.j1 k y0 y1 y2 y3 y4 y5 y6) (hash_file_sysv.j1 (k + 1) y0 y1 y2 y3 y4 y5 y6))
 | 0 => ⟨fun _ _ _ _ _ _ _ r h => by simp [hash_file_sysv.j0] at h, fun _ _ _ _ _ _ _ r h => by simp [hash_file_sysv.j1] at h⟩
 | k + 1 => by
  obtain ⟨ih0, ih1⟩ := hash_file_sysv.mono_l k
  refine ⟨?_, ?_⟩
  ·intro y0 y1 y2 y3 y4 y5 y6
   unfold hash_file_sysv.j0
   repeat' first
   | (with_reducible exact ih0 _ _ _ _ _ _ _)
   | (with_reducible exact ih1 _ _ _ _ _ _ _)
   | (with_reducible exact hash_file_words.mono _ _ _ _ _ _ _)
   | (with_reducible exact LeO.refl _)
   | (with_reducible exact LeO.none _)
   | (with_reducible refine LeO.ite ?_ ?_)
   | (with_reducible refine LeO.bind ?_ (fun _ => ?_))
   | exact ih0 _ _ _ _ _ _ _
   | exact ih1 _ _ _ _ _ _ _
   | exact hash_file_words.mono _ _ _ _ _ _ _
   | exact LeO.none _
   | refine LeO.ite ?_ ?_
   | refine LeO.bind ?_ (fun _ => ?_)
  ·intro y0 y1 y2 y3 y4 y5 y6
   unfold hash_file_sysv.j1
   repeat' first
   | (with_reducible exact ih0 _ _ _ _ _ _ _)
   | (with_reducible exact ih1 _ _ _ _ _ _ _)
   | (with_reducible exact hash_file_words.mono _ _ _ _ _ _ _)
   | (with_reducible exact LeO.refl _)
   | (with_reducible exact LeO.none _)
   | (with_reducible refine LeO.ite ?_ ?_)
   | (with_reducible refine LeO.bind ?_ (fun _ => ?_))
   | exact ih0 _ _ _ _ _ _ _
   | exact ih1 _ _ _ _ _ _ _
   | exact hash_file_words.mono _ _ _ _ _ _ _
   | exact LeO.none _
   | refine LeO.ite ?_ ?_
   | refine LeO.bind ?_ (fun _ => ?_)
theorem hash_file_sysv.mono : ∀ a0 a1 a2 a3 a4 k, LeO (hash_file_sysv.f k a0 a1 a2 a3 a4) (hash_file_sysv.f (k + 1) a0 a1 a2 a3 a4) := by
 intro a0 a1 a2 a3 a4 k
 obtain ⟨ih0, ih1⟩ := hash_file_sysv.mono_l k
 unfold hash_file_sysv.f
 repeat' first
   | (with_reducible exact ih0 _ _ _ _ _ _ _)
   | (with_reducible exact ih1 _ _ _ _ _ _ _)
   | (with_reducible exact hash_file_words.mono _ _ _ _ _ _ _)
   | (with_reducible exact LeO.refl _)
   | (with_reducible exact LeO.none _)
   | (with_reducible refine LeO.ite ?_ ?_)
   | (with_reducible refine LeO.bind ?_ (fun _ => ?_))
   | exact ih0 _ _ _ _ _ _ _
   | exact ih1 _ _ _ _ _ _ _
   | exact hash_file_words.mono _ _ _ _ _ _ _
   | exact LeO.none _
   | refine LeO.ite ?_ ?_
   | refine LeO.bind ?_ (fun _ => ?_)
def hash_file_sysv.T8 : Bool × List (List Nat × List Nat) := (true, [([], []), ([], []), ([], []), ([2], [2]), ([3], [3]), ([4], [4]), ([5], [5]), ([], []), ([7], [7]), ([8], [8]), ([9], [9]), ([6, 10], [6, 10]), ([0, 1, 11], [0, 1, 11]), ([12], [12]), ([13], [13]), ([13], [13]), ([14, 12, 0, 1, 2, 3, 4, 5, 6, 7, 8, 9, 10, 11, 12, 13, 14], [14]), ([15, 16, 0, 1, 2, 3, 4, 5, 6, 7, 8, 9, 10, 11, 12, 13, 14, 15, 16], [15])])
def hash_file_sysv.B8 : List Nat := [0, 0, 0, 4, 12, 28, 60, 0, 128, 384, 896, 2044, 4095, 8191, 16383, 16383, 32767, 131071]
theorem hash_file_sysv.tab8 : rtab .any (opsOf Try.f30 8) = hash_file_sysv.T8 := by kernel_rfl
theorem hash_file_sysv.bits8 : waitsOk hash_file_sysv.T8.2 hash_file_sysv.B8 = true := by kernel_rfl
def hash_file_sysv.T11 : Bool × List (List Nat × List Nat) := (true, [([], []), ([], []), ([1], [1]), ([2], [2]), ([3], [3]), ([0, 4], [0, 4]), ([], []), ([], []), ([7], [7]), ([8], [8]), ([9], [9]), ([6, 10], [6, 10]), ([5, 11], [5, 11]), ([12, 0, 1, 2, 3, 4, 5, 6, 7, 8, 9, 10, 11, 12], [12]), ([13, 0, 1, 2, 3, 4, 5, 6, 7, 8, 9, 10, 11, 12, 13], [])])
def hash_file_sysv.B11 : List Nat := [0, 0, 2, 6, 14, 31, 0, 0, 128, 384, 896, 1984, 4095, 8191, 16383]
theorem hash_file_sysv.tab11 : rtab .any (opsOf Try.f30 11) = hash_file_sysv.T11 := by kernel_rfl
theorem hash_file_sysv.bits11 : waitsOk hash_file_sysv.T11.2 hash_file_sysv.B11 = true := by kernel_rfl
set_option maxHeartbeats 8000000 in
set_option maxRecDepth 100000 in
theorem hash_file_sysv.calls (k : Nat) (A0_0 : Option Addr) (c0_0 : Nat) (l0_0 : List Int) (a0_1 : Int) (a0_2 : Int) (A0_3 : Option Addr) (c0_3 : Nat) (l0_3 : List (S29)) (a1 : Int) (r1 : List Int) (r2 : List Int) (r3 : Option Int) (w : World) (hr0_0 : Kd.C (Kd.int .u8) w A0_0 l0_0.length l0_0) (hc0_0 : l0_0.length ≤ c0_0) (hr0_3 : Kd.C k29 w A0_3 l0_3.length l0_3) (hc0_3 : l0_3.length ≤ c0_3) (h : hash_file_sysv.f k l0_0 a0_1 a0_2 l0_3 a1 = some (r1, r2, r3)) :
  Calls Try.prog 30 #[.agg #[.slice A0_0 l0_0.length c0_0, .int .i64 a0_1, .int .u64 a0_2, .slice A0_3 l0_3.length c0_3], .int .u64 a1] w fun e w' => ∃ v0_ v1_ : Value, e = .returned (.tuple #[.agg #[v0_, v1_], errW r3]) ∧ Kd.V (Kd.int .u32) 26 w' w.heap.size (fun k_ => (w.heap.size ≤ k_)) v0_ r1 ∧ Kd.V (Kd.int .u32) 26 w' w.heap.size (fun k_ => (w.heap.size ≤ k_)) v1_ r2 ∧ Below w.heap.size w w' := by
 have hu86 := Try.underlying86
 have hu88 := Try.underlying88
 have hu41 := Try.underlying41
 have hu97 := Try.underlying97
 have HR0_0 := Aside0.mk hr0_0
 have HC0_0 := Aside0.mk hc0_0
 clear hr0_0 hc0_0
 have HR0_3 := Aside0.mk hr0_3
 have HC0_3 := Aside0.mk hc0_3
 clear hr0_3 hc0_3
 have HB := Aside0.mk (Below.refl w.heap.size w)
 have H : ((hash_file_words.f k l0_0 a0_1 a0_2 l0_3 a1 2).bind fun bt152 => (if bt152.2.isNone = true then (if 0 < (bt152.1.length : Int) then (if (rd bt152.1 0) = 0 then (hash_file_sysv.j0 k a1 bt152.1 true l0_0 a0_1 a0_2 l0_3) else (if 1 < (bt152.1.length : Int) then (hash_file_sysv.j0 k a1 bt152.1 ((rd bt152.1 1) == 0) l0_0 a0_1 a0_2 l0_3) else (none))) else (none)) else (none))) = some (r1, r2, r3) := h
 clear h
 replace H := Option.bind_eq_some_iff.mp H
 obtain ⟨⟨t152, t155⟩, A30, H⟩ := H
 replace H : (if t155.isNone = true then (if 0 < (t152.length : Int) then (if (rd t152 0) = 0 then (hash_file_sysv.j0 k a1 t152 true l0_0 a0_1 a0_2 l0_3) else (if 1 < (t152.length : Int) then (hash_file_sysv.j0 k a1 t152 ((rd t152 1) == 0) l0_0 a0_1 a0_2 l0_3) else (none))) else (none)) else (none)) = some (r1, r2, r3) := H
 have A3 := Aside0.mk A30
 clear A30
 rcases t155 with _ | q156
 ·have H1 : (if 0 < (t152.length : Int) then (if (rd t152 0) = 0 then (hash_file_sysv.j0 k a1 t152 true l0_0 a0_1 a0_2 l0_3) else (if 1 < (t152.length : Int) then (hash_file_sysv.j0 k a1 t152 ((rd t152 1) == 0) l0_0 a0_1 a0_2 l0_3) else (none))) else (none)) = some (r1, r2, r3) := by rw [if_pos (show (none : Option Int).isNone = true by rfl)] at H; exact H
  clear H
  have H := H1
  clear H1
  try simp only [errW_none, errW_some]
  have HC4 := Aside0.mk H
  clear H
  go_enter Try.func30, Try.ntmps30
  go_upto_region 4 with (first | ((with_reducible refine gate_dst (N := 2) rfl ?_); refine box_event ?hg (N := 2) ?hd (cs := #[.slice A0_0 l0_0.length c0_0, .int .i64 a0_1, .int .u64 a0_2, .slice A0_3 l0_3.length c0_3]) (t := 86) ?hr ?_; (case hd => rfl); (case hg => rfl); (case hr => first | (go_simp; done) | (go_simp; rfl)); intro gb150 hg w5 hbox hb; have n0_ := Aside0.mk (below_step (by repeat (first | (with_reducible first | exact HB.out | apply below_alloc | apply pw_below_drewN | apply below_drew1) | exact HB.out)) hb); have n1_ := Aside0.mk (hbox); have n2_ := Aside0.mk ((by rw [hg]; exact (below_size (by repeat (first | (with_reducible first | exact HB.out | apply below_alloc | apply pw_below_drewN | apply below_drew1) | exact HB.out))) : w.heap.size ≤ gb150)); have n3_ := Aside0.mk ((by rw [hg]; exact (below_size (by repeat (first | (with_reducible first | exact HB.out | apply below_alloc | apply pw_below_drewN | apply below_drew1) | exact HB.out))) : w.heap.size ≤ gb150)); clear HB; have HB := n0_; have BK150 := n1_; have GW150 := n2_; have GE150 := n3_; clear n0_ n1_ n2_ n3_; clear hb hbox hg) | ((with_reducible refine gate_dst (N := 4) rfl ?_); refine box_event ?hg (N := 4) ?hd (cs := #[.slice none 0 0, .slice none 0 0]) (t := 88) ?hr ?_; (case hd => rfl); (case hg => rfl); (case hr => first | (go_simp; done) | (go_simp; rfl)); intro gb151 hg w6 hbox hb; have n0_ := Aside0.mk (blk_below (g := gb150) (o := .cells #[.slice A0_0 l0_0.length c0_0, .int .i64 a0_1, .int .u64 a0_2, .slice A0_3 l0_3.length c0_3] 86 (0, 0)) (by (with_reducible repeat (first | refine blk_drewN ?_ _ | refine blk_drew ?_ | refine blk_alloc ?_ _)); exact BK150.out) hb); have n1_ := Aside0.mk (below_step (by repeat (first | (with_reducible first | exact HB.out | apply below_alloc | apply pw_below_drewN | apply below_drew1 | refine below_set ?_ GE150.out) | exact HB.out)) hb); have n2_ := Aside0.mk (hbox); have n3_ := Aside0.mk ((by rw [hg]; exact (below_size (by repeat (first | (with_reducible first | exact HB.out | apply below_alloc | apply pw_below_drewN | apply below_drew1 | refine below_set ?_ GE150.out) | exact HB.out))) : w.heap.size ≤ gb151)); have n4_ := Aside0.mk ((by rw [hg]; exact (below_size (by repeat (first | (with_reducible first | exact HB.out | apply below_alloc | apply pw_below_drewN | apply below_drew1 | refine below_set ?_ GE150.out) | exact HB.out))) : w.heap.size ≤ gb151)); have n5_ := Aside0.mk ((by rw [hg]; exact Nat.ne_of_lt (blk_lt (g := gb150) (o := .cells #[.slice A0_0 l0_0.length c0_0, .int .i64 a0_1, .int .u64 a0_2, .slice A0_3 l0_3.length c0_3] 86 (0, 0)) (by (with_reducible repeat (first | refine blk_drewN ?_ _ | refine blk_drew ?_ | refine blk_alloc ?_ _)); exact BK150.out)) : gb150 ≠ gb151)); have n6_ := Aside0.mk ((by rw [hg]; exact Nat.ne_of_gt (blk_lt (g := gb150) (o := .cells #[.slice A0_0 l0_0.length c0_0, .int .i64 a0_1, .int .u64 a0_2, .slice A0_3 l0_3.length c0_3] 86 (0, 0)) (by (with_reducible repeat (first | refine blk_drewN ?_ _ | refine blk_drew ?_ | refine blk_alloc ?_ _)); exact BK150.out)) : gb151 ≠ gb150)); clear BK150; clear HB; have BK150 := n0_; have HB := n1_; have BK151 := n2_; have GW151 := n3_; have GE151 := n4_; have NB150_151 := n5_; have NB151_150 := n6_; clear n0_ n1_ n2_ n3_ n4_ n5_ n6_; clear hb hbox hg; have hnb7 := NB150_151.out; have hnc7 := NB151_150.out; have hcz8_0 : w6.cell? ⟨gb150, 0, none⟩ = some (.slice A0_0 l0_0.length c0_0) := (blk_cell BK150.out 0).trans rfl; have hcz8_1 : w6.cell? ⟨gb150, 1, none⟩ = some (.int .i64 a0_1) := (blk_cell BK150.out 1).trans rfl; have hcz8_2 : w6.cell? ⟨gb150, 2, none⟩ = some (.int .u64 a0_2) := (blk_cell BK150.out 2).trans rfl; have hcz8_3 : w6.cell? ⟨gb150, 3, none⟩ = some (.slice A0_3 l0_3.length c0_3) := (blk_cell BK150.out 3).trans rfl; have hfz8_0 := blk_frozen BK150.out 0; have hfz8_1 := blk_frozen BK150.out 1; have hfz8_2 := blk_frozen BK150.out 2; have hfz8_3 := blk_frozen BK150.out 3) | ((with_reducible refine gate_callee (f := 52) rfl ?_); refine goesL_ (some 12) rfl rfl Try.func52 (by kernel_rfl) rfl #[.agg #[.slice A0_0 l0_0.length c0_0, .int .i64 a0_1, .int .u64 a0_2, .slice A0_3 l0_3.length c0_3], .int .u64 a1, .int .u64 2] rfl (by (try simp only [List.map_toArray, List.map_cons, List.map_nil]); first | done | rfl | (simp only [List.length_drop, List.length_take]; rfl)) ?_; (with_reducible refine (hash_file_words.calls k _ _ l0_0 a0_1 a0_2 _ _ l0_3 a1 2 t152 none _ ?side1 ?side2 ?side3 ?side4 A3.out).mono ?_); (case side1 => repeat (first | exact (Kd.C_below HR0_0.out HB.out) | (with_reducible refine Kd.C_alloc ?_ _) | (with_reducible refine Kd.C_drewN ?_ _) | (with_reducible refine Kd.C_drew ?_))); (case side2 => exact HC0_0.out); (case side3 => repeat (first | exact (Kd.C_below HR0_3.out HB.out) | (with_reducible refine Kd.C_alloc ?_ _) | (with_reducible refine Kd.C_drewN ?_ _) | (with_reducible refine Kd.C_drew ?_))); (case side4 => exact HC0_3.out); rintro e w9 ⟨v153, rfl, ho0, hb⟩; refine ⟨_, rfl, ?_⟩; have n0_ := Aside0.mk (Kd.V_lower (Kd.V_mono (ok' := fun k_ => (w.heap.size ≤ k_) ∧ k_ ≠ gb150 ∧ k_ ≠ gb151) ho0 (fun k_ hk_ => ⟨(Nat.le_trans (below_size (by repeat (first | (with_reducible first | exact HB.out | apply below_alloc | apply pw_below_drewN | apply below_drew1 | refine below_set ?_ GE150.out | refine below_set ?_ GE151.out) | exact HB.out))) hk_), (Kd.freshB (g := gb150) (o := .cells #[.slice A0_0 l0_0.length c0_0, .int .i64 a0_1, .int .u64 a0_2, .slice A0_3 l0_3.length c0_3] 86 (0, 0)) (by (with_reducible repeat (first | refine blk_drewN ?_ _ | refine blk_drew ?_ | refine blk_alloc ?_ _)); exact BK150.out) k_ hk_), (Kd.freshB (g := gb151) (o := .cells #[.slice none 0 0, .slice none 0 0] 88 (0, 0)) (by (with_reducible repeat (first | refine blk_drewN ?_ _ | refine blk_drew ?_ | refine blk_alloc ?_ _)); exact BK151.out) k_ hk_)⟩)) (below_size (by repeat (first | (with_reducible first | exact HB.out | apply below_alloc | apply pw_below_drewN | apply below_drew1 | refine below_set ?_ GE150.out | refine below_set ?_ GE151.out) | exact HB.out)))); have n1_ := Aside0.mk (blk_below (g := gb150) (o := .cells #[.slice A0_0 l0_0.length c0_0, .int .i64 a0_1, .int .u64 a0_2, .slice A0_3 l0_3.length c0_3] 86 (0, 0)) (by (with_reducible repeat (first | refine blk_drewN ?_ _ | refine blk_drew ?_ | refine blk_alloc ?_ _)); exact BK150.out) hb); have n2_ := Aside0.mk (blk_below (g := gb151) (o := .cells #[.slice none 0 0, .slice none 0 0] 88 (0, 0)) (by (with_reducible repeat (first | refine blk_drewN ?_ _ | refine blk_drew ?_ | refine blk_alloc ?_ _)); exact BK151.out) hb); have n3_ := Aside0.mk (below_step (by repeat (first | (with_reducible first | exact HB.out | apply below_alloc | apply pw_below_drewN | apply below_drew1 | refine below_set ?_ GE150.out | refine below_set ?_ GE151.out) | exact HB.out)) hb); clear BK150; clear BK151; clear HB; have HO154 := n0_; have BK150 := n1_; have BK151 := n2_; have HB := n3_; clear n0_ n1_ n2_ n3_; (try clear hb); (try clear hb2); (try clear hk); (try clear hi); (try clear ho0); (try simp only [errW_none, errW_some])))
  (try simp only [Act.put, List.setIfInBounds_toArray, List.set_cons_zero, List.set_cons_succ])
  go_cut [20] (fun v20 wc => ∃ (kq : Nat) (x20_3 : Bool), v20 = .bool x20_3 ∧ Aside0 (hash_file_sysv.j0 kq a1 t152 x20_3 l0_0 a0_1 a0_2 l0_3 = some (r1, r2, r3)) ∧ Aside0 (kq ≤ k) ∧ Aside0 (Kd.V (Kd.int .u32) 26 wc w.heap.size (fun k_ => (w.heap.size ≤ k_) ∧ k_ ≠ gb150 ∧ k_ ≠ gb151) v153 t152) ∧ Aside0 (wc.heap[gb150]? = some (.cells #[(.slice A0_0 l0_0.length c0_0), .int .i64 a0_1, .int .u64 a0_2, (.slice A0_3 l0_3.length c0_3)] 86 (0, 0))) ∧ Aside0 (wc.heap[gb151]? = some (.cells #[(.slice none 0 0), (.slice none 0 0)] 88 (0, 0))) ∧ Aside0 (Below w.heap.size w wc))
  case first =>
   have H := HC4.out
   clear HC4
   by_cases c10 : 0 < (t152.length : Int)
   ·rw [if_pos c10] at H
    have c10b0 : decide (0 < (t152.length : Int)) = true := decide_eq_true c10
    have c10b1 : decide (0 < t152.length) = true := decide_eq_true (by omega)
    clear c10
    (first | rw [c10b0] | (simp only [i64_w, i32_w]; rw [c10b0]) | skip)
    by_cases c11 : (rd t152 0) = 0
    ·rw [if_pos c11] at H
     have c11b0 : ((rd t152 0) == 0) = true := beq_iff_eq.mpr c11
     have c11b1 : ((rd t152 0) != 0) = false := bne_eq_false_iff_eq.mpr c11
     clear c11
     have H' := Aside0.mk H
     clear H
     obtain ⟨Ao12, co12, eo12⟩ := Kd.V_slice HO154.out
     subst eo12
     have p157 : 0 ≤ (0 : Int) := (by omega)
     have q157 : 0 < (t152.length : Int) := of_decide_eq_true (by assumption)
     obtain ⟨ad157, e157, hx157_0⟩ := Kd.at_int (Kd.V_reads' HO154.out).2.2 0 p157 q157
     cases e157
     have qi157 : (0 < t152.length) = True := eq_true (by omega)
     (try rw [show ((0 : Int)).toNat = 0 from rfl] at hx157_0)
     (try rw [Addr.add_zero'] at hx157_0)
     replace p157 := eq_true p157
     replace q157 := eq_true q157
     go_wp2
     go_meet
     case rel => exact ⟨_, (true), (by first | rfl | (simp; done) | (simp [*]; done)), H', ⟨by first | omega | exact Nat.le_refl _⟩, ⟨by (with_reducible repeat (first | apply Kd.V_alloc | apply Kd.V_drewN | apply Kd.V_drew)); exact HO154.out⟩, ⟨by (with_reducible repeat (first | refine blk_drewN ?_ _ | refine blk_drew ?_ | refine blk_alloc ?_ _)); exact BK150.out⟩, ⟨by (with_reducible repeat (first | refine blk_drewN ?_ _ | refine blk_drew ?_ | refine blk_alloc ?_ _)); exact BK151.out⟩, ⟨by repeat (first | (with_reducible first | exact HB.out | apply below_alloc | apply pw_below_drewN | apply below_drew1 | refine below_set ?_ GE150.out | refine below_set ?_ GE151.out) | exact HB.out)⟩⟩
    ·rw [if_neg c11] at H
     have c11b0 : ((rd t152 0) == 0) = false := beq_eq_false_iff_ne.mpr c11
     have c11b1 : ((rd t152 0) != 0) = true := bne_iff_ne.mpr c11
     by_cases c13 : 1 < (t152.length : Int)
     ·rw [if_pos c13] at H
      have c13b0 : decide (1 < (t152.length : Int)) = true := decide_eq_true c13
      have c13b1 : decide (1 < t152.length) = true := decide_eq_true (by omega)
      clear c13
      have H' := Aside0.mk H
      clear H
      obtain ⟨Ao14, co14, eo14⟩ := Kd.V_slice HO154.out
      subst eo14
      have p157 : 0 ≤ (0 : Int) := (by omega)
      have q157 : 0 < (t152.length : Int) := of_decide_eq_true (by assumption)
      obtain ⟨ad157, e157, hx157_0⟩ := Kd.at_int (Kd.V_reads' HO154.out).2.2 0 p157 q157
      cases e157
      have qi157 : (0 < t152.length) = True := eq_true (by omega)
      (try rw [show ((0 : Int)).toNat = 0 from rfl] at hx157_0)
      (try rw [Addr.add_zero'] at hx157_0)
      replace p157 := eq_true p157
      replace q157 := eq_true q157
      have p158 : 0 ≤ (1 : Int) := (by omega)
      have q158 : 1 < (t152.length : Int) := of_decide_eq_true (by assumption)
      obtain ⟨ad158, e158, hx158_0⟩ := Kd.at_int (Kd.V_reads' HO154.out).2.2 1 p158 q158
      obtain rfl : ad157 = ad158 := (by injection e158)
      (try simp only [show (1 : Int).toNat = 1 from rfl, Nat.reduceMul, Nat.reduceEqDiff, Go.Addr.add, ↓reduceIte] at hx158_0)
      have qi158 : (1 < t152.length) = True := eq_true (by omega)
      (try rw [show ((1 : Int)).toNat = 1 from rfl] at hx158_0)
      replace p158 := eq_true p158
      replace q158 := eq_true q158
      go_wp2
      go_meet
      case rel => exact ⟨_, (((rd t152 1) == 0)), (by first | rfl | (simp; done) | (simp [*]; done)), H', ⟨by first | omega | exact Nat.le_refl _⟩, ⟨by (with_reducible repeat (first | apply Kd.V_alloc | apply Kd.V_drewN | apply Kd.V_drew)); exact HO154.out⟩, ⟨by (with_reducible repeat (first | refine blk_drewN ?_ _ | refine blk_drew ?_ | refine blk_alloc ?_ _)); exact BK150.out⟩, ⟨by (with_reducible repeat (first | refine blk_drewN ?_ _ | refine blk_drew ?_ | refine blk_alloc ?_ _)); exact BK151.out⟩, ⟨by repeat (first | (with_reducible first | exact HB.out | apply below_alloc | apply pw_below_drewN | apply below_drew1 | refine below_set ?_ GE150.out | refine below_set ?_ GE151.out) | exact HB.out)⟩⟩
     ·rw [if_neg c13] at H
      exact absurd H (by simp)
   ·rw [if_neg c10] at H
    exact absurd H (by simp)
  case rest =>
   clear HC4
   try clear c1
   try clear p1
   try clear q1
   try clear hx1
   try clear qi1
   try clear p2
   try clear c3
   try clear c5
   try clear c7
   try clear c10
   try clear c10b0
   try clear c10b1
   try clear c11
   try clear c11b0
   try clear c11b1
   try clear c13
   try clear c13b0
   try clear c13b1
   try clear hcz8_0
   try clear hcz8_1
   try clear hcz8_2
   try clear hcz8_3
   try clear hfz8_0
   try clear hfz8_1
   try clear hfz8_2
   try clear hfz8_3
   try clear hx157_0
   try clear hx158_0
   try clear p157
   try clear p158
   try clear q156
   try clear q157
   try clear q158
   obtain ⟨kq, x20_3, rfl, HA, HJ3, HO_6, BK150, BK151, HB⟩ := hcut
   cases kq with
   | zero => exact absurd HA.out (by simp [hash_file_sysv.j0])
   | succ kj3 =>
    have H := HA.out
    clear HA
    simp only [hash_file_sysv.j0] at H
    by_cases c15 : x20_3 = true
    ·subst c15
     have H1 : (none) = some (r1, r2, r3) := by rw [if_pos rfl] at H; exact H
     clear H
     have H := H1
     clear H1
     exact absurd H (by simp)
    ·replace c15 := Bool.eq_false_iff.mpr c15
     subst c15
     have H1 : (if 0 < (t152.length : Int) then (if (rd t152 0) > 4096 then (hash_file_sysv.j1 kj3 a1 t152 true l0_0 a0_1 a0_2 l0_3) else (if 1 < (t152.length : Int) then (hash_file_sysv.j1 kj3 a1 t152 (decide ((rd t152 1) > 4096)) l0_0 a0_1 a0_2 l0_3) else (none))) else (none)) = some (r1, r2, r3) := by rw [if_neg (show ¬ (false = true) by decide)] at H; exact H
     clear H
     have H := H1
     clear H1
     have HC16 := Aside0.mk H
     clear H
     go_upto_region 6 with (fail)
     go_cut [33] (fun v33 wc => ∃ (kq : Nat) (x33_15 : Bool), v33 = .bool x33_15 ∧ Aside0 (hash_file_sysv.j1 kq a1 t152 x33_15 l0_0 a0_1 a0_2 l0_3 = some (r1, r2, r3)) ∧ Aside0 (kq ≤ kj3) ∧ Aside0 (Kd.V (Kd.int .u32) 26 wc w.heap.size (fun k_ => (w.heap.size ≤ k_) ∧ k_ ≠ gb150 ∧ k_ ≠ gb151) v153 t152) ∧ Aside0 (wc.heap[gb150]? = some (.cells #[(.slice A0_0 l0_0.length c0_0), .int .i64 a0_1, .int .u64 a0_2, (.slice A0_3 l0_3.length c0_3)] 86 (0, 0))) ∧ Aside0 (wc.heap[gb151]? = some (.cells #[(.slice none 0 0), (.slice none 0 0)] 88 (0, 0))) ∧ Aside0 (Below w.heap.size w wc))
     case first =>
      have H := HC16.out
      clear HC16
      by_cases c17 : 0 < (t152.length : Int)
      ·rw [if_pos c17] at H
       have c17b0 : decide (0 < (t152.length : Int)) = true := decide_eq_true c17
       have c17b1 : decide (0 < t152.length) = true := decide_eq_true (by omega)
       clear c17
       (first | rw [c17b0] | (simp only [i64_w, i32_w]; rw [c17b0]) | skip)
       by_cases c18 : (rd t152 0) > 4096
       ·rw [if_pos c18] at H
        have c18b0 : decide (4096 < (rd t152 0)) = true := decide_eq_true c18
        clear c18
        have H' := Aside0.mk H
        clear H
        obtain ⟨Ao19, co19, eo19⟩ := Kd.V_slice HO_6.out
        subst eo19
        have p159 : 0 ≤ (0 : Int) := (by omega)
        have q159 : 0 < (t152.length : Int) := of_decide_eq_true (by assumption)
        obtain ⟨ad159, e159, hx159_0⟩ := Kd.at_int (Kd.V_reads' HO_6.out).2.2 0 p159 q159
        cases e159
        have qi159 : (0 < t152.length) = True := eq_true (by omega)
        (try rw [show ((0 : Int)).toNat = 0 from rfl] at hx159_0)
        (try rw [Addr.add_zero'] at hx159_0)
        replace p159 := eq_true p159
        replace q159 := eq_true q159
        go_wp2
        go_meet
        case rel => exact ⟨_, (true), (by first | rfl | (simp; done) | (simp [*]; done)), H', ⟨by have := HJ3.out; first | omega | exact Nat.le_refl _⟩, ⟨by (with_reducible repeat (first | apply Kd.V_alloc | apply Kd.V_drewN | apply Kd.V_drew)); exact HO_6.out⟩, ⟨by (with_reducible repeat (first | refine blk_drewN ?_ _ | refine blk_drew ?_ | refine blk_alloc ?_ _)); exact BK150.out⟩, ⟨by (with_reducible repeat (first | refine blk_drewN ?_ _ | refine blk_drew ?_ | refine blk_alloc ?_ _)); exact BK151.out⟩, ⟨by repeat (first | (with_reducible first | exact HB.out | apply below_alloc | apply pw_below_drewN | apply below_drew1 | refine below_set ?_ GE150.out | refine below_set ?_ GE151.out) | exact HB.out)⟩⟩
       ·rw [if_neg c18] at H
        have c18b0 : decide (4096 < (rd t152 0)) = false := decide_eq_false c18
        clear c18
        by_cases c20 : 1 < (t152.length : Int)
        ·rw [if_pos c20] at H
         have c20b0 : decide (1 < (t152.length : Int)) = true := decide_eq_true c20
         have c20b1 : decide (1 < t152.length) = true := decide_eq_true (by omega)
         clear c20
         have H' := Aside0.mk H
         clear H
         obtain ⟨Ao21, co21, eo21⟩ := Kd.V_slice HO_6.out
         subst eo21
         have p159 : 0 ≤ (0 : Int) := (by omega)
         have q159 : 0 < (t152.length : Int) := of_decide_eq_true (by assumption)
         obtain ⟨ad159, e159, hx159_0⟩ := Kd.at_int (Kd.V_reads' HO_6.out).2.2 0 p159 q159
         cases e159
         have qi159 : (0 < t152.length) = True := eq_true (by omega)
         (try rw [show ((0 : Int)).toNat = 0 from rfl] at hx159_0)
         (try rw [Addr.add_zero'] at hx159_0)
         replace p159 := eq_true p159
         replace q159 := eq_true q159
         have p160 : 0 ≤ (1 : Int) := (by omega)
         have q160 : 1 < (t152.length : Int) := of_decide_eq_true (by assumption)
         obtain ⟨ad160, e160, hx160_0⟩ := Kd.at_int (Kd.V_reads' HO_6.out).2.2 1 p160 q160
         obtain rfl : ad159 = ad160 := (by injection e160)
         (try simp only [show (1 : Int).toNat = 1 from rfl, Nat.reduceMul, Nat.reduceEqDiff, Go.Addr.add, ↓reduceIte] at hx160_0)
         have qi160 : (1 < t152.length) = True := eq_true (by omega)
         (try rw [show ((1 : Int)).toNat = 1 from rfl] at hx160_0)
         replace p160 := eq_true p160
         replace q160 := eq_true q160
         go_wp2
         go_meet
         case rel => exact ⟨_, (decide ((rd t152 1) > 4096)), (by first | rfl | (simp; done) | (simp [*]; done)), H', ⟨by have := HJ3.out; first | omega | exact Nat.le_refl _⟩, ⟨by (with_reducible repeat (first | apply Kd.V_alloc | apply Kd.V_drewN | apply Kd.V_drew)); exact HO_6.out⟩, ⟨by (with_reducible repeat (first | refine blk_drewN ?_ _ | refine blk_drew ?_ | refine blk_alloc ?_ _)); exact BK150.out⟩, ⟨by (with_reducible repeat (first | refine blk_drewN ?_ _ | refine blk_drew ?_ | refine blk_alloc ?_ _)); exact BK151.out⟩, ⟨by repeat (first | (with_reducible first | exact HB.out | apply below_alloc | apply pw_below_drewN | apply below_drew1 | refine below_set ?_ GE150.out | refine below_set ?_ GE151.out) | exact HB.out)⟩⟩
        ·rw [if_neg c20] at H
         exact absurd H (by simp)
      ·rw [if_neg c17] at H
       exact absurd H (by simp)
     case rest =>
      clear HC16
      try clear c1
      try clear p1
      try clear q1
      try clear hx1
      try clear qi1
      try clear c2
      try clear p2
      try clear c3
      try clear c5
      try clear c7
      try clear c10
      try clear c10b0
      try clear c10b1
      try clear c11
      try clear c11b0
      try clear c11b1
      try clear c13
      try clear c13b0
      try clear c13b1
      try clear c15
      try clear p15
      try clear q15
      try clear hx15
      try clear qi15
      try clear p16
      try clear q16
      try clear hx16
      try clear qi16
      try clear c17
      try clear c17b0
      try clear c17b1
      try clear c18
      try clear c18b0
      try clear c20
      try clear c20b0
      try clear c20b1
      try clear hcz8_0
      try clear hcz8_1
      try clear hcz8_2
      try clear hcz8_3
      try clear hfz8_0
      try clear hfz8_1
      try clear hfz8_2
      try clear hfz8_3
      try clear hx157_0
      try clear hx158_0
      try clear hx159_0
      try clear hx160_0
      try clear p1
      try clear p157
      try clear p158
      try clear p159
      try clear p160
      try clear p2
      try clear q1
      try clear q156
      try clear q157
      try clear q158
      try clear q159
      try clear q160
      obtain ⟨kq, x33_15, rfl, HA, HJ15, HO_6, BK150, BK151, HB⟩ := hcut
      cases kq with
      | zero => exact absurd HA.out (by simp [hash_file_sysv.j1])
      | succ kj15 =>
       have H := HA.out
       clear HA
       simp only [hash_file_sysv.j1] at H
       by_cases c22 : x33_15 = true
       ·subst c22
        have H1 : (none) = some (r1, r2, r3) := by rw [if_pos rfl] at H; exact H
        clear H
        have H := H1
        clear H1
        exact absurd H (by simp)
       ·replace c22 := Bool.eq_false_iff.mpr c22
        subst c22
        have H1 : (if 0 < (t152.length : Int) then (if 1 < (t152.length : Int) then ((hash_file_words.f kj15 l0_0 a0_1 a0_2 l0_3 a1 (IntKind.u64.wrap ((IntKind.u64.wrap (2 + (IntKind.u64.wrap (rd t152 0)))) + (IntKind.u64.wrap (rd t152 1))))).bind fun bt163 => (if bt163.2.isNone = true then (if 2 ≤ ((2 + (rd t152 0)) % 4294967296) then (if ((2 + (rd t152 0)) % 4294967296) ≤ (bt163.1.length : Int) then (if 0 ≤ ((2 + (rd t152 0)) % 4294967296) then (some (((bt163.1.take (((2 + (rd t152 0)) % 4294967296) : Int).toNat).drop 2), (bt163.1.drop (((2 + (rd t152 0)) % 4294967296) : Int).toNat), none)) else (none)) else (none)) else (none)) else (none))) else (none)) else (none)) = some (r1, r2, r3) := by rw [if_neg (show ¬ (false = true) by decide)] at H; exact H
        clear H
        have H := H1
        clear H1
        by_cases c23 : 0 < (t152.length : Int)
        ·rw [if_pos c23] at H
         have c23b0 : decide (0 < (t152.length : Int)) = true := decide_eq_true c23
         have c23b1 : decide (0 < t152.length) = true := decide_eq_true (by omega)
         clear c23
         by_cases c24 : 1 < (t152.length : Int)
         ·rw [if_pos c24] at H
          have c24b0 : decide (1 < (t152.length : Int)) = true := decide_eq_true c24
          have c24b1 : decide (1 < t152.length) = true := decide_eq_true (by omega)
          clear c24
          replace H := Option.bind_eq_some_iff.mp H
          obtain ⟨⟨t163, t166⟩, A250, H⟩ := H
          replace H : (if t166.isNone = true then (if 2 ≤ ((2 + (rd t152 0)) % 4294967296) then (if ((2 + (rd t152 0)) % 4294967296) ≤ (t163.length : Int) then (if 0 ≤ ((2 + (rd t152 0)) % 4294967296) then (some (((t163.take (((2 + (rd t152 0)) % 4294967296) : Int).toNat).drop 2), (t163.drop (((2 + (rd t152 0)) % 4294967296) : Int).toNat), none)) else (none)) else (none)) else (none)) else (none)) = some (r1, r2, r3) := H
          have A25 := Aside0.mk A250
          clear A250
          rcases t166 with _ | q167
          ·have H1 : (if 2 ≤ ((2 + (rd t152 0)) % 4294967296) then (if ((2 + (rd t152 0)) % 4294967296) ≤ (t163.length : Int) then (if 0 ≤ ((2 + (rd t152 0)) % 4294967296) then (some (((t163.take (((2 + (rd t152 0)) % 4294967296) : Int).toNat).drop 2), (t163.drop (((2 + (rd t152 0)) % 4294967296) : Int).toNat), none)) else (none)) else (none)) else (none)) = some (r1, r2, r3) := by rw [if_pos (show (none : Option Int).isNone = true by rfl)] at H; exact H
           clear H
           have H := H1
           clear H1
           try simp only [errW_none, errW_some]
           by_cases c26 : 2 ≤ ((2 + (rd t152 0)) % 4294967296)
           ·rw [if_pos c26] at H
            have c26b0 := eq_true c26
            have c26b1 : decide (2 ≤ ((2 + (rd t152 0)) % 4294967296)) = true := decide_eq_true c26
            have c26b1w : decide (2 ≤ (IntKind.u32.wrap ((2 + (rd t152 0))))) = true := by simp only [IntKind.wrap_u32]; exact c26b1
            by_cases c27 : ((2 + (rd t152 0)) % 4294967296) ≤ (t163.length : Int)
            ·rw [if_pos c27] at H
             have c27b0 := eq_true c27
             have c27b1 : decide (((2 + (rd t152 0)) % 4294967296) ≤ (t163.length : Int)) = true := decide_eq_true c27
             have c27b1w : decide ((IntKind.u32.wrap ((2 + (rd t152 0)))) ≤ (t163.length : Int)) = true := by simp only [IntKind.wrap_u32]; exact c27b1
             obtain ⟨y169, hy169⟩ : ∃ y_ : List Int, y_ = ((t163.take (((2 + (rd t152 0)) % 4294967296) : Int).toNat).drop 2) := ⟨_, rfl⟩
             replace H : (if 0 ≤ ((2 + (rd t152 0)) % 4294967296) then (some (y169, (t163.drop (((2 + (rd t152 0)) % 4294967296) : Int).toNat), none)) else (none)) = some (r1, r2, r3) := by first | (rw [hy169]; with_reducible exact H) | (have H2_ := (Option.bind_some _ _).symm.trans H; rw [hy169]; with_reducible exact H2_) | (have H2_ := (Option.bind_some _ _).symm.trans H; with_reducible exact H2_) | with_reducible exact H | (rw [hy169]; exact H) | exact H
             have Ny169 := Aside0.mk hy169
             clear hy169
             obtain ⟨ji28, hji28⟩ : ∃ j_ : Int, ((2 + (rd t152 0)) % 4294967296) = j_ := ⟨_, rfl⟩
             replace H : (if 0 ≤ (ji28) then (some (y169, (t163.drop ((ji28) : Int).toNat), none)) else (none)) = some (r1, r2, r3) := by first | (rw [hji28] at H; exact H) | (simp only [hji28] at H ⊢; exact H)
             (try rw [hji28] at c26b0)
             (try rw [hji28] at c26b1)
             (try rw [hji28] at c26)
             (try rw [hji28] at c27b0)
             (try rw [hji28] at c27b1)
             (try rw [hji28] at c27)
             (try rw [hji28] at A25)
             (try rw [hji28] at Ny169)
             have hji28w : (IntKind.u32.wrap (2 + (rd t152 0))) = ji28 := by simp only [IntKind.wrap_u8, IntKind.wrap_u32]; exact hji28
             by_cases c29 : 0 ≤ (ji28)
             ·rw [if_pos c29] at H
              have c29b0 := eq_true c29
              have c29b1 : decide (0 ≤ (ji28)) = true := decide_eq_true c29
              clear c29
              have c30b0 := eq_true (of_decide_eq_true (by assumption) : (ji28) ≤ (t163.length : Int))
              obtain ⟨y175, hy175⟩ : ∃ y_ : List Int, y_ = (t163.drop ((ji28) : Int).toNat) := ⟨_, rfl⟩
              replace H : (some (y169, y175, none)) = some (r1, r2, r3) := by first | (rw [hy175]; with_reducible exact H) | (have H2_ := (Option.bind_some _ _).symm.trans H; rw [hy175]; with_reducible exact H2_) | (have H2_ := (Option.bind_some _ _).symm.trans H; with_reducible exact H2_) | with_reducible exact H | (rw [hy175]; exact H) | exact H
              have Ny175 := Aside0.mk hy175
              clear hy175
              simp only [Option.some.injEq, Prod.mk.injEq] at H
              obtain ⟨rfl, rfl, rfl⟩ := H
              try go_wp2
              have n0_ := Aside0.mk (Kd.V_drew HO_6.out)
              have n1_ := Aside0.mk (blk_drew BK150.out)
              have n2_ := Aside0.mk (blk_drew BK151.out)
              have n3_ := Aside0.mk (below_drew1 HB.out)
              clear HO_6
              clear BK150
              clear BK151
              clear HB
              have HO_6 := n0_
              have BK150 := n1_
              have BK151 := n2_
              have HB := n3_
              clear n0_ n1_ n2_ n3_
              obtain ⟨Ao32, co32, eo32⟩ := Kd.V_slice HO_6.out
              (first | subst eo32 | (injection eo32 with f1_ f2_ f3_; have f4_ := f1_.symm; have f5_ := f3_.symm; clear f1_ f2_ f3_; subst f4_; subst f5_))
              have p161 : 0 ≤ (0 : Int) := (by omega)
              have q161 : 0 < (t152.length : Int) := of_decide_eq_true (by assumption)
              obtain ⟨ad161, e161, hx161_0⟩ := Kd.at_int (Kd.V_reads' HO_6.out).2.2 0 p161 q161
              cases e161
              have qi161 : (0 < t152.length) = True := eq_true (by omega)
              (try rw [show ((0 : Int)).toNat = 0 from rfl] at hx161_0)
              (try rw [Addr.add_zero'] at hx161_0)
              replace p161 := eq_true p161
              replace q161 := eq_true q161
              have p162 : 0 ≤ (1 : Int) := (by omega)
              have q162 : 1 < (t152.length : Int) := of_decide_eq_true (by assumption)
              obtain ⟨ad162, e162, hx162_0⟩ := Kd.at_int (Kd.V_reads' HO_6.out).2.2 1 p162 q162
              obtain rfl : ad161 = ad162 := (by injection e162)
              (try simp only [show (1 : Int).toNat = 1 from rfl, Nat.reduceMul, Nat.reduceEqDiff, Go.Addr.add, ↓reduceIte] at hx162_0)
              have qi162 : (1 < t152.length) = True := eq_true (by omega)
              (try rw [show ((1 : Int)).toNat = 1 from rfl] at hx162_0)
              replace p162 := eq_true p162
              replace q162 := eq_true q162
              refine start_ (n := 18) (S := fun w' => w'.cell? ⟨gb150, 0, none⟩ = some (.slice A0_0 l0_0.length c0_0) ∧ w'.cell? ⟨gb150, 1, none⟩ = some (.int .i64 a0_1) ∧ w'.cell? ⟨gb150, 2, none⟩ = some (.int .u64 a0_2) ∧ w'.cell? ⟨gb150, 3, none⟩ = some (.slice A0_3 l0_3.length c0_3) ∧ w'.cell? ad161 = some (.int .u32 (rd t152 0)) ∧ w'.cell? ⟨ad161.block, ad161.off + 1, none⟩ = some (.int .u32 (rd t152 1))) (ds := []) #[false, false, false, false, false, false, false, false, false, false, false, false, false, false, false, false, false, false] (by kernel_rfl) rfl rfl ⟨(blk_cell BK150.out 0).trans rfl, (blk_cell BK150.out 1).trans rfl, (blk_cell BK150.out 2).trans rfl, (blk_cell BK150.out 3).trans rfl, hx161_0, hx162_0⟩ (fun hHeld => ?_); refine with_tabW hash_file_sysv.tab8 hash_file_sysv.bits8 (fun HT_ HW_ => ?_)
              generalize wc.drew = w31 at HO_6 BK150 BK151 HB hx161_0 hx162_0 hHeld ⊢
              refine pure_ (i := 1) (N := some 48) (v := ?_) (a' := ?_) #[false, true, false, false, false, false, false, false, false, false, false, false, false, false, false, false, false, false] rfl rfl (any_of HT_.out (by kernel_rfl)) (fun _ _ _ h => h) (Or.inl ⟨by rfl, ?_⟩) ?_ ?_
              rotate_left
              ·intro w'
               go_simp
               with_reducible rfl
              rotate_left
              ·simp only [Act.put, List.setIfInBounds_toArray, List.set_cons_zero, List.set_cons_succ, i64_w, i32_w]
               rfl
              refine pure_ (i := 2) (N := some 49) (v := ?_) (a' := ?_) #[false, true, true, false, false, false, false, false, false, false, false, false, false, false, false, false, false, false] rfl rfl (any_of HT_.out (by kernel_rfl)) (fun _ _ _ h => h) (Or.inl ⟨by rfl, ?_⟩) ?_ ?_
              rotate_left
              ·intro w'
               go_simp
               with_reducible rfl
              rotate_left
              ·simp only [Act.put, List.setIfInBounds_toArray, List.set_cons_zero, List.set_cons_succ, i64_w, i32_w]
               rfl
              refine pure_ (i := 3) (N := some 50) (v := ?_) (a' := ?_) #[false, true, true, true, false, false, false, false, false, false, false, false, false, false, false, false, false, false] rfl rfl (any_of HT_.out (by kernel_rfl)) (fun _ _ _ h => h) (Or.inl ⟨by rfl, ?_⟩) ?_ ?_
              rotate_left
              ·intro w'
               go_simp
               with_reducible rfl
              rotate_left
              ·simp only [Act.put, List.setIfInBounds_toArray, List.set_cons_zero, List.set_cons_succ, i64_w, i32_w]
               rfl
              refine pure_ (i := 7) (N := some 54) (v := ?_) (a' := ?_) #[false, true, true, true, false, false, false, true, false, false, false, false, false, false, false, false, false, false] rfl rfl (any_of HT_.out (by kernel_rfl)) (fun _ _ _ h => h) (Or.inl ⟨by rfl, ?_⟩) ?_ ?_
              rotate_left
              ·intro w'
               go_simp
               with_reducible rfl
              rotate_left
              ·simp only [Act.put, List.setIfInBounds_toArray, List.set_cons_zero, List.set_cons_succ, i64_w, i32_w]
               rfl
              refine pure_ (i := 8) (N := some 55) (v := ?_) (a' := ?_) #[false, true, true, true, false, false, false, true, true, false, false, false, false, false, false, false, false, false] rfl rfl (any_of HT_.out (by kernel_rfl)) (fun _ _ _ h => h) (Or.inl ⟨by rfl, ?_⟩) ?_ ?_
              rotate_left
              ·intro w'
               go_simp
               with_reducible rfl
              rotate_left
              ·simp only [Act.put, List.setIfInBounds_toArray, List.set_cons_zero, List.set_cons_succ, i64_w, i32_w]
               rfl
              refine take_ (i := 0) (N := some 47) (v := ?_) (a' := ?_) #[true, true, true, true, false, false, false, true, true, false, false, false, false, false, false, false, false, false] rfl rfl (take_ofW HT_.out HW_.out (by kernel_rfl)) (fun _ _ _ h => h) (Or.inl ⟨by rfl, ?_⟩) hHeld ?_ ?_
              rotate_left
              ·rintro w' ⟨s0, s1, s2, s3, s4, s5⟩
               go_simp
               with_reducible rfl
              rotate_left
              ·simp only [Act.put, List.setIfInBounds_toArray, List.set_cons_zero, List.set_cons_succ, i64_w, i32_w]
               rfl
              refine take_ (i := 4) (N := some 51) (v := ?_) (a' := ?_) #[true, true, true, true, true, false, false, true, true, false, false, false, false, false, false, false, false, false] rfl rfl (take_ofW HT_.out HW_.out (by kernel_rfl)) (fun _ _ _ h => h) (Or.inl ⟨by rfl, ?_⟩) hHeld ?_ ?_
              rotate_left
              ·rintro w' ⟨s0, s1, s2, s3, s4, s5⟩
               go_simp
               with_reducible rfl
              rotate_left
              ·simp only [Act.put, List.setIfInBounds_toArray, List.set_cons_zero, List.set_cons_succ, i64_w, i32_w]
               rfl
              refine pure_ (i := 5) (N := some 52) (v := ?_) (a' := ?_) #[true, true, true, true, true, true, false, true, true, false, false, false, false, false, false, false, false, false] rfl rfl (any_of HT_.out (by kernel_rfl)) (fun _ _ _ h => h) (Or.inl ⟨by rfl, ?_⟩) ?_ ?_
              rotate_left
              ·intro w'
               go_simp
               with_reducible rfl
              rotate_left
              ·simp only [Act.put, List.setIfInBounds_toArray, List.set_cons_zero, List.set_cons_succ, i64_w, i32_w]
               rfl
              refine pure_ (i := 6) (N := some 53) (v := ?_) (a' := ?_) #[true, true, true, true, true, true, true, true, true, false, false, false, false, false, false, false, false, false] rfl rfl (any_of HT_.out (by kernel_rfl)) (fun _ _ _ h => h) (Or.inl ⟨by rfl, ?_⟩) ?_ ?_
              rotate_left
              ·intro w'
               go_simp
               with_reducible rfl
              rotate_left
              ·simp only [Act.put, List.setIfInBounds_toArray, List.set_cons_zero, List.set_cons_succ, i64_w, i32_w]
               rfl
              refine take_ (i := 9) (N := some 56) (v := ?_) (a' := ?_) #[true, true, true, true, true, true, true, true, true, true, false, false, false, false, false, false, false, false] rfl rfl (take_ofW HT_.out HW_.out (by kernel_rfl)) (fun _ _ _ h => h) (Or.inl ⟨by rfl, ?_⟩) hHeld ?_ ?_
              rotate_left
              ·rintro w' ⟨s0, s1, s2, s3, s4, s5⟩
               go_simp
               with_reducible rfl
              rotate_left
              ·simp only [Act.put, List.setIfInBounds_toArray, List.set_cons_zero, List.set_cons_succ, i64_w, i32_w]
               rfl
              refine pure_ (i := 10) (N := some 57) (v := ?_) (a' := ?_) #[true, true, true, true, true, true, true, true, true, true, true, false, false, false, false, false, false, false] rfl rfl (any_of HT_.out (by kernel_rfl)) (fun _ _ _ h => h) (Or.inl ⟨by rfl, ?_⟩) ?_ ?_
              rotate_left
              ·intro w'
               go_simp
               with_reducible rfl
              rotate_left
              ·simp only [Act.put, List.setIfInBounds_toArray, List.set_cons_zero, List.set_cons_succ, i64_w, i32_w]
               rfl
              refine pure_ (i := 11) (N := some 58) (v := ?_) (a' := ?_) #[true, true, true, true, true, true, true, true, true, true, true, true, false, false, false, false, false, false] rfl rfl (any_of HT_.out (by kernel_rfl)) (fun _ _ _ h => h) (Or.inl ⟨by rfl, ?_⟩) ?_ ?_
              rotate_left
              ·intro w'
               go_simp
               with_reducible rfl
              rotate_left
              ·simp only [Act.put, List.setIfInBounds_toArray, List.set_cons_zero, List.set_cons_succ, i64_w, i32_w]
               rfl
              refine one_ (i := 12) (N := some 59) #[true, true, true, true, true, true, true, true, true, true, true, true, true, false, false, false, false, false] rfl rfl (one_of HT_.out (by kernel_rfl)) (by decide) (fun K hK => ?_)
              refine goes_ Try.func52 (by kernel_rfl) rfl #[.agg #[.slice A0_0 l0_0.length c0_0, .int .i64 a0_1, .int .u64 a0_2, .slice A0_3 l0_3.length c0_3], .int .u64 a1, .int .u64 (IntKind.u64.wrap ((IntKind.u64.wrap (2 + (IntKind.u64.wrap (rd t152 0)))) + (IntKind.u64.wrap (rd t152 1))))] (by rfl) rfl rfl (by (try simp only [List.map_toArray, List.map_cons, List.map_nil]); first | done | rfl | (simp only [List.length_drop, List.length_take]; rfl)) ?_
              with_reducible refine (hash_file_words.calls kj15 _ _ l0_0 a0_1 a0_2 _ _ l0_3 a1 (IntKind.u64.wrap ((IntKind.u64.wrap (2 + (IntKind.u64.wrap (rd t152 0)))) + (IntKind.u64.wrap (rd t152 1)))) t163 none _ ?side1 ?side2 ?side3 ?side4 A25.out).mono ?_
              (case side1 => repeat (first | exact (Kd.C_below HR0_0.out HB.out) | (with_reducible refine Kd.C_alloc ?_ _) | (with_reducible refine Kd.C_drewN ?_ _) | (with_reducible refine Kd.C_drew ?_)))
              (case side2 => exact HC0_0.out)
              (case side3 => repeat (first | exact (Kd.C_below HR0_3.out HB.out) | (with_reducible refine Kd.C_alloc ?_ _) | (with_reducible refine Kd.C_drewN ?_ _) | (with_reducible refine Kd.C_drew ?_)))
              (case side4 => exact HC0_3.out)
              rintro e w33 ⟨v164, rfl, ho0, hb⟩
              have HS4_ := (hb.cell (World.block_lt_of_cell? _ _ (hHeld.2.2.2.2.1))).trans (hHeld.2.2.2.2.1)
              have HS5_ := (hb.cell (World.block_lt_of_cell? _ _ (hHeld.2.2.2.2.2))).trans (hHeld.2.2.2.2.2)
              refine ⟨_, rfl, ?_⟩
              have n0_ := Aside0.mk (Kd.V_below (by (with_reducible repeat (first | apply Kd.V_alloc | apply Kd.V_drewN | apply Kd.V_drew)); exact HO_6.out) hb)
              have n1_ := Aside0.mk (Kd.V_lower (Kd.V_mono (ok' := fun k_ => (w.heap.size ≤ k_) ∧ k_ ≠ gb150 ∧ k_ ≠ gb151) ho0 (fun k_ hk_ => ⟨(Nat.le_trans (below_size (by repeat (first | (with_reducible first | exact HB.out | apply below_alloc | apply pw_below_drewN | apply below_drew1 | refine below_set ?_ GE150.out | refine below_set ?_ GE151.out) | exact HB.out))) hk_), (Kd.freshB (g := gb150) (o := .cells #[.slice A0_0 l0_0.length c0_0, .int .i64 a0_1, .int .u64 a0_2, .slice A0_3 l0_3.length c0_3] 86 (0, 0)) (by (with_reducible repeat (first | refine blk_drewN ?_ _ | refine blk_drew ?_ | refine blk_alloc ?_ _)); exact BK150.out) k_ hk_), (Kd.freshB (g := gb151) (o := .cells #[.slice none 0 0, .slice none 0 0] 88 (0, 0)) (by (with_reducible repeat (first | refine blk_drewN ?_ _ | refine blk_drew ?_ | refine blk_alloc ?_ _)); exact BK151.out) k_ hk_)⟩)) (below_size (by repeat (first | (with_reducible first | exact HB.out | apply below_alloc | apply pw_below_drewN | apply below_drew1 | refine below_set ?_ GE150.out | refine below_set ?_ GE151.out) | exact HB.out))))
              have n2_ := Aside0.mk (blk_below (g := gb150) (o := .cells #[.slice A0_0 l0_0.length c0_0, .int .i64 a0_1, .int .u64 a0_2, .slice A0_3 l0_3.length c0_3] 86 (0, 0)) (by (with_reducible repeat (first | refine blk_drewN ?_ _ | refine blk_drew ?_ | refine blk_alloc ?_ _)); exact BK150.out) hb)
              have n3_ := Aside0.mk (blk_below (g := gb151) (o := .cells #[.slice none 0 0, .slice none 0 0] 88 (0, 0)) (by (with_reducible repeat (first | refine blk_drewN ?_ _ | refine blk_drew ?_ | refine blk_alloc ?_ _)); exact BK151.out) hb)
              have n4_ := Aside0.mk (below_step (by repeat (first | (with_reducible first | exact HB.out | apply below_alloc | apply pw_below_drewN | apply below_drew1 | refine below_set ?_ GE150.out | refine below_set ?_ GE151.out) | exact HB.out)) hb)
              clear HO_6
              clear BK150
              clear BK151
              clear HB
              have HO_6 := n0_
              have HO165 := n1_
              have BK150 := n2_
              have BK151 := n3_
              have HB := n4_
              clear n0_ n1_ n2_ n3_ n4_
              (try clear hb)
              (try clear hb2)
              (try clear hk)
              (try clear hi)
              (try clear ho0)
              (try simp only [errW_none, errW_some])
              refine hK.out _ _ ⟨(blk_cell BK150.out 0).trans rfl, (blk_cell BK150.out 1).trans rfl, (blk_cell BK150.out 2).trans rfl, (blk_cell BK150.out 3).trans rfl, HS4_, HS5_⟩ (fun hHeld => ?_)
              clear hK K
              refine norm_ (a' := ?_) ?_ ?_
              rotate_left
              ·show Act.put _ (some 59) _ = _
               simp only [Act.put, List.setIfInBounds_toArray, List.set_cons_zero, List.set_cons_succ, i64_w, i32_w]
               rfl
              refine pure_ (i := 13) (N := some 46) (v := ?_) (a' := ?_) #[true, true, true, true, true, true, true, true, true, true, true, true, true, true, false, false, false, false] rfl rfl (any_of HT_.out (by kernel_rfl)) (fun _ _ _ h => h) (Or.inl ⟨by rfl, ?_⟩) ?_ ?_
              rotate_left
              ·intro w'
               go_simp
               with_reducible rfl
              rotate_left
              ·simp only [Act.put, List.setIfInBounds_toArray, List.set_cons_zero, List.set_cons_succ, i64_w, i32_w]
               rfl
              refine pure_ (i := 14) (N := some 60) (v := ?_) (a' := ?_) #[true, true, true, true, true, true, true, true, true, true, true, true, true, true, true, false, false, false] rfl rfl (any_of HT_.out (by kernel_rfl)) (fun _ _ _ h => h) (Or.inl ⟨by rfl, ?_⟩) ?_ ?_
              rotate_left
              ·intro w'
               go_simp
               with_reducible rfl
              rotate_left
              ·simp only [Act.put, List.setIfInBounds_toArray, List.set_cons_zero, List.set_cons_succ, i64_w, i32_w]
               rfl
              refine pure_ (i := 15) (N := some 61) (v := ?_) (a' := ?_) #[true, true, true, true, true, true, true, true, true, true, true, true, true, true, true, true, false, false] rfl rfl (any_of HT_.out (by kernel_rfl)) (fun _ _ _ h => h) (Or.inl ⟨by rfl, ?_⟩) ?_ ?_
              rotate_left
              ·intro w'
               go_simp
               with_reducible rfl
              rotate_left
              ·simp only [Act.put, List.setIfInBounds_toArray, List.set_cons_zero, List.set_cons_succ, i64_w, i32_w]
               rfl
              refine pure_ (i := 16) (N := some 8) (v := ?_) (a' := ?_) #[true, true, true, true, true, true, true, true, true, true, true, true, true, true, true, true, true, false] rfl rfl (any_of HT_.out (by kernel_rfl)) (fun _ _ _ h => h) (Or.inl ⟨by rfl, ?_⟩) ?_ ?_
              rotate_left
              ·intro w'
               go_simp
               with_reducible rfl
              rotate_left
              ·simp only [Act.put, List.setIfInBounds_toArray, List.set_cons_zero, List.set_cons_succ, i64_w, i32_w]
               rfl
              refine pure_ (i := 17) (N := some 7) (v := ?_) (a' := ?_) #[true, true, true, true, true, true, true, true, true, true, true, true, true, true, true, true, true, true] rfl rfl (any_of HT_.out (by kernel_rfl)) (fun _ _ _ h => h) (Or.inl ⟨by rfl, ?_⟩) ?_ ?_
              rotate_left
              ·intro w'
               go_simp
               with_reducible rfl
              rotate_left
              ·simp only [Act.put, List.setIfInBounds_toArray, List.set_cons_zero, List.set_cons_succ, i64_w, i32_w]
               rfl
              refine done_ (done_of HT_.out (by kernel_rfl)) ?_
              try go_wp2
              have n0_ := Aside0.mk (Kd.V_drew HO_6.out)
              have n1_ := Aside0.mk (Kd.V_drew HO165.out)
              have n2_ := Aside0.mk (blk_drew BK150.out)
              have n3_ := Aside0.mk (blk_drew BK151.out)
              have n4_ := Aside0.mk (below_drew1 HB.out)
              clear HO_6
              clear HO165
              clear BK150
              clear BK151
              clear HB
              have HO_6 := n0_
              have HO165 := n1_
              have BK150 := n2_
              have BK151 := n3_
              have HB := n4_
              clear n0_ n1_ n2_ n3_ n4_
              have p168 : 0 ≤ (0 : Int) := (by omega)
              have q168 : 0 < (t152.length : Int) := of_decide_eq_true (by assumption)
              obtain ⟨ad168, e168, hx168_0⟩ := Kd.at_int (Kd.V_reads' HO_6.out).2.2 0 p168 q168
              obtain rfl : ad161 = ad168 := (by injection e168)
              have qi168 : (0 < t152.length) = True := eq_true (by omega)
              (try rw [show ((0 : Int)).toNat = 0 from rfl] at hx168_0)
              (try rw [Addr.add_zero'] at hx168_0)
              replace p168 := eq_true p168
              replace q168 := eq_true q168
              obtain ⟨Ao36, co36, eo36⟩ := Kd.V_slice HO165.out
              (first | subst eo36 | (injection eo36 with f1_ f2_ f3_; have f4_ := f1_.symm; have f5_ := f3_.symm; clear f1_ f2_ f3_; subst f4_; subst f5_))
              have q35 : ((ji28) : Int) ≤ ((t163.length : Int) : Int) := of_decide_eq_true (by assumption)
              obtain ⟨i035, hi035, _, hsz35, _⟩ := info_parts info26
              have hroom35 : t163.length ≤ co36 := (Kd.V_reads' HO165.out).2.1
              have hC35 : Kd.F (Kd.int .u32) _ _ Ao36 t163.length t163 := (Kd.V_at (base := w.heap.size) HO165.out).2.2
              have ql35 : (2 : Int) ≤ ((ji28) : Int) := of_decide_eq_true (by assumption)
              have hcut35 := cut_mid (P := Try.prog) 83 26 .i64 .u32 Try.underlying83 hi035 1 hsz35 Ao36 t163.length co36 2 (ji28) (by omega) ql35 q35 hroom35
              have hr35 := Kd.F_mid (lo := (2 : Int).toNat) (hi := ((ji28) : Int).toNat) (c := co36) hC35 (by omega) (by omega) hroom35
              obtain ⟨A35, hA35⟩ : ∃ A1, A1 = (if co36 = (2 : Int).toNat then Ao36 else (Ao36 : Option Addr).map (·.add ((2 : Int).toNat * 1))) := ⟨_, rfl⟩
              obtain ⟨c35, hc35⟩ : ∃ c1, c1 = co36 - (2 : Int).toNat := ⟨_, rfl⟩
              have hy35 : y169.length = ((ji28) : Int).toNat - (2 : Int).toNat := (by rw [Ny169.out, List.length_drop, List.length_take] <;> omega)
              rw [show ((t163).take ((ji28) : Int).toNat).drop (2 : Int).toNat = y169 from Ny169.out.symm] at hr35
              replace hr35 : Kd.F (Kd.int .u32) _ _ A35 y169.length y169 := (by rw [hA35]; exact hr35)
              rw [← hy35, ← hA35, ← hc35] at hcut35
              have HO173 := Aside0.mk (show Kd.V (Kd.int .u32) 26 _ w.heap.size _ (.slice A35 y169.length c35) y169 from Kd.V_mk (by rw [hy35, hc35]; exact Nat.sub_le_sub_right (Nat.le_trans (by omega) hroom35) _) hr35)
              have HC173 := Aside0.mk (show y169.length ≤ c35 from by rw [hy35, hc35]; exact Nat.sub_le_sub_right (Nat.le_trans (by omega) hroom35) _)
              clear hr35 hC35 hroom35 hi035 hsz35 hc35
              have KY35 := Aside0.mk hy35
              have KA35 := Aside0.mk hA35
              clear hy35 hA35
              replace q35 := eq_true q35
              have p174 : 0 ≤ (0 : Int) := (by omega)
              have q174 : 0 < (t152.length : Int) := of_decide_eq_true (by assumption)
              obtain ⟨ad174, e174, hx174_0⟩ := Kd.at_int (Kd.V_reads' HO_6.out).2.2 0 p174 q174
              obtain rfl : ad161 = ad174 := (by injection e174)
              have qi174 : (0 < t152.length) = True := eq_true (by omega)
              (try rw [show ((0 : Int)).toNat = 0 from rfl] at hx174_0)
              (try rw [Addr.add_zero'] at hx174_0)
              replace p174 := eq_true p174
              replace q174 := eq_true q174
              have q37 : ((ji28) : Int) ≤ ((t163.length : Int) : Int) := of_decide_eq_true (by assumption)
              obtain ⟨i037, hi037, _, hsz37, _⟩ := info_parts info26
              have hroom37 : t163.length ≤ co36 := (Kd.V_reads' HO165.out).2.1
              have hC37 : Kd.F (Kd.int .u32) _ _ Ao36 t163.length t163 := (Kd.V_at (base := w.heap.size) HO165.out).2.2
              have q037 : (0 : Int) ≤ ((ji28) : Int) := of_decide_eq_true (by assumption)
              have hcut37 := cut_from (P := Try.prog) 83 26 .u32 Try.underlying83 hi037 1 hsz37 Ao36 t163.length co36 (ji28) q037 q37
              have hr37 := Kd.F_cut (m := ((ji28) : Int).toNat) (c := co36) hC37 (by omega) hroom37
              obtain ⟨A37, hA37⟩ : ∃ A1, A1 = (if co36 = ((ji28) : Int).toNat then Ao36 else (Ao36 : Option Addr).map (·.add (((ji28) : Int).toNat * 1))) := ⟨_, rfl⟩
              obtain ⟨c37, hc37⟩ : ∃ c1, c1 = co36 - ((ji28) : Int).toNat := ⟨_, rfl⟩
              have hy37 : y175.length = t163.length - ((ji28) : Int).toNat := (by rw [Ny175.out, List.length_drop] <;> omega)
              rw [show (t163).drop ((ji28) : Int).toNat = y175 from Ny175.out.symm] at hr37
              replace hr37 : Kd.F (Kd.int .u32) _ _ A37 y175.length y175 := (by rw [hA37]; exact hr37)
              rw [← hy37, ← hA37, ← hc37] at hcut37
              have HO179 := Aside0.mk (show Kd.V (Kd.int .u32) 26 _ w.heap.size _ (.slice A37 y175.length c37) y175 from Kd.V_mk (by rw [hy37, hc37]; exact Nat.sub_le_sub_right hroom37 _) hr37)
              have HC179 := Aside0.mk (show y175.length ≤ c37 from by rw [hy37, hc37]; exact Nat.sub_le_sub_right hroom37 _)
              clear hr37 hC37 hroom37 hi037 hsz37 hc37
              have KY37 := Aside0.mk hy37
              have KA37 := Aside0.mk hA37
              clear hy37 hA37
              replace q37 := eq_true q37
              refine start_ (n := 15) (S := fun w' => w'.cell? ad161 = some (.int .u32 (rd t152 0)) ∧ w'.cell? ad161 = some (.int .u32 (rd t152 0))) (ds := []) #[false, false, false, false, false, false, false, false, false, false, false, false, false, false, false] (by kernel_rfl) rfl rfl ⟨hx168_0, hx174_0⟩ (fun hHeld => ?_); refine with_tabW hash_file_sysv.tab11 hash_file_sysv.bits11 (fun HT_ HW_ => ?_)
              generalize w33.drew = w34 at HO_6 HO165 BK150 BK151 HB HO173 HO179 hx168_0 hx174_0 hHeld ⊢
              refine pure_ (i := 0) (N := some 66) (v := ?_) (a' := ?_) #[true, false, false, false, false, false, false, false, false, false, false, false, false, false, false] rfl rfl (any_of HT_.out (by kernel_rfl)) (fun _ _ _ h => h) (Or.inl ⟨by rfl, ?_⟩) ?_ ?_
              rotate_left
              ·intro w'
               go_simp
               with_reducible rfl
              rotate_left
              ·simp only [Act.put, List.setIfInBounds_toArray, List.set_cons_zero, List.set_cons_succ, i64_w, i32_w]
               rfl
              refine pure_ (i := 1) (N := some 67) (v := ?_) (a' := ?_) #[true, true, false, false, false, false, false, false, false, false, false, false, false, false, false] rfl rfl (any_of HT_.out (by kernel_rfl)) (fun _ _ _ h => h) (Or.inl ⟨by rfl, ?_⟩) ?_ ?_
              rotate_left
              ·intro w'
               go_simp
               with_reducible rfl
              rotate_left
              ·simp only [Act.put, List.setIfInBounds_toArray, List.set_cons_zero, List.set_cons_succ, i64_w, i32_w]
               rfl
              refine pure_ (i := 2) (N := some 68) (v := ?_) (a' := ?_) #[true, true, true, false, false, false, false, false, false, false, false, false, false, false, false] rfl rfl (any_of HT_.out (by kernel_rfl)) (fun _ _ _ h => h) (Or.inl ⟨by rfl, ?_⟩) ?_ ?_
              rotate_left
              ·intro w'
               go_simp
               with_reducible rfl
              rotate_left
              ·simp only [Act.put, List.setIfInBounds_toArray, List.set_cons_zero, List.set_cons_succ, i64_w, i32_w]
               rfl
              refine pure_ (i := 6) (N := some 72) (v := ?_) (a' := ?_) #[true, true, true, false, false, false, true, false, false, false, false, false, false, false, false] rfl rfl (any_of HT_.out (by kernel_rfl)) (fun _ _ _ h => h) (Or.inl ⟨by rfl, ?_⟩) ?_ ?_
              rotate_left
              ·intro w'
               go_simp
               with_reducible rfl
              rotate_left
              ·simp only [Act.put, List.setIfInBounds_toArray, List.set_cons_zero, List.set_cons_succ, i64_w, i32_w]
               rfl
              refine pure_ (i := 7) (N := some 73) (v := ?_) (a' := ?_) #[true, true, true, false, false, false, true, true, false, false, false, false, false, false, false] rfl rfl (any_of HT_.out (by kernel_rfl)) (fun _ _ _ h => h) (Or.inl ⟨by rfl, ?_⟩) ?_ ?_
              rotate_left
              ·intro w'
               go_simp
               with_reducible rfl
              rotate_left
              ·simp only [Act.put, List.setIfInBounds_toArray, List.set_cons_zero, List.set_cons_succ, i64_w, i32_w]
               rfl
              refine pure_ (i := 8) (N := some 74) (v := ?_) (a' := ?_) #[true, true, true, false, false, false, true, true, true, false, false, false, false, false, false] rfl rfl (any_of HT_.out (by kernel_rfl)) (fun _ _ _ h => h) (Or.inl ⟨by rfl, ?_⟩) ?_ ?_
              rotate_left
              ·intro w'
               go_simp
               with_reducible rfl
              rotate_left
              ·simp only [Act.put, List.setIfInBounds_toArray, List.set_cons_zero, List.set_cons_succ, i64_w, i32_w]
               rfl
              refine take_ (i := 3) (N := some 69) (v := ?_) (a' := ?_) #[true, true, true, true, false, false, true, true, true, false, false, false, false, false, false] rfl rfl (take_ofW HT_.out HW_.out (by kernel_rfl)) (fun _ _ _ h => h) (Or.inl ⟨by rfl, ?_⟩) hHeld ?_ ?_
              rotate_left
              ·rintro w' ⟨s0, s1⟩
               go_simp
               with_reducible rfl
              rotate_left
              ·simp only [Act.put, List.setIfInBounds_toArray, List.set_cons_zero, List.set_cons_succ, i64_w, i32_w]
               rfl
              refine pure_ (i := 4) (N := some 70) (v := ?_) (a' := ?_) #[true, true, true, true, true, false, true, true, true, false, false, false, false, false, false] rfl rfl (any_of HT_.out (by kernel_rfl)) (fun _ _ _ h => h) (Or.inl ⟨by rfl, ?_⟩) ?_ ?_
              rotate_left
              ·intro w'
               go_simp
               with_reducible rfl
              rotate_left
              ·simp only [Act.put, List.setIfInBounds_toArray, List.set_cons_zero, List.set_cons_succ, i64_w, i32_w]
               rfl
              refine pure_ (i := 5) (N := some 71) (v := ?_) (a' := ?_) #[true, true, true, true, true, true, true, true, true, false, false, false, false, false, false] rfl rfl (any_of HT_.out (by kernel_rfl)) (fun _ _ _ h => h) (Or.inl ⟨by rfl, ?_⟩) ?_ ?_
              rotate_left
              ·intro w'
               go_simp
               with_reducible rfl
              rotate_left
              ·simp only [Act.put, List.setIfInBounds_toArray, List.set_cons_zero, List.set_cons_succ, i64_w, i32_w]
               rfl
              refine take_ (i := 9) (N := some 75) (v := ?_) (a' := ?_) #[true, true, true, true, true, true, true, true, true, true, false, false, false, false, false] rfl rfl (take_ofW HT_.out HW_.out (by kernel_rfl)) (fun _ _ _ h => h) (Or.inl ⟨by rfl, ?_⟩) hHeld ?_ ?_
              rotate_left
              ·rintro w' ⟨s0, s1⟩
               go_simp
               with_reducible rfl
              rotate_left
              ·simp only [Act.put, List.setIfInBounds_toArray, List.set_cons_zero, List.set_cons_succ, i64_w, i32_w]
               rfl
              refine pure_ (i := 10) (N := some 76) (v := ?_) (a' := ?_) #[true, true, true, true, true, true, true, true, true, true, true, false, false, false, false] rfl rfl (any_of HT_.out (by kernel_rfl)) (fun _ _ _ h => h) (Or.inl ⟨by rfl, ?_⟩) ?_ ?_
              rotate_left
              ·intro w'
               go_simp
               with_reducible rfl
              rotate_left
              ·simp only [Act.put, List.setIfInBounds_toArray, List.set_cons_zero, List.set_cons_succ, i64_w, i32_w]
               rfl
              refine pure_ (i := 11) (N := some 77) (v := ?_) (a' := ?_) #[true, true, true, true, true, true, true, true, true, true, true, true, false, false, false] rfl rfl (any_of HT_.out (by kernel_rfl)) (fun _ _ _ h => h) (Or.inl ⟨by rfl, ?_⟩) ?_ ?_
              rotate_left
              ·intro w'
               go_simp
               with_reducible rfl
              rotate_left
              ·simp only [Act.put, List.setIfInBounds_toArray, List.set_cons_zero, List.set_cons_succ, i64_w, i32_w]
               rfl
              refine pure_ (i := 12) (N := some 78) (v := ?_) (a' := ?_) #[true, true, true, true, true, true, true, true, true, true, true, true, true, false, false] rfl rfl (any_of HT_.out (by kernel_rfl)) (fun _ _ _ h => h) (Or.inl ⟨by rfl, ?_⟩) ?_ ?_
              rotate_left
              ·intro w'
               go_simp
               with_reducible rfl
              rotate_left
              ·simp only [Act.put, List.setIfInBounds_toArray, List.set_cons_zero, List.set_cons_succ, i64_w, i32_w]
               rfl
              refine one_ (i := 13) (N := none) #[true, true, true, true, true, true, true, true, true, true, true, true, true, true, false] rfl rfl (one_of HT_.out (by kernel_rfl)) (by decide) (fun K hK => ?_)
              have hs38 : w34.cell? ⟨gb151, 0, none⟩ = some (.slice none 0 0) := (blk_cell BK151.out 0).trans rfl
              have hfs38 := blk_frozen BK151.out 0
              have hns38_0 := NB150_151.out
              have hms38_0 := NB151_150.out
              have hs39 : w34.cell? ⟨gb151, 1, none⟩ = some (.slice none 0 0) := (blk_cell BK151.out 1).trans rfl
              have hfs39 := blk_frozen BK151.out 1
              have hns39_0 := NB150_151.out
              have hms39_0 := NB151_150.out
              refine skip_ (w1 := ?_) (by rfl) rfl ?_ ?_
              rotate_left
              ·go_simp
               rfl
              refine hK.out _ _ ⟨((cell_far (p := ⟨gb151, _, none⟩) (by first | exact Kd.V_own_int HO_6.out (of_eq_true (by assumption)) (fun _ hk => hk.2.2) | (rw [add_block]; exact Kd.V_own_int HO_6.out (of_eq_true (by assumption)) (fun _ hk => hk.2.2)) | (show (Addr.add _ _).block ≠ _; rw [add_block]; exact Kd.V_own_int HO_6.out (of_eq_true (by assumption)) (fun _ hk => hk.2.2)) | (dsimp only; exact Kd.V_own_int HO_6.out (of_eq_true (by assumption)) (fun _ hk => hk.2.2))) _).trans (((cell_far (p := ⟨gb151, _, none⟩) (by first | exact Kd.V_own_int HO_6.out (of_eq_true (by assumption)) (fun _ hk => hk.2.2) | (rw [add_block]; exact Kd.V_own_int HO_6.out (of_eq_true (by assumption)) (fun _ hk => hk.2.2)) | (show (Addr.add _ _).block ≠ _; rw [add_block]; exact Kd.V_own_int HO_6.out (of_eq_true (by assumption)) (fun _ hk => hk.2.2)) | (dsimp only; exact Kd.V_own_int HO_6.out (of_eq_true (by assumption)) (fun _ hk => hk.2.2))) _).trans (hHeld.1)))), ((cell_far (p := ⟨gb151, _, none⟩) (by first | exact Kd.V_own_int HO_6.out (of_eq_true (by assumption)) (fun _ hk => hk.2.2) | (rw [add_block]; exact Kd.V_own_int HO_6.out (of_eq_true (by assumption)) (fun _ hk => hk.2.2)) | (show (Addr.add _ _).block ≠ _; rw [add_block]; exact Kd.V_own_int HO_6.out (of_eq_true (by assumption)) (fun _ hk => hk.2.2)) | (dsimp only; exact Kd.V_own_int HO_6.out (of_eq_true (by assumption)) (fun _ hk => hk.2.2))) _).trans (((cell_far (p := ⟨gb151, _, none⟩) (by first | exact Kd.V_own_int HO_6.out (of_eq_true (by assumption)) (fun _ hk => hk.2.2) | (rw [add_block]; exact Kd.V_own_int HO_6.out (of_eq_true (by assumption)) (fun _ hk => hk.2.2)) | (show (Addr.add _ _).block ≠ _; rw [add_block]; exact Kd.V_own_int HO_6.out (of_eq_true (by assumption)) (fun _ hk => hk.2.2)) | (dsimp only; exact Kd.V_own_int HO_6.out (of_eq_true (by assumption)) (fun _ hk => hk.2.2))) _).trans (hHeld.2))))⟩ (fun hHeld => ?_)
              clear hK K
              refine pure_ (i := 14) (N := some 5) (v := ?_) (a' := ?_) #[true, true, true, true, true, true, true, true, true, true, true, true, true, true, true] rfl rfl (any_of HT_.out (by kernel_rfl)) (fun _ _ _ h => h) (Or.inl ⟨by rfl, ?_⟩) ?_ ?_
              rotate_left
              ·intro w'
               go_simp
               with_reducible rfl
              rotate_left
              ·simp only [Act.put, List.setIfInBounds_toArray, List.set_cons_zero, List.set_cons_succ, i64_w, i32_w]
               rfl
              refine done_ (done_of HT_.out (by kernel_rfl)) ?_
              try go_wp2
              refine bodyPost_ret (results_ct rfl _ _ gb151 88 #[.slice A35 y169.length c35, .slice A37 y175.length c37] (0, 0) _ rfl (by (with_reducible repeat (first | refine blk_drewN ?_ _ | refine blk_drew ?_ | refine blk_alloc ?_ _)); refine blk_put (cs := #[.slice A35 y169.length c35, .slice none 0 0]) ?_ 1 _ rfl; (with_reducible repeat (first | refine blk_drewN ?_ _ | refine blk_drew ?_ | refine blk_alloc ?_ _)); refine blk_put (cs := #[.slice none 0 0, .slice none 0 0]) ?_ 0 _ rfl; (with_reducible repeat (first | refine blk_drewN ?_ _ | refine blk_drew ?_ | refine blk_alloc ?_ _)); exact BK151.out) Try.underlying88 rfl (by kernel_rfl)) rfl ?_
              exact ⟨_, _, by first | rfl | (simp [errW_none, errW_some] <;> rfl) | (simp only [← hji28]; first | rfl | (simp [errW_none, errW_some] <;> rfl)) | (simp [*, errW_none, errW_some] <;> rfl), by (with_reducible repeat (first | apply Kd.V_alloc | apply Kd.V_drewN | apply Kd.V_drew)); exact Kd.V_mono (Kd.V_far (p := ⟨gb151, 1, none⟩) (Kd.V_far (p := ⟨gb151, 0, none⟩) (Kd.V_mono HO173.out (fun k_ hk => (⟨hk, hk.2.2⟩ : _ ∧ k_ ≠ gb151))) (fun _ hk => hk.2) (.slice A35 y169.length c35)) (fun _ hk => hk.2) (.slice A37 y175.length c37)) (fun _ hk => hk.1.1), by (with_reducible repeat (first | apply Kd.V_alloc | apply Kd.V_drewN | apply Kd.V_drew)); exact Kd.V_mono (Kd.V_far (p := ⟨gb151, 1, none⟩) (Kd.V_far (p := ⟨gb151, 0, none⟩) (Kd.V_mono HO179.out (fun k_ hk => (⟨hk, hk.2.2⟩ : _ ∧ k_ ≠ gb151))) (fun _ hk => hk.2) (.slice A35 y169.length c35)) (fun _ hk => hk.2) (.slice A37 y175.length c37)) (fun _ hk => hk.1.1), by repeat (first | (with_reducible first | exact HB.out | apply below_alloc | apply pw_below_drewN | apply below_drew1 | refine below_set ?_ GE150.out | refine below_set ?_ GE151.out) | exact HB.out)⟩
             ·rw [if_neg c29] at H
              exact absurd H (by simp)
            ·rw [if_neg c27] at H
             exact absurd H (by simp)
           ·rw [if_neg c26] at H
            exact absurd H (by simp)
          ·have H1 : (none) = some (r1, r2, r3) := by rw [if_neg (show ¬ (some q167).isNone = true by simp)] at H; exact H
           clear H
           have H := H1
           clear H1
           try simp only [errW_none, errW_some]
           exact absurd H (by simp)
         ·rw [if_neg c24] at H
          exact absurd H (by simp)
        ·rw [if_neg c23] at H
         exact absurd H (by simp)
 ·have H1 : (none) = some (r1, r2, r3) := by rw [if_neg (show ¬ (some q156).isNone = true by simp)] at H; exact H
  clear H
  have H := H1
  clear H1
  try simp only [errW_none, errW_some]
  exact absurd H (by simp)

-- NOT PRINTED: function 53 (bits_OnesCount32)

-- NOT PRINTED: function 31 (hash_file_gnu)

-- NOT PRINTED: function 54 (hash_second_chain)

-- NOT PRINTED: function 32 (hash_second_count)

end Go.Proofs.Ythopdoamajjojaa.QBindV
