-- Laid by wip/hook.py (this session's own program) out of the translation; with contracts that were written by hand.
import Derived.Test.YthopdoamajjojaaQHashBx0
import Derived.Test.YthopdoamajjojaaQHashBx2
namespace Go.Proofs.Ythopdoamajjojaa.QHashB
open Go.RowKit Go.Proofs.YthopdoamajjojaaW.PrintWords Go.Proofs.YthopdoamajjojaaW.PrintLast Go.Proofs.YthopdoamajjojaaW.PrintMore
attribute [local go_sem] max2_int min2_int max_two min_two max_three min_three max_four min_four   -- for this text's walks alone
set_option linter.unusedVariables false
set_option linter.unusedSimpArgs false

/-! ### hash_file_gnu: function 31 -/
mutual
def hash_file_gnu.j0 : Nat → Int → List Int → Bool → List Int → Int → Int → List (S29) → Option (List Int × Int × Int × (List (S29)) × List Int × List Int × Int × Int × Int × Option Int)
 | 0, _, _, _, _, _, _, _ => none
 | k + 1, x1, x6, x24, x138000, x138001, x138002, x138003 => if x24 = true then (none) else (if 0 < (x6.length : Int) then (if (rd x6 0) > 4096 then (none) else (if 1 < (x6.length : Int) then (if (rd x6 1) > 4096 then (none) else (if 2 < (x6.length : Int) then (if (rd x6 2) > 4096 then (none) else ((hash_file_words.f k x138000 x138001 x138002 x138003 x1 (IntKind.u64.wrap ((IntKind.u64.wrap (4 + (IntKind.u64.wrap (2 * (IntKind.u64.wrap (rd x6 2)))))) + (IntKind.u64.wrap (rd x6 0))))).bind fun bt154 => (if bt154.2.isNone = true then (if 4 ≤ (IntKind.u64.wrap (4 + (IntKind.u64.wrap (2 * (IntKind.u64.wrap (rd x6 2)))))) then (if (IntKind.u64.wrap (4 + (IntKind.u64.wrap (2 * (IntKind.u64.wrap (rd x6 2)))))) ≤ (bt154.1.length : Int) then (if 0 ≤ (IntKind.u64.wrap (4 + (IntKind.u64.wrap (2 * (IntKind.u64.wrap (rd x6 2)))))) then ((some (bt154.1.drop ((IntKind.u64.wrap (4 + (IntKind.u64.wrap (2 * (IntKind.u64.wrap (rd x6 2)))))) : Int).toNat : List Int)).bind fun y164 => (if 3 < (x6.length : Int) then (hash_file_gnu.l0 k y164 (y164.length : Int) 0 x138000 x138001 x138002 x138003 ((bt154.1.take ((IntKind.u64.wrap (4 + (IntKind.u64.wrap (2 * (IntKind.u64.wrap (rd x6 2)))))) : Int).toNat).drop 4) y164 (rd x6 1) (rd x6 3) (IntKind.u64.wrap (x1 + (IntKind.u64.wrap (4 * (IntKind.u64.wrap ((IntKind.u64.wrap (4 + (IntKind.u64.wrap (2 * (IntKind.u64.wrap (rd x6 2)))))) + (IntKind.u64.wrap (rd x6 0))))))))) else (none))) else (none)) else (none)) else (none)) else (none)))) else (none))) else (none))) else (none))
def hash_file_gnu.l0 : Nat → List Int → Int → Int → List Int → Int → Int → List (S29) → List Int → List Int → Int → Int → Int → Option (List Int × Int × Int × (List (S29)) × List Int × List Int × Int × Int × Int × Option Int)
 | 0, _, _, _, _, _, _, _, _, _, _, _, _ => none
 | k + 1, x115, x116, x117, x173000, x173001, x173002, x173003, x173004, x173005, x173006, x173007, x173008 => if x117 < x116 then (if 0 ≤ x117 then (if x117 < (x115.length : Int) then (if (rd x115 x117) = 0 then (hash_file_gnu.l0 k x115 x116 (wrap64 (x117 + 1)) x173000 x173001 x173002 x173003 x173004 x173005 x173006 x173007 x173008) else (if (rd x115 x117) < x173006 then (none) else (hash_file_gnu.l0 k x115 x116 (wrap64 (x117 + 1)) x173000 x173001 x173002 x173003 x173004 x173005 x173006 x173007 x173008))) else (none)) else (none)) else (some (x173000, x173001, x173002, x173003, x173004, x173005, x173006, x173007, x173008, none))
end
def hash_file_gnu.f (k : Nat) (l0_0 : List Int) (a0_1 : Int) (a0_2 : Int) (l0_3 : List (S29)) (a1 : Int) : Option (List Int × Int × Int × (List (S29)) × List Int × List Int × Int × Int × Int × Option Int) := (hash_file_words.f k l0_0 a0_1 a0_2 l0_3 a1 4).bind fun bt139 => (if bt139.2.isNone = true then (if 0 < (bt139.1.length : Int) then (if (rd bt139.1 0) = 0 then (hash_file_gnu.j0 k a1 bt139.1 true l0_0 a0_1 a0_2 l0_3) else (if 2 < (bt139.1.length : Int) then (if (rd bt139.1 2) = 0 then (hash_file_gnu.j0 k a1 bt139.1 true l0_0 a0_1 a0_2 l0_3) else ((bits_OnesCount32.f (rd bt139.1 2)).bind fun t147 => (if t147 = 1 then (if 3 < (bt139.1.length : Int) then (hash_file_gnu.j0 k a1 bt139.1 (decide ((rd bt139.1 3) > 31)) l0_0 a0_1 a0_2 l0_3) else (none)) else (hash_file_gnu.j0 k a1 bt139.1 true l0_0 a0_1 a0_2 l0_3)))) else (none))) else (none)) else (none))
theorem hash_file_gnu.mono_l : ∀ k, (∀ y0 y1 y2 y3 y4 y5 y6, LeO (hash_file_gnu.j0 k y0 y1 y2 y3 y4 y5 y6) (hash_file_gnu.j0 (k + 1) y0 y1 y2 y3 y4 y5 y6)) ∧ (∀ y0 y1 y2 y3 y4 y5 y6 y7 y8 y9 y10 y11, LeO (hash_file_gnu.l0 k y0 y1 y2 y3 y4 y5 y6 y7 y8 y9 y10 y11) (hash_file_gnu.l0 (k + 1) y0 y1 y2 y3 y4 y5 y6 y7 y8 y9 y10 y11))
 | 0 => ⟨fun _ _ _ _ _ _ _ r h => by simp [hash_file_gnu.j0] at h, fun _ _ _ _ _ _ _ _ _ _ _ _ r h => by simp [hash_file_gnu.l0] at h⟩
 | k + 1 => by
  obtain ⟨ih0, ih1⟩ := hash_file_gnu.mono_l k
  refine ⟨?_, ?_⟩
  ·intro y0 y1 y2 y3 y4 y5 y6
   unfold hash_file_gnu.j0
   repeat' first
   | (with_reducible exact ih0 _ _ _ _ _ _ _)
   | (with_reducible exact ih1 _ _ _ _ _ _ _ _ _ _ _ _)
   | (with_reducible exact hash_file_words.mono _ _ _ _ _ _ _)
   | (with_reducible exact LeO.refl _)
   | (with_reducible exact LeO.none _)
   | (with_reducible refine LeO.ite ?_ ?_)
   | (with_reducible refine LeO.bind ?_ (fun _ => ?_))
   | exact ih0 _ _ _ _ _ _ _
   | exact ih1 _ _ _ _ _ _ _ _ _ _ _ _
   | exact hash_file_words.mono _ _ _ _ _ _ _
   | exact LeO.none _
   | refine LeO.ite ?_ ?_
   | refine LeO.bind ?_ (fun _ => ?_)
  ·intro y0 y1 y2 y3 y4 y5 y6 y7 y8 y9 y10 y11
   unfold hash_file_gnu.l0
   repeat' first
   | (with_reducible exact ih0 _ _ _ _ _ _ _)
   | (with_reducible exact ih1 _ _ _ _ _ _ _ _ _ _ _ _)
   | (with_reducible exact hash_file_words.mono _ _ _ _ _ _ _)
   | (with_reducible exact LeO.refl _)
   | (with_reducible exact LeO.none _)
   | (with_reducible refine LeO.ite ?_ ?_)
   | (with_reducible refine LeO.bind ?_ (fun _ => ?_))
   | exact ih0 _ _ _ _ _ _ _
   | exact ih1 _ _ _ _ _ _ _ _ _ _ _ _
   | exact hash_file_words.mono _ _ _ _ _ _ _
   | exact LeO.none _
   | refine LeO.ite ?_ ?_
   | refine LeO.bind ?_ (fun _ => ?_)
theorem hash_file_gnu.mono : ∀ a0 a1 a2 a3 a4 k, LeO (hash_file_gnu.f k a0 a1 a2 a3 a4) (hash_file_gnu.f (k + 1) a0 a1 a2 a3 a4) := by
 intro a0 a1 a2 a3 a4 k
 obtain ⟨ih0, ih1⟩ := hash_file_gnu.mono_l k
 unfold hash_file_gnu.f
 repeat' first
   | (with_reducible exact ih0 _ _ _ _ _ _ _)
   | (with_reducible exact ih1 _ _ _ _ _ _ _ _ _ _ _ _)
   | (with_reducible exact hash_file_words.mono _ _ _ _ _ _ _)
   | (with_reducible exact LeO.refl _)
   | (with_reducible exact LeO.none _)
   | (with_reducible refine LeO.ite ?_ ?_)
   | (with_reducible refine LeO.bind ?_ (fun _ => ?_))
   | exact ih0 _ _ _ _ _ _ _
   | exact ih1 _ _ _ _ _ _ _ _ _ _ _ _
   | exact hash_file_words.mono _ _ _ _ _ _ _
   | exact LeO.none _
   | refine LeO.ite ?_ ?_
   | refine LeO.bind ?_ (fun _ => ?_)
def hash_file_gnu.T9 : Bool × List (List Nat × List Nat) := (true, [([], []), ([], []), ([], []), ([], []), ([3], [3]), ([4], [4]), ([5], [5]), ([2, 6], [2, 6]), ([0, 1, 7], [0, 1, 7]), ([8], [8]), ([9], [9]), ([9], [9]), ([10, 8, 0, 1, 2, 3, 4, 5, 6, 7, 8, 9, 10], [10]), ([11, 12, 0, 1, 2, 3, 4, 5, 6, 7, 8, 9, 10, 11, 12], [11])])
def hash_file_gnu.B9 : List Nat := [0, 0, 0, 0, 8, 24, 56, 124, 255, 511, 1023, 1023, 2047, 8191]
theorem hash_file_gnu.tab9 : rtab .any (opsOf Try.f31 9) = hash_file_gnu.T9 := by kernel_rfl
theorem hash_file_gnu.bits9 : waitsOk hash_file_gnu.T9.2 hash_file_gnu.B9 = true := by kernel_rfl
def hash_file_gnu.T12 : Bool × List (List Nat × List Nat) := (true, [([], []), ([], []), ([], []), ([1, 2], [1, 2]), ([], []), ([], []), ([4, 5], [4, 5]), ([], []), ([7], [7]), ([8], [8]), ([], []), ([10], [10]), ([11], [11]), ([], []), ([], []), ([], []), ([15], [15]), ([16], [16]), ([17], [17]), ([14, 18], [14, 18]), ([19], [19]), ([13, 20], [13, 20]), ([0, 3, 6, 9, 12, 21], [0, 3, 6, 9, 12, 21]), ([], []), ([23, 22, 0, 1, 2, 3, 4, 5, 6, 7, 8, 9, 10, 11, 12, 13, 14, 15, 16, 17, 18, 19, 20, 21, 22, 23], [22, 23])])
def hash_file_gnu.B12 : List Nat := [0, 0, 0, 6, 0, 0, 48, 0, 128, 384, 0, 1024, 3072, 0, 0, 0, 32768, 98304, 229376, 507904, 1032192, 2088960, 4194303, 0, 16777215]
theorem hash_file_gnu.tab12 : rtab .any (opsOf Try.f31 12) = hash_file_gnu.T12 := by kernel_rfl
theorem hash_file_gnu.bits12 : waitsOk hash_file_gnu.T12.2 hash_file_gnu.B12 = true := by kernel_rfl
set_option maxHeartbeats 8000000 in
set_option maxRecDepth 100000 in
theorem hash_file_gnu.calls (k : Nat) (P0_0_ : Nat → Prop) (A0_0 : Option Addr) (c0_0 : Nat) (l0_0 : List Int) (a0_1 : Int) (a0_2 : Int) (P0_3_ : Nat → Prop) (A0_3 : Option Addr) (c0_3 : Nat) (l0_3 : List (S29)) (a1 : Int) (r1 : List Int) (r2 : Int) (r3 : Int) (r4 : List (S29)) (r5 : List Int) (r6 : List Int) (r7 : Int) (r8 : Int) (r9 : Int) (r10 : Option Int) (w : World) (hs0_0 : Kd.V (Kd.int .u8) 5 w w.heap.size (fun k_ => P0_0_ k_) (.slice A0_0 l0_0.length c0_0) l0_0) (hs0_3 : Kd.V k29 29 w w.heap.size (fun k_ => P0_3_ k_) (.slice A0_3 l0_3.length c0_3) l0_3) (h : hash_file_gnu.f k l0_0 a0_1 a0_2 l0_3 a1 = some (r1, r2, r3, r4, r5, r6, r7, r8, r9, r10)) :
  Calls Try.prog 31 #[.agg #[.slice A0_0 l0_0.length c0_0, .int .i64 a0_1, .int .u64 a0_2, .slice A0_3 l0_3.length c0_3], .int .u64 a1] w fun e w' => ∃ v0_ v3_ v4_ v5_ : Value, e = .returned (.tuple #[.agg #[v0_, .int .i64 r2, .int .u64 r3, v3_, v4_, v5_, .int .u32 r7, .int .u32 r8, .int .u64 r9], errW r10]) ∧ Kd.V (Kd.int .u8) 5 w' w.heap.size (fun k_ => ((P0_0_ k_ ∨ P0_3_ k_) ∨ w.heap.size ≤ k_)) v0_ r1 ∧ Kd.V k29 29 w' w.heap.size (fun k_ => ((P0_0_ k_ ∨ P0_3_ k_) ∨ w.heap.size ≤ k_)) v3_ r4 ∧ Kd.V (Kd.int .u32) 26 w' w.heap.size (fun k_ => ((P0_0_ k_ ∨ P0_3_ k_) ∨ w.heap.size ≤ k_)) v4_ r5 ∧ Kd.V (Kd.int .u32) 26 w' w.heap.size (fun k_ => ((P0_0_ k_ ∨ P0_3_ k_) ∨ w.heap.size ≤ k_)) v5_ r6 ∧ Below w.heap.size w w' := by
 have hu86 := Try.underlying86
 have hu92 := Try.underlying92
 have hu41 := Try.underlying41
 have hu97 := Try.underlying97
 have HO0_0 := Aside0.mk (show Kd.V (Kd.int .u8) 5 w w.heap.size (fun k_ => ((P0_0_ k_ ∨ P0_3_ k_) ∨ w.heap.size ≤ k_)) (.slice A0_0 l0_0.length c0_0) l0_0 from Kd.V_mono hs0_0 (fun k_ hk => .inl (.inl hk)))
 have HO0_3 := Aside0.mk (show Kd.V k29 29 w w.heap.size (fun k_ => ((P0_0_ k_ ∨ P0_3_ k_) ∨ w.heap.size ≤ k_)) (.slice A0_3 l0_3.length c0_3) l0_3 from Kd.V_mono hs0_3 (fun k_ hk => .inl (.inr hk)))
 have HB := Aside0.mk (Below.refl w.heap.size w)
 have H : ((hash_file_words.f k l0_0 a0_1 a0_2 l0_3 a1 4).bind fun bt139 => (if bt139.2.isNone = true then (if 0 < (bt139.1.length : Int) then (if (rd bt139.1 0) = 0 then (hash_file_gnu.j0 k a1 bt139.1 true l0_0 a0_1 a0_2 l0_3) else (if 2 < (bt139.1.length : Int) then (if (rd bt139.1 2) = 0 then (hash_file_gnu.j0 k a1 bt139.1 true l0_0 a0_1 a0_2 l0_3) else ((bits_OnesCount32.f (rd bt139.1 2)).bind fun t147 => (if t147 = 1 then (if 3 < (bt139.1.length : Int) then (hash_file_gnu.j0 k a1 bt139.1 (decide ((rd bt139.1 3) > 31)) l0_0 a0_1 a0_2 l0_3) else (none)) else (hash_file_gnu.j0 k a1 bt139.1 true l0_0 a0_1 a0_2 l0_3)))) else (none))) else (none)) else (none))) = some (r1, r2, r3, r4, r5, r6, r7, r8, r9, r10) := h
 clear h
 replace H := Option.bind_eq_some_iff.mp H
 obtain ⟨⟨t139, t142⟩, A30, H⟩ := H
 replace H : (if t142.isNone = true then (if 0 < (t139.length : Int) then (if (rd t139 0) = 0 then (hash_file_gnu.j0 k a1 t139 true l0_0 a0_1 a0_2 l0_3) else (if 2 < (t139.length : Int) then (if (rd t139 2) = 0 then (hash_file_gnu.j0 k a1 t139 true l0_0 a0_1 a0_2 l0_3) else ((bits_OnesCount32.f (rd t139 2)).bind fun t147 => (if t147 = 1 then (if 3 < (t139.length : Int) then (hash_file_gnu.j0 k a1 t139 (decide ((rd t139 3) > 31)) l0_0 a0_1 a0_2 l0_3) else (none)) else (hash_file_gnu.j0 k a1 t139 true l0_0 a0_1 a0_2 l0_3)))) else (none))) else (none)) else (none)) = some (r1, r2, r3, r4, r5, r6, r7, r8, r9, r10) := H
 have A3 := Aside0.mk A30
 clear A30
 rcases t142 with _ | q143
 ·have H1 : (if 0 < (t139.length : Int) then (if (rd t139 0) = 0 then (hash_file_gnu.j0 k a1 t139 true l0_0 a0_1 a0_2 l0_3) else (if 2 < (t139.length : Int) then (if (rd t139 2) = 0 then (hash_file_gnu.j0 k a1 t139 true l0_0 a0_1 a0_2 l0_3) else ((bits_OnesCount32.f (rd t139 2)).bind fun t147 => (if t147 = 1 then (if 3 < (t139.length : Int) then (hash_file_gnu.j0 k a1 t139 (decide ((rd t139 3) > 31)) l0_0 a0_1 a0_2 l0_3) else (none)) else (hash_file_gnu.j0 k a1 t139 true l0_0 a0_1 a0_2 l0_3)))) else (none))) else (none)) = some (r1, r2, r3, r4, r5, r6, r7, r8, r9, r10) := by rw [if_pos (show (none : Option Int).isNone = true by rfl)] at H; exact H
  clear H
  have H := H1
  clear H1
  try simp only [errW_none, errW_some]
  have HC4 := Aside0.mk H
  clear H
  go_enter Try.func31, Try.ntmps31
  go_upto_region 4 with (first | ((with_reducible refine gate_dst (N := 2) rfl ?_); refine box_event ?hg (N := 2) ?hd (cs := #[.slice A0_0 l0_0.length c0_0, .int .i64 a0_1, .int .u64 a0_2, .slice A0_3 l0_3.length c0_3]) (t := 86) ?hr ?_; (case hd => rfl); (case hg => rfl); (case hr => first | (go_simp; done) | (go_simp; rfl)); intro gb137 hg w5 hbox hb; have n0_ := Aside0.mk (Kd.V_below (Kd.V_elderB (by (with_reducible repeat (first | apply Kd.V_alloc | apply Kd.V_drewN | apply Kd.V_drew)); exact HO0_0.out) gb137 (Nat.le_of_eq hg.symm)) hb); have n1_ := Aside0.mk (Kd.V_below (Kd.V_elderB (by (with_reducible repeat (first | apply Kd.V_alloc | apply Kd.V_drewN | apply Kd.V_drew)); exact HO0_3.out) gb137 (Nat.le_of_eq hg.symm)) hb); have n2_ := Aside0.mk (below_step (by repeat (first | (with_reducible first | exact HB.out | apply below_alloc | apply pw_below_drewN | apply below_drew1) | exact HB.out)) hb); have n3_ := Aside0.mk (hbox); have n4_ := Aside0.mk ((by rw [hg]; exact (below_size (by repeat (first | (with_reducible first | exact HB.out | apply below_alloc | apply pw_below_drewN | apply below_drew1) | exact HB.out))) : w.heap.size ≤ gb137)); have n5_ := Aside0.mk ((by rw [hg]; exact (below_size (by repeat (first | (with_reducible first | exact HB.out | apply below_alloc | apply pw_below_drewN | apply below_drew1) | exact HB.out))) : w.heap.size ≤ gb137)); clear HO0_0; clear HO0_3; clear HB; have HO0_0 := n0_; have HO0_3 := n1_; have HB := n2_; have BK137 := n3_; have GW137 := n4_; have GE137 := n5_; clear n0_ n1_ n2_ n3_ n4_ n5_; clear hb hbox hg) | ((with_reducible refine gate_dst (N := 4) rfl ?_); refine box_event ?hg (N := 4) ?hd (cs := #[.slice none 0 0, .int .i64 0, .int .u64 0, .slice none 0 0, .slice none 0 0, .slice none 0 0, .int .u32 0, .int .u32 0, .int .u64 0]) (t := 92) ?hr ?_; (case hd => rfl); (case hg => rfl); (case hr => first | (go_simp; done) | (go_simp; rfl)); intro gb138 hg w6 hbox hb; have n0_ := Aside0.mk (Kd.V_below (Kd.V_elderB (by (with_reducible repeat (first | apply Kd.V_alloc | apply Kd.V_drewN | apply Kd.V_drew)); exact HO0_0.out) gb138 (Nat.le_of_eq hg.symm)) hb); have n1_ := Aside0.mk (Kd.V_below (Kd.V_elderB (by (with_reducible repeat (first | apply Kd.V_alloc | apply Kd.V_drewN | apply Kd.V_drew)); exact HO0_3.out) gb138 (Nat.le_of_eq hg.symm)) hb); have n2_ := Aside0.mk (blk_below (g := gb137) (o := .cells #[.slice A0_0 l0_0.length c0_0, .int .i64 a0_1, .int .u64 a0_2, .slice A0_3 l0_3.length c0_3] 86 (0, 0)) (by (with_reducible repeat (first | refine blk_drewN ?_ _ | refine blk_drew ?_ | refine blk_alloc ?_ _)); exact BK137.out) hb); have n3_ := Aside0.mk (below_step (by repeat (first | (with_reducible first | exact HB.out | apply below_alloc | apply pw_below_drewN | apply below_drew1 | refine below_set ?_ GE137.out) | exact HB.out)) hb); have n4_ := Aside0.mk (hbox); have n5_ := Aside0.mk ((by rw [hg]; exact (below_size (by repeat (first | (with_reducible first | exact HB.out | apply below_alloc | apply pw_below_drewN | apply below_drew1 | refine below_set ?_ GE137.out) | exact HB.out))) : w.heap.size ≤ gb138)); have n6_ := Aside0.mk ((by rw [hg]; exact (below_size (by repeat (first | (with_reducible first | exact HB.out | apply below_alloc | apply pw_below_drewN | apply below_drew1 | refine below_set ?_ GE137.out) | exact HB.out))) : w.heap.size ≤ gb138)); have n7_ := Aside0.mk ((by rw [hg]; exact Nat.ne_of_lt (blk_lt (g := gb137) (o := .cells #[.slice A0_0 l0_0.length c0_0, .int .i64 a0_1, .int .u64 a0_2, .slice A0_3 l0_3.length c0_3] 86 (0, 0)) (by (with_reducible repeat (first | refine blk_drewN ?_ _ | refine blk_drew ?_ | refine blk_alloc ?_ _)); exact BK137.out)) : gb137 ≠ gb138)); have n8_ := Aside0.mk ((by rw [hg]; exact Nat.ne_of_gt (blk_lt (g := gb137) (o := .cells #[.slice A0_0 l0_0.length c0_0, .int .i64 a0_1, .int .u64 a0_2, .slice A0_3 l0_3.length c0_3] 86 (0, 0)) (by (with_reducible repeat (first | refine blk_drewN ?_ _ | refine blk_drew ?_ | refine blk_alloc ?_ _)); exact BK137.out)) : gb138 ≠ gb137)); clear HO0_0; clear HO0_3; clear BK137; clear HB; have HO0_0 := n0_; have HO0_3 := n1_; have BK137 := n2_; have HB := n3_; have BK138 := n4_; have GW138 := n5_; have GE138 := n6_; have NB137_138 := n7_; have NB138_137 := n8_; clear n0_ n1_ n2_ n3_ n4_ n5_ n6_ n7_ n8_; clear hb hbox hg; have hnb7 := NB137_138.out; have hnc7 := NB138_137.out; have hcz8_0 : w6.cell? ⟨gb137, 0, none⟩ = some (.slice A0_0 l0_0.length c0_0) := (blk_cell BK137.out 0).trans rfl; have hcz8_1 : w6.cell? ⟨gb137, 1, none⟩ = some (.int .i64 a0_1) := (blk_cell BK137.out 1).trans rfl; have hcz8_2 : w6.cell? ⟨gb137, 2, none⟩ = some (.int .u64 a0_2) := (blk_cell BK137.out 2).trans rfl; have hcz8_3 : w6.cell? ⟨gb137, 3, none⟩ = some (.slice A0_3 l0_3.length c0_3) := (blk_cell BK137.out 3).trans rfl; have hfz8_0 := blk_frozen BK137.out 0; have hfz8_1 := blk_frozen BK137.out 1; have hfz8_2 := blk_frozen BK137.out 2; have hfz8_3 := blk_frozen BK137.out 3) | ((with_reducible refine gate_callee (f := 52) rfl ?_); refine goesL_ (some 16) rfl rfl Try.func52 (by kernel_rfl) rfl #[.agg #[.slice A0_0 l0_0.length c0_0, .int .i64 a0_1, .int .u64 a0_2, .slice A0_3 l0_3.length c0_3], .int .u64 a1, .int .u64 4] rfl (by (try simp only [List.map_toArray, List.map_cons, List.map_nil]); first | done | rfl | (simp only [List.length_drop, List.length_take]; rfl)) ?_; (with_reducible refine (hash_file_words.calls k _ _ l0_0 a0_1 a0_2 _ _ l0_3 a1 4 t139 none _ ?side1 ?side2 ?side3 ?side4 A3.out).mono ?_); (case side1 => repeat (first | exact (Kd.V_reads' HO0_0.out).2.2 | (with_reducible refine Kd.C_alloc ?_ _) | (with_reducible refine Kd.C_drewN ?_ _) | (with_reducible refine Kd.C_drew ?_))); (case side2 => exact (Kd.V_reads' HO0_0.out).2.1); (case side3 => repeat (first | exact (Kd.V_reads' HO0_3.out).2.2 | (with_reducible refine Kd.C_alloc ?_ _) | (with_reducible refine Kd.C_drewN ?_ _) | (with_reducible refine Kd.C_drew ?_))); (case side4 => exact (Kd.V_reads' HO0_3.out).2.1); rintro e w9 ⟨v140, rfl, ho0, hb⟩; refine ⟨_, rfl, ?_⟩; have n0_ := Aside0.mk (Kd.V_below (by (with_reducible repeat (first | apply Kd.V_alloc | apply Kd.V_drewN | apply Kd.V_drew)); exact HO0_0.out) hb); have n1_ := Aside0.mk (Kd.V_below (by (with_reducible repeat (first | apply Kd.V_alloc | apply Kd.V_drewN | apply Kd.V_drew)); exact HO0_3.out) hb); have n2_ := Aside0.mk (Kd.V_lower (Kd.V_mono (ok' := fun k_ => ((P0_0_ k_ ∨ P0_3_ k_) ∨ w.heap.size ≤ k_) ∧ k_ ≠ gb137 ∧ k_ ≠ gb138) ho0 (fun k_ hk_ => ⟨(.inr (Nat.le_trans (below_size (by repeat (first | (with_reducible first | exact HB.out | apply below_alloc | apply pw_below_drewN | apply below_drew1 | refine below_set ?_ GE137.out | refine below_set ?_ GE138.out) | exact HB.out))) hk_)), (Kd.freshB (g := gb137) (o := .cells #[.slice A0_0 l0_0.length c0_0, .int .i64 a0_1, .int .u64 a0_2, .slice A0_3 l0_3.length c0_3] 86 (0, 0)) (by (with_reducible repeat (first | refine blk_drewN ?_ _ | refine blk_drew ?_ | refine blk_alloc ?_ _)); exact BK137.out) k_ hk_), (Kd.freshB (g := gb138) (o := .cells #[.slice none 0 0, .int .i64 0, .int .u64 0, .slice none 0 0, .slice none 0 0, .slice none 0 0, .int .u32 0, .int .u32 0, .int .u64 0] 92 (0, 0)) (by (with_reducible repeat (first | refine blk_drewN ?_ _ | refine blk_drew ?_ | refine blk_alloc ?_ _)); exact BK138.out) k_ hk_)⟩)) (below_size (by repeat (first | (with_reducible first | exact HB.out | apply below_alloc | apply pw_below_drewN | apply below_drew1 | refine below_set ?_ GE137.out | refine below_set ?_ GE138.out) | exact HB.out)))); have n3_ := Aside0.mk (blk_below (g := gb137) (o := .cells #[.slice A0_0 l0_0.length c0_0, .int .i64 a0_1, .int .u64 a0_2, .slice A0_3 l0_3.length c0_3] 86 (0, 0)) (by (with_reducible repeat (first | refine blk_drewN ?_ _ | refine blk_drew ?_ | refine blk_alloc ?_ _)); exact BK137.out) hb); have n4_ := Aside0.mk (blk_below (g := gb138) (o := .cells #[.slice none 0 0, .int .i64 0, .int .u64 0, .slice none 0 0, .slice none 0 0, .slice none 0 0, .int .u32 0, .int .u32 0, .int .u64 0] 92 (0, 0)) (by (with_reducible repeat (first | refine blk_drewN ?_ _ | refine blk_drew ?_ | refine blk_alloc ?_ _)); exact BK138.out) hb); have n5_ := Aside0.mk (below_step (by repeat (first | (with_reducible first | exact HB.out | apply below_alloc | apply pw_below_drewN | apply below_drew1 | refine below_set ?_ GE137.out | refine below_set ?_ GE138.out) | exact HB.out)) hb); clear HO0_0; clear HO0_3; clear BK137; clear BK138; clear HB; have HO0_0 := n0_; have HO0_3 := n1_; have HO141 := n2_; have BK137 := n3_; have BK138 := n4_; have HB := n5_; clear n0_ n1_ n2_ n3_ n4_ n5_; (try clear hb); (try clear hb2); (try clear hk); (try clear hi); (try clear ho0); (try simp only [errW_none, errW_some])))
  (try simp only [Act.put, List.setIfInBounds_toArray, List.set_cons_zero, List.set_cons_succ])
  go_cut [24] (fun v24 wc => ∃ (kq : Nat) (x24_3 : Bool), v24 = .bool x24_3 ∧ Aside0 (hash_file_gnu.j0 kq a1 t139 x24_3 l0_0 a0_1 a0_2 l0_3 = some (r1, r2, r3, r4, r5, r6, r7, r8, r9, r10)) ∧ Aside0 (kq ≤ k) ∧ Aside0 (Kd.V (Kd.int .u32) 26 wc w.heap.size (fun k_ => ((P0_0_ k_ ∨ P0_3_ k_) ∨ w.heap.size ≤ k_) ∧ k_ ≠ gb137 ∧ k_ ≠ gb138) v140 t139) ∧ Aside0 (Kd.V (Kd.int .u8) 5 wc w.heap.size (fun k_ => ((P0_0_ k_ ∨ P0_3_ k_) ∨ w.heap.size ≤ k_) ∧ k_ ≠ gb137 ∧ k_ ≠ gb138) (.slice A0_0 l0_0.length c0_0) l0_0) ∧ Aside0 (Kd.V k29 29 wc w.heap.size (fun k_ => ((P0_0_ k_ ∨ P0_3_ k_) ∨ w.heap.size ≤ k_) ∧ k_ ≠ gb137 ∧ k_ ≠ gb138) (.slice A0_3 l0_3.length c0_3) l0_3) ∧ Aside0 (wc.heap[gb137]? = some (.cells #[(.slice A0_0 l0_0.length c0_0), .int .i64 a0_1, .int .u64 a0_2, (.slice A0_3 l0_3.length c0_3)] 86 (0, 0))) ∧ Aside0 (wc.heap[gb138]? = some (.cells #[(.slice none 0 0), .int .i64 0, .int .u64 0, (.slice none 0 0), (.slice none 0 0), (.slice none 0 0), .int .u32 0, .int .u32 0, .int .u64 0] 92 (0, 0))) ∧ Aside0 (Below w.heap.size w wc))
  case first =>
   have H := HC4.out
   clear HC4
   by_cases c10 : 0 < (t139.length : Int)
   ·rw [if_pos c10] at H
    have c10b0 : decide (0 < (t139.length : Int)) = true := decide_eq_true c10
    have c10b1 : decide (0 < t139.length) = true := decide_eq_true (by omega)
    clear c10
    (first | rw [c10b0] | (simp only [i64_w, i32_w]; rw [c10b0]) | skip)
    by_cases c11 : (rd t139 0) = 0
    ·rw [if_pos c11] at H
     have c11b0 : ((rd t139 0) == 0) = true := beq_iff_eq.mpr c11
     have c11b1 : ((rd t139 0) != 0) = false := bne_eq_false_iff_eq.mpr c11
     clear c11
     have H' := Aside0.mk H
     clear H
     obtain ⟨Ao12, co12, eo12⟩ := Kd.V_slice HO141.out
     subst eo12
     have p144 : 0 ≤ (0 : Int) := (by omega)
     have q144 : 0 < (t139.length : Int) := of_decide_eq_true (by assumption)
     obtain ⟨ad144, e144, hx144_0⟩ := Kd.at_int (Kd.V_reads' HO141.out).2.2 0 p144 q144
     cases e144
     have qi144 : (0 < t139.length) = True := eq_true (by omega)
     (try rw [show ((0 : Int)).toNat = 0 from rfl] at hx144_0)
     (try rw [Addr.add_zero'] at hx144_0)
     replace p144 := eq_true p144
     replace q144 := eq_true q144
     go_wp2
     go_meet
     case rel => exact ⟨_, (true), (by first | rfl | (simp; done) | (simp [*]; done)), H', ⟨by first | omega | exact Nat.le_refl _⟩, ⟨by (with_reducible repeat (first | apply Kd.V_alloc | apply Kd.V_drewN | apply Kd.V_drew)); exact HO141.out⟩, ⟨by (with_reducible repeat (first | apply Kd.V_alloc | apply Kd.V_drewN | apply Kd.V_drew)); exact Kd.V_mono HO0_0.out (fun _ hk => ⟨hk.1.1, ⟨hk.1.2, hk.2⟩⟩)⟩, ⟨by (with_reducible repeat (first | apply Kd.V_alloc | apply Kd.V_drewN | apply Kd.V_drew)); exact Kd.V_mono HO0_3.out (fun _ hk => ⟨hk.1.1, ⟨hk.1.2, hk.2⟩⟩)⟩, ⟨by (with_reducible repeat (first | refine blk_drewN ?_ _ | refine blk_drew ?_ | refine blk_alloc ?_ _)); exact BK137.out⟩, ⟨by (with_reducible repeat (first | refine blk_drewN ?_ _ | refine blk_drew ?_ | refine blk_alloc ?_ _)); exact BK138.out⟩, ⟨by repeat (first | (with_reducible first | exact HB.out | apply below_alloc | apply pw_below_drewN | apply below_drew1 | refine below_set ?_ GE137.out | refine below_set ?_ GE138.out) | exact HB.out)⟩⟩
    ·rw [if_neg c11] at H
     have c11b0 : ((rd t139 0) == 0) = false := beq_eq_false_iff_ne.mpr c11
     have c11b1 : ((rd t139 0) != 0) = true := bne_iff_ne.mpr c11
     by_cases c13 : 2 < (t139.length : Int)
     ·rw [if_pos c13] at H
      have c13b0 : decide (2 < (t139.length : Int)) = true := decide_eq_true c13
      have c13b1 : decide (2 < t139.length) = true := decide_eq_true (by omega)
      clear c13
      by_cases c14 : (rd t139 2) = 0
      ·rw [if_pos c14] at H
       have c14b0 : ((rd t139 2) == 0) = true := beq_iff_eq.mpr c14
       have c14b1 : ((rd t139 2) != 0) = false := bne_eq_false_iff_eq.mpr c14
       clear c14
       have H' := Aside0.mk H
       clear H
       obtain ⟨Ao15, co15, eo15⟩ := Kd.V_slice HO141.out
       subst eo15
       have p144 : 0 ≤ (0 : Int) := (by omega)
       have q144 : 0 < (t139.length : Int) := of_decide_eq_true (by assumption)
       obtain ⟨ad144, e144, hx144_0⟩ := Kd.at_int (Kd.V_reads' HO141.out).2.2 0 p144 q144
       cases e144
       have qi144 : (0 < t139.length) = True := eq_true (by omega)
       (try rw [show ((0 : Int)).toNat = 0 from rfl] at hx144_0)
       (try rw [Addr.add_zero'] at hx144_0)
       replace p144 := eq_true p144
       replace q144 := eq_true q144
       have p145 : 0 ≤ (2 : Int) := (by omega)
       have q145 : 2 < (t139.length : Int) := of_decide_eq_true (by assumption)
       obtain ⟨ad145, e145, hx145_0⟩ := Kd.at_int (Kd.V_reads' HO141.out).2.2 2 p145 q145
       obtain rfl : ad144 = ad145 := (by injection e145)
       (try simp only [show (2 : Int).toNat = 2 from rfl, Nat.reduceMul, Nat.reduceEqDiff, Go.Addr.add, ↓reduceIte] at hx145_0)
       have qi145 : (2 < t139.length) = True := eq_true (by omega)
       (try rw [show ((2 : Int)).toNat = 2 from rfl] at hx145_0)
       replace p145 := eq_true p145
       replace q145 := eq_true q145
       go_wp2
       go_meet
       case rel => exact ⟨_, (true), (by first | rfl | (simp; done) | (simp [*]; done)), H', ⟨by first | omega | exact Nat.le_refl _⟩, ⟨by (with_reducible repeat (first | apply Kd.V_alloc | apply Kd.V_drewN | apply Kd.V_drew)); exact HO141.out⟩, ⟨by (with_reducible repeat (first | apply Kd.V_alloc | apply Kd.V_drewN | apply Kd.V_drew)); exact Kd.V_mono HO0_0.out (fun _ hk => ⟨hk.1.1, ⟨hk.1.2, hk.2⟩⟩)⟩, ⟨by (with_reducible repeat (first | apply Kd.V_alloc | apply Kd.V_drewN | apply Kd.V_drew)); exact Kd.V_mono HO0_3.out (fun _ hk => ⟨hk.1.1, ⟨hk.1.2, hk.2⟩⟩)⟩, ⟨by (with_reducible repeat (first | refine blk_drewN ?_ _ | refine blk_drew ?_ | refine blk_alloc ?_ _)); exact BK137.out⟩, ⟨by (with_reducible repeat (first | refine blk_drewN ?_ _ | refine blk_drew ?_ | refine blk_alloc ?_ _)); exact BK138.out⟩, ⟨by repeat (first | (with_reducible first | exact HB.out | apply below_alloc | apply pw_below_drewN | apply below_drew1 | refine below_set ?_ GE137.out | refine below_set ?_ GE138.out) | exact HB.out)⟩⟩
      ·rw [if_neg c14] at H
       have c14b0 : ((rd t139 2) == 0) = false := beq_eq_false_iff_ne.mpr c14
       have c14b1 : ((rd t139 2) != 0) = true := bne_iff_ne.mpr c14
       replace H := Option.bind_eq_some_iff.mp H
       obtain ⟨t147, A160, H⟩ := H
       replace H : (if t147 = 1 then (if 3 < (t139.length : Int) then (hash_file_gnu.j0 k a1 t139 (decide ((rd t139 3) > 31)) l0_0 a0_1 a0_2 l0_3) else (none)) else (hash_file_gnu.j0 k a1 t139 true l0_0 a0_1 a0_2 l0_3)) = some (r1, r2, r3, r4, r5, r6, r7, r8, r9, r10) := H
       have A16 := Aside0.mk A160
       clear A160
       by_cases c17 : t147 = 1
       ·rw [if_pos c17] at H
        have c17b0 : (t147 == 1) = true := beq_iff_eq.mpr c17
        have c17b1 : (t147 != 1) = false := bne_eq_false_iff_eq.mpr c17
        clear c17
        by_cases c18 : 3 < (t139.length : Int)
        ·rw [if_pos c18] at H
         have c18b0 : decide (3 < (t139.length : Int)) = true := decide_eq_true c18
         have c18b1 : decide (3 < t139.length) = true := decide_eq_true (by omega)
         clear c18
         have H' := Aside0.mk H
         clear H
         obtain ⟨Ao19, co19, eo19⟩ := Kd.V_slice HO141.out
         subst eo19
         have p144 : 0 ≤ (0 : Int) := (by omega)
         have q144 : 0 < (t139.length : Int) := of_decide_eq_true (by assumption)
         obtain ⟨ad144, e144, hx144_0⟩ := Kd.at_int (Kd.V_reads' HO141.out).2.2 0 p144 q144
         cases e144
         have qi144 : (0 < t139.length) = True := eq_true (by omega)
         (try rw [show ((0 : Int)).toNat = 0 from rfl] at hx144_0)
         (try rw [Addr.add_zero'] at hx144_0)
         replace p144 := eq_true p144
         replace q144 := eq_true q144
         have p145 : 0 ≤ (2 : Int) := (by omega)
         have q145 : 2 < (t139.length : Int) := of_decide_eq_true (by assumption)
         obtain ⟨ad145, e145, hx145_0⟩ := Kd.at_int (Kd.V_reads' HO141.out).2.2 2 p145 q145
         obtain rfl : ad144 = ad145 := (by injection e145)
         (try simp only [show (2 : Int).toNat = 2 from rfl, Nat.reduceMul, Nat.reduceEqDiff, Go.Addr.add, ↓reduceIte] at hx145_0)
         have qi145 : (2 < t139.length) = True := eq_true (by omega)
         (try rw [show ((2 : Int)).toNat = 2 from rfl] at hx145_0)
         replace p145 := eq_true p145
         replace q145 := eq_true q145
         have p146 : 0 ≤ (2 : Int) := (by omega)
         have q146 : 2 < (t139.length : Int) := of_decide_eq_true (by assumption)
         obtain ⟨ad146, e146, hx146_0⟩ := Kd.at_int (Kd.V_reads' HO141.out).2.2 2 p146 q146
         obtain rfl : ad144 = ad146 := (by injection e146)
         (try simp only [show (2 : Int).toNat = 2 from rfl, Nat.reduceMul, Nat.reduceEqDiff, Go.Addr.add, ↓reduceIte] at hx146_0)
         have qi146 : (2 < t139.length) = True := eq_true (by omega)
         (try rw [show ((2 : Int)).toNat = 2 from rfl] at hx146_0)
         replace p146 := eq_true p146
         replace q146 := eq_true q146
         go_wp2_with (first | ((with_reducible refine gate_ (.load 92 (.tmp 4)) rfl ?_); refine wpList_load_row rfl 92 (.tmp 4) rfl gb138 rfl 92 _ (0, 0) _ (by (with_reducible repeat (first | refine blk_drewN ?_ _ | refine blk_drew ?_ | refine blk_alloc ?_ _)); exact BK138.out) Try.underlying92 rfl (by kernel_rfl) ?_) | (go_at_call 53; (with_reducible refine (bits_OnesCount32.calls (rd t139 2) t147 _ A16.out).mono ?_); rintro e w' ⟨rfl, ⟨nd, rfl⟩⟩; have p148 : 0 ≤ (3 : Int) := (by omega); have q148 : 3 < (t139.length : Int) := of_decide_eq_true (by assumption); obtain ⟨ad148, e148, hx148_0⟩ := Kd.at_int (Kd.V_reads' HO141.out).2.2 3 p148 q148; obtain rfl : ad144 = ad148 := (by injection e148); (try simp only [show (3 : Int).toNat = 3 from rfl, Nat.reduceMul, Nat.reduceEqDiff, Go.Addr.add, ↓reduceIte] at hx148_0); have qi148 : (3 < t139.length) = True := eq_true (by omega); (try rw [show ((3 : Int)).toNat = 3 from rfl] at hx148_0); replace p148 := eq_true p148; replace q148 := eq_true q148))
         go_meet
         case rel => exact ⟨_, (decide ((rd t139 3) > 31)), (by first | rfl | (simp; done) | (simp [*]; done)), H', ⟨by first | omega | exact Nat.le_refl _⟩, ⟨by (with_reducible repeat (first | apply Kd.V_alloc | apply Kd.V_drewN | apply Kd.V_drew)); exact HO141.out⟩, ⟨by (with_reducible repeat (first | apply Kd.V_alloc | apply Kd.V_drewN | apply Kd.V_drew)); exact Kd.V_mono HO0_0.out (fun _ hk => ⟨hk.1.1, ⟨hk.1.2, hk.2⟩⟩)⟩, ⟨by (with_reducible repeat (first | apply Kd.V_alloc | apply Kd.V_drewN | apply Kd.V_drew)); exact Kd.V_mono HO0_3.out (fun _ hk => ⟨hk.1.1, ⟨hk.1.2, hk.2⟩⟩)⟩, ⟨by (with_reducible repeat (first | refine blk_drewN ?_ _ | refine blk_drew ?_ | refine blk_alloc ?_ _)); exact BK137.out⟩, ⟨by (with_reducible repeat (first | refine blk_drewN ?_ _ | refine blk_drew ?_ | refine blk_alloc ?_ _)); exact BK138.out⟩, ⟨by repeat (first | (with_reducible first | exact HB.out | apply below_alloc | apply pw_below_drewN | apply below_drew1 | refine below_set ?_ GE137.out | refine below_set ?_ GE138.out) | exact HB.out)⟩⟩
        ·rw [if_neg c18] at H
         exact absurd H (by simp)
       ·rw [if_neg c17] at H
        have c17b0 : (t147 == 1) = false := beq_eq_false_iff_ne.mpr c17
        have c17b1 : (t147 != 1) = true := bne_iff_ne.mpr c17
        have H' := Aside0.mk H
        clear H
        obtain ⟨Ao20, co20, eo20⟩ := Kd.V_slice HO141.out
        subst eo20
        have p144 : 0 ≤ (0 : Int) := (by omega)
        have q144 : 0 < (t139.length : Int) := of_decide_eq_true (by assumption)
        obtain ⟨ad144, e144, hx144_0⟩ := Kd.at_int (Kd.V_reads' HO141.out).2.2 0 p144 q144
        cases e144
        have qi144 : (0 < t139.length) = True := eq_true (by omega)
        (try rw [show ((0 : Int)).toNat = 0 from rfl] at hx144_0)
        (try rw [Addr.add_zero'] at hx144_0)
        replace p144 := eq_true p144
        replace q144 := eq_true q144
        have p145 : 0 ≤ (2 : Int) := (by omega)
        have q145 : 2 < (t139.length : Int) := of_decide_eq_true (by assumption)
        obtain ⟨ad145, e145, hx145_0⟩ := Kd.at_int (Kd.V_reads' HO141.out).2.2 2 p145 q145
        obtain rfl : ad144 = ad145 := (by injection e145)
        (try simp only [show (2 : Int).toNat = 2 from rfl, Nat.reduceMul, Nat.reduceEqDiff, Go.Addr.add, ↓reduceIte] at hx145_0)
        have qi145 : (2 < t139.length) = True := eq_true (by omega)
        (try rw [show ((2 : Int)).toNat = 2 from rfl] at hx145_0)
        replace p145 := eq_true p145
        replace q145 := eq_true q145
        have p146 : 0 ≤ (2 : Int) := (by omega)
        have q146 : 2 < (t139.length : Int) := of_decide_eq_true (by assumption)
        obtain ⟨ad146, e146, hx146_0⟩ := Kd.at_int (Kd.V_reads' HO141.out).2.2 2 p146 q146
        obtain rfl : ad144 = ad146 := (by injection e146)
        (try simp only [show (2 : Int).toNat = 2 from rfl, Nat.reduceMul, Nat.reduceEqDiff, Go.Addr.add, ↓reduceIte] at hx146_0)
        have qi146 : (2 < t139.length) = True := eq_true (by omega)
        (try rw [show ((2 : Int)).toNat = 2 from rfl] at hx146_0)
        replace p146 := eq_true p146
        replace q146 := eq_true q146
        go_wp2_with (first | ((with_reducible refine gate_ (.load 92 (.tmp 4)) rfl ?_); refine wpList_load_row rfl 92 (.tmp 4) rfl gb138 rfl 92 _ (0, 0) _ (by (with_reducible repeat (first | refine blk_drewN ?_ _ | refine blk_drew ?_ | refine blk_alloc ?_ _)); exact BK138.out) Try.underlying92 rfl (by kernel_rfl) ?_) | (go_at_call 53; (with_reducible refine (bits_OnesCount32.calls (rd t139 2) t147 _ A16.out).mono ?_); rintro e w' ⟨rfl, ⟨nd, rfl⟩⟩))
        go_meet
        case rel => exact ⟨_, (true), (by first | rfl | (simp; done) | (simp [*]; done)), H', ⟨by first | omega | exact Nat.le_refl _⟩, ⟨by (with_reducible repeat (first | apply Kd.V_alloc | apply Kd.V_drewN | apply Kd.V_drew)); exact HO141.out⟩, ⟨by (with_reducible repeat (first | apply Kd.V_alloc | apply Kd.V_drewN | apply Kd.V_drew)); exact Kd.V_mono HO0_0.out (fun _ hk => ⟨hk.1.1, ⟨hk.1.2, hk.2⟩⟩)⟩, ⟨by (with_reducible repeat (first | apply Kd.V_alloc | apply Kd.V_drewN | apply Kd.V_drew)); exact Kd.V_mono HO0_3.out (fun _ hk => ⟨hk.1.1, ⟨hk.1.2, hk.2⟩⟩)⟩, ⟨by (with_reducible repeat (first | refine blk_drewN ?_ _ | refine blk_drew ?_ | refine blk_alloc ?_ _)); exact BK137.out⟩, ⟨by (with_reducible repeat (first | refine blk_drewN ?_ _ | refine blk_drew ?_ | refine blk_alloc ?_ _)); exact BK138.out⟩, ⟨by repeat (first | (with_reducible first | exact HB.out | apply below_alloc | apply pw_below_drewN | apply below_drew1 | refine below_set ?_ GE137.out | refine below_set ?_ GE138.out) | exact HB.out)⟩⟩
     ·rw [if_neg c13] at H
      exact absurd H (by simp)
   ·rw [if_neg c10] at H
    exact absurd H (by simp)
  case rest =>
   clear HC4
   try clear c1
   try clear p1
   try clear q1
   try clear hx1
   try clear qi1
   try clear p2
   try clear c3
   try clear c5
   try clear c7
   try clear c10
   try clear c10b0
   try clear c10b1
   try clear c11
   try clear c11b0
   try clear c11b1
   try clear c13
   try clear c13b0
   try clear c13b1
   try clear c14
   try clear c14b0
   try clear c14b1
   try clear p14
   try clear q14
   try clear hx14
   try clear qi14
   try clear c17
   try clear c17b0
   try clear c17b1
   try clear c18
   try clear c18b0
   try clear c18b1
   try clear hcz8_0
   try clear hcz8_1
   try clear hcz8_2
   try clear hcz8_3
   try clear hfz8_0
   try clear hfz8_1
   try clear hfz8_2
   try clear hfz8_3
   try clear hx144_0
   try clear hx145_0
   try clear hx146_0
   try clear hx148_0
   try clear p144
   try clear p145
   try clear p146
   try clear p148
   try clear q143
   try clear q144
   try clear q145
   try clear q146
   try clear q148
   obtain ⟨kq, x24_3, rfl, HA, HJ3, HO_6, HO_138000, HO_138003, BK137, BK138, HB⟩ := hcut
   cases kq with
   | zero => exact absurd HA.out (by simp [hash_file_gnu.j0])
   | succ kj3 =>
    have H := HA.out
    clear HA
    simp only [hash_file_gnu.j0] at H
    by_cases c21 : x24_3 = true
    ·subst c21
     have H1 : (none) = some (r1, r2, r3, r4, r5, r6, r7, r8, r9, r10) := by rw [if_pos rfl] at H; exact H
     clear H
     have H := H1
     clear H1
     exact absurd H (by simp)
    ·replace c21 := Bool.eq_false_iff.mpr c21
     subst c21
     have H1 : (if 0 < (t139.length : Int) then (if (rd t139 0) > 4096 then (none) else (if 1 < (t139.length : Int) then (if (rd t139 1) > 4096 then (none) else (if 2 < (t139.length : Int) then (if (rd t139 2) > 4096 then (none) else ((hash_file_words.f kj3 l0_0 a0_1 a0_2 l0_3 a1 (IntKind.u64.wrap ((IntKind.u64.wrap (4 + (IntKind.u64.wrap (2 * (IntKind.u64.wrap (rd t139 2)))))) + (IntKind.u64.wrap (rd t139 0))))).bind fun bt154 => (if bt154.2.isNone = true then (if 4 ≤ (IntKind.u64.wrap (4 + (IntKind.u64.wrap (2 * (IntKind.u64.wrap (rd t139 2)))))) then (if (IntKind.u64.wrap (4 + (IntKind.u64.wrap (2 * (IntKind.u64.wrap (rd t139 2)))))) ≤ (bt154.1.length : Int) then (if 0 ≤ (IntKind.u64.wrap (4 + (IntKind.u64.wrap (2 * (IntKind.u64.wrap (rd t139 2)))))) then ((some (bt154.1.drop ((IntKind.u64.wrap (4 + (IntKind.u64.wrap (2 * (IntKind.u64.wrap (rd t139 2)))))) : Int).toNat : List Int)).bind fun y164 => (if 3 < (t139.length : Int) then (hash_file_gnu.l0 kj3 y164 (y164.length : Int) 0 l0_0 a0_1 a0_2 l0_3 ((bt154.1.take ((IntKind.u64.wrap (4 + (IntKind.u64.wrap (2 * (IntKind.u64.wrap (rd t139 2)))))) : Int).toNat).drop 4) y164 (rd t139 1) (rd t139 3) (IntKind.u64.wrap (a1 + (IntKind.u64.wrap (4 * (IntKind.u64.wrap ((IntKind.u64.wrap (4 + (IntKind.u64.wrap (2 * (IntKind.u64.wrap (rd t139 2)))))) + (IntKind.u64.wrap (rd t139 0))))))))) else (none))) else (none)) else (none)) else (none)) else (none)))) else (none))) else (none))) else (none)) = some (r1, r2, r3, r4, r5, r6, r7, r8, r9, r10) := by rw [if_neg (show ¬ (false = true) by decide)] at H; exact H
     clear H
     have H := H1
     clear H1
     by_cases c22 : 0 < (t139.length : Int)
     ·rw [if_pos c22] at H
      have c22b0 : decide (0 < (t139.length : Int)) = true := decide_eq_true c22
      have c22b1 : decide (0 < t139.length) = true := decide_eq_true (by omega)
      clear c22
      by_cases c23 : (rd t139 0) > 4096
      ·rw [if_pos c23] at H
       exact absurd H (by simp)
      ·rw [if_neg c23] at H
       have c23b0 : decide (4096 < (rd t139 0)) = false := decide_eq_false c23
       clear c23
       by_cases c24 : 1 < (t139.length : Int)
       ·rw [if_pos c24] at H
        have c24b0 : decide (1 < (t139.length : Int)) = true := decide_eq_true c24
        have c24b1 : decide (1 < t139.length) = true := decide_eq_true (by omega)
        clear c24
        by_cases c25 : (rd t139 1) > 4096
        ·rw [if_pos c25] at H
         exact absurd H (by simp)
        ·rw [if_neg c25] at H
         have c25b0 : decide (4096 < (rd t139 1)) = false := decide_eq_false c25
         clear c25
         by_cases c26 : 2 < (t139.length : Int)
         ·rw [if_pos c26] at H
          have c26b0 : decide (2 < (t139.length : Int)) = true := decide_eq_true c26
          have c26b1 : decide (2 < t139.length) = true := decide_eq_true (by omega)
          clear c26
          by_cases c27 : (rd t139 2) > 4096
          ·rw [if_pos c27] at H
           exact absurd H (by simp)
          ·rw [if_neg c27] at H
           have c27b0 : decide (4096 < (rd t139 2)) = false := decide_eq_false c27
           clear c27
           replace H := Option.bind_eq_some_iff.mp H
           obtain ⟨⟨t154, t157⟩, A280, H⟩ := H
           replace H : (if t157.isNone = true then (if 4 ≤ (IntKind.u64.wrap (4 + (IntKind.u64.wrap (2 * (IntKind.u64.wrap (rd t139 2)))))) then (if (IntKind.u64.wrap (4 + (IntKind.u64.wrap (2 * (IntKind.u64.wrap (rd t139 2)))))) ≤ (t154.length : Int) then (if 0 ≤ (IntKind.u64.wrap (4 + (IntKind.u64.wrap (2 * (IntKind.u64.wrap (rd t139 2)))))) then ((some (t154.drop ((IntKind.u64.wrap (4 + (IntKind.u64.wrap (2 * (IntKind.u64.wrap (rd t139 2)))))) : Int).toNat : List Int)).bind fun y164 => (if 3 < (t139.length : Int) then (hash_file_gnu.l0 kj3 y164 (y164.length : Int) 0 l0_0 a0_1 a0_2 l0_3 ((t154.take ((IntKind.u64.wrap (4 + (IntKind.u64.wrap (2 * (IntKind.u64.wrap (rd t139 2)))))) : Int).toNat).drop 4) y164 (rd t139 1) (rd t139 3) (IntKind.u64.wrap (a1 + (IntKind.u64.wrap (4 * (IntKind.u64.wrap ((IntKind.u64.wrap (4 + (IntKind.u64.wrap (2 * (IntKind.u64.wrap (rd t139 2)))))) + (IntKind.u64.wrap (rd t139 0))))))))) else (none))) else (none)) else (none)) else (none)) else (none)) = some (r1, r2, r3, r4, r5, r6, r7, r8, r9, r10) := H
           have A28 := Aside0.mk A280
           clear A280
           rcases t157 with _ | q158
           ·have H1 : (if 4 ≤ (IntKind.u64.wrap (4 + (IntKind.u64.wrap (2 * (IntKind.u64.wrap (rd t139 2)))))) then (if (IntKind.u64.wrap (4 + (IntKind.u64.wrap (2 * (IntKind.u64.wrap (rd t139 2)))))) ≤ (t154.length : Int) then (if 0 ≤ (IntKind.u64.wrap (4 + (IntKind.u64.wrap (2 * (IntKind.u64.wrap (rd t139 2)))))) then ((some (t154.drop ((IntKind.u64.wrap (4 + (IntKind.u64.wrap (2 * (IntKind.u64.wrap (rd t139 2)))))) : Int).toNat : List Int)).bind fun y164 => (if 3 < (t139.length : Int) then (hash_file_gnu.l0 kj3 y164 (y164.length : Int) 0 l0_0 a0_1 a0_2 l0_3 ((t154.take ((IntKind.u64.wrap (4 + (IntKind.u64.wrap (2 * (IntKind.u64.wrap (rd t139 2)))))) : Int).toNat).drop 4) y164 (rd t139 1) (rd t139 3) (IntKind.u64.wrap (a1 + (IntKind.u64.wrap (4 * (IntKind.u64.wrap ((IntKind.u64.wrap (4 + (IntKind.u64.wrap (2 * (IntKind.u64.wrap (rd t139 2)))))) + (IntKind.u64.wrap (rd t139 0))))))))) else (none))) else (none)) else (none)) else (none)) = some (r1, r2, r3, r4, r5, r6, r7, r8, r9, r10) := by rw [if_pos (show (none : Option Int).isNone = true by rfl)] at H; exact H
            clear H
            have H := H1
            clear H1
            try simp only [errW_none, errW_some]
            by_cases c29 : 4 ≤ (IntKind.u64.wrap (4 + (IntKind.u64.wrap (2 * (IntKind.u64.wrap (rd t139 2))))))
            ·rw [if_pos c29] at H
             have c29b0 := eq_true c29
             have c29b1 : decide (4 ≤ (IntKind.u64.wrap (4 + (IntKind.u64.wrap (2 * (IntKind.u64.wrap (rd t139 2))))))) = true := decide_eq_true c29
             by_cases c30 : (IntKind.u64.wrap (4 + (IntKind.u64.wrap (2 * (IntKind.u64.wrap (rd t139 2)))))) ≤ (t154.length : Int)
             ·rw [if_pos c30] at H
              have c30b0 := eq_true c30
              have c30b1 : decide ((IntKind.u64.wrap (4 + (IntKind.u64.wrap (2 * (IntKind.u64.wrap (rd t139 2)))))) ≤ (t154.length : Int)) = true := decide_eq_true c30
              obtain ⟨y159, hy159⟩ : ∃ y_ : List Int, y_ = ((t154.take ((IntKind.u64.wrap (4 + (IntKind.u64.wrap (2 * (IntKind.u64.wrap (rd t139 2)))))) : Int).toNat).drop 4) := ⟨_, rfl⟩
              replace H : (if 0 ≤ (IntKind.u64.wrap (4 + (IntKind.u64.wrap (2 * (IntKind.u64.wrap (rd t139 2)))))) then ((some (t154.drop ((IntKind.u64.wrap (4 + (IntKind.u64.wrap (2 * (IntKind.u64.wrap (rd t139 2)))))) : Int).toNat : List Int)).bind fun y164 => (if 3 < (t139.length : Int) then (hash_file_gnu.l0 kj3 y164 (y164.length : Int) 0 l0_0 a0_1 a0_2 l0_3 y159 y164 (rd t139 1) (rd t139 3) (IntKind.u64.wrap (a1 + (IntKind.u64.wrap (4 * (IntKind.u64.wrap ((IntKind.u64.wrap (4 + (IntKind.u64.wrap (2 * (IntKind.u64.wrap (rd t139 2)))))) + (IntKind.u64.wrap (rd t139 0))))))))) else (none))) else (none)) = some (r1, r2, r3, r4, r5, r6, r7, r8, r9, r10) := by first | (rw [hy159]; with_reducible exact H) | (have H2_ := (Option.bind_some _ _).symm.trans H; rw [hy159]; with_reducible exact H2_) | (have H2_ := (Option.bind_some _ _).symm.trans H; with_reducible exact H2_) | with_reducible exact H | (rw [hy159]; exact H) | exact H
              have Ny159 := Aside0.mk hy159
              clear hy159
              obtain ⟨ji31, hji31⟩ : ∃ j_ : Int, (IntKind.u64.wrap (4 + (IntKind.u64.wrap (2 * (IntKind.u64.wrap (rd t139 2)))))) = j_ := ⟨_, rfl⟩
              replace H : (if 0 ≤ (ji31) then ((some (t154.drop ((ji31) : Int).toNat : List Int)).bind fun y164 => (if 3 < (t139.length : Int) then (hash_file_gnu.l0 kj3 y164 (y164.length : Int) 0 l0_0 a0_1 a0_2 l0_3 y159 y164 (rd t139 1) (rd t139 3) (IntKind.u64.wrap (a1 + (IntKind.u64.wrap (4 * (IntKind.u64.wrap ((ji31) + (IntKind.u64.wrap (rd t139 0))))))))) else (none))) else (none)) = some (r1, r2, r3, r4, r5, r6, r7, r8, r9, r10) := by first | (rw [hji31] at H; exact H) | (simp only [hji31] at H ⊢; exact H)
              (try rw [hji31] at c29b0)
              (try rw [hji31] at c29b1)
              (try rw [hji31] at c29)
              (try rw [hji31] at c30b0)
              (try rw [hji31] at c30b1)
              (try rw [hji31] at c30)
              (try rw [hji31] at A28)
              (try rw [hji31] at Ny159)
              by_cases c32 : 0 ≤ (ji31)
              ·rw [if_pos c32] at H
               have c32b0 := eq_true c32
               have c32b1 : decide (0 ≤ (ji31)) = true := decide_eq_true c32
               clear c32
               have c33b0 := eq_true (of_decide_eq_true (by assumption) : (ji31) ≤ (t154.length : Int))
               obtain ⟨y164, hy164⟩ : ∃ y_ : List Int, y_ = (t154.drop ((ji31) : Int).toNat) := ⟨_, rfl⟩
               replace H : (if 3 < (t139.length : Int) then (hash_file_gnu.l0 kj3 y164 (y164.length : Int) 0 l0_0 a0_1 a0_2 l0_3 y159 y164 (rd t139 1) (rd t139 3) (IntKind.u64.wrap (a1 + (IntKind.u64.wrap (4 * (IntKind.u64.wrap ((ji31) + (IntKind.u64.wrap (rd t139 0))))))))) else (none)) = some (r1, r2, r3, r4, r5, r6, r7, r8, r9, r10) := by first | (rw [hy164]; with_reducible exact H) | (have H2_ := (Option.bind_some _ _).symm.trans H; rw [hy164]; with_reducible exact H2_) | (have H2_ := (Option.bind_some _ _).symm.trans H; with_reducible exact H2_) | with_reducible exact H | (rw [hy164]; exact H) | exact H
               have Ny164 := Aside0.mk hy164
               clear hy164
               by_cases c34 : 3 < (t139.length : Int)
               ·rw [if_pos c34] at H
                have c34b0 : decide (3 < (t139.length : Int)) = true := decide_eq_true c34
                have c34b1 : decide (3 < t139.length) = true := decide_eq_true (by omega)
                clear c34
                have H' := Aside0.mk H
                clear H
                obtain ⟨Ao35, co35, eo35⟩ := Kd.V_slice HO_6.out
                subst eo35
                have p149 : 0 ≤ (0 : Int) := (by omega)
                have q149 : 0 < (t139.length : Int) := of_decide_eq_true (by assumption)
                obtain ⟨ad149, e149, hx149_0⟩ := Kd.at_int (Kd.V_reads' HO_6.out).2.2 0 p149 q149
                cases e149
                have qi149 : (0 < t139.length) = True := eq_true (by omega)
                (try rw [show ((0 : Int)).toNat = 0 from rfl] at hx149_0)
                (try rw [Addr.add_zero'] at hx149_0)
                replace p149 := eq_true p149
                replace q149 := eq_true q149
                have p150 : 0 ≤ (1 : Int) := (by omega)
                have q150 : 1 < (t139.length : Int) := of_decide_eq_true (by assumption)
                obtain ⟨ad150, e150, hx150_0⟩ := Kd.at_int (Kd.V_reads' HO_6.out).2.2 1 p150 q150
                obtain rfl : ad149 = ad150 := (by injection e150)
                (try simp only [show (1 : Int).toNat = 1 from rfl, Nat.reduceMul, Nat.reduceEqDiff, Go.Addr.add, ↓reduceIte] at hx150_0)
                have qi150 : (1 < t139.length) = True := eq_true (by omega)
                (try rw [show ((1 : Int)).toNat = 1 from rfl] at hx150_0)
                replace p150 := eq_true p150
                replace q150 := eq_true q150
                have p151 : 0 ≤ (2 : Int) := (by omega)
                have q151 : 2 < (t139.length : Int) := of_decide_eq_true (by assumption)
                obtain ⟨ad151, e151, hx151_0⟩ := Kd.at_int (Kd.V_reads' HO_6.out).2.2 2 p151 q151
                obtain rfl : ad149 = ad151 := (by injection e151)
                (try simp only [show (2 : Int).toNat = 2 from rfl, Nat.reduceMul, Nat.reduceEqDiff, Go.Addr.add, ↓reduceIte] at hx151_0)
                have qi151 : (2 < t139.length) = True := eq_true (by omega)
                (try rw [show ((2 : Int)).toNat = 2 from rfl] at hx151_0)
                replace p151 := eq_true p151
                replace q151 := eq_true q151
                have p152 : 0 ≤ (2 : Int) := (by omega)
                have q152 : 2 < (t139.length : Int) := of_decide_eq_true (by assumption)
                obtain ⟨ad152, e152, hx152_0⟩ := Kd.at_int (Kd.V_reads' HO_6.out).2.2 2 p152 q152
                obtain rfl : ad149 = ad152 := (by injection e152)
                (try simp only [show (2 : Int).toNat = 2 from rfl, Nat.reduceMul, Nat.reduceEqDiff, Go.Addr.add, ↓reduceIte] at hx152_0)
                have qi152 : (2 < t139.length) = True := eq_true (by omega)
                (try rw [show ((2 : Int)).toNat = 2 from rfl] at hx152_0)
                replace p152 := eq_true p152
                replace q152 := eq_true q152
                try go_wp2
                have n0_ := Aside0.mk (Kd.V_drew HO_6.out)
                have n1_ := Aside0.mk (Kd.V_drew HO_138000.out)
                have n2_ := Aside0.mk (Kd.V_drew HO_138003.out)
                have n3_ := Aside0.mk (blk_drew BK137.out)
                have n4_ := Aside0.mk (blk_drew BK138.out)
                have n5_ := Aside0.mk (below_drew1 HB.out)
                clear HO_6
                clear HO_138000
                clear HO_138003
                clear BK137
                clear BK138
                clear HB
                have HO_6 := n0_
                have HO_138000 := n1_
                have HO_138003 := n2_
                have BK137 := n3_
                have BK138 := n4_
                have HB := n5_
                clear n0_ n1_ n2_ n3_ n4_ n5_
                have p153 : 0 ≤ (0 : Int) := (by omega)
                have q153 : 0 < (t139.length : Int) := of_decide_eq_true (by assumption)
                obtain ⟨ad153, e153, hx153_0⟩ := Kd.at_int (Kd.V_reads' HO_6.out).2.2 0 p153 q153
                obtain rfl : ad149 = ad153 := (by injection e153)
                have qi153 : (0 < t139.length) = True := eq_true (by omega)
                (try rw [show ((0 : Int)).toNat = 0 from rfl] at hx153_0)
                (try rw [Addr.add_zero'] at hx153_0)
                replace p153 := eq_true p153
                replace q153 := eq_true q153
                refine start_ (n := 14) (S := fun w' => w'.cell? ⟨gb137, 0, none⟩ = some (.slice A0_0 l0_0.length c0_0) ∧ w'.cell? ⟨gb137, 1, none⟩ = some (.int .i64 a0_1) ∧ w'.cell? ⟨gb137, 2, none⟩ = some (.int .u64 a0_2) ∧ w'.cell? ⟨gb137, 3, none⟩ = some (.slice A0_3 l0_3.length c0_3) ∧ w'.cell? ad149 = some (.int .u32 (rd t139 0))) (ds := []) #[false, false, false, false, false, false, false, false, false, false, false, false, false, false] (by kernel_rfl) rfl rfl ⟨(blk_cell BK137.out 0).trans rfl, (blk_cell BK137.out 1).trans rfl, (blk_cell BK137.out 2).trans rfl, (blk_cell BK137.out 3).trans rfl, hx153_0⟩ (fun hHeld => ?_); refine with_tabW hash_file_gnu.tab9 hash_file_gnu.bits9 (fun HT_ HW_ => ?_)
                generalize wc.drew = w36 at HO_6 HO_138000 HO_138003 BK137 BK138 HB hx153_0 hHeld ⊢
                refine pure_ (i := 1) (N := some 77) (v := ?_) (a' := ?_) #[false, true, false, false, false, false, false, false, false, false, false, false, false, false] rfl rfl (any_of HT_.out (by kernel_rfl)) (fun _ _ _ h => h) (Or.inl ⟨by rfl, ?_⟩) ?_ ?_
                rotate_left
                ·intro w'
                 go_simp
                 with_reducible rfl
                rotate_left
                ·simp only [Act.put, List.setIfInBounds_toArray, List.set_cons_zero, List.set_cons_succ, i64_w, i32_w]
                 rfl
                refine pure_ (i := 2) (N := some 78) (v := ?_) (a' := ?_) #[false, true, true, false, false, false, false, false, false, false, false, false, false, false] rfl rfl (any_of HT_.out (by kernel_rfl)) (fun _ _ _ h => h) (Or.inl ⟨by rfl, ?_⟩) ?_ ?_
                rotate_left
                ·intro w'
                 go_simp
                 with_reducible rfl
                rotate_left
                ·simp only [Act.put, List.setIfInBounds_toArray, List.set_cons_zero, List.set_cons_succ, i64_w, i32_w]
                 rfl
                refine pure_ (i := 3) (N := some 79) (v := ?_) (a' := ?_) #[false, true, true, true, false, false, false, false, false, false, false, false, false, false] rfl rfl (any_of HT_.out (by kernel_rfl)) (fun _ _ _ h => h) (Or.inl ⟨by rfl, ?_⟩) ?_ ?_
                rotate_left
                ·intro w'
                 go_simp
                 with_reducible rfl
                rotate_left
                ·simp only [Act.put, List.setIfInBounds_toArray, List.set_cons_zero, List.set_cons_succ, i64_w, i32_w]
                 rfl
                refine pure_ (i := 4) (N := some 80) (v := ?_) (a' := ?_) #[false, true, true, true, true, false, false, false, false, false, false, false, false, false] rfl rfl (any_of HT_.out (by kernel_rfl)) (fun _ _ _ h => h) (Or.inl ⟨by rfl, ?_⟩) ?_ ?_
                rotate_left
                ·intro w'
                 go_simp
                 with_reducible rfl
                rotate_left
                ·simp only [Act.put, List.setIfInBounds_toArray, List.set_cons_zero, List.set_cons_succ, i64_w, i32_w]
                 rfl
                refine take_ (i := 0) (N := some 76) (v := ?_) (a' := ?_) #[true, true, true, true, true, false, false, false, false, false, false, false, false, false] rfl rfl (take_ofW HT_.out HW_.out (by kernel_rfl)) (fun _ _ _ h => h) (Or.inl ⟨by rfl, ?_⟩) hHeld ?_ ?_
                rotate_left
                ·rintro w' ⟨s0, s1, s2, s3, s4⟩
                 go_simp
                 with_reducible rfl
                rotate_left
                ·simp only [Act.put, List.setIfInBounds_toArray, List.set_cons_zero, List.set_cons_succ, i64_w, i32_w]
                 rfl
                refine take_ (i := 5) (N := some 81) (v := ?_) (a' := ?_) #[true, true, true, true, true, true, false, false, false, false, false, false, false, false] rfl rfl (take_ofW HT_.out HW_.out (by kernel_rfl)) (fun _ _ _ h => h) (Or.inl ⟨by rfl, ?_⟩) hHeld ?_ ?_
                rotate_left
                ·rintro w' ⟨s0, s1, s2, s3, s4⟩
                 go_simp
                 with_reducible rfl
                rotate_left
                ·simp only [Act.put, List.setIfInBounds_toArray, List.set_cons_zero, List.set_cons_succ, i64_w, i32_w]
                 rfl
                refine pure_ (i := 6) (N := some 82) (v := ?_) (a' := ?_) #[true, true, true, true, true, true, true, false, false, false, false, false, false, false] rfl rfl (any_of HT_.out (by kernel_rfl)) (fun _ _ _ h => h) (Or.inl ⟨by rfl, ?_⟩) ?_ ?_
                rotate_left
                ·intro w'
                 go_simp
                 with_reducible rfl
                rotate_left
                ·simp only [Act.put, List.setIfInBounds_toArray, List.set_cons_zero, List.set_cons_succ, i64_w, i32_w]
                 rfl
                refine pure_ (i := 7) (N := some 83) (v := ?_) (a' := ?_) #[true, true, true, true, true, true, true, true, false, false, false, false, false, false] rfl rfl (any_of HT_.out (by kernel_rfl)) (fun _ _ _ h => h) (Or.inl ⟨by rfl, ?_⟩) ?_ ?_
                rotate_left
                ·intro w'
                 go_simp
                 with_reducible rfl
                rotate_left
                ·simp only [Act.put, List.setIfInBounds_toArray, List.set_cons_zero, List.set_cons_succ, i64_w, i32_w]
                 rfl
                refine one_ (i := 8) (N := some 84) #[true, true, true, true, true, true, true, true, true, false, false, false, false, false] rfl rfl (one_of HT_.out (by kernel_rfl)) (by decide) (fun K hK => ?_)
                refine goes_ Try.func52 (by kernel_rfl) rfl #[.agg #[.slice A0_0 l0_0.length c0_0, .int .i64 a0_1, .int .u64 a0_2, .slice A0_3 l0_3.length c0_3], .int .u64 a1, .int .u64 (IntKind.u64.wrap ((ji31) + (IntKind.u64.wrap (rd t139 0))))] (by rfl) rfl rfl (by (try simp only [List.map_toArray, List.map_cons, List.map_nil]); first | done | (simp only [hji31]; rfl) | rfl | (simp only [List.length_drop, List.length_take]; rfl)) ?_
                with_reducible refine (hash_file_words.calls kj3 _ _ l0_0 a0_1 a0_2 _ _ l0_3 a1 (IntKind.u64.wrap ((ji31) + (IntKind.u64.wrap (rd t139 0)))) t154 none _ ?side1 ?side2 ?side3 ?side4 A28.out).mono ?_
                (case side1 => repeat (first | exact (Kd.V_reads' HO_138000.out).2.2 | (with_reducible refine Kd.C_alloc ?_ _) | (with_reducible refine Kd.C_drewN ?_ _) | (with_reducible refine Kd.C_drew ?_)))
                (case side2 => exact (Kd.V_reads' HO_138000.out).2.1)
                (case side3 => repeat (first | exact (Kd.V_reads' HO_138003.out).2.2 | (with_reducible refine Kd.C_alloc ?_ _) | (with_reducible refine Kd.C_drewN ?_ _) | (with_reducible refine Kd.C_drew ?_)))
                (case side4 => exact (Kd.V_reads' HO_138003.out).2.1)
                rintro e w37 ⟨v155, rfl, ho0, hb⟩
                have HS4_ := (hb.cell (World.block_lt_of_cell? _ _ (hHeld.2.2.2.2))).trans (hHeld.2.2.2.2)
                refine ⟨_, rfl, ?_⟩
                have n0_ := Aside0.mk (Kd.V_below (by (with_reducible repeat (first | apply Kd.V_alloc | apply Kd.V_drewN | apply Kd.V_drew)); exact HO_6.out) hb)
                have n1_ := Aside0.mk (Kd.V_below (by (with_reducible repeat (first | apply Kd.V_alloc | apply Kd.V_drewN | apply Kd.V_drew)); exact HO_138000.out) hb)
                have n2_ := Aside0.mk (Kd.V_below (by (with_reducible repeat (first | apply Kd.V_alloc | apply Kd.V_drewN | apply Kd.V_drew)); exact HO_138003.out) hb)
                have n3_ := Aside0.mk (Kd.V_lower (Kd.V_mono (ok' := fun k_ => ((P0_0_ k_ ∨ P0_3_ k_) ∨ w.heap.size ≤ k_) ∧ k_ ≠ gb137 ∧ k_ ≠ gb138) ho0 (fun k_ hk_ => ⟨(.inr (Nat.le_trans (below_size (by repeat (first | (with_reducible first | exact HB.out | apply below_alloc | apply pw_below_drewN | apply below_drew1 | refine below_set ?_ GE137.out | refine below_set ?_ GE138.out) | exact HB.out))) hk_)), (Kd.freshB (g := gb137) (o := .cells #[.slice A0_0 l0_0.length c0_0, .int .i64 a0_1, .int .u64 a0_2, .slice A0_3 l0_3.length c0_3] 86 (0, 0)) (by (with_reducible repeat (first | refine blk_drewN ?_ _ | refine blk_drew ?_ | refine blk_alloc ?_ _)); exact BK137.out) k_ hk_), (Kd.freshB (g := gb138) (o := .cells #[.slice none 0 0, .int .i64 0, .int .u64 0, .slice none 0 0, .slice none 0 0, .slice none 0 0, .int .u32 0, .int .u32 0, .int .u64 0] 92 (0, 0)) (by (with_reducible repeat (first | refine blk_drewN ?_ _ | refine blk_drew ?_ | refine blk_alloc ?_ _)); exact BK138.out) k_ hk_)⟩)) (below_size (by repeat (first | (with_reducible first | exact HB.out | apply below_alloc | apply pw_below_drewN | apply below_drew1 | refine below_set ?_ GE137.out | refine below_set ?_ GE138.out) | exact HB.out))))
                have n4_ := Aside0.mk (blk_below (g := gb137) (o := .cells #[.slice A0_0 l0_0.length c0_0, .int .i64 a0_1, .int .u64 a0_2, .slice A0_3 l0_3.length c0_3] 86 (0, 0)) (by (with_reducible repeat (first | refine blk_drewN ?_ _ | refine blk_drew ?_ | refine blk_alloc ?_ _)); exact BK137.out) hb)
                have n5_ := Aside0.mk (blk_below (g := gb138) (o := .cells #[.slice none 0 0, .int .i64 0, .int .u64 0, .slice none 0 0, .slice none 0 0, .slice none 0 0, .int .u32 0, .int .u32 0, .int .u64 0] 92 (0, 0)) (by (with_reducible repeat (first | refine blk_drewN ?_ _ | refine blk_drew ?_ | refine blk_alloc ?_ _)); exact BK138.out) hb)
                have n6_ := Aside0.mk (below_step (by repeat (first | (with_reducible first | exact HB.out | apply below_alloc | apply pw_below_drewN | apply below_drew1 | refine below_set ?_ GE137.out | refine below_set ?_ GE138.out) | exact HB.out)) hb)
                clear HO_6
                clear HO_138000
                clear HO_138003
                clear BK137
                clear BK138
                clear HB
                have HO_6 := n0_
                have HO_138000 := n1_
                have HO_138003 := n2_
                have HO156 := n3_
                have BK137 := n4_
                have BK138 := n5_
                have HB := n6_
                clear n0_ n1_ n2_ n3_ n4_ n5_ n6_
                (try clear hb)
                (try clear hb2)
                (try clear hk)
                (try clear hi)
                (try clear ho0)
                (try simp only [errW_none, errW_some])
                refine hK.out _ _ ⟨(blk_cell BK137.out 0).trans rfl, (blk_cell BK137.out 1).trans rfl, (blk_cell BK137.out 2).trans rfl, (blk_cell BK137.out 3).trans rfl, HS4_⟩ (fun hHeld => ?_)
                clear hK K
                refine norm_ (a' := ?_) ?_ ?_
                rotate_left
                ·show Act.put _ (some 84) _ = _
                 simp only [Act.put, List.setIfInBounds_toArray, List.set_cons_zero, List.set_cons_succ, i64_w, i32_w]
                 rfl
                refine pure_ (i := 9) (N := some 75) (v := ?_) (a' := ?_) #[true, true, true, true, true, true, true, true, true, true, false, false, false, false] rfl rfl (any_of HT_.out (by kernel_rfl)) (fun _ _ _ h => h) (Or.inl ⟨by rfl, ?_⟩) ?_ ?_
                rotate_left
                ·intro w'
                 go_simp
                 with_reducible rfl
                rotate_left
                ·simp only [Act.put, List.setIfInBounds_toArray, List.set_cons_zero, List.set_cons_succ, i64_w, i32_w]
                 rfl
                refine pure_ (i := 10) (N := some 85) (v := ?_) (a' := ?_) #[true, true, true, true, true, true, true, true, true, true, true, false, false, false] rfl rfl (any_of HT_.out (by kernel_rfl)) (fun _ _ _ h => h) (Or.inl ⟨by rfl, ?_⟩) ?_ ?_
                rotate_left
                ·intro w'
                 go_simp
                 with_reducible rfl
                rotate_left
                ·simp only [Act.put, List.setIfInBounds_toArray, List.set_cons_zero, List.set_cons_succ, i64_w, i32_w]
                 rfl
                refine pure_ (i := 11) (N := some 86) (v := ?_) (a' := ?_) #[true, true, true, true, true, true, true, true, true, true, true, true, false, false] rfl rfl (any_of HT_.out (by kernel_rfl)) (fun _ _ _ h => h) (Or.inl ⟨by rfl, ?_⟩) ?_ ?_
                rotate_left
                ·intro w'
                 go_simp
                 with_reducible rfl
                rotate_left
                ·simp only [Act.put, List.setIfInBounds_toArray, List.set_cons_zero, List.set_cons_succ, i64_w, i32_w]
                 rfl
                refine pure_ (i := 12) (N := some 9) (v := ?_) (a' := ?_) #[true, true, true, true, true, true, true, true, true, true, true, true, true, false] rfl rfl (any_of HT_.out (by kernel_rfl)) (fun _ _ _ h => h) (Or.inl ⟨by rfl, ?_⟩) ?_ ?_
                rotate_left
                ·intro w'
                 go_simp
                 with_reducible rfl
                rotate_left
                ·simp only [Act.put, List.setIfInBounds_toArray, List.set_cons_zero, List.set_cons_succ, i64_w, i32_w]
                 rfl
                refine pure_ (i := 13) (N := some 7) (v := ?_) (a' := ?_) #[true, true, true, true, true, true, true, true, true, true, true, true, true, true] rfl rfl (any_of HT_.out (by kernel_rfl)) (fun _ _ _ h => h) (Or.inl ⟨by rfl, ?_⟩) ?_ ?_
                rotate_left
                ·intro w'
                 go_simp
                 with_reducible rfl
                rotate_left
                ·simp only [Act.put, List.setIfInBounds_toArray, List.set_cons_zero, List.set_cons_succ, i64_w, i32_w]
                 rfl
                refine done_ (done_of HT_.out (by kernel_rfl)) ?_
                try go_wp2
                have n0_ := Aside0.mk (Kd.V_drew HO_6.out)
                have n1_ := Aside0.mk (Kd.V_drew HO_138000.out)
                have n2_ := Aside0.mk (Kd.V_drew HO_138003.out)
                have n3_ := Aside0.mk (Kd.V_drew HO156.out)
                have n4_ := Aside0.mk (blk_drew BK137.out)
                have n5_ := Aside0.mk (blk_drew BK138.out)
                have n6_ := Aside0.mk (below_drew1 HB.out)
                clear HO_6
                clear HO_138000
                clear HO_138003
                clear HO156
                clear BK137
                clear BK138
                clear HB
                have HO_6 := n0_
                have HO_138000 := n1_
                have HO_138003 := n2_
                have HO156 := n3_
                have BK137 := n4_
                have BK138 := n5_
                have HB := n6_
                clear n0_ n1_ n2_ n3_ n4_ n5_ n6_
                obtain ⟨Ao40, co40, eo40⟩ := Kd.V_slice HO156.out
                (first | subst eo40 | (injection eo40 with f1_ f2_ f3_; have f4_ := f1_.symm; have f5_ := f3_.symm; clear f1_ f2_ f3_; subst f4_; subst f5_))
                have q39 : ((ji31) : Int) ≤ ((t154.length : Int) : Int) := of_decide_eq_true (by assumption)
                obtain ⟨i039, hi039, _, hsz39, _⟩ := info_parts info26
                have hroom39 : t154.length ≤ co40 := (Kd.V_reads' HO156.out).2.1
                have hC39 : Kd.F (Kd.int .u32) _ _ Ao40 t154.length t154 := (Kd.V_at (base := w.heap.size) HO156.out).2.2
                have ql39 : (4 : Int) ≤ ((ji31) : Int) := of_decide_eq_true (by assumption)
                have hcut39 := cut_mid (P := Try.prog) 83 26 .i64 .u64 Try.underlying83 hi039 1 hsz39 Ao40 t154.length co40 4 (ji31) (by omega) ql39 q39 hroom39
                have hr39 := Kd.F_mid (lo := (4 : Int).toNat) (hi := ((ji31) : Int).toNat) (c := co40) hC39 (by omega) (by omega) hroom39
                obtain ⟨A39, hA39⟩ : ∃ A1, A1 = (if co40 = (4 : Int).toNat then Ao40 else (Ao40 : Option Addr).map (·.add ((4 : Int).toNat * 1))) := ⟨_, rfl⟩
                obtain ⟨c39, hc39⟩ : ∃ c1, c1 = co40 - (4 : Int).toNat := ⟨_, rfl⟩
                have hy39 : y159.length = ((ji31) : Int).toNat - (4 : Int).toNat := (by rw [Ny159.out, List.length_drop, List.length_take] <;> omega)
                rw [show ((t154).take ((ji31) : Int).toNat).drop (4 : Int).toNat = y159 from Ny159.out.symm] at hr39
                replace hr39 : Kd.F (Kd.int .u32) _ _ A39 y159.length y159 := (by rw [hA39]; exact hr39)
                rw [← hy39, ← hA39, ← hc39] at hcut39
                have HO163 := Aside0.mk (show Kd.V (Kd.int .u32) 26 _ w.heap.size _ (.slice A39 y159.length c39) y159 from Kd.V_mk (by rw [hy39, hc39]; exact Nat.sub_le_sub_right (Nat.le_trans (by omega) hroom39) _) hr39)
                have HC163 := Aside0.mk (show y159.length ≤ c39 from by rw [hy39, hc39]; exact Nat.sub_le_sub_right (Nat.le_trans (by omega) hroom39) _)
                clear hr39 hC39 hroom39 hi039 hsz39 hc39
                have KY39 := Aside0.mk hy39
                have KA39 := Aside0.mk hA39
                clear hy39 hA39
                replace q39 := eq_true q39
                have q41 : ((ji31) : Int) ≤ ((t154.length : Int) : Int) := of_decide_eq_true (by assumption)
                obtain ⟨i041, hi041, _, hsz41, _⟩ := info_parts info26
                have hroom41 : t154.length ≤ co40 := (Kd.V_reads' HO156.out).2.1
                have hC41 : Kd.F (Kd.int .u32) _ _ Ao40 t154.length t154 := (Kd.V_at (base := w.heap.size) HO156.out).2.2
                have q041 : (0 : Int) ≤ ((ji31) : Int) := of_decide_eq_true (by assumption)
                have hcut41 := cut_from (P := Try.prog) 83 26 .u64 Try.underlying83 hi041 1 hsz41 Ao40 t154.length co40 (ji31) q041 q41
                have hr41 := Kd.F_cut (m := ((ji31) : Int).toNat) (c := co40) hC41 (by omega) hroom41
                obtain ⟨A41, hA41⟩ : ∃ A1, A1 = (if co40 = ((ji31) : Int).toNat then Ao40 else (Ao40 : Option Addr).map (·.add (((ji31) : Int).toNat * 1))) := ⟨_, rfl⟩
                obtain ⟨c41, hc41⟩ : ∃ c1, c1 = co40 - ((ji31) : Int).toNat := ⟨_, rfl⟩
                have hy41 : y164.length = t154.length - ((ji31) : Int).toNat := (by rw [Ny164.out, List.length_drop] <;> omega)
                rw [show (t154).drop ((ji31) : Int).toNat = y164 from Ny164.out.symm] at hr41
                replace hr41 : Kd.F (Kd.int .u32) _ _ A41 y164.length y164 := (by rw [hA41]; exact hr41)
                rw [← hy41, ← hA41, ← hc41] at hcut41
                have HO168 := Aside0.mk (show Kd.V (Kd.int .u32) 26 _ w.heap.size _ (.slice A41 y164.length c41) y164 from Kd.V_mk (by rw [hy41, hc41]; exact Nat.sub_le_sub_right hroom41 _) hr41)
                have HC168 := Aside0.mk (show y164.length ≤ c41 from by rw [hy41, hc41]; exact Nat.sub_le_sub_right hroom41 _)
                clear hr41 hC41 hroom41 hi041 hsz41 hc41
                have KY41 := Aside0.mk hy41
                have KA41 := Aside0.mk hA41
                clear hy41 hA41
                replace q41 := eq_true q41
                have p169 : 0 ≤ (1 : Int) := (by omega)
                have q169 : 1 < (t139.length : Int) := of_decide_eq_true (by assumption)
                obtain ⟨ad169, e169, hx169_0⟩ := Kd.at_int (Kd.V_reads' HO_6.out).2.2 1 p169 q169
                obtain rfl : ad149 = ad169 := (by injection e169)
                (try simp only [show (1 : Int).toNat = 1 from rfl, Nat.reduceMul, Nat.reduceEqDiff, Go.Addr.add, ↓reduceIte] at hx169_0)
                have qi169 : (1 < t139.length) = True := eq_true (by omega)
                (try rw [show ((1 : Int)).toNat = 1 from rfl] at hx169_0)
                replace p169 := eq_true p169
                replace q169 := eq_true q169
                have p170 : 0 ≤ (3 : Int) := (by omega)
                have q170 : 3 < (t139.length : Int) := of_decide_eq_true (by assumption)
                obtain ⟨ad170, e170, hx170_0⟩ := Kd.at_int (Kd.V_reads' HO_6.out).2.2 3 p170 q170
                obtain rfl : ad149 = ad170 := (by injection e170)
                (try simp only [show (3 : Int).toNat = 3 from rfl, Nat.reduceMul, Nat.reduceEqDiff, Go.Addr.add, ↓reduceIte] at hx170_0)
                have qi170 : (3 < t139.length) = True := eq_true (by omega)
                (try rw [show ((3 : Int)).toNat = 3 from rfl] at hx170_0)
                replace p170 := eq_true p170
                replace q170 := eq_true q170
                have p171 : 0 ≤ (0 : Int) := (by omega)
                have q171 : 0 < (t139.length : Int) := of_decide_eq_true (by assumption)
                obtain ⟨ad171, e171, hx171_0⟩ := Kd.at_int (Kd.V_reads' HO_6.out).2.2 0 p171 q171
                obtain rfl : ad149 = ad171 := (by injection e171)
                have qi171 : (0 < t139.length) = True := eq_true (by omega)
                (try rw [show ((0 : Int)).toNat = 0 from rfl] at hx171_0)
                (try rw [Addr.add_zero'] at hx171_0)
                replace p171 := eq_true p171
                replace q171 := eq_true q171
                refine start_ (n := 25) (S := fun w' => w'.cell? ⟨gb137, 0, none⟩ = some (.slice A0_0 l0_0.length c0_0) ∧ w'.cell? ⟨gb137, 1, none⟩ = some (.int .i64 a0_1) ∧ w'.cell? ⟨gb137, 2, none⟩ = some (.int .u64 a0_2) ∧ w'.cell? ⟨gb137, 3, none⟩ = some (.slice A0_3 l0_3.length c0_3) ∧ w'.cell? ⟨ad149.block, ad149.off + 1, none⟩ = some (.int .u32 (rd t139 1)) ∧ w'.cell? ⟨ad149.block, ad149.off + 3, none⟩ = some (.int .u32 (rd t139 3)) ∧ w'.cell? ad149 = some (.int .u32 (rd t139 0))) (ds := []) #[false, false, false, false, false, false, false, false, false, false, false, false, false, false, false, false, false, false, false, false, false, false, false, false, false] (by kernel_rfl) rfl rfl ⟨(blk_cell BK137.out 0).trans rfl, (blk_cell BK137.out 1).trans rfl, (blk_cell BK137.out 2).trans rfl, (blk_cell BK137.out 3).trans rfl, hx169_0, hx170_0, hx171_0⟩ (fun hHeld => ?_); refine with_tabW hash_file_gnu.tab12 hash_file_gnu.bits12 (fun HT_ HW_ => ?_)
                generalize w37.drew = w38 at HO_6 HO_138000 HO_138003 HO156 BK137 BK138 HB HO163 HO168 hx169_0 hx170_0 hx171_0 hHeld ⊢
                refine pure_ (i := 1) (N := some 92) (v := ?_) (a' := ?_) #[false, true, false, false, false, false, false, false, false, false, false, false, false, false, false, false, false, false, false, false, false, false, false, false, false] rfl rfl (any_of HT_.out (by kernel_rfl)) (fun _ _ _ h => h) (Or.inl ⟨by rfl, ?_⟩) ?_ ?_
                rotate_left
                ·intro w'
                 go_simp
                 with_reducible rfl
                rotate_left
                ·simp only [Act.put, List.setIfInBounds_toArray, List.set_cons_zero, List.set_cons_succ, i64_w, i32_w]
                 rfl
                refine pure_ (i := 2) (N := some 93) (v := ?_) (a' := ?_) #[false, true, true, false, false, false, false, false, false, false, false, false, false, false, false, false, false, false, false, false, false, false, false, false, false] rfl rfl (any_of HT_.out (by kernel_rfl)) (fun _ _ _ h => h) (Or.inl ⟨by rfl, ?_⟩) ?_ ?_
                rotate_left
                ·intro w'
                 go_simp
                 with_reducible rfl
                rotate_left
                ·simp only [Act.put, List.setIfInBounds_toArray, List.set_cons_zero, List.set_cons_succ, i64_w, i32_w]
                 rfl
                refine pure_ (i := 3) (N := some 94) (v := ?_) (a' := ?_) #[false, true, true, true, false, false, false, false, false, false, false, false, false, false, false, false, false, false, false, false, false, false, false, false, false] rfl rfl (any_of HT_.out (by kernel_rfl)) (fun _ _ _ h => h) (Or.inl ⟨by rfl, ?_⟩) ?_ ?_
                rotate_left
                ·intro w'
                 go_simp
                 with_reducible rfl
                rotate_left
                ·simp only [Act.put, List.setIfInBounds_toArray, List.set_cons_zero, List.set_cons_succ, i64_w, i32_w]
                 rfl
                refine pure_ (i := 4) (N := some 95) (v := ?_) (a' := ?_) #[false, true, true, true, true, false, false, false, false, false, false, false, false, false, false, false, false, false, false, false, false, false, false, false, false] rfl rfl (any_of HT_.out (by kernel_rfl)) (fun _ _ _ h => h) (Or.inl ⟨by rfl, ?_⟩) ?_ ?_
                rotate_left
                ·intro w'
                 go_simp
                 with_reducible rfl
                rotate_left
                ·simp only [Act.put, List.setIfInBounds_toArray, List.set_cons_zero, List.set_cons_succ, i64_w, i32_w]
                 rfl
                refine pure_ (i := 5) (N := some 96) (v := ?_) (a' := ?_) #[false, true, true, true, true, true, false, false, false, false, false, false, false, false, false, false, false, false, false, false, false, false, false, false, false] rfl rfl (any_of HT_.out (by kernel_rfl)) (fun _ _ _ h => h) (Or.inl ⟨by rfl, ?_⟩) ?_ ?_
                rotate_left
                ·intro w'
                 go_simp
                 with_reducible rfl
                rotate_left
                ·simp only [Act.put, List.setIfInBounds_toArray, List.set_cons_zero, List.set_cons_succ, i64_w, i32_w]
                 rfl
                refine pure_ (i := 6) (N := some 97) (v := ?_) (a' := ?_) #[false, true, true, true, true, true, true, false, false, false, false, false, false, false, false, false, false, false, false, false, false, false, false, false, false] rfl rfl (any_of HT_.out (by kernel_rfl)) (fun _ _ _ h => h) (Or.inl ⟨by rfl, ?_⟩) ?_ ?_
                rotate_left
                ·intro w'
                 go_simp
                 with_reducible rfl
                rotate_left
                ·simp only [Act.put, List.setIfInBounds_toArray, List.set_cons_zero, List.set_cons_succ, i64_w, i32_w]
                 rfl
                refine pure_ (i := 7) (N := some 98) (v := ?_) (a' := ?_) #[false, true, true, true, true, true, true, true, false, false, false, false, false, false, false, false, false, false, false, false, false, false, false, false, false] rfl rfl (any_of HT_.out (by kernel_rfl)) (fun _ _ _ h => h) (Or.inl ⟨by rfl, ?_⟩) ?_ ?_
                rotate_left
                ·intro w'
                 go_simp
                 with_reducible rfl
                rotate_left
                ·simp only [Act.put, List.setIfInBounds_toArray, List.set_cons_zero, List.set_cons_succ, i64_w, i32_w]
                 rfl
                refine pure_ (i := 8) (N := some 99) (v := ?_) (a' := ?_) #[false, true, true, true, true, true, true, true, true, false, false, false, false, false, false, false, false, false, false, false, false, false, false, false, false] rfl rfl (any_of HT_.out (by kernel_rfl)) (fun _ _ _ h => h) (Or.inl ⟨by rfl, ?_⟩) ?_ ?_
                rotate_left
                ·intro w'
                 go_simp
                 with_reducible rfl
                rotate_left
                ·simp only [Act.put, List.setIfInBounds_toArray, List.set_cons_zero, List.set_cons_succ, i64_w, i32_w]
                 rfl
                refine pure_ (i := 10) (N := some 101) (v := ?_) (a' := ?_) #[false, true, true, true, true, true, true, true, true, false, true, false, false, false, false, false, false, false, false, false, false, false, false, false, false] rfl rfl (any_of HT_.out (by kernel_rfl)) (fun _ _ _ h => h) (Or.inl ⟨by rfl, ?_⟩) ?_ ?_
                rotate_left
                ·intro w'
                 go_simp
                 with_reducible rfl
                rotate_left
                ·simp only [Act.put, List.setIfInBounds_toArray, List.set_cons_zero, List.set_cons_succ, i64_w, i32_w]
                 rfl
                refine pure_ (i := 11) (N := some 102) (v := ?_) (a' := ?_) #[false, true, true, true, true, true, true, true, true, false, true, true, false, false, false, false, false, false, false, false, false, false, false, false, false] rfl rfl (any_of HT_.out (by kernel_rfl)) (fun _ _ _ h => h) (Or.inl ⟨by rfl, ?_⟩) ?_ ?_
                rotate_left
                ·intro w'
                 go_simp
                 with_reducible rfl
                rotate_left
                ·simp only [Act.put, List.setIfInBounds_toArray, List.set_cons_zero, List.set_cons_succ, i64_w, i32_w]
                 rfl
                refine pure_ (i := 13) (N := some 104) (v := ?_) (a' := ?_) #[false, true, true, true, true, true, true, true, true, false, true, true, false, true, false, false, false, false, false, false, false, false, false, false, false] rfl rfl (any_of HT_.out (by kernel_rfl)) (fun _ _ _ h => h) (Or.inl ⟨by rfl, ?_⟩) ?_ ?_
                rotate_left
                ·intro w'
                 go_simp
                 with_reducible rfl
                rotate_left
                ·simp only [Act.put, List.setIfInBounds_toArray, List.set_cons_zero, List.set_cons_succ, i64_w, i32_w]
                 rfl
                refine pure_ (i := 14) (N := some 105) (v := ?_) (a' := ?_) #[false, true, true, true, true, true, true, true, true, false, true, true, false, true, true, false, false, false, false, false, false, false, false, false, false] rfl rfl (any_of HT_.out (by kernel_rfl)) (fun _ _ _ h => h) (Or.inl ⟨by rfl, ?_⟩) ?_ ?_
                rotate_left
                ·intro w'
                 go_simp
                 with_reducible rfl
                rotate_left
                ·simp only [Act.put, List.setIfInBounds_toArray, List.set_cons_zero, List.set_cons_succ, i64_w, i32_w]
                 rfl
                refine pure_ (i := 15) (N := some 106) (v := ?_) (a' := ?_) #[false, true, true, true, true, true, true, true, true, false, true, true, false, true, true, true, false, false, false, false, false, false, false, false, false] rfl rfl (any_of HT_.out (by kernel_rfl)) (fun _ _ _ h => h) (Or.inl ⟨by rfl, ?_⟩) ?_ ?_
                rotate_left
                ·intro w'
                 go_simp
                 with_reducible rfl
                rotate_left
                ·simp only [Act.put, List.setIfInBounds_toArray, List.set_cons_zero, List.set_cons_succ, i64_w, i32_w]
                 rfl
                refine pure_ (i := 16) (N := some 107) (v := ?_) (a' := ?_) #[false, true, true, true, true, true, true, true, true, false, true, true, false, true, true, true, true, false, false, false, false, false, false, false, false] rfl rfl (any_of HT_.out (by kernel_rfl)) (fun _ _ _ h => h) (Or.inl ⟨by rfl, ?_⟩) ?_ ?_
                rotate_left
                ·intro w'
                 go_simp
                 with_reducible rfl
                rotate_left
                ·simp only [Act.put, List.setIfInBounds_toArray, List.set_cons_zero, List.set_cons_succ, i64_w, i32_w]
                 rfl
                refine take_ (i := 0) (N := some 91) (v := ?_) (a' := ?_) #[true, true, true, true, true, true, true, true, true, false, true, true, false, true, true, true, true, false, false, false, false, false, false, false, false] rfl rfl (take_ofW HT_.out HW_.out (by kernel_rfl)) (fun _ _ _ h => h) (Or.inl ⟨by rfl, ?_⟩) hHeld ?_ ?_
                rotate_left
                ·rintro w' ⟨s0, s1, s2, s3, s4, s5, s6⟩
                 go_simp
                 with_reducible rfl
                rotate_left
                ·simp only [Act.put, List.setIfInBounds_toArray, List.set_cons_zero, List.set_cons_succ, i64_w, i32_w]
                 rfl
                refine take_ (i := 9) (N := some 100) (v := ?_) (a' := ?_) #[true, true, true, true, true, true, true, true, true, true, true, true, false, true, true, true, true, false, false, false, false, false, false, false, false] rfl rfl (take_ofW HT_.out HW_.out (by kernel_rfl)) (fun _ _ _ h => h) (Or.inl ⟨by rfl, ?_⟩) hHeld ?_ ?_
                rotate_left
                ·rintro w' ⟨s0, s1, s2, s3, s4, s5, s6⟩
                 go_simp
                 with_reducible rfl
                rotate_left
                ·simp only [Act.put, List.setIfInBounds_toArray, List.set_cons_zero, List.set_cons_succ, i64_w, i32_w]
                 rfl
                refine take_ (i := 12) (N := some 103) (v := ?_) (a' := ?_) #[true, true, true, true, true, true, true, true, true, true, true, true, true, true, true, true, true, false, false, false, false, false, false, false, false] rfl rfl (take_ofW HT_.out HW_.out (by kernel_rfl)) (fun _ _ _ h => h) (Or.inl ⟨by rfl, ?_⟩) hHeld ?_ ?_
                rotate_left
                ·rintro w' ⟨s0, s1, s2, s3, s4, s5, s6⟩
                 go_simp
                 with_reducible rfl
                rotate_left
                ·simp only [Act.put, List.setIfInBounds_toArray, List.set_cons_zero, List.set_cons_succ, i64_w, i32_w]
                 rfl
                refine take_ (i := 17) (N := some 108) (v := ?_) (a' := ?_) #[true, true, true, true, true, true, true, true, true, true, true, true, true, true, true, true, true, true, false, false, false, false, false, false, false] rfl rfl (take_ofW HT_.out HW_.out (by kernel_rfl)) (fun _ _ _ h => h) (Or.inl ⟨by rfl, ?_⟩) hHeld ?_ ?_
                rotate_left
                ·rintro w' ⟨s0, s1, s2, s3, s4, s5, s6⟩
                 go_simp
                 with_reducible rfl
                rotate_left
                ·simp only [Act.put, List.setIfInBounds_toArray, List.set_cons_zero, List.set_cons_succ, i64_w, i32_w]
                 rfl
                refine pure_ (i := 18) (N := some 109) (v := ?_) (a' := ?_) #[true, true, true, true, true, true, true, true, true, true, true, true, true, true, true, true, true, true, true, false, false, false, false, false, false] rfl rfl (any_of HT_.out (by kernel_rfl)) (fun _ _ _ h => h) (Or.inl ⟨by rfl, ?_⟩) ?_ ?_
                rotate_left
                ·intro w'
                 go_simp
                 with_reducible rfl
                rotate_left
                ·simp only [Act.put, List.setIfInBounds_toArray, List.set_cons_zero, List.set_cons_succ, i64_w, i32_w]
                 rfl
                refine pure_ (i := 19) (N := some 110) (v := ?_) (a' := ?_) #[true, true, true, true, true, true, true, true, true, true, true, true, true, true, true, true, true, true, true, true, false, false, false, false, false] rfl rfl (any_of HT_.out (by kernel_rfl)) (fun _ _ _ h => h) (Or.inl ⟨by rfl, ?_⟩) ?_ ?_
                rotate_left
                ·intro w'
                 go_simp
                 with_reducible rfl
                rotate_left
                ·simp only [Act.put, List.setIfInBounds_toArray, List.set_cons_zero, List.set_cons_succ, i64_w, i32_w]
                 rfl
                refine pure_ (i := 20) (N := some 111) (v := ?_) (a' := ?_) #[true, true, true, true, true, true, true, true, true, true, true, true, true, true, true, true, true, true, true, true, true, false, false, false, false] rfl rfl (any_of HT_.out (by kernel_rfl)) (fun _ _ _ h => h) (Or.inl ⟨by rfl, ?_⟩) ?_ ?_
                rotate_left
                ·intro w'
                 go_simp
                 with_reducible rfl
                rotate_left
                ·simp only [Act.put, List.setIfInBounds_toArray, List.set_cons_zero, List.set_cons_succ, i64_w, i32_w]
                 rfl
                refine pure_ (i := 21) (N := some 112) (v := ?_) (a' := ?_) #[true, true, true, true, true, true, true, true, true, true, true, true, true, true, true, true, true, true, true, true, true, true, false, false, false] rfl rfl (any_of HT_.out (by kernel_rfl)) (fun _ _ _ h => h) (Or.inl ⟨by rfl, ?_⟩) ?_ ?_
                rotate_left
                ·intro w'
                 go_simp
                 with_reducible rfl
                rotate_left
                ·simp only [Act.put, List.setIfInBounds_toArray, List.set_cons_zero, List.set_cons_succ, i64_w, i32_w]
                 rfl
                refine pure_ (i := 22) (N := some 113) (v := ?_) (a' := ?_) #[true, true, true, true, true, true, true, true, true, true, true, true, true, true, true, true, true, true, true, true, true, true, true, false, false] rfl rfl (any_of HT_.out (by kernel_rfl)) (fun _ _ _ h => h) (Or.inl ⟨by rfl, ?_⟩) ?_ ?_
                rotate_left
                ·intro w'
                 go_simp
                 with_reducible rfl
                rotate_left
                ·simp only [Act.put, List.setIfInBounds_toArray, List.set_cons_zero, List.set_cons_succ, i64_w, i32_w]
                 rfl
                refine one_ (i := 23) (N := some 10) #[true, true, true, true, true, true, true, true, true, true, true, true, true, true, true, true, true, true, true, true, true, true, true, true, false] rfl rfl (one_of HT_.out (by kernel_rfl)) (by decide) (fun K hK => ?_)
                refine box_step ?hg (N := 10) ?hd (cs := #[.slice none 0 0, .int .i64 0, .int .u64 0, .slice none 0 0, .slice none 0 0, .slice none 0 0, .int .u32 0, .int .u32 0, .int .u64 0]) (t := 92) ?hr ?_; (case hd => rfl); (case hg => rfl); (case hr => first | (go_simp; done) | (go_simp; rfl))
                intro gb172 hg w42 hbox hb
                have HS4_ := (hb.cell (World.block_lt_of_cell? _ _ (hHeld.2.2.2.2.1))).trans (hHeld.2.2.2.2.1)
                have HS5_ := (hb.cell (World.block_lt_of_cell? _ _ (hHeld.2.2.2.2.2.1))).trans (hHeld.2.2.2.2.2.1)
                have HS6_ := (hb.cell (World.block_lt_of_cell? _ _ (hHeld.2.2.2.2.2.2))).trans (hHeld.2.2.2.2.2.2)
                have n0_ := Aside0.mk (Kd.V_below (Kd.V_elderB (by (with_reducible repeat (first | apply Kd.V_alloc | apply Kd.V_drewN | apply Kd.V_drew)); exact HO_6.out) gb172 (Nat.le_of_eq hg.symm)) hb)
                have n1_ := Aside0.mk (Kd.V_below (Kd.V_elderB (by (with_reducible repeat (first | apply Kd.V_alloc | apply Kd.V_drewN | apply Kd.V_drew)); exact HO_138000.out) gb172 (Nat.le_of_eq hg.symm)) hb)
                have n2_ := Aside0.mk (Kd.V_below (Kd.V_elderB (by (with_reducible repeat (first | apply Kd.V_alloc | apply Kd.V_drewN | apply Kd.V_drew)); exact HO_138003.out) gb172 (Nat.le_of_eq hg.symm)) hb)
                have n3_ := Aside0.mk (Kd.V_below (Kd.V_elderB (by (with_reducible repeat (first | apply Kd.V_alloc | apply Kd.V_drewN | apply Kd.V_drew)); exact HO156.out) gb172 (Nat.le_of_eq hg.symm)) hb)
                have n4_ := Aside0.mk (Kd.V_below (Kd.V_elderB (by (with_reducible repeat (first | apply Kd.V_alloc | apply Kd.V_drewN | apply Kd.V_drew)); exact HO163.out) gb172 (Nat.le_of_eq hg.symm)) hb)
                have n5_ := Aside0.mk (Kd.V_below (Kd.V_elderB (by (with_reducible repeat (first | apply Kd.V_alloc | apply Kd.V_drewN | apply Kd.V_drew)); exact HO168.out) gb172 (Nat.le_of_eq hg.symm)) hb)
                have n6_ := Aside0.mk (blk_below (g := gb137) (o := .cells #[.slice A0_0 l0_0.length c0_0, .int .i64 a0_1, .int .u64 a0_2, .slice A0_3 l0_3.length c0_3] 86 (0, 0)) (by (with_reducible repeat (first | refine blk_drewN ?_ _ | refine blk_drew ?_ | refine blk_alloc ?_ _)); exact BK137.out) hb)
                have n7_ := Aside0.mk (blk_below (g := gb138) (o := .cells #[.slice none 0 0, .int .i64 0, .int .u64 0, .slice none 0 0, .slice none 0 0, .slice none 0 0, .int .u32 0, .int .u32 0, .int .u64 0] 92 (0, 0)) (by (with_reducible repeat (first | refine blk_drewN ?_ _ | refine blk_drew ?_ | refine blk_alloc ?_ _)); exact BK138.out) hb)
                have n8_ := Aside0.mk (below_step (by repeat (first | (with_reducible first | exact HB.out | apply below_alloc | apply pw_below_drewN | apply below_drew1 | refine below_set ?_ GE137.out | refine below_set ?_ GE138.out) | exact HB.out)) hb)
                have n9_ := Aside0.mk (hbox)
                have n10_ := Aside0.mk ((by rw [hg]; exact (below_size (by repeat (first | (with_reducible first | exact HB.out | apply below_alloc | apply pw_below_drewN | apply below_drew1 | refine below_set ?_ GE137.out | refine below_set ?_ GE138.out) | exact HB.out))) : w.heap.size ≤ gb172))
                have n11_ := Aside0.mk ((by rw [hg]; exact (below_size (by repeat (first | (with_reducible first | exact HB.out | apply below_alloc | apply pw_below_drewN | apply below_drew1 | refine below_set ?_ GE137.out | refine below_set ?_ GE138.out) | exact HB.out))) : w.heap.size ≤ gb172))
                have n12_ := Aside0.mk ((by rw [hg]; exact Nat.ne_of_lt (blk_lt (g := gb137) (o := .cells #[.slice A0_0 l0_0.length c0_0, .int .i64 a0_1, .int .u64 a0_2, .slice A0_3 l0_3.length c0_3] 86 (0, 0)) (by (with_reducible repeat (first | refine blk_drewN ?_ _ | refine blk_drew ?_ | refine blk_alloc ?_ _)); exact BK137.out)) : gb137 ≠ gb172))
                have n13_ := Aside0.mk ((by rw [hg]; exact Nat.ne_of_gt (blk_lt (g := gb137) (o := .cells #[.slice A0_0 l0_0.length c0_0, .int .i64 a0_1, .int .u64 a0_2, .slice A0_3 l0_3.length c0_3] 86 (0, 0)) (by (with_reducible repeat (first | refine blk_drewN ?_ _ | refine blk_drew ?_ | refine blk_alloc ?_ _)); exact BK137.out)) : gb172 ≠ gb137))
                have n14_ := Aside0.mk ((by rw [hg]; exact Nat.ne_of_lt (blk_lt (g := gb138) (o := .cells #[.slice none 0 0, .int .i64 0, .int .u64 0, .slice none 0 0, .slice none 0 0, .slice none 0 0, .int .u32 0, .int .u32 0, .int .u64 0] 92 (0, 0)) (by (with_reducible repeat (first | refine blk_drewN ?_ _ | refine blk_drew ?_ | refine blk_alloc ?_ _)); exact BK138.out)) : gb138 ≠ gb172))
                have n15_ := Aside0.mk ((by rw [hg]; exact Nat.ne_of_gt (blk_lt (g := gb138) (o := .cells #[.slice none 0 0, .int .i64 0, .int .u64 0, .slice none 0 0, .slice none 0 0, .slice none 0 0, .int .u32 0, .int .u32 0, .int .u64 0] 92 (0, 0)) (by (with_reducible repeat (first | refine blk_drewN ?_ _ | refine blk_drew ?_ | refine blk_alloc ?_ _)); exact BK138.out)) : gb172 ≠ gb138))
                clear HO_6
                clear HO_138000
                clear HO_138003
                clear HO156
                clear HO163
                clear HO168
                clear BK137
                clear BK138
                clear HB
                have HO_6 := n0_
                have HO_138000 := n1_
                have HO_138003 := n2_
                have HO156 := n3_
                have HO163 := n4_
                have HO168 := n5_
                have BK137 := n6_
                have BK138 := n7_
                have HB := n8_
                have BK172 := n9_
                have GW172 := n10_
                have GE172 := n11_
                have NB137_172 := n12_
                have NB172_137 := n13_
                have NB138_172 := n14_
                have NB172_138 := n15_
                clear n0_ n1_ n2_ n3_ n4_ n5_ n6_ n7_ n8_ n9_ n10_ n11_ n12_ n13_ n14_ n15_
                clear hb hbox hg
                refine hK.out _ _ ⟨(blk_cell BK137.out 0).trans rfl, (blk_cell BK137.out 1).trans rfl, (blk_cell BK137.out 2).trans rfl, (blk_cell BK137.out 3).trans rfl, HS4_, HS5_, HS6_⟩ (fun hHeld => ?_)
                clear hK K
                refine norm_ (a' := ?_) ?_ ?_
                rotate_left
                ·show Act.put _ (some 10) _ = _
                 simp only [Act.put, List.setIfInBounds_toArray, List.set_cons_zero, List.set_cons_succ, i64_w, i32_w]
                 rfl
                refine one_ (i := 24) (N := none) #[true, true, true, true, true, true, true, true, true, true, true, true, true, true, true, true, true, true, true, true, true, true, true, true, true] rfl rfl (one_of HT_.out (by kernel_rfl)) (by decide) (fun K hK => ?_)
                have hs43 : w42.cell? ⟨gb172, 0, none⟩ = some (.slice none 0 0) := (blk_cell BK172.out 0).trans rfl
                have hfs43 := blk_frozen BK172.out 0
                have hns43_0 := NB137_172.out
                have hns43_1 := NB138_172.out
                have hms43_0 := NB172_137.out
                have hms43_1 := NB172_138.out
                have hs44 : w42.cell? ⟨gb172, 1, none⟩ = some (.int .i64 0) := (blk_cell BK172.out 1).trans rfl
                have hfs44 := blk_frozen BK172.out 1
                have hns44_0 := NB137_172.out
                have hns44_1 := NB138_172.out
                have hms44_0 := NB172_137.out
                have hms44_1 := NB172_138.out
                have hs45 : w42.cell? ⟨gb172, 2, none⟩ = some (.int .u64 0) := (blk_cell BK172.out 2).trans rfl
                have hfs45 := blk_frozen BK172.out 2
                have hns45_0 := NB137_172.out
                have hns45_1 := NB138_172.out
                have hms45_0 := NB172_137.out
                have hms45_1 := NB172_138.out
                have hs46 : w42.cell? ⟨gb172, 3, none⟩ = some (.slice none 0 0) := (blk_cell BK172.out 3).trans rfl
                have hfs46 := blk_frozen BK172.out 3
                have hns46_0 := NB137_172.out
                have hns46_1 := NB138_172.out
                have hms46_0 := NB172_137.out
                have hms46_1 := NB172_138.out
                have hs47 : w42.cell? ⟨gb172, 4, none⟩ = some (.slice none 0 0) := (blk_cell BK172.out 4).trans rfl
                have hfs47 := blk_frozen BK172.out 4
                have hns47_0 := NB137_172.out
                have hns47_1 := NB138_172.out
                have hms47_0 := NB172_137.out
                have hms47_1 := NB172_138.out
                have hs48 : w42.cell? ⟨gb172, 5, none⟩ = some (.slice none 0 0) := (blk_cell BK172.out 5).trans rfl
                have hfs48 := blk_frozen BK172.out 5
                have hns48_0 := NB137_172.out
                have hns48_1 := NB138_172.out
                have hms48_0 := NB172_137.out
                have hms48_1 := NB172_138.out
                have hs49 : w42.cell? ⟨gb172, 6, none⟩ = some (.int .u32 0) := (blk_cell BK172.out 6).trans rfl
                have hfs49 := blk_frozen BK172.out 6
                have hns49_0 := NB137_172.out
                have hns49_1 := NB138_172.out
                have hms49_0 := NB172_137.out
                have hms49_1 := NB172_138.out
                have hs50 : w42.cell? ⟨gb172, 7, none⟩ = some (.int .u32 0) := (blk_cell BK172.out 7).trans rfl
                have hfs50 := blk_frozen BK172.out 7
                have hns50_0 := NB137_172.out
                have hns50_1 := NB138_172.out
                have hms50_0 := NB172_137.out
                have hms50_1 := NB172_138.out
                have hs51 : w42.cell? ⟨gb172, 8, none⟩ = some (.int .u64 0) := (blk_cell BK172.out 8).trans rfl
                have hfs51 := blk_frozen BK172.out 8
                have hns51_0 := NB137_172.out
                have hns51_1 := NB138_172.out
                have hms51_0 := NB172_137.out
                have hms51_1 := NB172_138.out
                refine skip_ (w1 := ?_) (by rfl) rfl ?_ ?_
                rotate_left
                ·go_simp
                 rfl
                refine hK.out _ _ ⟨((cell_far (p := ⟨gb172, _, none⟩) NB137_172.out _).trans (((cell_far (p := ⟨gb172, _, none⟩) NB137_172.out _).trans (((cell_far (p := ⟨gb172, _, none⟩) NB137_172.out _).trans (((cell_far (p := ⟨gb172, _, none⟩) NB137_172.out _).trans (((cell_far (p := ⟨gb172, _, none⟩) NB137_172.out _).trans (((cell_far (p := ⟨gb172, _, none⟩) NB137_172.out _).trans (((cell_far (p := ⟨gb172, _, none⟩) NB137_172.out _).trans (((cell_far (p := ⟨gb172, _, none⟩) NB137_172.out _).trans (((cell_far (p := ⟨gb172, _, none⟩) NB137_172.out _).trans (hHeld.1)))))))))))))))))), ((cell_far (p := ⟨gb172, _, none⟩) NB137_172.out _).trans (((cell_far (p := ⟨gb172, _, none⟩) NB137_172.out _).trans (((cell_far (p := ⟨gb172, _, none⟩) NB137_172.out _).trans (((cell_far (p := ⟨gb172, _, none⟩) NB137_172.out _).trans (((cell_far (p := ⟨gb172, _, none⟩) NB137_172.out _).trans (((cell_far (p := ⟨gb172, _, none⟩) NB137_172.out _).trans (((cell_far (p := ⟨gb172, _, none⟩) NB137_172.out _).trans (((cell_far (p := ⟨gb172, _, none⟩) NB137_172.out _).trans (((cell_far (p := ⟨gb172, _, none⟩) NB137_172.out _).trans (hHeld.2.1)))))))))))))))))), ((cell_far (p := ⟨gb172, _, none⟩) NB137_172.out _).trans (((cell_far (p := ⟨gb172, _, none⟩) NB137_172.out _).trans (((cell_far (p := ⟨gb172, _, none⟩) NB137_172.out _).trans (((cell_far (p := ⟨gb172, _, none⟩) NB137_172.out _).trans (((cell_far (p := ⟨gb172, _, none⟩) NB137_172.out _).trans (((cell_far (p := ⟨gb172, _, none⟩) NB137_172.out _).trans (((cell_far (p := ⟨gb172, _, none⟩) NB137_172.out _).trans (((cell_far (p := ⟨gb172, _, none⟩) NB137_172.out _).trans (((cell_far (p := ⟨gb172, _, none⟩) NB137_172.out _).trans (hHeld.2.2.1)))))))))))))))))), ((cell_far (p := ⟨gb172, _, none⟩) NB137_172.out _).trans (((cell_far (p := ⟨gb172, _, none⟩) NB137_172.out _).trans (((cell_far (p := ⟨gb172, _, none⟩) NB137_172.out _).trans (((cell_far (p := ⟨gb172, _, none⟩) NB137_172.out _).trans (((cell_far (p := ⟨gb172, _, none⟩) NB137_172.out _).trans (((cell_far (p := ⟨gb172, _, none⟩) NB137_172.out _).trans (((cell_far (p := ⟨gb172, _, none⟩) NB137_172.out _).trans (((cell_far (p := ⟨gb172, _, none⟩) NB137_172.out _).trans (((cell_far (p := ⟨gb172, _, none⟩) NB137_172.out _).trans (hHeld.2.2.2.1)))))))))))))))))), ((cell_far (p := ⟨gb172, _, none⟩) (by first | exact Kd.V_own_int HO_6.out (of_eq_true (by assumption)) (fun _ hk => hk.2) | (rw [add_block]; exact Kd.V_own_int HO_6.out (of_eq_true (by assumption)) (fun _ hk => hk.2)) | (show (Addr.add _ _).block ≠ _; rw [add_block]; exact Kd.V_own_int HO_6.out (of_eq_true (by assumption)) (fun _ hk => hk.2)) | (dsimp only; exact Kd.V_own_int HO_6.out (of_eq_true (by assumption)) (fun _ hk => hk.2))) _).trans (((cell_far (p := ⟨gb172, _, none⟩) (by first | exact Kd.V_own_int HO_6.out (of_eq_true (by assumption)) (fun _ hk => hk.2) | (rw [add_block]; exact Kd.V_own_int HO_6.out (of_eq_true (by assumption)) (fun _ hk => hk.2)) | (show (Addr.add _ _).block ≠ _; rw [add_block]; exact Kd.V_own_int HO_6.out (of_eq_true (by assumption)) (fun _ hk => hk.2)) | (dsimp only; exact Kd.V_own_int HO_6.out (of_eq_true (by assumption)) (fun _ hk => hk.2))) _).trans (((cell_far (p := ⟨gb172, _, none⟩) (by first | exact Kd.V_own_int HO_6.out (of_eq_true (by assumption)) (fun _ hk => hk.2) | (rw [add_block]; exact Kd.V_own_int HO_6.out (of_eq_true (by assumption)) (fun _ hk => hk.2)) | (show (Addr.add _ _).block ≠ _; rw [add_block]; exact Kd.V_own_int HO_6.out (of_eq_true (by assumption)) (fun _ hk => hk.2)) | (dsimp only; exact Kd.V_own_int HO_6.out (of_eq_true (by assumption)) (fun _ hk => hk.2))) _).trans (((cell_far (p := ⟨gb172, _, none⟩) (by first | exact Kd.V_own_int HO_6.out (of_eq_true (by assumption)) (fun _ hk => hk.2) | (rw [add_block]; exact Kd.V_own_int HO_6.out (of_eq_true (by assumption)) (fun _ hk => hk.2)) | (show (Addr.add _ _).block ≠ _; rw [add_block]; exact Kd.V_own_int HO_6.out (of_eq_true (by assumption)) (fun _ hk => hk.2)) | (dsimp only; exact Kd.V_own_int HO_6.out (of_eq_true (by assumption)) (fun _ hk => hk.2))) _).trans (((cell_far (p := ⟨gb172, _, none⟩) (by first | exact Kd.V_own_int HO_6.out (of_eq_true (by assumption)) (fun _ hk => hk.2) | (rw [add_block]; exact Kd.V_own_int HO_6.out (of_eq_true (by assumption)) (fun _ hk => hk.2)) | (show (Addr.add _ _).block ≠ _; rw [add_block]; exact Kd.V_own_int HO_6.out (of_eq_true (by assumption)) (fun _ hk => hk.2)) | (dsimp only; exact Kd.V_own_int HO_6.out (of_eq_true (by assumption)) (fun _ hk => hk.2))) _).trans (((cell_far (p := ⟨gb172, _, none⟩) (by first | exact Kd.V_own_int HO_6.out (of_eq_true (by assumption)) (fun _ hk => hk.2) | (rw [add_block]; exact Kd.V_own_int HO_6.out (of_eq_true (by assumption)) (fun _ hk => hk.2)) | (show (Addr.add _ _).block ≠ _; rw [add_block]; exact Kd.V_own_int HO_6.out (of_eq_true (by assumption)) (fun _ hk => hk.2)) | (dsimp only; exact Kd.V_own_int HO_6.out (of_eq_true (by assumption)) (fun _ hk => hk.2))) _).trans (((cell_far (p := ⟨gb172, _, none⟩) (by first | exact Kd.V_own_int HO_6.out (of_eq_true (by assumption)) (fun _ hk => hk.2) | (rw [add_block]; exact Kd.V_own_int HO_6.out (of_eq_true (by assumption)) (fun _ hk => hk.2)) | (show (Addr.add _ _).block ≠ _; rw [add_block]; exact Kd.V_own_int HO_6.out (of_eq_true (by assumption)) (fun _ hk => hk.2)) | (dsimp only; exact Kd.V_own_int HO_6.out (of_eq_true (by assumption)) (fun _ hk => hk.2))) _).trans (((cell_far (p := ⟨gb172, _, none⟩) (by first | exact Kd.V_own_int HO_6.out (of_eq_true (by assumption)) (fun _ hk => hk.2) | (rw [add_block]; exact Kd.V_own_int HO_6.out (of_eq_true (by assumption)) (fun _ hk => hk.2)) | (show (Addr.add _ _).block ≠ _; rw [add_block]; exact Kd.V_own_int HO_6.out (of_eq_true (by assumption)) (fun _ hk => hk.2)) | (dsimp only; exact Kd.V_own_int HO_6.out (of_eq_true (by assumption)) (fun _ hk => hk.2))) _).trans (((cell_far (p := ⟨gb172, _, none⟩) (by first | exact Kd.V_own_int HO_6.out (of_eq_true (by assumption)) (fun _ hk => hk.2) | (rw [add_block]; exact Kd.V_own_int HO_6.out (of_eq_true (by assumption)) (fun _ hk => hk.2)) | (show (Addr.add _ _).block ≠ _; rw [add_block]; exact Kd.V_own_int HO_6.out (of_eq_true (by assumption)) (fun _ hk => hk.2)) | (dsimp only; exact Kd.V_own_int HO_6.out (of_eq_true (by assumption)) (fun _ hk => hk.2))) _).trans (hHeld.2.2.2.2.1)))))))))))))))))), ((cell_far (p := ⟨gb172, _, none⟩) (by first | exact Kd.V_own_int HO_6.out (of_eq_true (by assumption)) (fun _ hk => hk.2) | (rw [add_block]; exact Kd.V_own_int HO_6.out (of_eq_true (by assumption)) (fun _ hk => hk.2)) | (show (Addr.add _ _).block ≠ _; rw [add_block]; exact Kd.V_own_int HO_6.out (of_eq_true (by assumption)) (fun _ hk => hk.2)) | (dsimp only; exact Kd.V_own_int HO_6.out (of_eq_true (by assumption)) (fun _ hk => hk.2))) _).trans (((cell_far (p := ⟨gb172, _, none⟩) (by first | exact Kd.V_own_int HO_6.out (of_eq_true (by assumption)) (fun _ hk => hk.2) | (rw [add_block]; exact Kd.V_own_int HO_6.out (of_eq_true (by assumption)) (fun _ hk => hk.2)) | (show (Addr.add _ _).block ≠ _; rw [add_block]; exact Kd.V_own_int HO_6.out (of_eq_true (by assumption)) (fun _ hk => hk.2)) | (dsimp only; exact Kd.V_own_int HO_6.out (of_eq_true (by assumption)) (fun _ hk => hk.2))) _).trans (((cell_far (p := ⟨gb172, _, none⟩) (by first | exact Kd.V_own_int HO_6.out (of_eq_true (by assumption)) (fun _ hk => hk.2) | (rw [add_block]; exact Kd.V_own_int HO_6.out (of_eq_true (by assumption)) (fun _ hk => hk.2)) | (show (Addr.add _ _).block ≠ _; rw [add_block]; exact Kd.V_own_int HO_6.out (of_eq_true (by assumption)) (fun _ hk => hk.2)) | (dsimp only; exact Kd.V_own_int HO_6.out (of_eq_true (by assumption)) (fun _ hk => hk.2))) _).trans (((cell_far (p := ⟨gb172, _, none⟩) (by first | exact Kd.V_own_int HO_6.out (of_eq_true (by assumption)) (fun _ hk => hk.2) | (rw [add_block]; exact Kd.V_own_int HO_6.out (of_eq_true (by assumption)) (fun _ hk => hk.2)) | (show (Addr.add _ _).block ≠ _; rw [add_block]; exact Kd.V_own_int HO_6.out (of_eq_true (by assumption)) (fun _ hk => hk.2)) | (dsimp only; exact Kd.V_own_int HO_6.out (of_eq_true (by assumption)) (fun _ hk => hk.2))) _).trans (((cell_far (p := ⟨gb172, _, none⟩) (by first | exact Kd.V_own_int HO_6.out (of_eq_true (by assumption)) (fun _ hk => hk.2) | (rw [add_block]; exact Kd.V_own_int HO_6.out (of_eq_true (by assumption)) (fun _ hk => hk.2)) | (show (Addr.add _ _).block ≠ _; rw [add_block]; exact Kd.V_own_int HO_6.out (of_eq_true (by assumption)) (fun _ hk => hk.2)) | (dsimp only; exact Kd.V_own_int HO_6.out (of_eq_true (by assumption)) (fun _ hk => hk.2))) _).trans (((cell_far (p := ⟨gb172, _, none⟩) (by first | exact Kd.V_own_int HO_6.out (of_eq_true (by assumption)) (fun _ hk => hk.2) | (rw [add_block]; exact Kd.V_own_int HO_6.out (of_eq_true (by assumption)) (fun _ hk => hk.2)) | (show (Addr.add _ _).block ≠ _; rw [add_block]; exact Kd.V_own_int HO_6.out (of_eq_true (by assumption)) (fun _ hk => hk.2)) | (dsimp only; exact Kd.V_own_int HO_6.out (of_eq_true (by assumption)) (fun _ hk => hk.2))) _).trans (((cell_far (p := ⟨gb172, _, none⟩) (by first | exact Kd.V_own_int HO_6.out (of_eq_true (by assumption)) (fun _ hk => hk.2) | (rw [add_block]; exact Kd.V_own_int HO_6.out (of_eq_true (by assumption)) (fun _ hk => hk.2)) | (show (Addr.add _ _).block ≠ _; rw [add_block]; exact Kd.V_own_int HO_6.out (of_eq_true (by assumption)) (fun _ hk => hk.2)) | (dsimp only; exact Kd.V_own_int HO_6.out (of_eq_true (by assumption)) (fun _ hk => hk.2))) _).trans (((cell_far (p := ⟨gb172, _, none⟩) (by first | exact Kd.V_own_int HO_6.out (of_eq_true (by assumption)) (fun _ hk => hk.2) | (rw [add_block]; exact Kd.V_own_int HO_6.out (of_eq_true (by assumption)) (fun _ hk => hk.2)) | (show (Addr.add _ _).block ≠ _; rw [add_block]; exact Kd.V_own_int HO_6.out (of_eq_true (by assumption)) (fun _ hk => hk.2)) | (dsimp only; exact Kd.V_own_int HO_6.out (of_eq_true (by assumption)) (fun _ hk => hk.2))) _).trans (((cell_far (p := ⟨gb172, _, none⟩) (by first | exact Kd.V_own_int HO_6.out (of_eq_true (by assumption)) (fun _ hk => hk.2) | (rw [add_block]; exact Kd.V_own_int HO_6.out (of_eq_true (by assumption)) (fun _ hk => hk.2)) | (show (Addr.add _ _).block ≠ _; rw [add_block]; exact Kd.V_own_int HO_6.out (of_eq_true (by assumption)) (fun _ hk => hk.2)) | (dsimp only; exact Kd.V_own_int HO_6.out (of_eq_true (by assumption)) (fun _ hk => hk.2))) _).trans (hHeld.2.2.2.2.2.1)))))))))))))))))), ((cell_far (p := ⟨gb172, _, none⟩) (by first | exact Kd.V_own_int HO_6.out (of_eq_true (by assumption)) (fun _ hk => hk.2) | (rw [add_block]; exact Kd.V_own_int HO_6.out (of_eq_true (by assumption)) (fun _ hk => hk.2)) | (show (Addr.add _ _).block ≠ _; rw [add_block]; exact Kd.V_own_int HO_6.out (of_eq_true (by assumption)) (fun _ hk => hk.2)) | (dsimp only; exact Kd.V_own_int HO_6.out (of_eq_true (by assumption)) (fun _ hk => hk.2))) _).trans (((cell_far (p := ⟨gb172, _, none⟩) (by first | exact Kd.V_own_int HO_6.out (of_eq_true (by assumption)) (fun _ hk => hk.2) | (rw [add_block]; exact Kd.V_own_int HO_6.out (of_eq_true (by assumption)) (fun _ hk => hk.2)) | (show (Addr.add _ _).block ≠ _; rw [add_block]; exact Kd.V_own_int HO_6.out (of_eq_true (by assumption)) (fun _ hk => hk.2)) | (dsimp only; exact Kd.V_own_int HO_6.out (of_eq_true (by assumption)) (fun _ hk => hk.2))) _).trans (((cell_far (p := ⟨gb172, _, none⟩) (by first | exact Kd.V_own_int HO_6.out (of_eq_true (by assumption)) (fun _ hk => hk.2) | (rw [add_block]; exact Kd.V_own_int HO_6.out (of_eq_true (by assumption)) (fun _ hk => hk.2)) | (show (Addr.add _ _).block ≠ _; rw [add_block]; exact Kd.V_own_int HO_6.out (of_eq_true (by assumption)) (fun _ hk => hk.2)) | (dsimp only; exact Kd.V_own_int HO_6.out (of_eq_true (by assumption)) (fun _ hk => hk.2))) _).trans (((cell_far (p := ⟨gb172, _, none⟩) (by first | exact Kd.V_own_int HO_6.out (of_eq_true (by assumption)) (fun _ hk => hk.2) | (rw [add_block]; exact Kd.V_own_int HO_6.out (of_eq_true (by assumption)) (fun _ hk => hk.2)) | (show (Addr.add _ _).block ≠ _; rw [add_block]; exact Kd.V_own_int HO_6.out (of_eq_true (by assumption)) (fun _ hk => hk.2)) | (dsimp only; exact Kd.V_own_int HO_6.out (of_eq_true (by assumption)) (fun _ hk => hk.2))) _).trans (((cell_far (p := ⟨gb172, _, none⟩) (by first | exact Kd.V_own_int HO_6.out (of_eq_true (by assumption)) (fun _ hk => hk.2) | (rw [add_block]; exact Kd.V_own_int HO_6.out (of_eq_true (by assumption)) (fun _ hk => hk.2)) | (show (Addr.add _ _).block ≠ _; rw [add_block]; exact Kd.V_own_int HO_6.out (of_eq_true (by assumption)) (fun _ hk => hk.2)) | (dsimp only; exact Kd.V_own_int HO_6.out (of_eq_true (by assumption)) (fun _ hk => hk.2))) _).trans (((cell_far (p := ⟨gb172, _, none⟩) (by first | exact Kd.V_own_int HO_6.out (of_eq_true (by assumption)) (fun _ hk => hk.2) | (rw [add_block]; exact Kd.V_own_int HO_6.out (of_eq_true (by assumption)) (fun _ hk => hk.2)) | (show (Addr.add _ _).block ≠ _; rw [add_block]; exact Kd.V_own_int HO_6.out (of_eq_true (by assumption)) (fun _ hk => hk.2)) | (dsimp only; exact Kd.V_own_int HO_6.out (of_eq_true (by assumption)) (fun _ hk => hk.2))) _).trans (((cell_far (p := ⟨gb172, _, none⟩) (by first | exact Kd.V_own_int HO_6.out (of_eq_true (by assumption)) (fun _ hk => hk.2) | (rw [add_block]; exact Kd.V_own_int HO_6.out (of_eq_true (by assumption)) (fun _ hk => hk.2)) | (show (Addr.add _ _).block ≠ _; rw [add_block]; exact Kd.V_own_int HO_6.out (of_eq_true (by assumption)) (fun _ hk => hk.2)) | (dsimp only; exact Kd.V_own_int HO_6.out (of_eq_true (by assumption)) (fun _ hk => hk.2))) _).trans (((cell_far (p := ⟨gb172, _, none⟩) (by first | exact Kd.V_own_int HO_6.out (of_eq_true (by assumption)) (fun _ hk => hk.2) | (rw [add_block]; exact Kd.V_own_int HO_6.out (of_eq_true (by assumption)) (fun _ hk => hk.2)) | (show (Addr.add _ _).block ≠ _; rw [add_block]; exact Kd.V_own_int HO_6.out (of_eq_true (by assumption)) (fun _ hk => hk.2)) | (dsimp only; exact Kd.V_own_int HO_6.out (of_eq_true (by assumption)) (fun _ hk => hk.2))) _).trans (((cell_far (p := ⟨gb172, _, none⟩) (by first | exact Kd.V_own_int HO_6.out (of_eq_true (by assumption)) (fun _ hk => hk.2) | (rw [add_block]; exact Kd.V_own_int HO_6.out (of_eq_true (by assumption)) (fun _ hk => hk.2)) | (show (Addr.add _ _).block ≠ _; rw [add_block]; exact Kd.V_own_int HO_6.out (of_eq_true (by assumption)) (fun _ hk => hk.2)) | (dsimp only; exact Kd.V_own_int HO_6.out (of_eq_true (by assumption)) (fun _ hk => hk.2))) _).trans (hHeld.2.2.2.2.2.2))))))))))))))))))⟩ (fun hHeld => ?_)
                clear hK K
                refine done_ (done_of HT_.out (by kernel_rfl)) ?_
                have hnb52 := NB172_137.out
                have hnc52 := NB137_172.out
                have hnb53 := NB172_138.out
                have hnc53 := NB138_172.out
                have hcz54_0 : w42.cell? ⟨gb172, 0, none⟩ = some (.slice none 0 0) := (blk_cell BK172.out 0).trans rfl
                have hcz54_1 : w42.cell? ⟨gb172, 1, none⟩ = some (.int .i64 0) := (blk_cell BK172.out 1).trans rfl
                have hcz54_2 : w42.cell? ⟨gb172, 2, none⟩ = some (.int .u64 0) := (blk_cell BK172.out 2).trans rfl
                have hcz54_3 : w42.cell? ⟨gb172, 3, none⟩ = some (.slice none 0 0) := (blk_cell BK172.out 3).trans rfl
                have hcz54_4 : w42.cell? ⟨gb172, 4, none⟩ = some (.slice none 0 0) := (blk_cell BK172.out 4).trans rfl
                have hcz54_5 : w42.cell? ⟨gb172, 5, none⟩ = some (.slice none 0 0) := (blk_cell BK172.out 5).trans rfl
                have hcz54_6 : w42.cell? ⟨gb172, 6, none⟩ = some (.int .u32 0) := (blk_cell BK172.out 6).trans rfl
                have hcz54_7 : w42.cell? ⟨gb172, 7, none⟩ = some (.int .u32 0) := (blk_cell BK172.out 7).trans rfl
                have hcz54_8 : w42.cell? ⟨gb172, 8, none⟩ = some (.int .u64 0) := (blk_cell BK172.out 8).trans rfl
                have hfz54_0 := blk_frozen BK172.out 0
                have hfz54_1 := blk_frozen BK172.out 1
                have hfz54_2 := blk_frozen BK172.out 2
                have hfz54_3 := blk_frozen BK172.out 3
                have hfz54_4 := blk_frozen BK172.out 4
                have hfz54_5 := blk_frozen BK172.out 5
                have hfz54_6 := blk_frozen BK172.out 6
                have hfz54_7 := blk_frozen BK172.out 7
                have hfz54_8 := blk_frozen BK172.out 8
                try go_wp2
                go_loopg [117] kj3 (fun kq v117 w' => ∃ (x117_2 : Int) (x139001_2 : Int) (x139002_2 : Int) (x139006_2 : Int) (x139007_2 : Int) (x139008_2 : Int), v117 = .int .i64 x117_2 ∧ Aside0 (hash_file_gnu.l0 kq y164 (y164.length : Int) x117_2 l0_0 a0_1 a0_2 l0_3 y159 y164 (rd t139 1) (rd t139 3) (IntKind.u64.wrap (a1 + (IntKind.u64.wrap (4 * (IntKind.u64.wrap ((ji31) + (IntKind.u64.wrap (rd t139 0)))))))) = some (r1, r2, r3, r4, r5, r6, r7, r8, r9, r10)) ∧ Aside0 (kq ≤ kj3) ∧ Aside0 (Kd.V (Kd.int .u32) 26 w' w.heap.size (fun k_ => ((P0_0_ k_ ∨ P0_3_ k_) ∨ w.heap.size ≤ k_) ∧ k_ ≠ gb137 ∧ k_ ≠ gb138 ∧ k_ ≠ gb172) (.slice A41 y164.length c41) y164) ∧ Aside0 (Kd.V (Kd.int .u8) 5 w' w.heap.size (fun k_ => ((P0_0_ k_ ∨ P0_3_ k_) ∨ w.heap.size ≤ k_) ∧ k_ ≠ gb137 ∧ k_ ≠ gb138 ∧ k_ ≠ gb172) (.slice A0_0 l0_0.length c0_0) l0_0) ∧ Aside0 (Kd.V k29 29 w' w.heap.size (fun k_ => ((P0_0_ k_ ∨ P0_3_ k_) ∨ w.heap.size ≤ k_) ∧ k_ ≠ gb137 ∧ k_ ≠ gb138 ∧ k_ ≠ gb172) (.slice A0_3 l0_3.length c0_3) l0_3) ∧ Aside0 (Kd.V (Kd.int .u8) 5 w' w.heap.size (fun k_ => ((P0_0_ k_ ∨ P0_3_ k_) ∨ w.heap.size ≤ k_) ∧ k_ ≠ gb137 ∧ k_ ≠ gb138 ∧ k_ ≠ gb172) (.slice A0_0 l0_0.length c0_0) l0_0) ∧ Aside0 (Kd.V k29 29 w' w.heap.size (fun k_ => ((P0_0_ k_ ∨ P0_3_ k_) ∨ w.heap.size ≤ k_) ∧ k_ ≠ gb137 ∧ k_ ≠ gb138 ∧ k_ ≠ gb172) (.slice A0_3 l0_3.length c0_3) l0_3) ∧ Aside0 (Kd.V (Kd.int .u32) 26 w' w.heap.size (fun k_ => ((P0_0_ k_ ∨ P0_3_ k_) ∨ w.heap.size ≤ k_) ∧ k_ ≠ gb137 ∧ k_ ≠ gb138 ∧ k_ ≠ gb172) (.slice A39 y159.length c39) y159) ∧ Aside0 (Kd.V (Kd.int .u32) 26 w' w.heap.size (fun k_ => ((P0_0_ k_ ∨ P0_3_ k_) ∨ w.heap.size ≤ k_) ∧ k_ ≠ gb137 ∧ k_ ≠ gb138 ∧ k_ ≠ gb172) (.slice A41 y164.length c41) y164) ∧ Aside0 (w'.heap[gb137]? = some (.cells #[(.slice A0_0 l0_0.length c0_0), .int .i64 a0_1, .int .u64 a0_2, (.slice A0_3 l0_3.length c0_3)] 86 (0, 0))) ∧ Aside0 (w'.heap[gb138]? = some (.cells #[(.slice none 0 0), .int .i64 x139001_2, .int .u64 x139002_2, (.slice none 0 0), (.slice none 0 0), (.slice none 0 0), .int .u32 x139006_2, .int .u32 x139007_2, .int .u64 x139008_2] 92 (0, 0))) ∧ Aside0 (w'.heap[gb172]? = some (.cells #[(.slice A0_0 l0_0.length c0_0), .int .i64 a0_1, .int .u64 a0_2, (.slice A0_3 l0_3.length c0_3), (.slice A39 y159.length c39), (.slice A41 y164.length c41), .int .u32 (rd t139 1), .int .u32 (rd t139 3), .int .u64 (IntKind.u64.wrap (a1 + (IntKind.u64.wrap (4 * (IntKind.u64.wrap ((ji31) + (IntKind.u64.wrap (rd t139 0))))))))] 92 (0, 0))) ∧ Aside0 (Below w.heap.size w w'))
                case atStart => exact ⟨(0), (0), (0), (0), (0), (0), (by first | rfl | (simp; done) | (simp [*]; done)), H', ⟨Nat.le_refl _⟩, ⟨by (with_reducible repeat (first | apply Kd.V_alloc | apply Kd.V_drewN | apply Kd.V_drew)); exact Kd.V_mono (Kd.V_far (p := ⟨gb172, 8, none⟩) (Kd.V_far (p := ⟨gb172, 7, none⟩) (Kd.V_far (p := ⟨gb172, 6, none⟩) (Kd.V_far (p := ⟨gb172, 5, none⟩) (Kd.V_far (p := ⟨gb172, 4, none⟩) (Kd.V_far (p := ⟨gb172, 3, none⟩) (Kd.V_far (p := ⟨gb172, 2, none⟩) (Kd.V_far (p := ⟨gb172, 1, none⟩) (Kd.V_far (p := ⟨gb172, 0, none⟩) (Kd.V_mono HO168.out (fun k_ hk => (⟨hk, hk.2⟩ : _ ∧ k_ ≠ gb172))) (fun _ hk => hk.2) (.slice A0_0 l0_0.length c0_0)) (fun _ hk => hk.2) (.int .i64 a0_1)) (fun _ hk => hk.2) (.int .u64 a0_2)) (fun _ hk => hk.2) (.slice A0_3 l0_3.length c0_3)) (fun _ hk => hk.2) (.slice A39 y159.length c39)) (fun _ hk => hk.2) (.slice A41 y164.length c41)) (fun _ hk => hk.2) (.int .u32 (rd t139 1))) (fun _ hk => hk.2) (.int .u32 (rd t139 3))) (fun _ hk => hk.2) (.int .u64 (IntKind.u64.wrap (a1 + (IntKind.u64.wrap (4 * (IntKind.u64.wrap ((ji31) + (IntKind.u64.wrap (rd t139 0)))))))))) (fun _ hk => ⟨hk.1.1.1, ⟨hk.1.1.2.1, ⟨hk.1.1.2.2, hk.1.2⟩⟩⟩)⟩, ⟨by (with_reducible repeat (first | apply Kd.V_alloc | apply Kd.V_drewN | apply Kd.V_drew)); exact Kd.V_mono (Kd.V_far (p := ⟨gb172, 8, none⟩) (Kd.V_far (p := ⟨gb172, 7, none⟩) (Kd.V_far (p := ⟨gb172, 6, none⟩) (Kd.V_far (p := ⟨gb172, 5, none⟩) (Kd.V_far (p := ⟨gb172, 4, none⟩) (Kd.V_far (p := ⟨gb172, 3, none⟩) (Kd.V_far (p := ⟨gb172, 2, none⟩) (Kd.V_far (p := ⟨gb172, 1, none⟩) (Kd.V_far (p := ⟨gb172, 0, none⟩) (Kd.V_mono HO_138000.out (fun k_ hk => (⟨hk, hk.2⟩ : _ ∧ k_ ≠ gb172))) (fun _ hk => hk.2) (.slice A0_0 l0_0.length c0_0)) (fun _ hk => hk.2) (.int .i64 a0_1)) (fun _ hk => hk.2) (.int .u64 a0_2)) (fun _ hk => hk.2) (.slice A0_3 l0_3.length c0_3)) (fun _ hk => hk.2) (.slice A39 y159.length c39)) (fun _ hk => hk.2) (.slice A41 y164.length c41)) (fun _ hk => hk.2) (.int .u32 (rd t139 1))) (fun _ hk => hk.2) (.int .u32 (rd t139 3))) (fun _ hk => hk.2) (.int .u64 (IntKind.u64.wrap (a1 + (IntKind.u64.wrap (4 * (IntKind.u64.wrap ((ji31) + (IntKind.u64.wrap (rd t139 0)))))))))) (fun _ hk => ⟨hk.1.1.1, ⟨hk.1.1.2.1, ⟨hk.1.1.2.2, hk.1.2⟩⟩⟩)⟩, ⟨by (with_reducible repeat (first | apply Kd.V_alloc | apply Kd.V_drewN | apply Kd.V_drew)); exact Kd.V_mono (Kd.V_far (p := ⟨gb172, 8, none⟩) (Kd.V_far (p := ⟨gb172, 7, none⟩) (Kd.V_far (p := ⟨gb172, 6, none⟩) (Kd.V_far (p := ⟨gb172, 5, none⟩) (Kd.V_far (p := ⟨gb172, 4, none⟩) (Kd.V_far (p := ⟨gb172, 3, none⟩) (Kd.V_far (p := ⟨gb172, 2, none⟩) (Kd.V_far (p := ⟨gb172, 1, none⟩) (Kd.V_far (p := ⟨gb172, 0, none⟩) (Kd.V_mono HO_138003.out (fun k_ hk => (⟨hk, hk.2⟩ : _ ∧ k_ ≠ gb172))) (fun _ hk => hk.2) (.slice A0_0 l0_0.length c0_0)) (fun _ hk => hk.2) (.int .i64 a0_1)) (fun _ hk => hk.2) (.int .u64 a0_2)) (fun _ hk => hk.2) (.slice A0_3 l0_3.length c0_3)) (fun _ hk => hk.2) (.slice A39 y159.length c39)) (fun _ hk => hk.2) (.slice A41 y164.length c41)) (fun _ hk => hk.2) (.int .u32 (rd t139 1))) (fun _ hk => hk.2) (.int .u32 (rd t139 3))) (fun _ hk => hk.2) (.int .u64 (IntKind.u64.wrap (a1 + (IntKind.u64.wrap (4 * (IntKind.u64.wrap ((ji31) + (IntKind.u64.wrap (rd t139 0)))))))))) (fun _ hk => ⟨hk.1.1.1, ⟨hk.1.1.2.1, ⟨hk.1.1.2.2, hk.1.2⟩⟩⟩)⟩, ⟨by (with_reducible repeat (first | apply Kd.V_alloc | apply Kd.V_drewN | apply Kd.V_drew)); exact Kd.V_mono (Kd.V_far (p := ⟨gb172, 8, none⟩) (Kd.V_far (p := ⟨gb172, 7, none⟩) (Kd.V_far (p := ⟨gb172, 6, none⟩) (Kd.V_far (p := ⟨gb172, 5, none⟩) (Kd.V_far (p := ⟨gb172, 4, none⟩) (Kd.V_far (p := ⟨gb172, 3, none⟩) (Kd.V_far (p := ⟨gb172, 2, none⟩) (Kd.V_far (p := ⟨gb172, 1, none⟩) (Kd.V_far (p := ⟨gb172, 0, none⟩) (Kd.V_mono HO_138000.out (fun k_ hk => (⟨hk, hk.2⟩ : _ ∧ k_ ≠ gb172))) (fun _ hk => hk.2) (.slice A0_0 l0_0.length c0_0)) (fun _ hk => hk.2) (.int .i64 a0_1)) (fun _ hk => hk.2) (.int .u64 a0_2)) (fun _ hk => hk.2) (.slice A0_3 l0_3.length c0_3)) (fun _ hk => hk.2) (.slice A39 y159.length c39)) (fun _ hk => hk.2) (.slice A41 y164.length c41)) (fun _ hk => hk.2) (.int .u32 (rd t139 1))) (fun _ hk => hk.2) (.int .u32 (rd t139 3))) (fun _ hk => hk.2) (.int .u64 (IntKind.u64.wrap (a1 + (IntKind.u64.wrap (4 * (IntKind.u64.wrap ((ji31) + (IntKind.u64.wrap (rd t139 0)))))))))) (fun _ hk => ⟨hk.1.1.1, ⟨hk.1.1.2.1, ⟨hk.1.1.2.2, hk.1.2⟩⟩⟩)⟩, ⟨by (with_reducible repeat (first | apply Kd.V_alloc | apply Kd.V_drewN | apply Kd.V_drew)); exact Kd.V_mono (Kd.V_far (p := ⟨gb172, 8, none⟩) (Kd.V_far (p := ⟨gb172, 7, none⟩) (Kd.V_far (p := ⟨gb172, 6, none⟩) (Kd.V_far (p := ⟨gb172, 5, none⟩) (Kd.V_far (p := ⟨gb172, 4, none⟩) (Kd.V_far (p := ⟨gb172, 3, none⟩) (Kd.V_far (p := ⟨gb172, 2, none⟩) (Kd.V_far (p := ⟨gb172, 1, none⟩) (Kd.V_far (p := ⟨gb172, 0, none⟩) (Kd.V_mono HO_138003.out (fun k_ hk => (⟨hk, hk.2⟩ : _ ∧ k_ ≠ gb172))) (fun _ hk => hk.2) (.slice A0_0 l0_0.length c0_0)) (fun _ hk => hk.2) (.int .i64 a0_1)) (fun _ hk => hk.2) (.int .u64 a0_2)) (fun _ hk => hk.2) (.slice A0_3 l0_3.length c0_3)) (fun _ hk => hk.2) (.slice A39 y159.length c39)) (fun _ hk => hk.2) (.slice A41 y164.length c41)) (fun _ hk => hk.2) (.int .u32 (rd t139 1))) (fun _ hk => hk.2) (.int .u32 (rd t139 3))) (fun _ hk => hk.2) (.int .u64 (IntKind.u64.wrap (a1 + (IntKind.u64.wrap (4 * (IntKind.u64.wrap ((ji31) + (IntKind.u64.wrap (rd t139 0)))))))))) (fun _ hk => ⟨hk.1.1.1, ⟨hk.1.1.2.1, ⟨hk.1.1.2.2, hk.1.2⟩⟩⟩)⟩, ⟨by (with_reducible repeat (first | apply Kd.V_alloc | apply Kd.V_drewN | apply Kd.V_drew)); exact Kd.V_mono (Kd.V_far (p := ⟨gb172, 8, none⟩) (Kd.V_far (p := ⟨gb172, 7, none⟩) (Kd.V_far (p := ⟨gb172, 6, none⟩) (Kd.V_far (p := ⟨gb172, 5, none⟩) (Kd.V_far (p := ⟨gb172, 4, none⟩) (Kd.V_far (p := ⟨gb172, 3, none⟩) (Kd.V_far (p := ⟨gb172, 2, none⟩) (Kd.V_far (p := ⟨gb172, 1, none⟩) (Kd.V_far (p := ⟨gb172, 0, none⟩) (Kd.V_mono HO163.out (fun k_ hk => (⟨hk, hk.2⟩ : _ ∧ k_ ≠ gb172))) (fun _ hk => hk.2) (.slice A0_0 l0_0.length c0_0)) (fun _ hk => hk.2) (.int .i64 a0_1)) (fun _ hk => hk.2) (.int .u64 a0_2)) (fun _ hk => hk.2) (.slice A0_3 l0_3.length c0_3)) (fun _ hk => hk.2) (.slice A39 y159.length c39)) (fun _ hk => hk.2) (.slice A41 y164.length c41)) (fun _ hk => hk.2) (.int .u32 (rd t139 1))) (fun _ hk => hk.2) (.int .u32 (rd t139 3))) (fun _ hk => hk.2) (.int .u64 (IntKind.u64.wrap (a1 + (IntKind.u64.wrap (4 * (IntKind.u64.wrap ((ji31) + (IntKind.u64.wrap (rd t139 0)))))))))) (fun _ hk => ⟨hk.1.1.1, ⟨hk.1.1.2.1, ⟨hk.1.1.2.2, hk.1.2⟩⟩⟩)⟩, ⟨by (with_reducible repeat (first | apply Kd.V_alloc | apply Kd.V_drewN | apply Kd.V_drew)); exact Kd.V_mono (Kd.V_far (p := ⟨gb172, 8, none⟩) (Kd.V_far (p := ⟨gb172, 7, none⟩) (Kd.V_far (p := ⟨gb172, 6, none⟩) (Kd.V_far (p := ⟨gb172, 5, none⟩) (Kd.V_far (p := ⟨gb172, 4, none⟩) (Kd.V_far (p := ⟨gb172, 3, none⟩) (Kd.V_far (p := ⟨gb172, 2, none⟩) (Kd.V_far (p := ⟨gb172, 1, none⟩) (Kd.V_far (p := ⟨gb172, 0, none⟩) (Kd.V_mono HO168.out (fun k_ hk => (⟨hk, hk.2⟩ : _ ∧ k_ ≠ gb172))) (fun _ hk => hk.2) (.slice A0_0 l0_0.length c0_0)) (fun _ hk => hk.2) (.int .i64 a0_1)) (fun _ hk => hk.2) (.int .u64 a0_2)) (fun _ hk => hk.2) (.slice A0_3 l0_3.length c0_3)) (fun _ hk => hk.2) (.slice A39 y159.length c39)) (fun _ hk => hk.2) (.slice A41 y164.length c41)) (fun _ hk => hk.2) (.int .u32 (rd t139 1))) (fun _ hk => hk.2) (.int .u32 (rd t139 3))) (fun _ hk => hk.2) (.int .u64 (IntKind.u64.wrap (a1 + (IntKind.u64.wrap (4 * (IntKind.u64.wrap ((ji31) + (IntKind.u64.wrap (rd t139 0)))))))))) (fun _ hk => ⟨hk.1.1.1, ⟨hk.1.1.2.1, ⟨hk.1.1.2.2, hk.1.2⟩⟩⟩)⟩, ⟨by (with_reducible repeat (first | refine blk_drewN ?_ _ | refine blk_drew ?_ | refine blk_alloc ?_ _)); refine blk_far ?_ NB137_172.out _; (with_reducible repeat (first | refine blk_drewN ?_ _ | refine blk_drew ?_ | refine blk_alloc ?_ _)); refine blk_far ?_ NB137_172.out _; (with_reducible repeat (first | refine blk_drewN ?_ _ | refine blk_drew ?_ | refine blk_alloc ?_ _)); refine blk_far ?_ NB137_172.out _; (with_reducible repeat (first | refine blk_drewN ?_ _ | refine blk_drew ?_ | refine blk_alloc ?_ _)); refine blk_far ?_ NB137_172.out _; (with_reducible repeat (first | refine blk_drewN ?_ _ | refine blk_drew ?_ | refine blk_alloc ?_ _)); refine blk_far ?_ NB137_172.out _; (with_reducible repeat (first | refine blk_drewN ?_ _ | refine blk_drew ?_ | refine blk_alloc ?_ _)); refine blk_far ?_ NB137_172.out _; (with_reducible repeat (first | refine blk_drewN ?_ _ | refine blk_drew ?_ | refine blk_alloc ?_ _)); refine blk_far ?_ NB137_172.out _; (with_reducible repeat (first | refine blk_drewN ?_ _ | refine blk_drew ?_ | refine blk_alloc ?_ _)); refine blk_far ?_ NB137_172.out _; (with_reducible repeat (first | refine blk_drewN ?_ _ | refine blk_drew ?_ | refine blk_alloc ?_ _)); refine blk_far ?_ NB137_172.out _; (with_reducible repeat (first | refine blk_drewN ?_ _ | refine blk_drew ?_ | refine blk_alloc ?_ _)); exact BK137.out⟩, ⟨by (with_reducible repeat (first | refine blk_drewN ?_ _ | refine blk_drew ?_ | refine blk_alloc ?_ _)); refine blk_far ?_ NB138_172.out _; (with_reducible repeat (first | refine blk_drewN ?_ _ | refine blk_drew ?_ | refine blk_alloc ?_ _)); refine blk_far ?_ NB138_172.out _; (with_reducible repeat (first | refine blk_drewN ?_ _ | refine blk_drew ?_ | refine blk_alloc ?_ _)); refine blk_far ?_ NB138_172.out _; (with_reducible repeat (first | refine blk_drewN ?_ _ | refine blk_drew ?_ | refine blk_alloc ?_ _)); refine blk_far ?_ NB138_172.out _; (with_reducible repeat (first | refine blk_drewN ?_ _ | refine blk_drew ?_ | refine blk_alloc ?_ _)); refine blk_far ?_ NB138_172.out _; (with_reducible repeat (first | refine blk_drewN ?_ _ | refine blk_drew ?_ | refine blk_alloc ?_ _)); refine blk_far ?_ NB138_172.out _; (with_reducible repeat (first | refine blk_drewN ?_ _ | refine blk_drew ?_ | refine blk_alloc ?_ _)); refine blk_far ?_ NB138_172.out _; (with_reducible repeat (first | refine blk_drewN ?_ _ | refine blk_drew ?_ | refine blk_alloc ?_ _)); refine blk_far ?_ NB138_172.out _; (with_reducible repeat (first | refine blk_drewN ?_ _ | refine blk_drew ?_ | refine blk_alloc ?_ _)); refine blk_far ?_ NB138_172.out _; (with_reducible repeat (first | refine blk_drewN ?_ _ | refine blk_drew ?_ | refine blk_alloc ?_ _)); exact BK138.out⟩, ⟨by (with_reducible repeat (first | refine blk_drewN ?_ _ | refine blk_drew ?_ | refine blk_alloc ?_ _)); refine blk_put (cs := #[.slice A0_0 l0_0.length c0_0, .int .i64 a0_1, .int .u64 a0_2, .slice A0_3 l0_3.length c0_3, .slice A39 y159.length c39, .slice A41 y164.length c41, .int .u32 (rd t139 1), .int .u32 (rd t139 3), .int .u64 0]) ?_ 8 _ rfl; (with_reducible repeat (first | refine blk_drewN ?_ _ | refine blk_drew ?_ | refine blk_alloc ?_ _)); refine blk_put (cs := #[.slice A0_0 l0_0.length c0_0, .int .i64 a0_1, .int .u64 a0_2, .slice A0_3 l0_3.length c0_3, .slice A39 y159.length c39, .slice A41 y164.length c41, .int .u32 (rd t139 1), .int .u32 0, .int .u64 0]) ?_ 7 _ rfl; (with_reducible repeat (first | refine blk_drewN ?_ _ | refine blk_drew ?_ | refine blk_alloc ?_ _)); refine blk_put (cs := #[.slice A0_0 l0_0.length c0_0, .int .i64 a0_1, .int .u64 a0_2, .slice A0_3 l0_3.length c0_3, .slice A39 y159.length c39, .slice A41 y164.length c41, .int .u32 0, .int .u32 0, .int .u64 0]) ?_ 6 _ rfl; (with_reducible repeat (first | refine blk_drewN ?_ _ | refine blk_drew ?_ | refine blk_alloc ?_ _)); refine blk_put (cs := #[.slice A0_0 l0_0.length c0_0, .int .i64 a0_1, .int .u64 a0_2, .slice A0_3 l0_3.length c0_3, .slice A39 y159.length c39, .slice none 0 0, .int .u32 0, .int .u32 0, .int .u64 0]) ?_ 5 _ rfl; (with_reducible repeat (first | refine blk_drewN ?_ _ | refine blk_drew ?_ | refine blk_alloc ?_ _)); refine blk_put (cs := #[.slice A0_0 l0_0.length c0_0, .int .i64 a0_1, .int .u64 a0_2, .slice A0_3 l0_3.length c0_3, .slice none 0 0, .slice none 0 0, .int .u32 0, .int .u32 0, .int .u64 0]) ?_ 4 _ rfl; (with_reducible repeat (first | refine blk_drewN ?_ _ | refine blk_drew ?_ | refine blk_alloc ?_ _)); refine blk_put (cs := #[.slice A0_0 l0_0.length c0_0, .int .i64 a0_1, .int .u64 a0_2, .slice none 0 0, .slice none 0 0, .slice none 0 0, .int .u32 0, .int .u32 0, .int .u64 0]) ?_ 3 _ rfl; (with_reducible repeat (first | refine blk_drewN ?_ _ | refine blk_drew ?_ | refine blk_alloc ?_ _)); refine blk_put (cs := #[.slice A0_0 l0_0.length c0_0, .int .i64 a0_1, .int .u64 0, .slice none 0 0, .slice none 0 0, .slice none 0 0, .int .u32 0, .int .u32 0, .int .u64 0]) ?_ 2 _ rfl; (with_reducible repeat (first | refine blk_drewN ?_ _ | refine blk_drew ?_ | refine blk_alloc ?_ _)); refine blk_put (cs := #[.slice A0_0 l0_0.length c0_0, .int .i64 0, .int .u64 0, .slice none 0 0, .slice none 0 0, .slice none 0 0, .int .u32 0, .int .u32 0, .int .u64 0]) ?_ 1 _ rfl; (with_reducible repeat (first | refine blk_drewN ?_ _ | refine blk_drew ?_ | refine blk_alloc ?_ _)); refine blk_put (cs := #[.slice none 0 0, .int .i64 0, .int .u64 0, .slice none 0 0, .slice none 0 0, .slice none 0 0, .int .u32 0, .int .u32 0, .int .u64 0]) ?_ 0 _ rfl; (with_reducible repeat (first | refine blk_drewN ?_ _ | refine blk_drew ?_ | refine blk_alloc ?_ _)); exact BK172.out⟩, ⟨by repeat (first | (with_reducible first | exact HB.out | apply below_alloc | apply pw_below_drewN | apply below_drew1 | refine below_set ?_ GE137.out | refine below_set ?_ GE138.out | refine below_set ?_ GE172.out) | exact HB.out)⟩⟩
                case round =>
                 clear H'
                 try clear c1
                 try clear p1
                 try clear q1
                 try clear hx1
                 try clear qi1
                 try clear p2
                 try clear c3
                 try clear q3
                 try clear c4
                 try clear q4
                 try clear c5
                 try clear p15
                 try clear q15
                 try clear hx15
                 try clear qi15
                 try clear p16
                 try clear q16
                 try clear hx16
                 try clear qi16
                 try clear p17
                 try clear q17
                 try clear hx17
                 try clear qi17
                 try clear c39
                 try clear q39
                 try clear c41
                 try clear q41
                 try clear c52
                 try clear c53
                 try clear hcz54_0
                 try clear hcz54_1
                 try clear hcz54_2
                 try clear hcz54_3
                 try clear hcz54_4
                 try clear hcz54_5
                 try clear hcz54_6
                 try clear hcz54_7
                 try clear hcz54_8
                 try clear hfz54_0
                 try clear hfz54_1
                 try clear hfz54_2
                 try clear hfz54_3
                 try clear hfz54_4
                 try clear hfz54_5
                 try clear hfz54_6
                 try clear hfz54_7
                 try clear hfz54_8
                 try clear hx153_0
                 try clear hx169_0
                 try clear hx170_0
                 try clear hx171_0
                 try clear p153
                 try clear p169
                 try clear p170
                 try clear p171
                 try clear q041
                 try clear q153
                 try clear q169
                 try clear q170
                 try clear q171
                 try clear q39
                 try clear q41
                 obtain ⟨x117_2, x139001_2, x139002_2, x139006_2, x139007_2, x139008_2, rfl, HA, HK2, HO_115, HO_138000, HO_138003, HO_173000, HO_173003, HO_173004, HO_173005, BK137, BK138, BK172, HB⟩ := hrel
                 cases gk with
                 | zero => exact absurd HA.out (by simp [hash_file_gnu.l0])
                 | succ k2 =>
                  have H := HA.out
                  clear HA
                  simp only [hash_file_gnu.l0] at H
                  by_cases c55 : x117_2 < (y164.length : Int)
                  ·rw [if_pos c55] at H
                   have c55b0 : decide (x117_2 < (y164.length : Int)) = true := decide_eq_true c55
                   clear c55
                   by_cases c56 : 0 ≤ x117_2
                   ·rw [if_pos c56] at H
                    have c56b0 : decide (0 ≤ x117_2) = true := decide_eq_true c56
                    clear c56
                    by_cases c57 : x117_2 < (y164.length : Int)
                    ·rw [if_pos c57] at H
                     have c57b0 : decide (x117_2 < (y164.length : Int)) = true := decide_eq_true c57
                     clear c57
                     by_cases c58 : (rd y164 x117_2) = 0
                     ·rw [if_pos c58] at H
                      have c58b0 : ((rd y164 x117_2) == 0) = true := beq_iff_eq.mpr c58
                      have c58b1 : ((rd y164 x117_2) != 0) = false := bne_eq_false_iff_eq.mpr c58
                      clear c58
                      have H' := Aside0.mk H
                      clear H
                      have p173 : 0 ≤ (x117_2 : Int) := of_decide_eq_true (by assumption)
                      have q173 : x117_2 < (y164.length : Int) := of_decide_eq_true (by assumption)
                      obtain ⟨ad173, e173, hx173_0⟩ := Kd.at_int (Kd.V_reads' HO_115.out).2.2 x117_2 p173 q173
                      cases e173
                      replace p173 := eq_true p173
                      replace q173 := eq_true q173
                      go_wp2
                      go_roundg k2
                      case measure => have := HJ3.out; have := HK2.out; omega
                      case rel => exact ⟨(wrap64 (x117_2 + 1)), (x139001_2), (x139002_2), (x139006_2), (x139007_2), (x139008_2), (by first | rfl | (simp; done) | (simp [*]; done)), H', ⟨by have := HJ3.out; have := HK2.out; omega⟩, ⟨by (with_reducible repeat (first | apply Kd.V_alloc | apply Kd.V_drewN | apply Kd.V_drew)); exact HO_115.out⟩, ⟨by (with_reducible repeat (first | apply Kd.V_alloc | apply Kd.V_drewN | apply Kd.V_drew)); exact HO_138000.out⟩, ⟨by (with_reducible repeat (first | apply Kd.V_alloc | apply Kd.V_drewN | apply Kd.V_drew)); exact HO_138003.out⟩, ⟨by (with_reducible repeat (first | apply Kd.V_alloc | apply Kd.V_drewN | apply Kd.V_drew)); exact HO_173000.out⟩, ⟨by (with_reducible repeat (first | apply Kd.V_alloc | apply Kd.V_drewN | apply Kd.V_drew)); exact HO_173003.out⟩, ⟨by (with_reducible repeat (first | apply Kd.V_alloc | apply Kd.V_drewN | apply Kd.V_drew)); exact HO_173004.out⟩, ⟨by (with_reducible repeat (first | apply Kd.V_alloc | apply Kd.V_drewN | apply Kd.V_drew)); exact HO_173005.out⟩, ⟨by (with_reducible repeat (first | refine blk_drewN ?_ _ | refine blk_drew ?_ | refine blk_alloc ?_ _)); exact BK137.out⟩, ⟨by (with_reducible repeat (first | refine blk_drewN ?_ _ | refine blk_drew ?_ | refine blk_alloc ?_ _)); exact BK138.out⟩, ⟨by (with_reducible repeat (first | refine blk_drewN ?_ _ | refine blk_drew ?_ | refine blk_alloc ?_ _)); exact BK172.out⟩, ⟨by repeat (first | (with_reducible first | exact HB.out | apply below_alloc | apply pw_below_drewN | apply below_drew1 | refine below_set ?_ GE137.out | refine below_set ?_ GE138.out | refine below_set ?_ GE172.out) | exact HB.out)⟩⟩
                     ·rw [if_neg c58] at H
                      have c58b0 : ((rd y164 x117_2) == 0) = false := beq_eq_false_iff_ne.mpr c58
                      have c58b1 : ((rd y164 x117_2) != 0) = true := bne_iff_ne.mpr c58
                      by_cases c59 : (rd y164 x117_2) < (rd t139 1)
                      ·rw [if_pos c59] at H
                       exact absurd H (by simp)
                      ·rw [if_neg c59] at H
                       have c59b0 : decide ((rd y164 x117_2) < (rd t139 1)) = false := decide_eq_false c59
                       clear c59
                       have H' := Aside0.mk H
                       clear H
                       have p173 : 0 ≤ (x117_2 : Int) := of_decide_eq_true (by assumption)
                       have q173 : x117_2 < (y164.length : Int) := of_decide_eq_true (by assumption)
                       obtain ⟨ad173, e173, hx173_0⟩ := Kd.at_int (Kd.V_reads' HO_115.out).2.2 x117_2 p173 q173
                       cases e173
                       replace p173 := eq_true p173
                       replace q173 := eq_true q173
                       have hnb60 := NB172_137.out
                       have hnc60 := NB137_172.out
                       have hnb61 := NB172_138.out
                       have hnc61 := NB138_172.out
                       have hcz62_0 : wr.cell? ⟨gb172, 0, none⟩ = some (.slice A0_0 l0_0.length c0_0) := (blk_cell BK172.out 0).trans rfl
                       have hcz62_1 : wr.cell? ⟨gb172, 1, none⟩ = some (.int .i64 a0_1) := (blk_cell BK172.out 1).trans rfl
                       have hcz62_2 : wr.cell? ⟨gb172, 2, none⟩ = some (.int .u64 a0_2) := (blk_cell BK172.out 2).trans rfl
                       have hcz62_3 : wr.cell? ⟨gb172, 3, none⟩ = some (.slice A0_3 l0_3.length c0_3) := (blk_cell BK172.out 3).trans rfl
                       have hcz62_4 : wr.cell? ⟨gb172, 4, none⟩ = some (.slice A39 y159.length c39) := (blk_cell BK172.out 4).trans rfl
                       have hcz62_5 : wr.cell? ⟨gb172, 5, none⟩ = some (.slice (some ad173) y164.length c41) := (blk_cell BK172.out 5).trans rfl
                       have hcz62_6 : wr.cell? ⟨gb172, 6, none⟩ = some (.int .u32 (rd t139 1)) := (blk_cell BK172.out 6).trans rfl
                       have hcz62_7 : wr.cell? ⟨gb172, 7, none⟩ = some (.int .u32 (rd t139 3)) := (blk_cell BK172.out 7).trans rfl
                       have hcz62_8 : wr.cell? ⟨gb172, 8, none⟩ = some (.int .u64 (IntKind.u64.wrap (a1 + (IntKind.u64.wrap (4 * (IntKind.u64.wrap ((ji31) + (IntKind.u64.wrap (rd t139 0))))))))) := (blk_cell BK172.out 8).trans rfl
                       have hfz62_0 := blk_frozen BK172.out 0
                       have hfz62_1 := blk_frozen BK172.out 1
                       have hfz62_2 := blk_frozen BK172.out 2
                       have hfz62_3 := blk_frozen BK172.out 3
                       have hfz62_4 := blk_frozen BK172.out 4
                       have hfz62_5 := blk_frozen BK172.out 5
                       have hfz62_6 := blk_frozen BK172.out 6
                       have hfz62_7 := blk_frozen BK172.out 7
                       have hfz62_8 := blk_frozen BK172.out 8
                       go_wp2
                       go_roundg k2
                       case measure => have := HJ3.out; have := HK2.out; omega
                       case rel => exact ⟨(wrap64 (x117_2 + 1)), (x139001_2), (x139002_2), (x139006_2), (x139007_2), (x139008_2), (by first | rfl | (simp; done) | (simp [*]; done)), H', ⟨by have := HJ3.out; have := HK2.out; omega⟩, ⟨by (with_reducible repeat (first | apply Kd.V_alloc | apply Kd.V_drewN | apply Kd.V_drew)); exact HO_115.out⟩, ⟨by (with_reducible repeat (first | apply Kd.V_alloc | apply Kd.V_drewN | apply Kd.V_drew)); exact HO_138000.out⟩, ⟨by (with_reducible repeat (first | apply Kd.V_alloc | apply Kd.V_drewN | apply Kd.V_drew)); exact HO_138003.out⟩, ⟨by (with_reducible repeat (first | apply Kd.V_alloc | apply Kd.V_drewN | apply Kd.V_drew)); exact HO_173000.out⟩, ⟨by (with_reducible repeat (first | apply Kd.V_alloc | apply Kd.V_drewN | apply Kd.V_drew)); exact HO_173003.out⟩, ⟨by (with_reducible repeat (first | apply Kd.V_alloc | apply Kd.V_drewN | apply Kd.V_drew)); exact HO_173004.out⟩, ⟨by (with_reducible repeat (first | apply Kd.V_alloc | apply Kd.V_drewN | apply Kd.V_drew)); exact HO_173005.out⟩, ⟨by (with_reducible repeat (first | refine blk_drewN ?_ _ | refine blk_drew ?_ | refine blk_alloc ?_ _)); exact BK137.out⟩, ⟨by (with_reducible repeat (first | refine blk_drewN ?_ _ | refine blk_drew ?_ | refine blk_alloc ?_ _)); exact BK138.out⟩, ⟨by (with_reducible repeat (first | refine blk_drewN ?_ _ | refine blk_drew ?_ | refine blk_alloc ?_ _)); exact BK172.out⟩, ⟨by repeat (first | (with_reducible first | exact HB.out | apply below_alloc | apply pw_below_drewN | apply below_drew1 | refine below_set ?_ GE137.out | refine below_set ?_ GE138.out | refine below_set ?_ GE172.out) | exact HB.out)⟩⟩
                    ·rw [if_neg c57] at H
                     exact absurd H (by simp)
                   ·rw [if_neg c56] at H
                    exact absurd H (by simp)
                  ·rw [if_neg c55] at H
                   have c55b0 : decide (x117_2 < (y164.length : Int)) = false := decide_eq_false c55
                   clear c55
                   simp only [Option.some.injEq, Prod.mk.injEq] at H
                   obtain ⟨rfl, rfl, rfl, rfl, rfl, rfl, rfl, rfl, rfl, rfl⟩ := H
                   have hnb63 := NB172_137.out
                   have hnc63 := NB137_172.out
                   have hnb64 := NB172_138.out
                   have hnc64 := NB138_172.out
                   have hcz65_0 : wr.cell? ⟨gb172, 0, none⟩ = some (.slice A0_0 l0_0.length c0_0) := (blk_cell BK172.out 0).trans rfl
                   have hcz65_1 : wr.cell? ⟨gb172, 1, none⟩ = some (.int .i64 a0_1) := (blk_cell BK172.out 1).trans rfl
                   have hcz65_2 : wr.cell? ⟨gb172, 2, none⟩ = some (.int .u64 a0_2) := (blk_cell BK172.out 2).trans rfl
                   have hcz65_3 : wr.cell? ⟨gb172, 3, none⟩ = some (.slice A0_3 l0_3.length c0_3) := (blk_cell BK172.out 3).trans rfl
                   have hcz65_4 : wr.cell? ⟨gb172, 4, none⟩ = some (.slice A39 y159.length c39) := (blk_cell BK172.out 4).trans rfl
                   have hcz65_5 : wr.cell? ⟨gb172, 5, none⟩ = some (.slice A41 y164.length c41) := (blk_cell BK172.out 5).trans rfl
                   have hcz65_6 : wr.cell? ⟨gb172, 6, none⟩ = some (.int .u32 (rd t139 1)) := (blk_cell BK172.out 6).trans rfl
                   have hcz65_7 : wr.cell? ⟨gb172, 7, none⟩ = some (.int .u32 (rd t139 3)) := (blk_cell BK172.out 7).trans rfl
                   have hcz65_8 : wr.cell? ⟨gb172, 8, none⟩ = some (.int .u64 (IntKind.u64.wrap (a1 + (IntKind.u64.wrap (4 * (IntKind.u64.wrap ((ji31) + (IntKind.u64.wrap (rd t139 0))))))))) := (blk_cell BK172.out 8).trans rfl
                   have hfz65_0 := blk_frozen BK172.out 0
                   have hfz65_1 := blk_frozen BK172.out 1
                   have hfz65_2 := blk_frozen BK172.out 2
                   have hfz65_3 := blk_frozen BK172.out 3
                   have hfz65_4 := blk_frozen BK172.out 4
                   have hfz65_5 := blk_frozen BK172.out 5
                   have hfz65_6 := blk_frozen BK172.out 6
                   have hfz65_7 := blk_frozen BK172.out 7
                   have hfz65_8 := blk_frozen BK172.out 8
                   have hnb66 := NB138_137.out
                   have hnc66 := NB137_138.out
                   have hcz67_0 : wr.cell? ⟨gb138, 0, none⟩ = some (.slice none 0 0) := (blk_cell BK138.out 0).trans rfl
                   have hcz67_1 : wr.cell? ⟨gb138, 1, none⟩ = some (.int .i64 x139001_2) := (blk_cell BK138.out 1).trans rfl
                   have hcz67_2 : wr.cell? ⟨gb138, 2, none⟩ = some (.int .u64 x139002_2) := (blk_cell BK138.out 2).trans rfl
                   have hcz67_3 : wr.cell? ⟨gb138, 3, none⟩ = some (.slice none 0 0) := (blk_cell BK138.out 3).trans rfl
                   have hcz67_4 : wr.cell? ⟨gb138, 4, none⟩ = some (.slice none 0 0) := (blk_cell BK138.out 4).trans rfl
                   have hcz67_5 : wr.cell? ⟨gb138, 5, none⟩ = some (.slice none 0 0) := (blk_cell BK138.out 5).trans rfl
                   have hcz67_6 : wr.cell? ⟨gb138, 6, none⟩ = some (.int .u32 x139006_2) := (blk_cell BK138.out 6).trans rfl
                   have hcz67_7 : wr.cell? ⟨gb138, 7, none⟩ = some (.int .u32 x139007_2) := (blk_cell BK138.out 7).trans rfl
                   have hcz67_8 : wr.cell? ⟨gb138, 8, none⟩ = some (.int .u64 x139008_2) := (blk_cell BK138.out 8).trans rfl
                   have hfz67_0 := blk_frozen BK138.out 0
                   have hfz67_1 := blk_frozen BK138.out 1
                   have hfz67_2 := blk_frozen BK138.out 2
                   have hfz67_3 := blk_frozen BK138.out 3
                   have hfz67_4 := blk_frozen BK138.out 4
                   have hfz67_5 := blk_frozen BK138.out 5
                   have hfz67_6 := blk_frozen BK138.out 6
                   have hfz67_7 := blk_frozen BK138.out 7
                   have hfz67_8 := blk_frozen BK138.out 8
                   go_wp2
                   refine bodyPost_ret (results_ct rfl _ _ gb138 92 #[.slice A0_0 l0_0.length c0_0, .int .i64 a0_1, .int .u64 a0_2, .slice A0_3 l0_3.length c0_3, .slice A39 y159.length c39, .slice A41 y164.length c41, .int .u32 (rd t139 1), .int .u32 (rd t139 3), .int .u64 (IntKind.u64.wrap (a1 + (IntKind.u64.wrap (4 * (IntKind.u64.wrap ((ji31) + (IntKind.u64.wrap (rd t139 0))))))))] (0, 0) _ rfl (by (with_reducible repeat (first | refine blk_drewN ?_ _ | refine blk_drew ?_ | refine blk_alloc ?_ _)); refine blk_put (cs := #[.slice A0_0 l0_0.length c0_0, .int .i64 a0_1, .int .u64 a0_2, .slice A0_3 l0_3.length c0_3, .slice A39 y159.length c39, .slice A41 y164.length c41, .int .u32 (rd t139 1), .int .u32 (rd t139 3), .int .u64 x139008_2]) ?_ 8 _ rfl; (with_reducible repeat (first | refine blk_drewN ?_ _ | refine blk_drew ?_ | refine blk_alloc ?_ _)); refine blk_put (cs := #[.slice A0_0 l0_0.length c0_0, .int .i64 a0_1, .int .u64 a0_2, .slice A0_3 l0_3.length c0_3, .slice A39 y159.length c39, .slice A41 y164.length c41, .int .u32 (rd t139 1), .int .u32 x139007_2, .int .u64 x139008_2]) ?_ 7 _ rfl; (with_reducible repeat (first | refine blk_drewN ?_ _ | refine blk_drew ?_ | refine blk_alloc ?_ _)); refine blk_put (cs := #[.slice A0_0 l0_0.length c0_0, .int .i64 a0_1, .int .u64 a0_2, .slice A0_3 l0_3.length c0_3, .slice A39 y159.length c39, .slice A41 y164.length c41, .int .u32 x139006_2, .int .u32 x139007_2, .int .u64 x139008_2]) ?_ 6 _ rfl; (with_reducible repeat (first | refine blk_drewN ?_ _ | refine blk_drew ?_ | refine blk_alloc ?_ _)); refine blk_put (cs := #[.slice A0_0 l0_0.length c0_0, .int .i64 a0_1, .int .u64 a0_2, .slice A0_3 l0_3.length c0_3, .slice A39 y159.length c39, .slice none 0 0, .int .u32 x139006_2, .int .u32 x139007_2, .int .u64 x139008_2]) ?_ 5 _ rfl; (with_reducible repeat (first | refine blk_drewN ?_ _ | refine blk_drew ?_ | refine blk_alloc ?_ _)); refine blk_put (cs := #[.slice A0_0 l0_0.length c0_0, .int .i64 a0_1, .int .u64 a0_2, .slice A0_3 l0_3.length c0_3, .slice none 0 0, .slice none 0 0, .int .u32 x139006_2, .int .u32 x139007_2, .int .u64 x139008_2]) ?_ 4 _ rfl; (with_reducible repeat (first | refine blk_drewN ?_ _ | refine blk_drew ?_ | refine blk_alloc ?_ _)); refine blk_put (cs := #[.slice A0_0 l0_0.length c0_0, .int .i64 a0_1, .int .u64 a0_2, .slice none 0 0, .slice none 0 0, .slice none 0 0, .int .u32 x139006_2, .int .u32 x139007_2, .int .u64 x139008_2]) ?_ 3 _ rfl; (with_reducible repeat (first | refine blk_drewN ?_ _ | refine blk_drew ?_ | refine blk_alloc ?_ _)); refine blk_put (cs := #[.slice A0_0 l0_0.length c0_0, .int .i64 a0_1, .int .u64 x139002_2, .slice none 0 0, .slice none 0 0, .slice none 0 0, .int .u32 x139006_2, .int .u32 x139007_2, .int .u64 x139008_2]) ?_ 2 _ rfl; (with_reducible repeat (first | refine blk_drewN ?_ _ | refine blk_drew ?_ | refine blk_alloc ?_ _)); refine blk_put (cs := #[.slice A0_0 l0_0.length c0_0, .int .i64 x139001_2, .int .u64 x139002_2, .slice none 0 0, .slice none 0 0, .slice none 0 0, .int .u32 x139006_2, .int .u32 x139007_2, .int .u64 x139008_2]) ?_ 1 _ rfl; (with_reducible repeat (first | refine blk_drewN ?_ _ | refine blk_drew ?_ | refine blk_alloc ?_ _)); refine blk_put (cs := #[.slice none 0 0, .int .i64 x139001_2, .int .u64 x139002_2, .slice none 0 0, .slice none 0 0, .slice none 0 0, .int .u32 x139006_2, .int .u32 x139007_2, .int .u64 x139008_2]) ?_ 0 _ rfl; (with_reducible repeat (first | refine blk_drewN ?_ _ | refine blk_drew ?_ | refine blk_alloc ?_ _)); exact BK138.out) Try.underlying92 rfl (by kernel_rfl)) rfl ?_
                   exact ⟨_, _, _, _, by first | rfl | (simp [errW_none, errW_some] <;> rfl) | (simp only [← hji31]; first | rfl | (simp [errW_none, errW_some] <;> rfl)) | (simp [*, errW_none, errW_some] <;> rfl), by (with_reducible repeat (first | apply Kd.V_alloc | apply Kd.V_drewN | apply Kd.V_drew)); exact Kd.V_mono (Kd.V_far (p := ⟨gb138, 8, none⟩) (Kd.V_far (p := ⟨gb138, 7, none⟩) (Kd.V_far (p := ⟨gb138, 6, none⟩) (Kd.V_far (p := ⟨gb138, 5, none⟩) (Kd.V_far (p := ⟨gb138, 4, none⟩) (Kd.V_far (p := ⟨gb138, 3, none⟩) (Kd.V_far (p := ⟨gb138, 2, none⟩) (Kd.V_far (p := ⟨gb138, 1, none⟩) (Kd.V_far (p := ⟨gb138, 0, none⟩) (Kd.V_mono HO_173000.out (fun k_ hk => (⟨hk, hk.2.2.1⟩ : _ ∧ k_ ≠ gb138))) (fun _ hk => hk.2) (.slice A0_0 l0_0.length c0_0)) (fun _ hk => hk.2) (.int .i64 a0_1)) (fun _ hk => hk.2) (.int .u64 a0_2)) (fun _ hk => hk.2) (.slice A0_3 l0_3.length c0_3)) (fun _ hk => hk.2) (.slice A39 y159.length c39)) (fun _ hk => hk.2) (.slice A41 y164.length c41)) (fun _ hk => hk.2) (.int .u32 (rd t139 1))) (fun _ hk => hk.2) (.int .u32 (rd t139 3))) (fun _ hk => hk.2) (.int .u64 (IntKind.u64.wrap (a1 + (IntKind.u64.wrap (4 * (IntKind.u64.wrap ((ji31) + (IntKind.u64.wrap (rd t139 0)))))))))) (fun _ hk => hk.1.1), by (with_reducible repeat (first | apply Kd.V_alloc | apply Kd.V_drewN | apply Kd.V_drew)); exact Kd.V_mono (Kd.V_far (p := ⟨gb138, 8, none⟩) (Kd.V_far (p := ⟨gb138, 7, none⟩) (Kd.V_far (p := ⟨gb138, 6, none⟩) (Kd.V_far (p := ⟨gb138, 5, none⟩) (Kd.V_far (p := ⟨gb138, 4, none⟩) (Kd.V_far (p := ⟨gb138, 3, none⟩) (Kd.V_far (p := ⟨gb138, 2, none⟩) (Kd.V_far (p := ⟨gb138, 1, none⟩) (Kd.V_far (p := ⟨gb138, 0, none⟩) (Kd.V_mono HO_173003.out (fun k_ hk => (⟨hk, hk.2.2.1⟩ : _ ∧ k_ ≠ gb138))) (fun _ hk => hk.2) (.slice A0_0 l0_0.length c0_0)) (fun _ hk => hk.2) (.int .i64 a0_1)) (fun _ hk => hk.2) (.int .u64 a0_2)) (fun _ hk => hk.2) (.slice A0_3 l0_3.length c0_3)) (fun _ hk => hk.2) (.slice A39 y159.length c39)) (fun _ hk => hk.2) (.slice A41 y164.length c41)) (fun _ hk => hk.2) (.int .u32 (rd t139 1))) (fun _ hk => hk.2) (.int .u32 (rd t139 3))) (fun _ hk => hk.2) (.int .u64 (IntKind.u64.wrap (a1 + (IntKind.u64.wrap (4 * (IntKind.u64.wrap ((ji31) + (IntKind.u64.wrap (rd t139 0)))))))))) (fun _ hk => hk.1.1), by (with_reducible repeat (first | apply Kd.V_alloc | apply Kd.V_drewN | apply Kd.V_drew)); exact Kd.V_mono (Kd.V_far (p := ⟨gb138, 8, none⟩) (Kd.V_far (p := ⟨gb138, 7, none⟩) (Kd.V_far (p := ⟨gb138, 6, none⟩) (Kd.V_far (p := ⟨gb138, 5, none⟩) (Kd.V_far (p := ⟨gb138, 4, none⟩) (Kd.V_far (p := ⟨gb138, 3, none⟩) (Kd.V_far (p := ⟨gb138, 2, none⟩) (Kd.V_far (p := ⟨gb138, 1, none⟩) (Kd.V_far (p := ⟨gb138, 0, none⟩) (Kd.V_mono HO_173004.out (fun k_ hk => (⟨hk, hk.2.2.1⟩ : _ ∧ k_ ≠ gb138))) (fun _ hk => hk.2) (.slice A0_0 l0_0.length c0_0)) (fun _ hk => hk.2) (.int .i64 a0_1)) (fun _ hk => hk.2) (.int .u64 a0_2)) (fun _ hk => hk.2) (.slice A0_3 l0_3.length c0_3)) (fun _ hk => hk.2) (.slice A39 y159.length c39)) (fun _ hk => hk.2) (.slice A41 y164.length c41)) (fun _ hk => hk.2) (.int .u32 (rd t139 1))) (fun _ hk => hk.2) (.int .u32 (rd t139 3))) (fun _ hk => hk.2) (.int .u64 (IntKind.u64.wrap (a1 + (IntKind.u64.wrap (4 * (IntKind.u64.wrap ((ji31) + (IntKind.u64.wrap (rd t139 0)))))))))) (fun _ hk => hk.1.1), by (with_reducible repeat (first | apply Kd.V_alloc | apply Kd.V_drewN | apply Kd.V_drew)); exact Kd.V_mono (Kd.V_far (p := ⟨gb138, 8, none⟩) (Kd.V_far (p := ⟨gb138, 7, none⟩) (Kd.V_far (p := ⟨gb138, 6, none⟩) (Kd.V_far (p := ⟨gb138, 5, none⟩) (Kd.V_far (p := ⟨gb138, 4, none⟩) (Kd.V_far (p := ⟨gb138, 3, none⟩) (Kd.V_far (p := ⟨gb138, 2, none⟩) (Kd.V_far (p := ⟨gb138, 1, none⟩) (Kd.V_far (p := ⟨gb138, 0, none⟩) (Kd.V_mono HO_173005.out (fun k_ hk => (⟨hk, hk.2.2.1⟩ : _ ∧ k_ ≠ gb138))) (fun _ hk => hk.2) (.slice A0_0 l0_0.length c0_0)) (fun _ hk => hk.2) (.int .i64 a0_1)) (fun _ hk => hk.2) (.int .u64 a0_2)) (fun _ hk => hk.2) (.slice A0_3 l0_3.length c0_3)) (fun _ hk => hk.2) (.slice A39 y159.length c39)) (fun _ hk => hk.2) (.slice A41 y164.length c41)) (fun _ hk => hk.2) (.int .u32 (rd t139 1))) (fun _ hk => hk.2) (.int .u32 (rd t139 3))) (fun _ hk => hk.2) (.int .u64 (IntKind.u64.wrap (a1 + (IntKind.u64.wrap (4 * (IntKind.u64.wrap ((ji31) + (IntKind.u64.wrap (rd t139 0)))))))))) (fun _ hk => hk.1.1), by repeat (first | (with_reducible first | exact HB.out | apply below_alloc | apply pw_below_drewN | apply below_drew1 | refine below_set ?_ GE137.out | refine below_set ?_ GE138.out | refine below_set ?_ GE172.out) | exact HB.out)⟩
               ·rw [if_neg c34] at H
                exact absurd H (by simp)
              ·rw [if_neg c32] at H
               exact absurd H (by simp)
             ·rw [if_neg c30] at H
              exact absurd H (by simp)
            ·rw [if_neg c29] at H
             exact absurd H (by simp)
           ·have H1 : (none) = some (r1, r2, r3, r4, r5, r6, r7, r8, r9, r10) := by rw [if_neg (show ¬ (some q158).isNone = true by simp)] at H; exact H
            clear H
            have H := H1
            clear H1
            try simp only [errW_none, errW_some]
            exact absurd H (by simp)
         ·rw [if_neg c26] at H
          exact absurd H (by simp)
       ·rw [if_neg c24] at H
        exact absurd H (by simp)
     ·rw [if_neg c22] at H
      exact absurd H (by simp)
 ·have H1 : (none) = some (r1, r2, r3, r4, r5, r6, r7, r8, r9, r10) := by rw [if_neg (show ¬ (some q143).isNone = true by simp)] at H; exact H
  clear H
  have H := H1
  clear H1
  try simp only [errW_none, errW_some]
  exact absurd H (by simp)

end Go.Proofs.Ythopdoamajjojaa.QHashB
