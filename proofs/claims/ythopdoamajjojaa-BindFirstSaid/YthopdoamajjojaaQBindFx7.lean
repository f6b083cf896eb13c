import Derived.Test.YthopdoamajjojaaQBindFx0
import Derived.Test.YthopdoamajjojaaQBindFx4
import Derived.Test.YthopdoamajjojaaQBindFx6
namespace Go.Proofs.Ythopdoamajjojaa.QBindF
open Go.RowKit Go.Proofs.YthopdoamajjojaaW.PrintWords Go.Proofs.YthopdoamajjojaaW.PrintLast Go.Proofs.YthopdoamajjojaaW.PrintMore
attribute [local go_sem] max2_int min2_int max_two min_two max_three min_three max_four min_four
set_option linter.unusedVariables false
set_option linter.unusedSimpArgs false
attribute [local go_sem] eqErr_ii neErr_ii eqErr_ni neErr_ni
mutual
def hash_file_gnu.j0 : Nat → Int → List Int → Bool → List Int → Int → Int → List (S29) → Option (List Int × Int × Int × (List (S29)) × List Int × List Int × Int × Int × Int × Option Int)
 | 0, _, _, _, _, _, _, _ => none
 | k + 1, x1, x6, x24, x167000, x167001, x167002, x167003 => if x24 = true then (some (([] : List Int), 0, 0, ([] : List (S29)), ([] : List Int), ([] : List Int), 0, 0, 0, some 3)) else (if 0 < (x6.length : Int) then (if (rd x6 0) > 4096 then (some (([] : List Int), 0, 0, ([] : List (S29)), ([] : List Int), ([] : List Int), 0, 0, 0, some 2)) else (if 1 < (x6.length : Int) then (if (rd x6 1) > 4096 then (some (([] : List Int), 0, 0, ([] : List (S29)), ([] : List Int), ([] : List Int), 0, 0, 0, some 2)) else (if 2 < (x6.length : Int) then (if (rd x6 2) > 4096 then (some (([] : List Int), 0, 0, ([] : List (S29)), ([] : List Int), ([] : List Int), 0, 0, 0, some 2)) else ((hash_file_words.f k x167000 x167001 x167002 x167003 x1 (IntKind.u64.wrap ((IntKind.u64.wrap (4 + (IntKind.u64.wrap (2 * (IntKind.u64.wrap (rd x6 2)))))) + (IntKind.u64.wrap (rd x6 0))))).bind fun bt183 => (if bt183.2.isNone = true then (if 4 ≤ (IntKind.u64.wrap (4 + (IntKind.u64.wrap (2 * (IntKind.u64.wrap (rd x6 2)))))) then (if (IntKind.u64.wrap (4 + (IntKind.u64.wrap (2 * (IntKind.u64.wrap (rd x6 2)))))) ≤ (bt183.1.length : Int) then (if 0 ≤ (IntKind.u64.wrap (4 + (IntKind.u64.wrap (2 * (IntKind.u64.wrap (rd x6 2)))))) then ((some (bt183.1.drop ((IntKind.u64.wrap (4 + (IntKind.u64.wrap (2 * (IntKind.u64.wrap (rd x6 2)))))) : Int).toNat : List Int)).bind fun y193 => (if 3 < (x6.length : Int) then (hash_file_gnu.l0 k y193 (y193.length : Int) 0 x167000 x167001 x167002 x167003 ((bt183.1.take ((IntKind.u64.wrap (4 + (IntKind.u64.wrap (2 * (IntKind.u64.wrap (rd x6 2)))))) : Int).toNat).drop 4) y193 (rd x6 1) (rd x6 3) (IntKind.u64.wrap (x1 + (IntKind.u64.wrap (4 * (IntKind.u64.wrap ((IntKind.u64.wrap (4 + (IntKind.u64.wrap (2 * (IntKind.u64.wrap (rd x6 2)))))) + (IntKind.u64.wrap (rd x6 0))))))))) else (none))) else (none)) else (none)) else (none)) else (some (([] : List Int), 0, 0, ([] : List (S29)), ([] : List Int), ([] : List Int), 0, 0, 0, some (bt183.2.getD 0)))))) else (none))) else (none))) else (none))
def hash_file_gnu.l0 : Nat → List Int → Int → Int → List Int → Int → Int → List (S29) → List Int → List Int → Int → Int → Int → Option (List Int × Int × Int × (List (S29)) × List Int × List Int × Int × Int × Int × Option Int)
 | 0, _, _, _, _, _, _, _, _, _, _, _, _ => none
 | k + 1, x115, x116, x117, x202000, x202001, x202002, x202003, x202004, x202005, x202006, x202007, x202008 => if x117 < x116 then (if 0 ≤ x117 then (if x117 < (x115.length : Int) then (if (rd x115 x117) = 0 then (hash_file_gnu.l0 k x115 x116 (wrap64 (x117 + 1)) x202000 x202001 x202002 x202003 x202004 x202005 x202006 x202007 x202008) else (if (rd x115 x117) < x202006 then (some (([] : List Int), 0, 0, ([] : List (S29)), ([] : List Int), ([] : List Int), 0, 0, 0, some 3)) else (hash_file_gnu.l0 k x115 x116 (wrap64 (x117 + 1)) x202000 x202001 x202002 x202003 x202004 x202005 x202006 x202007 x202008))) else (none)) else (none)) else (some (x202000, x202001, x202002, x202003, x202004, x202005, x202006, x202007, x202008, none))
end
def hash_file_gnu.f (k : Nat) (l0_0 : List Int) (a0_1 : Int) (a0_2 : Int) (l0_3 : List (S29)) (a1 : Int) : Option (List Int × Int × Int × (List (S29)) × List Int × List Int × Int × Int × Int × Option Int) := (hash_file_words.f k l0_0 a0_1 a0_2 l0_3 a1 4).bind fun bt168 => (if bt168.2.isNone = true then (if 0 < (bt168.1.length : Int) then (if (rd bt168.1 0) = 0 then (hash_file_gnu.j0 k a1 bt168.1 true l0_0 a0_1 a0_2 l0_3) else (if 2 < (bt168.1.length : Int) then (if (rd bt168.1 2) = 0 then (hash_file_gnu.j0 k a1 bt168.1 true l0_0 a0_1 a0_2 l0_3) else ((bits_OnesCount32.f (rd bt168.1 2)).bind fun t176 => (if t176 = 1 then (if 3 < (bt168.1.length : Int) then (hash_file_gnu.j0 k a1 bt168.1 (decide ((rd bt168.1 3) > 31)) l0_0 a0_1 a0_2 l0_3) else (none)) else (hash_file_gnu.j0 k a1 bt168.1 true l0_0 a0_1 a0_2 l0_3)))) else (none))) else (none)) else (some (([] : List Int), 0, 0, ([] : List (S29)), ([] : List Int), ([] : List Int), 0, 0, 0, some (bt168.2.getD 0))))
theorem hash_file_gnu.mono_l : ∀ k, (∀ y0 y1 y2 y3 y4 y5 y6, LeO (hash_file_gnu.j0 k y0 y1 y2 y3 y4 y5 y6) (hash_file_gnu.j0 (k + 1) y0 y1 y2 y3 y4 y5 y6)) ∧ (∀ y0 y1 y2 y3 y4 y5 y6 y7 y8 y9 y10 y11, LeO (hash_file_gnu.l0 k y0 y1 y2 y3 y4 y5 y6 y7 y8 y9 y10 y11) (hash_file_gnu.l0 (k + 1) y0 y1 y2 y3 y4 y5 y6 y7 y8 y9 y10 y11))
 | 0 => ⟨fun _ _ _ _ _ _ _ r h => by simp [hash_file_gnu.j0] at h, fun _ _ _ _ _ _ _ _ _ _ _ _ r h => by simp [hash_file_gnu.l0] at h⟩
 | k + 1 => by
  obtain ⟨ih0, ih1⟩ := hash_file_gnu.mono_l k
  refine ⟨?_, ?_⟩
  ·intro y0 y1 y2 y3 y4 y5 y6
   unfold hash_file_gnu.j0
   repeat' first
   | (with_reducible exact ih0 _ _ _ _ _ _ _)
   | (with_reducible exact ih1 _ _ _ _ _ _ _ _ _ _ _ _)
   | (with_reducible exact hash_file_words.mono _ _ _ _ _ _ _)
   | (with_reducible exact LeO.refl _)
   | (with_reducible exact LeO.none _)
   | (with_reducible refine LeO.ite ?_ ?_)
   | (with_reducible refine LeO.bind ?_ (fun _ => ?_))
   | exact ih0 _ _ _ _ _ _ _
   | exact ih1 _ _ _ _ _ _ _ _ _ _ _ _
   | exact hash_file_words.mono _ _ _ _ _ _ _
   | exact LeO.none _
   | refine LeO.ite ?_ ?_
   | refine LeO.bind ?_ (fun _ => ?_)
  ·intro y0 y1 y2 y3 y4 y5 y6 y7 y8 y9 y10 y11
   unfold hash_file_gnu.l0
   repeat' first
   | (with_reducible exact ih0 _ _ _ _ _ _ _)
   | (with_reducible exact ih1 _ _ _ _ _ _ _ _ _ _ _ _)
   | (with_reducible exact hash_file_words.mono _ _ _ _ _ _ _)
   | (with_reducible exact LeO.refl _)
   | (with_reducible exact LeO.none _)
   | (with_reducible refine LeO.ite ?_ ?_)
   | (with_reducible refine LeO.bind ?_ (fun _ => ?_))
   | exact ih0 _ _ _ _ _ _ _
   | exact ih1 _ _ _ _ _ _ _ _ _ _ _ _
   | exact hash_file_words.mono _ _ _ _ _ _ _
   | exact LeO.none _
   | refine LeO.ite ?_ ?_
   | refine LeO.bind ?_ (fun _ => ?_)
theorem hash_file_gnu.mono : ∀ a0 a1 a2 a3 a4 k, LeO (hash_file_gnu.f k a0 a1 a2 a3 a4) (hash_file_gnu.f (k + 1) a0 a1 a2 a3 a4) := by
 intro a0 a1 a2 a3 a4 k
 obtain ⟨ih0, ih1⟩ := hash_file_gnu.mono_l k
 unfold hash_file_gnu.f
 repeat' first
   | (with_reducible exact ih0 _ _ _ _ _ _ _)
   | (with_reducible exact ih1 _ _ _ _ _ _ _ _ _ _ _ _)
   | (with_reducible exact hash_file_words.mono _ _ _ _ _ _ _)
   | (with_reducible exact LeO.refl _)
   | (with_reducible exact LeO.none _)
   | (with_reducible refine LeO.ite ?_ ?_)
   | (with_reducible refine LeO.bind ?_ (fun _ => ?_))
   | exact ih0 _ _ _ _ _ _ _
   | exact ih1 _ _ _ _ _ _ _ _ _ _ _ _
   | exact hash_file_words.mono _ _ _ _ _ _ _
   | exact LeO.none _
   | refine LeO.ite ?_ ?_
   | refine LeO.bind ?_ (fun _ => ?_)
def hash_file_gnu.T9 : Bool × List (List Nat × List Nat) := (true, [([], []), ([], []), ([], []), ([], []), ([3], [3]), ([4], [4]), ([5], [5]), ([2, 6], [2, 6]), ([0, 1, 7], [0, 1, 7]), ([8], [8]), ([9], [9]), ([9], [9]), ([10, 8, 0, 1, 2, 3, 4, 5, 6, 7, 8, 9, 10], [10]), ([11, 12, 0, 1, 2, 3, 4, 5, 6, 7, 8, 9, 10, 11, 12], [11])])
def hash_file_gnu.B9 : List Nat := [0, 0, 0, 0, 8, 24, 56, 124, 255, 511, 1023, 1023, 2047, 8191]
theorem hash_file_gnu.tab9 : rtab .any (opsOf Try.f31 9) = hash_file_gnu.T9 := by kernel_rfl
theorem hash_file_gnu.bits9 : waitsOk hash_file_gnu.T9.2 hash_file_gnu.B9 = true := by kernel_rfl
def hash_file_gnu.T12 : Bool × List (List Nat × List Nat) := (true, [([], []), ([], []), ([], []), ([1, 2], [1, 2]), ([], []), ([], []), ([4, 5], [4, 5]), ([], []), ([7], [7]), ([8], [8]), ([], []), ([10], [10]), ([11], [11]), ([], []), ([], []), ([], []), ([15], [15]), ([16], [16]), ([17], [17]), ([14, 18], [14, 18]), ([19], [19]), ([13, 20], [13, 20]), ([0, 3, 6, 9, 12, 21], [0, 3, 6, 9, 12, 21]), ([], []), ([23, 22, 0, 1, 2, 3, 4, 5, 6, 7, 8, 9, 10, 11, 12, 13, 14, 15, 16, 17, 18, 19, 20, 21, 22, 23], [22, 23])])
def hash_file_gnu.B12 : List Nat := [0, 0, 0, 6, 0, 0, 48, 0, 128, 384, 0, 1024, 3072, 0, 0, 0, 32768, 98304, 229376, 507904, 1032192, 2088960, 4194303, 0, 16777215]
theorem hash_file_gnu.tab12 : rtab .any (opsOf Try.f31 12) = hash_file_gnu.T12 := by kernel_rfl
theorem hash_file_gnu.bits12 : waitsOk hash_file_gnu.T12.2 hash_file_gnu.B12 = true := by kernel_rfl
set_option maxHeartbeats 8000000 in
set_option maxRecDepth 100000 in
theorem hash_file_gnu.calls (k : Nat) (P0_0_ : Nat → Prop) (A0_0 : Option Addr) (c0_0 : Nat) (l0_0 : List Int) (a0_1 : Int) (a0_2 : Int) (P0_3_ : Nat → Prop) (A0_3 : Option Addr) (c0_3 : Nat) (l0_3 : List (S29)) (a1 : Int) (r1 : List Int) (r2 : Int) (r3 : Int) (r4 : List (S29)) (r5 : List Int) (r6 : List Int) (r7 : Int) (r8 : Int) (r9 : Int) (r10 : Option Int) (w : World) (hs0_0 : Kd.V (Kd.int .u8) 5 w w.heap.size (fun k_ => P0_0_ k_) (.slice A0_0 l0_0.length c0_0) l0_0) (hs0_3 : Kd.V k29 29 w w.heap.size (fun k_ => P0_3_ k_) (.slice A0_3 l0_3.length c0_3) l0_3) (h : hash_file_gnu.f k l0_0 a0_1 a0_2 l0_3 a1 = some (r1, r2, r3, r4, r5, r6, r7, r8, r9, r10)) :
  Calls Try.prog 31 #[.agg #[.slice A0_0 l0_0.length c0_0, .int .i64 a0_1, .int .u64 a0_2, .slice A0_3 l0_3.length c0_3], .int .u64 a1] w fun e w' => ∃ v0_ v3_ v4_ v5_ : Value, e = .returned (.tuple #[.agg #[v0_, .int .i64 r2, .int .u64 r3, v3_, v4_, v5_, .int .u32 r7, .int .u32 r8, .int .u64 r9], errW r10]) ∧ Kd.V (Kd.int .u8) 5 w' w.heap.size (fun k_ => ((P0_0_ k_ ∨ P0_3_ k_) ∨ w.heap.size ≤ k_)) v0_ r1 ∧ Kd.V k29 29 w' w.heap.size (fun k_ => ((P0_0_ k_ ∨ P0_3_ k_) ∨ w.heap.size ≤ k_)) v3_ r4 ∧ Kd.V (Kd.int .u32) 26 w' w.heap.size (fun k_ => ((P0_0_ k_ ∨ P0_3_ k_) ∨ w.heap.size ≤ k_)) v4_ r5 ∧ Kd.V (Kd.int .u32) 26 w' w.heap.size (fun k_ => ((P0_0_ k_ ∨ P0_3_ k_) ∨ w.heap.size ≤ k_)) v5_ r6 ∧ Below w.heap.size w w' := by
 have hu86 := Try.underlying86
 have hu92 := Try.underlying92
 have hu41 := Try.underlying41
 have hu97 := Try.underlying97
 have HO0_0 := Aside0.mk (show Kd.V (Kd.int .u8) 5 w w.heap.size (fun k_ => ((P0_0_ k_ ∨ P0_3_ k_) ∨ w.heap.size ≤ k_)) (.slice A0_0 l0_0.length c0_0) l0_0 from Kd.V_mono hs0_0 (fun k_ hk => .inl (.inl hk)))
 have HO0_3 := Aside0.mk (show Kd.V k29 29 w w.heap.size (fun k_ => ((P0_0_ k_ ∨ P0_3_ k_) ∨ w.heap.size ≤ k_)) (.slice A0_3 l0_3.length c0_3) l0_3 from Kd.V_mono hs0_3 (fun k_ hk => .inl (.inr hk)))
 have HB := Aside0.mk (Below.refl w.heap.size w)
 have H : ((hash_file_words.f k l0_0 a0_1 a0_2 l0_3 a1 4).bind fun bt168 => (if bt168.2.isNone = true then (if 0 < (bt168.1.length : Int) then (if (rd bt168.1 0) = 0 then (hash_file_gnu.j0 k a1 bt168.1 true l0_0 a0_1 a0_2 l0_3) else (if 2 < (bt168.1.length : Int) then (if (rd bt168.1 2) = 0 then (hash_file_gnu.j0 k a1 bt168.1 true l0_0 a0_1 a0_2 l0_3) else ((bits_OnesCount32.f (rd bt168.1 2)).bind fun t176 => (if t176 = 1 then (if 3 < (bt168.1.length : Int) then (hash_file_gnu.j0 k a1 bt168.1 (decide ((rd bt168.1 3) > 31)) l0_0 a0_1 a0_2 l0_3) else (none)) else (hash_file_gnu.j0 k a1 bt168.1 true l0_0 a0_1 a0_2 l0_3)))) else (none))) else (none)) else (some (([] : List Int), 0, 0, ([] : List (S29)), ([] : List Int), ([] : List Int), 0, 0, 0, some (bt168.2.getD 0))))) = some (r1, r2, r3, r4, r5, r6, r7, r8, r9, r10) := h
 clear h
 replace H := Option.bind_eq_some_iff.mp H
 obtain ⟨⟨t168, t171⟩, A30, H⟩ := H
 replace H : (if t171.isNone = true then (if 0 < (t168.length : Int) then (if (rd t168 0) = 0 then (hash_file_gnu.j0 k a1 t168 true l0_0 a0_1 a0_2 l0_3) else (if 2 < (t168.length : Int) then (if (rd t168 2) = 0 then (hash_file_gnu.j0 k a1 t168 true l0_0 a0_1 a0_2 l0_3) else ((bits_OnesCount32.f (rd t168 2)).bind fun t176 => (if t176 = 1 then (if 3 < (t168.length : Int) then (hash_file_gnu.j0 k a1 t168 (decide ((rd t168 3) > 31)) l0_0 a0_1 a0_2 l0_3) else (none)) else (hash_file_gnu.j0 k a1 t168 true l0_0 a0_1 a0_2 l0_3)))) else (none))) else (none)) else (some (([] : List Int), 0, 0, ([] : List (S29)), ([] : List Int), ([] : List Int), 0, 0, 0, some (t171.getD 0)))) = some (r1, r2, r3, r4, r5, r6, r7, r8, r9, r10) := H
 have A3 := Aside0.mk A30
 clear A30
 rcases t171 with _ | q172
 ·have H1 : (if 0 < (t168.length : Int) then (if (rd t168 0) = 0 then (hash_file_gnu.j0 k a1 t168 true l0_0 a0_1 a0_2 l0_3) else (if 2 < (t168.length : Int) then (if (rd t168 2) = 0 then (hash_file_gnu.j0 k a1 t168 true l0_0 a0_1 a0_2 l0_3) else ((bits_OnesCount32.f (rd t168 2)).bind fun t176 => (if t176 = 1 then (if 3 < (t168.length : Int) then (hash_file_gnu.j0 k a1 t168 (decide ((rd t168 3) > 31)) l0_0 a0_1 a0_2 l0_3) else (none)) else (hash_file_gnu.j0 k a1 t168 true l0_0 a0_1 a0_2 l0_3)))) else (none))) else (none)) = some (r1, r2, r3, r4, r5, r6, r7, r8, r9, r10) := by rw [if_pos (show (none : Option Int).isNone = true by rfl)] at H; exact H
  clear H
  have H := H1
  clear H1
  try simp only [errW_none, errW_some]
  have HC4 := Aside0.mk H
  clear H
  go_enter Try.func31, Try.ntmps31
  go_upto_region 4 with (first | ((with_reducible refine gate_ (.load 92 (.tmp 4)) rfl ?_); refine wpList_load_row rfl 92 (.tmp 4) rfl gb167 rfl 92 _ (0, 0) _ (by (with_reducible repeat (first | refine blk_drewN ?_ _ | refine blk_drew ?_ | refine blk_alloc ?_ _)); exact BK167.out) Try.underlying92 rfl (by kernel_rfl) ?_) | ((with_reducible refine gate_dst (N := 2) rfl ?_); refine box_event ?hg (N := 2) ?hd (cs := #[.slice A0_0 l0_0.length c0_0, .int .i64 a0_1, .int .u64 a0_2, .slice A0_3 l0_3.length c0_3]) (t := 86) ?hr ?_; (case hd => rfl); (case hg => rfl); (case hr => first | (go_simp; done) | (go_simp; rfl)); intro gb166 hg w5 hbox hb; have n0_ := Aside0.mk (Kd.V_below (Kd.V_elderB (by (with_reducible repeat (first | apply Kd.V_alloc | apply Kd.V_drewN | apply Kd.V_drew)); exact HO0_0.out) gb166 (Nat.le_of_eq hg.symm)) hb); have n1_ := Aside0.mk (Kd.V_below (Kd.V_elderB (by (with_reducible repeat (first | apply Kd.V_alloc | apply Kd.V_drewN | apply Kd.V_drew)); exact HO0_3.out) gb166 (Nat.le_of_eq hg.symm)) hb); have n2_ := Aside0.mk (below_step (by repeat (first | (with_reducible first | exact HB.out | apply below_alloc | apply pw_below_drewN | apply below_drew1) | exact HB.out)) hb); have n3_ := Aside0.mk (hbox); have n4_ := Aside0.mk ((by rw [hg]; exact (below_size (by repeat (first | (with_reducible first | exact HB.out | apply below_alloc | apply pw_below_drewN | apply below_drew1) | exact HB.out))) : w.heap.size ≤ gb166)); have n5_ := Aside0.mk ((by rw [hg]; exact (below_size (by repeat (first | (with_reducible first | exact HB.out | apply below_alloc | apply pw_below_drewN | apply below_drew1) | exact HB.out))) : w.heap.size ≤ gb166)); clear HO0_0; clear HO0_3; clear HB; have HO0_0 := n0_; have HO0_3 := n1_; have HB := n2_; have BK166 := n3_; have GW166 := n4_; have GE166 := n5_; clear n0_ n1_ n2_ n3_ n4_ n5_; clear hb hbox hg) | ((with_reducible refine gate_dst (N := 4) rfl ?_); refine box_event ?hg (N := 4) ?hd (cs := #[.slice none 0 0, .int .i64 0, .int .u64 0, .slice none 0 0, .slice none 0 0, .slice none 0 0, .int .u32 0, .int .u32 0, .int .u64 0]) (t := 92) ?hr ?_; (case hd => rfl); (case hg => rfl); (case hr => first | (go_simp; done) | (go_simp; rfl)); intro gb167 hg w6 hbox hb; have n0_ := Aside0.mk (Kd.V_below (Kd.V_elderB (by (with_reducible repeat (first | apply Kd.V_alloc | apply Kd.V_drewN | apply Kd.V_drew)); exact HO0_0.out) gb167 (Nat.le_of_eq hg.symm)) hb); have n1_ := Aside0.mk (Kd.V_below (Kd.V_elderB (by (with_reducible repeat (first | apply Kd.V_alloc | apply Kd.V_drewN | apply Kd.V_drew)); exact HO0_3.out) gb167 (Nat.le_of_eq hg.symm)) hb); have n2_ := Aside0.mk (blk_below (g := gb166) (o := .cells #[.slice A0_0 l0_0.length c0_0, .int .i64 a0_1, .int .u64 a0_2, .slice A0_3 l0_3.length c0_3] 86 (0, 0)) (by (with_reducible repeat (first | refine blk_drewN ?_ _ | refine blk_drew ?_ | refine blk_alloc ?_ _)); exact BK166.out) hb); have n3_ := Aside0.mk (below_step (by repeat (first | (with_reducible first | exact HB.out | apply below_alloc | apply pw_below_drewN | apply below_drew1 | refine below_set ?_ GE166.out) | exact HB.out)) hb); have n4_ := Aside0.mk (hbox); have n5_ := Aside0.mk ((by rw [hg]; exact (below_size (by repeat (first | (with_reducible first | exact HB.out | apply below_alloc | apply pw_below_drewN | apply below_drew1 | refine below_set ?_ GE166.out) | exact HB.out))) : w.heap.size ≤ gb167)); have n6_ := Aside0.mk ((by rw [hg]; exact (below_size (by repeat (first | (with_reducible first | exact HB.out | apply below_alloc | apply pw_below_drewN | apply below_drew1 | refine below_set ?_ GE166.out) | exact HB.out))) : w.heap.size ≤ gb167)); have n7_ := Aside0.mk ((by rw [hg]; exact Nat.ne_of_lt (blk_lt (g := gb166) (o := .cells #[.slice A0_0 l0_0.length c0_0, .int .i64 a0_1, .int .u64 a0_2, .slice A0_3 l0_3.length c0_3] 86 (0, 0)) (by (with_reducible repeat (first | refine blk_drewN ?_ _ | refine blk_drew ?_ | refine blk_alloc ?_ _)); exact BK166.out)) : gb166 ≠ gb167)); have n8_ := Aside0.mk ((by rw [hg]; exact Nat.ne_of_gt (blk_lt (g := gb166) (o := .cells #[.slice A0_0 l0_0.length c0_0, .int .i64 a0_1, .int .u64 a0_2, .slice A0_3 l0_3.length c0_3] 86 (0, 0)) (by (with_reducible repeat (first | refine blk_drewN ?_ _ | refine blk_drew ?_ | refine blk_alloc ?_ _)); exact BK166.out)) : gb167 ≠ gb166)); clear HO0_0; clear HO0_3; clear BK166; clear HB; have HO0_0 := n0_; have HO0_3 := n1_; have BK166 := n2_; have HB := n3_; have BK167 := n4_; have GW167 := n5_; have GE167 := n6_; have NB166_167 := n7_; have NB167_166 := n8_; clear n0_ n1_ n2_ n3_ n4_ n5_ n6_ n7_ n8_; clear hb hbox hg; have hnb7 := NB166_167.out; have hnc7 := NB167_166.out; have hcz8_0 : w6.cell? ⟨gb166, 0, none⟩ = some (.slice A0_0 l0_0.length c0_0) := (blk_cell BK166.out 0).trans rfl; have hcz8_1 : w6.cell? ⟨gb166, 1, none⟩ = some (.int .i64 a0_1) := (blk_cell BK166.out 1).trans rfl; have hcz8_2 : w6.cell? ⟨gb166, 2, none⟩ = some (.int .u64 a0_2) := (blk_cell BK166.out 2).trans rfl; have hcz8_3 : w6.cell? ⟨gb166, 3, none⟩ = some (.slice A0_3 l0_3.length c0_3) := (blk_cell BK166.out 3).trans rfl; have hfz8_0 := blk_frozen BK166.out 0; have hfz8_1 := blk_frozen BK166.out 1; have hfz8_2 := blk_frozen BK166.out 2; have hfz8_3 := blk_frozen BK166.out 3) | ((with_reducible refine gate_callee (f := 52) rfl ?_); refine goesL_ (some 16) rfl rfl Try.func52 (by kernel_rfl) rfl #[.agg #[.slice A0_0 l0_0.length c0_0, .int .i64 a0_1, .int .u64 a0_2, .slice A0_3 l0_3.length c0_3], .int .u64 a1, .int .u64 4] rfl (by (try simp only [List.map_toArray, List.map_cons, List.map_nil]); first | done | rfl | (simp only [List.length_drop, List.length_take]; rfl)) ?_; (with_reducible refine (hash_file_words.calls k _ _ l0_0 a0_1 a0_2 _ _ l0_3 a1 4 t168 none _ ?side1 ?side2 ?side3 ?side4 A3.out).mono ?_); (case side1 => repeat (first | exact (Kd.V_reads' HO0_0.out).2.2 | (with_reducible refine Kd.C_alloc ?_ _) | (with_reducible refine Kd.C_drewN ?_ _) | (with_reducible refine Kd.C_drew ?_))); (case side2 => exact (Kd.V_reads' HO0_0.out).2.1); (case side3 => repeat (first | exact (Kd.V_reads' HO0_3.out).2.2 | (with_reducible refine Kd.C_alloc ?_ _) | (with_reducible refine Kd.C_drewN ?_ _) | (with_reducible refine Kd.C_drew ?_))); (case side4 => exact (Kd.V_reads' HO0_3.out).2.1); rintro e w9 ⟨v169, rfl, ho0, hb⟩; refine ⟨_, rfl, ?_⟩; have n0_ := Aside0.mk (Kd.V_below (by (with_reducible repeat (first | apply Kd.V_alloc | apply Kd.V_drewN | apply Kd.V_drew)); exact HO0_0.out) hb); have n1_ := Aside0.mk (Kd.V_below (by (with_reducible repeat (first | apply Kd.V_alloc | apply Kd.V_drewN | apply Kd.V_drew)); exact HO0_3.out) hb); have n2_ := Aside0.mk (Kd.V_lower (Kd.V_mono (ok' := fun k_ => ((P0_0_ k_ ∨ P0_3_ k_) ∨ w.heap.size ≤ k_) ∧ k_ ≠ gb166 ∧ k_ ≠ gb167) ho0 (fun k_ hk_ => ⟨(.inr (Nat.le_trans (below_size (by repeat (first | (with_reducible first | exact HB.out | apply below_alloc | apply pw_below_drewN | apply below_drew1 | refine below_set ?_ GE166.out | refine below_set ?_ GE167.out) | exact HB.out))) hk_)), (Kd.freshB (g := gb166) (o := .cells #[.slice A0_0 l0_0.length c0_0, .int .i64 a0_1, .int .u64 a0_2, .slice A0_3 l0_3.length c0_3] 86 (0, 0)) (by (with_reducible repeat (first | refine blk_drewN ?_ _ | refine blk_drew ?_ | refine blk_alloc ?_ _)); exact BK166.out) k_ hk_), (Kd.freshB (g := gb167) (o := .cells #[.slice none 0 0, .int .i64 0, .int .u64 0, .slice none 0 0, .slice none 0 0, .slice none 0 0, .int .u32 0, .int .u32 0, .int .u64 0] 92 (0, 0)) (by (with_reducible repeat (first | refine blk_drewN ?_ _ | refine blk_drew ?_ | refine blk_alloc ?_ _)); exact BK167.out) k_ hk_)⟩)) (below_size (by repeat (first | (with_reducible first | exact HB.out | apply below_alloc | apply pw_below_drewN | apply below_drew1 | refine below_set ?_ GE166.out | refine below_set ?_ GE167.out) | exact HB.out)))); have n3_ := Aside0.mk (blk_below (g := gb166) (o := .cells #[.slice A0_0 l0_0.length c0_0, .int .i64 a0_1, .int .u64 a0_2, .slice A0_3 l0_3.length c0_3] 86 (0, 0)) (by (with_reducible repeat (first | refine blk_drewN ?_ _ | refine blk_drew ?_ | refine blk_alloc ?_ _)); exact BK166.out) hb); have n4_ := Aside0.mk (blk_below (g := gb167) (o := .cells #[.slice none 0 0, .int .i64 0, .int .u64 0, .slice none 0 0, .slice none 0 0, .slice none 0 0, .int .u32 0, .int .u32 0, .int .u64 0] 92 (0, 0)) (by (with_reducible repeat (first | refine blk_drewN ?_ _ | refine blk_drew ?_ | refine blk_alloc ?_ _)); exact BK167.out) hb); have n5_ := Aside0.mk (below_step (by repeat (first | (with_reducible first | exact HB.out | apply below_alloc | apply pw_below_drewN | apply below_drew1 | refine below_set ?_ GE166.out | refine below_set ?_ GE167.out) | exact HB.out)) hb); clear HO0_0; clear HO0_3; clear BK166; clear BK167; clear HB; have HO0_0 := n0_; have HO0_3 := n1_; have HO170 := n2_; have BK166 := n3_; have BK167 := n4_; have HB := n5_; clear n0_ n1_ n2_ n3_ n4_ n5_; (try clear hb); (try clear hb2); (try clear hk); (try clear hi); (try clear ho0); (try simp only [errW_none, errW_some])))
  (try simp only [Act.put, List.setIfInBounds_toArray, List.set_cons_zero, List.set_cons_succ])
  go_cut [24] (fun v24 wc => ∃ (kq : Nat) (x24_3 : Bool), v24 = .bool x24_3 ∧ Aside0 (hash_file_gnu.j0 kq a1 t168 x24_3 l0_0 a0_1 a0_2 l0_3 = some (r1, r2, r3, r4, r5, r6, r7, r8, r9, r10)) ∧ Aside0 (kq ≤ k) ∧ Aside0 (Kd.V (Kd.int .u32) 26 wc w.heap.size (fun k_ => ((P0_0_ k_ ∨ P0_3_ k_) ∨ w.heap.size ≤ k_) ∧ k_ ≠ gb166 ∧ k_ ≠ gb167) v169 t168) ∧ Aside0 (Kd.V (Kd.int .u8) 5 wc w.heap.size (fun k_ => ((P0_0_ k_ ∨ P0_3_ k_) ∨ w.heap.size ≤ k_) ∧ k_ ≠ gb166 ∧ k_ ≠ gb167) (.slice A0_0 l0_0.length c0_0) l0_0) ∧ Aside0 (Kd.V k29 29 wc w.heap.size (fun k_ => ((P0_0_ k_ ∨ P0_3_ k_) ∨ w.heap.size ≤ k_) ∧ k_ ≠ gb166 ∧ k_ ≠ gb167) (.slice A0_3 l0_3.length c0_3) l0_3) ∧ Aside0 (wc.heap[gb166]? = some (.cells #[(.slice A0_0 l0_0.length c0_0), .int .i64 a0_1, .int .u64 a0_2, (.slice A0_3 l0_3.length c0_3)] 86 (0, 0))) ∧ Aside0 (wc.heap[gb167]? = some (.cells #[(.slice none 0 0), .int .i64 0, .int .u64 0, (.slice none 0 0), (.slice none 0 0), (.slice none 0 0), .int .u32 0, .int .u32 0, .int .u64 0] 92 (0, 0))) ∧ Aside0 (Below w.heap.size w wc))
  case first =>
   have H := HC4.out
   clear HC4
   by_cases c10 : 0 < (t168.length : Int)
   ·rw [if_pos c10] at H
    have c10b0 : decide (0 < (t168.length : Int)) = true := decide_eq_true c10
    have c10b1 : decide (0 < t168.length) = true := decide_eq_true (by omega)
    clear c10
    (first | rw [c10b0] | (simp only [i64_w, i32_w]; rw [c10b0]) | skip)
    by_cases c11 : (rd t168 0) = 0
    ·rw [if_pos c11] at H
     have c11b0 : ((rd t168 0) == 0) = true := beq_iff_eq.mpr c11
     have c11b1 : ((rd t168 0) != 0) = false := bne_eq_false_iff_eq.mpr c11
     clear c11
     have H' := Aside0.mk H
     clear H
     obtain ⟨Ao12, co12, eo12⟩ := Kd.V_slice HO170.out
     subst eo12
     have p173 : 0 ≤ (0 : Int) := (by omega)
     have q173 : 0 < (t168.length : Int) := of_decide_eq_true (by assumption)
     obtain ⟨ad173, e173, hx173_0⟩ := Kd.at_int (Kd.V_reads' HO170.out).2.2 0 p173 q173
     cases e173
     have qi173 : (0 < t168.length) = True := eq_true (by omega)
     (try rw [show ((0 : Int)).toNat = 0 from rfl] at hx173_0)
     (try rw [Addr.add_zero'] at hx173_0)
     replace p173 := eq_true p173
     replace q173 := eq_true q173
     go_wp2
     go_meet
     case rel => exact ⟨_, (true), (by first | rfl | (simp; done) | (simp [*]; done)), H', ⟨by first | omega | exact Nat.le_refl _⟩, ⟨by (with_reducible repeat (first | apply Kd.V_alloc | apply Kd.V_drewN | apply Kd.V_drew)); exact HO170.out⟩, ⟨by (with_reducible repeat (first | apply Kd.V_alloc | apply Kd.V_drewN | apply Kd.V_drew)); exact Kd.V_mono HO0_0.out (fun _ hk => ⟨hk.1.1, ⟨hk.1.2, hk.2⟩⟩)⟩, ⟨by (with_reducible repeat (first | apply Kd.V_alloc | apply Kd.V_drewN | apply Kd.V_drew)); exact Kd.V_mono HO0_3.out (fun _ hk => ⟨hk.1.1, ⟨hk.1.2, hk.2⟩⟩)⟩, ⟨by (with_reducible repeat (first | refine blk_drewN ?_ _ | refine blk_drew ?_ | refine blk_alloc ?_ _)); exact BK166.out⟩, ⟨by (with_reducible repeat (first | refine blk_drewN ?_ _ | refine blk_drew ?_ | refine blk_alloc ?_ _)); exact BK167.out⟩, ⟨by repeat (first | (with_reducible first | exact HB.out | apply below_alloc | apply pw_below_drewN | apply below_drew1 | refine below_set ?_ GE166.out | refine below_set ?_ GE167.out) | exact HB.out)⟩⟩
    ·rw [if_neg c11] at H
     have c11b0 : ((rd t168 0) == 0) = false := beq_eq_false_iff_ne.mpr c11
     have c11b1 : ((rd t168 0) != 0) = true := bne_iff_ne.mpr c11
     by_cases c13 : 2 < (t168.length : Int)
     ·rw [if_pos c13] at H
      have c13b0 : decide (2 < (t168.length : Int)) = true := decide_eq_true c13
      have c13b1 : decide (2 < t168.length) = true := decide_eq_true (by omega)
      clear c13
      by_cases c14 : (rd t168 2) = 0
      ·rw [if_pos c14] at H
       have c14b0 : ((rd t168 2) == 0) = true := beq_iff_eq.mpr c14
       have c14b1 : ((rd t168 2) != 0) = false := bne_eq_false_iff_eq.mpr c14
       clear c14
       have H' := Aside0.mk H
       clear H
       obtain ⟨Ao15, co15, eo15⟩ := Kd.V_slice HO170.out
       subst eo15
       have p173 : 0 ≤ (0 : Int) := (by omega)
       have q173 : 0 < (t168.length : Int) := of_decide_eq_true (by assumption)
       obtain ⟨ad173, e173, hx173_0⟩ := Kd.at_int (Kd.V_reads' HO170.out).2.2 0 p173 q173
       cases e173
       have qi173 : (0 < t168.length) = True := eq_true (by omega)
       (try rw [show ((0 : Int)).toNat = 0 from rfl] at hx173_0)
       (try rw [Addr.add_zero'] at hx173_0)
       replace p173 := eq_true p173
       replace q173 := eq_true q173
       have p174 : 0 ≤ (2 : Int) := (by omega)
       have q174 : 2 < (t168.length : Int) := of_decide_eq_true (by assumption)
       obtain ⟨ad174, e174, hx174_0⟩ := Kd.at_int (Kd.V_reads' HO170.out).2.2 2 p174 q174
       obtain rfl : ad173 = ad174 := (by injection e174)
       (try simp only [show (2 : Int).toNat = 2 from rfl, Nat.reduceMul, Nat.reduceEqDiff, Go.Addr.add, ↓reduceIte] at hx174_0)
       have qi174 : (2 < t168.length) = True := eq_true (by omega)
       (try rw [show ((2 : Int)).toNat = 2 from rfl] at hx174_0)
       replace p174 := eq_true p174
       replace q174 := eq_true q174
       go_wp2
       go_meet
       case rel => exact ⟨_, (true), (by first | rfl | (simp; done) | (simp [*]; done)), H', ⟨by first | omega | exact Nat.le_refl _⟩, ⟨by (with_reducible repeat (first | apply Kd.V_alloc | apply Kd.V_drewN | apply Kd.V_drew)); exact HO170.out⟩, ⟨by (with_reducible repeat (first | apply Kd.V_alloc | apply Kd.V_drewN | apply Kd.V_drew)); exact Kd.V_mono HO0_0.out (fun _ hk => ⟨hk.1.1, ⟨hk.1.2, hk.2⟩⟩)⟩, ⟨by (with_reducible repeat (first | apply Kd.V_alloc | apply Kd.V_drewN | apply Kd.V_drew)); exact Kd.V_mono HO0_3.out (fun _ hk => ⟨hk.1.1, ⟨hk.1.2, hk.2⟩⟩)⟩, ⟨by (with_reducible repeat (first | refine blk_drewN ?_ _ | refine blk_drew ?_ | refine blk_alloc ?_ _)); exact BK166.out⟩, ⟨by (with_reducible repeat (first | refine blk_drewN ?_ _ | refine blk_drew ?_ | refine blk_alloc ?_ _)); exact BK167.out⟩, ⟨by repeat (first | (with_reducible first | exact HB.out | apply below_alloc | apply pw_below_drewN | apply below_drew1 | refine below_set ?_ GE166.out | refine below_set ?_ GE167.out) | exact HB.out)⟩⟩
      ·rw [if_neg c14] at H
       have c14b0 : ((rd t168 2) == 0) = false := beq_eq_false_iff_ne.mpr c14
       have c14b1 : ((rd t168 2) != 0) = true := bne_iff_ne.mpr c14
       replace H := Option.bind_eq_some_iff.mp H
       obtain ⟨t176, A160, H⟩ := H
       replace H : (if t176 = 1 then (if 3 < (t168.length : Int) then (hash_file_gnu.j0 k a1 t168 (decide ((rd t168 3) > 31)) l0_0 a0_1 a0_2 l0_3) else (none)) else (hash_file_gnu.j0 k a1 t168 true l0_0 a0_1 a0_2 l0_3)) = some (r1, r2, r3, r4, r5, r6, r7, r8, r9, r10) := H
       have A16 := Aside0.mk A160
       clear A160
       by_cases c17 : t176 = 1
       ·rw [if_pos c17] at H
        have c17b0 : (t176 == 1) = true := beq_iff_eq.mpr c17
        have c17b1 : (t176 != 1) = false := bne_eq_false_iff_eq.mpr c17
        clear c17
        by_cases c18 : 3 < (t168.length : Int)
        ·rw [if_pos c18] at H
         have c18b0 : decide (3 < (t168.length : Int)) = true := decide_eq_true c18
         have c18b1 : decide (3 < t168.length) = true := decide_eq_true (by omega)
         clear c18
         have H' := Aside0.mk H
         clear H
         obtain ⟨Ao19, co19, eo19⟩ := Kd.V_slice HO170.out
         subst eo19
         have p173 : 0 ≤ (0 : Int) := (by omega)
         have q173 : 0 < (t168.length : Int) := of_decide_eq_true (by assumption)
         obtain ⟨ad173, e173, hx173_0⟩ := Kd.at_int (Kd.V_reads' HO170.out).2.2 0 p173 q173
         cases e173
         have qi173 : (0 < t168.length) = True := eq_true (by omega)
         (try rw [show ((0 : Int)).toNat = 0 from rfl] at hx173_0)
         (try rw [Addr.add_zero'] at hx173_0)
         replace p173 := eq_true p173
         replace q173 := eq_true q173
         have p174 : 0 ≤ (2 : Int) := (by omega)
         have q174 : 2 < (t168.length : Int) := of_decide_eq_true (by assumption)
         obtain ⟨ad174, e174, hx174_0⟩ := Kd.at_int (Kd.V_reads' HO170.out).2.2 2 p174 q174
         obtain rfl : ad173 = ad174 := (by injection e174)
         (try simp only [show (2 : Int).toNat = 2 from rfl, Nat.reduceMul, Nat.reduceEqDiff, Go.Addr.add, ↓reduceIte] at hx174_0)
         have qi174 : (2 < t168.length) = True := eq_true (by omega)
         (try rw [show ((2 : Int)).toNat = 2 from rfl] at hx174_0)
         replace p174 := eq_true p174
         replace q174 := eq_true q174
         have p175 : 0 ≤ (2 : Int) := (by omega)
         have q175 : 2 < (t168.length : Int) := of_decide_eq_true (by assumption)
         obtain ⟨ad175, e175, hx175_0⟩ := Kd.at_int (Kd.V_reads' HO170.out).2.2 2 p175 q175
         obtain rfl : ad173 = ad175 := (by injection e175)
         (try simp only [show (2 : Int).toNat = 2 from rfl, Nat.reduceMul, Nat.reduceEqDiff, Go.Addr.add, ↓reduceIte] at hx175_0)
         have qi175 : (2 < t168.length) = True := eq_true (by omega)
         (try rw [show ((2 : Int)).toNat = 2 from rfl] at hx175_0)
         replace p175 := eq_true p175
         replace q175 := eq_true q175
         go_wp2_with (first | ((with_reducible refine gate_ (.load 92 (.tmp 4)) rfl ?_); refine wpList_load_row rfl 92 (.tmp 4) rfl gb167 rfl 92 _ (0, 0) _ (by (with_reducible repeat (first | refine blk_drewN ?_ _ | refine blk_drew ?_ | refine blk_alloc ?_ _)); exact BK167.out) Try.underlying92 rfl (by kernel_rfl) ?_) | (go_at_call 53; (with_reducible refine (bits_OnesCount32.calls (rd t168 2) t176 _ A16.out).mono ?_); rintro e w' ⟨rfl, ⟨nd, rfl⟩⟩; have p177 : 0 ≤ (3 : Int) := (by omega); have q177 : 3 < (t168.length : Int) := of_decide_eq_true (by assumption); obtain ⟨ad177, e177, hx177_0⟩ := Kd.at_int (Kd.V_reads' HO170.out).2.2 3 p177 q177; obtain rfl : ad173 = ad177 := (by injection e177); (try simp only [show (3 : Int).toNat = 3 from rfl, Nat.reduceMul, Nat.reduceEqDiff, Go.Addr.add, ↓reduceIte] at hx177_0); have qi177 : (3 < t168.length) = True := eq_true (by omega); (try rw [show ((3 : Int)).toNat = 3 from rfl] at hx177_0); replace p177 := eq_true p177; replace q177 := eq_true q177))
         go_meet
         case rel => exact ⟨_, (decide ((rd t168 3) > 31)), (by first | rfl | (simp; done) | (simp [*]; done)), H', ⟨by first | omega | exact Nat.le_refl _⟩, ⟨by (with_reducible repeat (first | apply Kd.V_alloc | apply Kd.V_drewN | apply Kd.V_drew)); exact HO170.out⟩, ⟨by (with_reducible repeat (first | apply Kd.V_alloc | apply Kd.V_drewN | apply Kd.V_drew)); exact Kd.V_mono HO0_0.out (fun _ hk => ⟨hk.1.1, ⟨hk.1.2, hk.2⟩⟩)⟩, ⟨by (with_reducible repeat (first | apply Kd.V_alloc | apply Kd.V_drewN | apply Kd.V_drew)); exact Kd.V_mono HO0_3.out (fun _ hk => ⟨hk.1.1, ⟨hk.1.2, hk.2⟩⟩)⟩, ⟨by (with_reducible repeat (first | refine blk_drewN ?_ _ | refine blk_drew ?_ | refine blk_alloc ?_ _)); exact BK166.out⟩, ⟨by (with_reducible repeat (first | refine blk_drewN ?_ _ | refine blk_drew ?_ | refine blk_alloc ?_ _)); exact BK167.out⟩, ⟨by repeat (first | (with_reducible first | exact HB.out | apply below_alloc | apply pw_below_drewN | apply below_drew1 | refine below_set ?_ GE166.out | refine below_set ?_ GE167.out) | exact HB.out)⟩⟩
        ·rw [if_neg c18] at H
         exact absurd H (by simp)
       ·rw [if_neg c17] at H
        have c17b0 : (t176 == 1) = false := beq_eq_false_iff_ne.mpr c17
        have c17b1 : (t176 != 1) = true := bne_iff_ne.mpr c17
        have H' := Aside0.mk H
        clear H
        obtain ⟨Ao20, co20, eo20⟩ := Kd.V_slice HO170.out
        subst eo20
        have p173 : 0 ≤ (0 : Int) := (by omega)
        have q173 : 0 < (t168.length : Int) := of_decide_eq_true (by assumption)
        obtain ⟨ad173, e173, hx173_0⟩ := Kd.at_int (Kd.V_reads' HO170.out).2.2 0 p173 q173
        cases e173
        have qi173 : (0 < t168.length) = True := eq_true (by omega)
        (try rw [show ((0 : Int)).toNat = 0 from rfl] at hx173_0)
        (try rw [Addr.add_zero'] at hx173_0)
        replace p173 := eq_true p173
        replace q173 := eq_true q173
        have p174 : 0 ≤ (2 : Int) := (by omega)
        have q174 : 2 < (t168.length : Int) := of_decide_eq_true (by assumption)
        obtain ⟨ad174, e174, hx174_0⟩ := Kd.at_int (Kd.V_reads' HO170.out).2.2 2 p174 q174
        obtain rfl : ad173 = ad174 := (by injection e174)
        (try simp only [show (2 : Int).toNat = 2 from rfl, Nat.reduceMul, Nat.reduceEqDiff, Go.Addr.add, ↓reduceIte] at hx174_0)
        have qi174 : (2 < t168.length) = True := eq_true (by omega)
        (try rw [show ((2 : Int)).toNat = 2 from rfl] at hx174_0)
        replace p174 := eq_true p174
        replace q174 := eq_true q174
        have p175 : 0 ≤ (2 : Int) := (by omega)
        have q175 : 2 < (t168.length : Int) := of_decide_eq_true (by assumption)
        obtain ⟨ad175, e175, hx175_0⟩ := Kd.at_int (Kd.V_reads' HO170.out).2.2 2 p175 q175
        obtain rfl : ad173 = ad175 := (by injection e175)
        (try simp only [show (2 : Int).toNat = 2 from rfl, Nat.reduceMul, Nat.reduceEqDiff, Go.Addr.add, ↓reduceIte] at hx175_0)
        have qi175 : (2 < t168.length) = True := eq_true (by omega)
        (try rw [show ((2 : Int)).toNat = 2 from rfl] at hx175_0)
        replace p175 := eq_true p175
        replace q175 := eq_true q175
        go_wp2_with (first | ((with_reducible refine gate_ (.load 92 (.tmp 4)) rfl ?_); refine wpList_load_row rfl 92 (.tmp 4) rfl gb167 rfl 92 _ (0, 0) _ (by (with_reducible repeat (first | refine blk_drewN ?_ _ | refine blk_drew ?_ | refine blk_alloc ?_ _)); exact BK167.out) Try.underlying92 rfl (by kernel_rfl) ?_) | (go_at_call 53; (with_reducible refine (bits_OnesCount32.calls (rd t168 2) t176 _ A16.out).mono ?_); rintro e w' ⟨rfl, ⟨nd, rfl⟩⟩))
        go_meet
        case rel => exact ⟨_, (true), (by first | rfl | (simp; done) | (simp [*]; done)), H', ⟨by first | omega | exact Nat.le_refl _⟩, ⟨by (with_reducible repeat (first | apply Kd.V_alloc | apply Kd.V_drewN | apply Kd.V_drew)); exact HO170.out⟩, ⟨by (with_reducible repeat (first | apply Kd.V_alloc | apply Kd.V_drewN | apply Kd.V_drew)); exact Kd.V_mono HO0_0.out (fun _ hk => ⟨hk.1.1, ⟨hk.1.2, hk.2⟩⟩)⟩, ⟨by (with_reducible repeat (first | apply Kd.V_alloc | apply Kd.V_drewN | apply Kd.V_drew)); exact Kd.V_mono HO0_3.out (fun _ hk => ⟨hk.1.1, ⟨hk.1.2, hk.2⟩⟩)⟩, ⟨by (with_reducible repeat (first | refine blk_drewN ?_ _ | refine blk_drew ?_ | refine blk_alloc ?_ _)); exact BK166.out⟩, ⟨by (with_reducible repeat (first | refine blk_drewN ?_ _ | refine blk_drew ?_ | refine blk_alloc ?_ _)); exact BK167.out⟩, ⟨by repeat (first | (with_reducible first | exact HB.out | apply below_alloc | apply pw_below_drewN | apply below_drew1 | refine below_set ?_ GE166.out | refine below_set ?_ GE167.out) | exact HB.out)⟩⟩
     ·rw [if_neg c13] at H
      exact absurd H (by simp)
   ·rw [if_neg c10] at H
    exact absurd H (by simp)
  case rest =>
   clear HC4
   try clear c1
   try clear p1
   try clear q1
   try clear hx1
   try clear qi1
   try clear p2
   try clear c3
   try clear c5
   try clear c7
   try clear c10
   try clear c10b0
   try clear c10b1
   try clear c11
   try clear c11b0
   try clear c11b1
   try clear c13
   try clear c13b0
   try clear c13b1
   try clear c14
   try clear c14b0
   try clear c14b1
   try clear c17
   try clear c17b0
   try clear c17b1
   try clear p17
   try clear q17
   try clear hx17
   try clear qi17
   try clear c18
   try clear c18b0
   try clear c18b1
   try clear hcz8_0
   try clear hcz8_1
   try clear hcz8_2
   try clear hcz8_3
   try clear hfz8_0
   try clear hfz8_1
   try clear hfz8_2
   try clear hfz8_3
   try clear hx173_0
   try clear hx174_0
   try clear hx175_0
   try clear hx177_0
   try clear p173
   try clear p174
   try clear p175
   try clear p177
   try clear q172
   try clear q173
   try clear q174
   try clear q175
   try clear q177
   obtain ⟨kq, x24_3, rfl, HA, HJ3, HO_6, HO_167000, HO_167003, BK166, BK167, HB⟩ := hcut
   cases kq with
   | zero => exact absurd HA.out (by simp [hash_file_gnu.j0])
   | succ kj3 =>
    have H := HA.out
    clear HA
    simp only [hash_file_gnu.j0] at H
    by_cases c21 : x24_3 = true
    ·subst c21
     have H1 : (some (([] : List Int), 0, 0, ([] : List (S29)), ([] : List Int), ([] : List Int), 0, 0, 0, some 3)) = some (r1, r2, r3, r4, r5, r6, r7, r8, r9, r10) := by rw [if_pos rfl] at H; exact H
     clear H
     have H := H1
     clear H1
     simp only [Option.some.injEq, Prod.mk.injEq] at H
     obtain ⟨rfl, rfl, rfl, rfl, rfl, rfl, rfl, rfl, rfl, rfl⟩ := H
     have hnb22 := NB167_166.out
     have hnc22 := NB166_167.out
     have hcz23_0 : wc.cell? ⟨gb167, 0, none⟩ = some (.slice none 0 0) := (blk_cell BK167.out 0).trans rfl
     have hcz23_1 : wc.cell? ⟨gb167, 1, none⟩ = some (.int .i64 0) := (blk_cell BK167.out 1).trans rfl
     have hcz23_2 : wc.cell? ⟨gb167, 2, none⟩ = some (.int .u64 0) := (blk_cell BK167.out 2).trans rfl
     have hcz23_3 : wc.cell? ⟨gb167, 3, none⟩ = some (.slice none 0 0) := (blk_cell BK167.out 3).trans rfl
     have hcz23_4 : wc.cell? ⟨gb167, 4, none⟩ = some (.slice none 0 0) := (blk_cell BK167.out 4).trans rfl
     have hcz23_5 : wc.cell? ⟨gb167, 5, none⟩ = some (.slice none 0 0) := (blk_cell BK167.out 5).trans rfl
     have hcz23_6 : wc.cell? ⟨gb167, 6, none⟩ = some (.int .u32 0) := (blk_cell BK167.out 6).trans rfl
     have hcz23_7 : wc.cell? ⟨gb167, 7, none⟩ = some (.int .u32 0) := (blk_cell BK167.out 7).trans rfl
     have hcz23_8 : wc.cell? ⟨gb167, 8, none⟩ = some (.int .u64 0) := (blk_cell BK167.out 8).trans rfl
     have hfz23_0 := blk_frozen BK167.out 0
     have hfz23_1 := blk_frozen BK167.out 1
     have hfz23_2 := blk_frozen BK167.out 2
     have hfz23_3 := blk_frozen BK167.out 3
     have hfz23_4 := blk_frozen BK167.out 4
     have hfz23_5 := blk_frozen BK167.out 5
     have hfz23_6 := blk_frozen BK167.out 6
     have hfz23_7 := blk_frozen BK167.out 7
     have hfz23_8 := blk_frozen BK167.out 8
     go_wp2
     refine bodyPost_ret (results_ct rfl _ _ gb167 92 #[.slice none 0 0, .int .i64 0, .int .u64 0, .slice none 0 0, .slice none 0 0, .slice none 0 0, .int .u32 0, .int .u32 0, .int .u64 0] (0, 0) _ rfl (by (with_reducible repeat (first | refine blk_drewN ?_ _ | refine blk_drew ?_ | refine blk_alloc ?_ _)); refine blk_put (cs := #[.slice none 0 0, .int .i64 0, .int .u64 0, .slice none 0 0, .slice none 0 0, .slice none 0 0, .int .u32 0, .int .u32 0, .int .u64 0]) ?_ 8 _ rfl; (with_reducible repeat (first | refine blk_drewN ?_ _ | refine blk_drew ?_ | refine blk_alloc ?_ _)); refine blk_put (cs := #[.slice none 0 0, .int .i64 0, .int .u64 0, .slice none 0 0, .slice none 0 0, .slice none 0 0, .int .u32 0, .int .u32 0, .int .u64 0]) ?_ 7 _ rfl; (with_reducible repeat (first | refine blk_drewN ?_ _ | refine blk_drew ?_ | refine blk_alloc ?_ _)); refine blk_put (cs := #[.slice none 0 0, .int .i64 0, .int .u64 0, .slice none 0 0, .slice none 0 0, .slice none 0 0, .int .u32 0, .int .u32 0, .int .u64 0]) ?_ 6 _ rfl; (with_reducible repeat (first | refine blk_drewN ?_ _ | refine blk_drew ?_ | refine blk_alloc ?_ _)); refine blk_put (cs := #[.slice none 0 0, .int .i64 0, .int .u64 0, .slice none 0 0, .slice none 0 0, .slice none 0 0, .int .u32 0, .int .u32 0, .int .u64 0]) ?_ 5 _ rfl; (with_reducible repeat (first | refine blk_drewN ?_ _ | refine blk_drew ?_ | refine blk_alloc ?_ _)); refine blk_put (cs := #[.slice none 0 0, .int .i64 0, .int .u64 0, .slice none 0 0, .slice none 0 0, .slice none 0 0, .int .u32 0, .int .u32 0, .int .u64 0]) ?_ 4 _ rfl; (with_reducible repeat (first | refine blk_drewN ?_ _ | refine blk_drew ?_ | refine blk_alloc ?_ _)); refine blk_put (cs := #[.slice none 0 0, .int .i64 0, .int .u64 0, .slice none 0 0, .slice none 0 0, .slice none 0 0, .int .u32 0, .int .u32 0, .int .u64 0]) ?_ 3 _ rfl; (with_reducible repeat (first | refine blk_drewN ?_ _ | refine blk_drew ?_ | refine blk_alloc ?_ _)); refine blk_put (cs := #[.slice none 0 0, .int .i64 0, .int .u64 0, .slice none 0 0, .slice none 0 0, .slice none 0 0, .int .u32 0, .int .u32 0, .int .u64 0]) ?_ 2 _ rfl; (with_reducible repeat (first | refine blk_drewN ?_ _ | refine blk_drew ?_ | refine blk_alloc ?_ _)); refine blk_put (cs := #[.slice none 0 0, .int .i64 0, .int .u64 0, .slice none 0 0, .slice none 0 0, .slice none 0 0, .int .u32 0, .int .u32 0, .int .u64 0]) ?_ 1 _ rfl; (with_reducible repeat (first | refine blk_drewN ?_ _ | refine blk_drew ?_ | refine blk_alloc ?_ _)); refine blk_put (cs := #[.slice none 0 0, .int .i64 0, .int .u64 0, .slice none 0 0, .slice none 0 0, .slice none 0 0, .int .u32 0, .int .u32 0, .int .u64 0]) ?_ 0 _ rfl; (with_reducible repeat (first | refine blk_drewN ?_ _ | refine blk_drew ?_ | refine blk_alloc ?_ _)); exact BK167.out) Try.underlying92 rfl (by kernel_rfl)) rfl ?_
     exact ⟨_, _, _, _, by first | rfl | (simp [errW_none, errW_some] <;> rfl) | (simp [*, errW_none, errW_some] <;> rfl), Kd.V_nil _ _ _ _ _, Kd.V_nil _ _ _ _ _, Kd.V_nil _ _ _ _ _, Kd.V_nil _ _ _ _ _, by repeat (first | (with_reducible first | exact HB.out | apply below_alloc | apply pw_below_drewN | apply below_drew1 | refine below_set ?_ GE166.out | refine below_set ?_ GE167.out) | exact HB.out)⟩
    ·replace c21 := Bool.eq_false_iff.mpr c21
     subst c21
     have H1 : (if 0 < (t168.length : Int) then (if (rd t168 0) > 4096 then (some (([] : List Int), 0, 0, ([] : List (S29)), ([] : List Int), ([] : List Int), 0, 0, 0, some 2)) else (if 1 < (t168.length : Int) then (if (rd t168 1) > 4096 then (some (([] : List Int), 0, 0, ([] : List (S29)), ([] : List Int), ([] : List Int), 0, 0, 0, some 2)) else (if 2 < (t168.length : Int) then (if (rd t168 2) > 4096 then (some (([] : List Int), 0, 0, ([] : List (S29)), ([] : List Int), ([] : List Int), 0, 0, 0, some 2)) else ((hash_file_words.f kj3 l0_0 a0_1 a0_2 l0_3 a1 (IntKind.u64.wrap ((IntKind.u64.wrap (4 + (IntKind.u64.wrap (2 * (IntKind.u64.wrap (rd t168 2)))))) + (IntKind.u64.wrap (rd t168 0))))).bind fun bt183 => (if bt183.2.isNone = true then (if 4 ≤ (IntKind.u64.wrap (4 + (IntKind.u64.wrap (2 * (IntKind.u64.wrap (rd t168 2)))))) then (if (IntKind.u64.wrap (4 + (IntKind.u64.wrap (2 * (IntKind.u64.wrap (rd t168 2)))))) ≤ (bt183.1.length : Int) then (if 0 ≤ (IntKind.u64.wrap (4 + (IntKind.u64.wrap (2 * (IntKind.u64.wrap (rd t168 2)))))) then ((some (bt183.1.drop ((IntKind.u64.wrap (4 + (IntKind.u64.wrap (2 * (IntKind.u64.wrap (rd t168 2)))))) : Int).toNat : List Int)).bind fun y193 => (if 3 < (t168.length : Int) then (hash_file_gnu.l0 kj3 y193 (y193.length : Int) 0 l0_0 a0_1 a0_2 l0_3 ((bt183.1.take ((IntKind.u64.wrap (4 + (IntKind.u64.wrap (2 * (IntKind.u64.wrap (rd t168 2)))))) : Int).toNat).drop 4) y193 (rd t168 1) (rd t168 3) (IntKind.u64.wrap (a1 + (IntKind.u64.wrap (4 * (IntKind.u64.wrap ((IntKind.u64.wrap (4 + (IntKind.u64.wrap (2 * (IntKind.u64.wrap (rd t168 2)))))) + (IntKind.u64.wrap (rd t168 0))))))))) else (none))) else (none)) else (none)) else (none)) else (some (([] : List Int), 0, 0, ([] : List (S29)), ([] : List Int), ([] : List Int), 0, 0, 0, some (bt183.2.getD 0)))))) else (none))) else (none))) else (none)) = some (r1, r2, r3, r4, r5, r6, r7, r8, r9, r10) := by rw [if_neg (show ¬ (false = true) by decide)] at H; exact H
     clear H
     have H := H1
     clear H1
     by_cases c24 : 0 < (t168.length : Int)
     ·rw [if_pos c24] at H
      have c24b0 : decide (0 < (t168.length : Int)) = true := decide_eq_true c24
      have c24b1 : decide (0 < t168.length) = true := decide_eq_true (by omega)
      clear c24
      by_cases c25 : (rd t168 0) > 4096
      ·rw [if_pos c25] at H
       have c25b0 : decide (4096 < (rd t168 0)) = true := decide_eq_true c25
       clear c25
       simp only [Option.some.injEq, Prod.mk.injEq] at H
       obtain ⟨rfl, rfl, rfl, rfl, rfl, rfl, rfl, rfl, rfl, rfl⟩ := H
       obtain ⟨Ao26, co26, eo26⟩ := Kd.V_slice HO_6.out
       subst eo26
       have p178 : 0 ≤ (0 : Int) := (by omega)
       have q178 : 0 < (t168.length : Int) := of_decide_eq_true (by assumption)
       obtain ⟨ad178, e178, hx178_0⟩ := Kd.at_int (Kd.V_reads' HO_6.out).2.2 0 p178 q178
       cases e178
       have qi178 : (0 < t168.length) = True := eq_true (by omega)
       (try rw [show ((0 : Int)).toNat = 0 from rfl] at hx178_0)
       (try rw [Addr.add_zero'] at hx178_0)
       replace p178 := eq_true p178
       replace q178 := eq_true q178
       have hnb27 := NB167_166.out
       have hnc27 := NB166_167.out
       have hcz28_0 : wc.cell? ⟨gb167, 0, none⟩ = some (.slice none 0 0) := (blk_cell BK167.out 0).trans rfl
       have hcz28_1 : wc.cell? ⟨gb167, 1, none⟩ = some (.int .i64 0) := (blk_cell BK167.out 1).trans rfl
       have hcz28_2 : wc.cell? ⟨gb167, 2, none⟩ = some (.int .u64 0) := (blk_cell BK167.out 2).trans rfl
       have hcz28_3 : wc.cell? ⟨gb167, 3, none⟩ = some (.slice none 0 0) := (blk_cell BK167.out 3).trans rfl
       have hcz28_4 : wc.cell? ⟨gb167, 4, none⟩ = some (.slice none 0 0) := (blk_cell BK167.out 4).trans rfl
       have hcz28_5 : wc.cell? ⟨gb167, 5, none⟩ = some (.slice none 0 0) := (blk_cell BK167.out 5).trans rfl
       have hcz28_6 : wc.cell? ⟨gb167, 6, none⟩ = some (.int .u32 0) := (blk_cell BK167.out 6).trans rfl
       have hcz28_7 : wc.cell? ⟨gb167, 7, none⟩ = some (.int .u32 0) := (blk_cell BK167.out 7).trans rfl
       have hcz28_8 : wc.cell? ⟨gb167, 8, none⟩ = some (.int .u64 0) := (blk_cell BK167.out 8).trans rfl
       have hfz28_0 := blk_frozen BK167.out 0
       have hfz28_1 := blk_frozen BK167.out 1
       have hfz28_2 := blk_frozen BK167.out 2
       have hfz28_3 := blk_frozen BK167.out 3
       have hfz28_4 := blk_frozen BK167.out 4
       have hfz28_5 := blk_frozen BK167.out 5
       have hfz28_6 := blk_frozen BK167.out 6
       have hfz28_7 := blk_frozen BK167.out 7
       have hfz28_8 := blk_frozen BK167.out 8
       go_wp2
       refine bodyPost_ret (results_ct rfl _ _ gb167 92 #[.slice none 0 0, .int .i64 0, .int .u64 0, .slice none 0 0, .slice none 0 0, .slice none 0 0, .int .u32 0, .int .u32 0, .int .u64 0] (0, 0) _ rfl (by (with_reducible repeat (first | refine blk_drewN ?_ _ | refine blk_drew ?_ | refine blk_alloc ?_ _)); refine blk_put (cs := #[.slice none 0 0, .int .i64 0, .int .u64 0, .slice none 0 0, .slice none 0 0, .slice none 0 0, .int .u32 0, .int .u32 0, .int .u64 0]) ?_ 8 _ rfl; (with_reducible repeat (first | refine blk_drewN ?_ _ | refine blk_drew ?_ | refine blk_alloc ?_ _)); refine blk_put (cs := #[.slice none 0 0, .int .i64 0, .int .u64 0, .slice none 0 0, .slice none 0 0, .slice none 0 0, .int .u32 0, .int .u32 0, .int .u64 0]) ?_ 7 _ rfl; (with_reducible repeat (first | refine blk_drewN ?_ _ | refine blk_drew ?_ | refine blk_alloc ?_ _)); refine blk_put (cs := #[.slice none 0 0, .int .i64 0, .int .u64 0, .slice none 0 0, .slice none 0 0, .slice none 0 0, .int .u32 0, .int .u32 0, .int .u64 0]) ?_ 6 _ rfl; (with_reducible repeat (first | refine blk_drewN ?_ _ | refine blk_drew ?_ | refine blk_alloc ?_ _)); refine blk_put (cs := #[.slice none 0 0, .int .i64 0, .int .u64 0, .slice none 0 0, .slice none 0 0, .slice none 0 0, .int .u32 0, .int .u32 0, .int .u64 0]) ?_ 5 _ rfl; (with_reducible repeat (first | refine blk_drewN ?_ _ | refine blk_drew ?_ | refine blk_alloc ?_ _)); refine blk_put (cs := #[.slice none 0 0, .int .i64 0, .int .u64 0, .slice none 0 0, .slice none 0 0, .slice none 0 0, .int .u32 0, .int .u32 0, .int .u64 0]) ?_ 4 _ rfl; (with_reducible repeat (first | refine blk_drewN ?_ _ | refine blk_drew ?_ | refine blk_alloc ?_ _)); refine blk_put (cs := #[.slice none 0 0, .int .i64 0, .int .u64 0, .slice none 0 0, .slice none 0 0, .slice none 0 0, .int .u32 0, .int .u32 0, .int .u64 0]) ?_ 3 _ rfl; (with_reducible repeat (first | refine blk_drewN ?_ _ | refine blk_drew ?_ | refine blk_alloc ?_ _)); refine blk_put (cs := #[.slice none 0 0, .int .i64 0, .int .u64 0, .slice none 0 0, .slice none 0 0, .slice none 0 0, .int .u32 0, .int .u32 0, .int .u64 0]) ?_ 2 _ rfl; (with_reducible repeat (first | refine blk_drewN ?_ _ | refine blk_drew ?_ | refine blk_alloc ?_ _)); refine blk_put (cs := #[.slice none 0 0, .int .i64 0, .int .u64 0, .slice none 0 0, .slice none 0 0, .slice none 0 0, .int .u32 0, .int .u32 0, .int .u64 0]) ?_ 1 _ rfl; (with_reducible repeat (first | refine blk_drewN ?_ _ | refine blk_drew ?_ | refine blk_alloc ?_ _)); refine blk_put (cs := #[.slice none 0 0, .int .i64 0, .int .u64 0, .slice none 0 0, .slice none 0 0, .slice none 0 0, .int .u32 0, .int .u32 0, .int .u64 0]) ?_ 0 _ rfl; (with_reducible repeat (first | refine blk_drewN ?_ _ | refine blk_drew ?_ | refine blk_alloc ?_ _)); exact BK167.out) Try.underlying92 rfl (by kernel_rfl)) rfl ?_
       exact ⟨_, _, _, _, by first | rfl | (simp [errW_none, errW_some] <;> rfl) | (simp [*, errW_none, errW_some] <;> rfl), Kd.V_nil _ _ _ _ _, Kd.V_nil _ _ _ _ _, Kd.V_nil _ _ _ _ _, Kd.V_nil _ _ _ _ _, by repeat (first | (with_reducible first | exact HB.out | apply below_alloc | apply pw_below_drewN | apply below_drew1 | refine below_set ?_ GE166.out | refine below_set ?_ GE167.out) | exact HB.out)⟩
      ·rw [if_neg c25] at H
       have c25b0 : decide (4096 < (rd t168 0)) = false := decide_eq_false c25
       clear c25
       by_cases c29 : 1 < (t168.length : Int)
       ·rw [if_pos c29] at H
        have c29b0 : decide (1 < (t168.length : Int)) = true := decide_eq_true c29
        have c29b1 : decide (1 < t168.length) = true := decide_eq_true (by omega)
        clear c29
        by_cases c30 : (rd t168 1) > 4096
        ·rw [if_pos c30] at H
         have c30b0 : decide (4096 < (rd t168 1)) = true := decide_eq_true c30
         clear c30
         simp only [Option.some.injEq, Prod.mk.injEq] at H
         obtain ⟨rfl, rfl, rfl, rfl, rfl, rfl, rfl, rfl, rfl, rfl⟩ := H
         obtain ⟨Ao31, co31, eo31⟩ := Kd.V_slice HO_6.out
         subst eo31
         have p178 : 0 ≤ (0 : Int) := (by omega)
         have q178 : 0 < (t168.length : Int) := of_decide_eq_true (by assumption)
         obtain ⟨ad178, e178, hx178_0⟩ := Kd.at_int (Kd.V_reads' HO_6.out).2.2 0 p178 q178
         cases e178
         have qi178 : (0 < t168.length) = True := eq_true (by omega)
         (try rw [show ((0 : Int)).toNat = 0 from rfl] at hx178_0)
         (try rw [Addr.add_zero'] at hx178_0)
         replace p178 := eq_true p178
         replace q178 := eq_true q178
         have p179 : 0 ≤ (1 : Int) := (by omega)
         have q179 : 1 < (t168.length : Int) := of_decide_eq_true (by assumption)
         obtain ⟨ad179, e179, hx179_0⟩ := Kd.at_int (Kd.V_reads' HO_6.out).2.2 1 p179 q179
         obtain rfl : ad178 = ad179 := (by injection e179)
         (try simp only [show (1 : Int).toNat = 1 from rfl, Nat.reduceMul, Nat.reduceEqDiff, Go.Addr.add, ↓reduceIte] at hx179_0)
         have qi179 : (1 < t168.length) = True := eq_true (by omega)
         (try rw [show ((1 : Int)).toNat = 1 from rfl] at hx179_0)
         replace p179 := eq_true p179
         replace q179 := eq_true q179
         have hnb32 := NB167_166.out
         have hnc32 := NB166_167.out
         have hcz33_0 : wc.cell? ⟨gb167, 0, none⟩ = some (.slice none 0 0) := (blk_cell BK167.out 0).trans rfl
         have hcz33_1 : wc.cell? ⟨gb167, 1, none⟩ = some (.int .i64 0) := (blk_cell BK167.out 1).trans rfl
         have hcz33_2 : wc.cell? ⟨gb167, 2, none⟩ = some (.int .u64 0) := (blk_cell BK167.out 2).trans rfl
         have hcz33_3 : wc.cell? ⟨gb167, 3, none⟩ = some (.slice none 0 0) := (blk_cell BK167.out 3).trans rfl
         have hcz33_4 : wc.cell? ⟨gb167, 4, none⟩ = some (.slice none 0 0) := (blk_cell BK167.out 4).trans rfl
         have hcz33_5 : wc.cell? ⟨gb167, 5, none⟩ = some (.slice none 0 0) := (blk_cell BK167.out 5).trans rfl
         have hcz33_6 : wc.cell? ⟨gb167, 6, none⟩ = some (.int .u32 0) := (blk_cell BK167.out 6).trans rfl
         have hcz33_7 : wc.cell? ⟨gb167, 7, none⟩ = some (.int .u32 0) := (blk_cell BK167.out 7).trans rfl
         have hcz33_8 : wc.cell? ⟨gb167, 8, none⟩ = some (.int .u64 0) := (blk_cell BK167.out 8).trans rfl
         have hfz33_0 := blk_frozen BK167.out 0
         have hfz33_1 := blk_frozen BK167.out 1
         have hfz33_2 := blk_frozen BK167.out 2
         have hfz33_3 := blk_frozen BK167.out 3
         have hfz33_4 := blk_frozen BK167.out 4
         have hfz33_5 := blk_frozen BK167.out 5
         have hfz33_6 := blk_frozen BK167.out 6
         have hfz33_7 := blk_frozen BK167.out 7
         have hfz33_8 := blk_frozen BK167.out 8
         go_wp2
         refine bodyPost_ret (results_ct rfl _ _ gb167 92 #[.slice none 0 0, .int .i64 0, .int .u64 0, .slice none 0 0, .slice none 0 0, .slice none 0 0, .int .u32 0, .int .u32 0, .int .u64 0] (0, 0) _ rfl (by (with_reducible repeat (first | refine blk_drewN ?_ _ | refine blk_drew ?_ | refine blk_alloc ?_ _)); refine blk_put (cs := #[.slice none 0 0, .int .i64 0, .int .u64 0, .slice none 0 0, .slice none 0 0, .slice none 0 0, .int .u32 0, .int .u32 0, .int .u64 0]) ?_ 8 _ rfl; (with_reducible repeat (first | refine blk_drewN ?_ _ | refine blk_drew ?_ | refine blk_alloc ?_ _)); refine blk_put (cs := #[.slice none 0 0, .int .i64 0, .int .u64 0, .slice none 0 0, .slice none 0 0, .slice none 0 0, .int .u32 0, .int .u32 0, .int .u64 0]) ?_ 7 _ rfl; (with_reducible repeat (first | refine blk_drewN ?_ _ | refine blk_drew ?_ | refine blk_alloc ?_ _)); refine blk_put (cs := #[.slice none 0 0, .int .i64 0, .int .u64 0, .slice none 0 0, .slice none 0 0, .slice none 0 0, .int .u32 0, .int .u32 0, .int .u64 0]) ?_ 6 _ rfl; (with_reducible repeat (first | refine blk_drewN ?_ _ | refine blk_drew ?_ | refine blk_alloc ?_ _)); refine blk_put (cs := #[.slice none 0 0, .int .i64 0, .int .u64 0, .slice none 0 0, .slice none 0 0, .slice none 0 0, .int .u32 0, .int .u32 0, .int .u64 0]) ?_ 5 _ rfl; (with_reducible repeat (first | refine blk_drewN ?_ _ | refine blk_drew ?_ | refine blk_alloc ?_ _)); refine blk_put (cs := #[.slice none 0 0, .int .i64 0, .int .u64 0, .slice none 0 0, .slice none 0 0, .slice none 0 0, .int .u32 0, .int .u32 0, .int .u64 0]) ?_ 4 _ rfl; (with_reducible repeat (first | refine blk_drewN ?_ _ | refine blk_drew ?_ | refine blk_alloc ?_ _)); refine blk_put (cs := #[.slice none 0 0, .int .i64 0, .int .u64 0, .slice none 0 0, .slice none 0 0, .slice none 0 0, .int .u32 0, .int .u32 0, .int .u64 0]) ?_ 3 _ rfl; (with_reducible repeat (first | refine blk_drewN ?_ _ | refine blk_drew ?_ | refine blk_alloc ?_ _)); refine blk_put (cs := #[.slice none 0 0, .int .i64 0, .int .u64 0, .slice none 0 0, .slice none 0 0, .slice none 0 0, .int .u32 0, .int .u32 0, .int .u64 0]) ?_ 2 _ rfl; (with_reducible repeat (first | refine blk_drewN ?_ _ | refine blk_drew ?_ | refine blk_alloc ?_ _)); refine blk_put (cs := #[.slice none 0 0, .int .i64 0, .int .u64 0, .slice none 0 0, .slice none 0 0, .slice none 0 0, .int .u32 0, .int .u32 0, .int .u64 0]) ?_ 1 _ rfl; (with_reducible repeat (first | refine blk_drewN ?_ _ | refine blk_drew ?_ | refine blk_alloc ?_ _)); refine blk_put (cs := #[.slice none 0 0, .int .i64 0, .int .u64 0, .slice none 0 0, .slice none 0 0, .slice none 0 0, .int .u32 0, .int .u32 0, .int .u64 0]) ?_ 0 _ rfl; (with_reducible repeat (first | refine blk_drewN ?_ _ | refine blk_drew ?_ | refine blk_alloc ?_ _)); exact BK167.out) Try.underlying92 rfl (by kernel_rfl)) rfl ?_
         exact ⟨_, _, _, _, by first | rfl | (simp [errW_none, errW_some] <;> rfl) | (simp [*, errW_none, errW_some] <;> rfl), Kd.V_nil _ _ _ _ _, Kd.V_nil _ _ _ _ _, Kd.V_nil _ _ _ _ _, Kd.V_nil _ _ _ _ _, by repeat (first | (with_reducible first | exact HB.out | apply below_alloc | apply pw_below_drewN | apply below_drew1 | refine below_set ?_ GE166.out | refine below_set ?_ GE167.out) | exact HB.out)⟩
        ·rw [if_neg c30] at H
         have c30b0 : decide (4096 < (rd t168 1)) = false := decide_eq_false c30
         clear c30
         by_cases c34 : 2 < (t168.length : Int)
         ·rw [if_pos c34] at H
          have c34b0 : decide (2 < (t168.length : Int)) = true := decide_eq_true c34
          have c34b1 : decide (2 < t168.length) = true := decide_eq_true (by omega)
          clear c34
          by_cases c35 : (rd t168 2) > 4096
          ·rw [if_pos c35] at H
           have c35b0 : decide (4096 < (rd t168 2)) = true := decide_eq_true c35
           clear c35
           simp only [Option.some.injEq, Prod.mk.injEq] at H
           obtain ⟨rfl, rfl, rfl, rfl, rfl, rfl, rfl, rfl, rfl, rfl⟩ := H
           obtain ⟨Ao36, co36, eo36⟩ := Kd.V_slice HO_6.out
           subst eo36
           have p178 : 0 ≤ (0 : Int) := (by omega)
           have q178 : 0 < (t168.length : Int) := of_decide_eq_true (by assumption)
           obtain ⟨ad178, e178, hx178_0⟩ := Kd.at_int (Kd.V_reads' HO_6.out).2.2 0 p178 q178
           cases e178
           have qi178 : (0 < t168.length) = True := eq_true (by omega)
           (try rw [show ((0 : Int)).toNat = 0 from rfl] at hx178_0)
           (try rw [Addr.add_zero'] at hx178_0)
           replace p178 := eq_true p178
           replace q178 := eq_true q178
           have p179 : 0 ≤ (1 : Int) := (by omega)
           have q179 : 1 < (t168.length : Int) := of_decide_eq_true (by assumption)
           obtain ⟨ad179, e179, hx179_0⟩ := Kd.at_int (Kd.V_reads' HO_6.out).2.2 1 p179 q179
           obtain rfl : ad178 = ad179 := (by injection e179)
           (try simp only [show (1 : Int).toNat = 1 from rfl, Nat.reduceMul, Nat.reduceEqDiff, Go.Addr.add, ↓reduceIte] at hx179_0)
           have qi179 : (1 < t168.length) = True := eq_true (by omega)
           (try rw [show ((1 : Int)).toNat = 1 from rfl] at hx179_0)
           replace p179 := eq_true p179
           replace q179 := eq_true q179
           have p180 : 0 ≤ (2 : Int) := (by omega)
           have q180 : 2 < (t168.length : Int) := of_decide_eq_true (by assumption)
           obtain ⟨ad180, e180, hx180_0⟩ := Kd.at_int (Kd.V_reads' HO_6.out).2.2 2 p180 q180
           obtain rfl : ad178 = ad180 := (by injection e180)
           (try simp only [show (2 : Int).toNat = 2 from rfl, Nat.reduceMul, Nat.reduceEqDiff, Go.Addr.add, ↓reduceIte] at hx180_0)
           have qi180 : (2 < t168.length) = True := eq_true (by omega)
           (try rw [show ((2 : Int)).toNat = 2 from rfl] at hx180_0)
           replace p180 := eq_true p180
           replace q180 := eq_true q180
           have hnb37 := NB167_166.out
           have hnc37 := NB166_167.out
           have hcz38_0 : wc.cell? ⟨gb167, 0, none⟩ = some (.slice none 0 0) := (blk_cell BK167.out 0).trans rfl
           have hcz38_1 : wc.cell? ⟨gb167, 1, none⟩ = some (.int .i64 0) := (blk_cell BK167.out 1).trans rfl
           have hcz38_2 : wc.cell? ⟨gb167, 2, none⟩ = some (.int .u64 0) := (blk_cell BK167.out 2).trans rfl
           have hcz38_3 : wc.cell? ⟨gb167, 3, none⟩ = some (.slice none 0 0) := (blk_cell BK167.out 3).trans rfl
           have hcz38_4 : wc.cell? ⟨gb167, 4, none⟩ = some (.slice none 0 0) := (blk_cell BK167.out 4).trans rfl
           have hcz38_5 : wc.cell? ⟨gb167, 5, none⟩ = some (.slice none 0 0) := (blk_cell BK167.out 5).trans rfl
           have hcz38_6 : wc.cell? ⟨gb167, 6, none⟩ = some (.int .u32 0) := (blk_cell BK167.out 6).trans rfl
           have hcz38_7 : wc.cell? ⟨gb167, 7, none⟩ = some (.int .u32 0) := (blk_cell BK167.out 7).trans rfl
           have hcz38_8 : wc.cell? ⟨gb167, 8, none⟩ = some (.int .u64 0) := (blk_cell BK167.out 8).trans rfl
           have hfz38_0 := blk_frozen BK167.out 0
           have hfz38_1 := blk_frozen BK167.out 1
           have hfz38_2 := blk_frozen BK167.out 2
           have hfz38_3 := blk_frozen BK167.out 3
           have hfz38_4 := blk_frozen BK167.out 4
           have hfz38_5 := blk_frozen BK167.out 5
           have hfz38_6 := blk_frozen BK167.out 6
           have hfz38_7 := blk_frozen BK167.out 7
           have hfz38_8 := blk_frozen BK167.out 8
           go_wp2
           refine bodyPost_ret (results_ct rfl _ _ gb167 92 #[.slice none 0 0, .int .i64 0, .int .u64 0, .slice none 0 0, .slice none 0 0, .slice none 0 0, .int .u32 0, .int .u32 0, .int .u64 0] (0, 0) _ rfl (by (with_reducible repeat (first | refine blk_drewN ?_ _ | refine blk_drew ?_ | refine blk_alloc ?_ _)); refine blk_put (cs := #[.slice none 0 0, .int .i64 0, .int .u64 0, .slice none 0 0, .slice none 0 0, .slice none 0 0, .int .u32 0, .int .u32 0, .int .u64 0]) ?_ 8 _ rfl; (with_reducible repeat (first | refine blk_drewN ?_ _ | refine blk_drew ?_ | refine blk_alloc ?_ _)); refine blk_put (cs := #[.slice none 0 0, .int .i64 0, .int .u64 0, .slice none 0 0, .slice none 0 0, .slice none 0 0, .int .u32 0, .int .u32 0, .int .u64 0]) ?_ 7 _ rfl; (with_reducible repeat (first | refine blk_drewN ?_ _ | refine blk_drew ?_ | refine blk_alloc ?_ _)); refine blk_put (cs := #[.slice none 0 0, .int .i64 0, .int .u64 0, .slice none 0 0, .slice none 0 0, .slice none 0 0, .int .u32 0, .int .u32 0, .int .u64 0]) ?_ 6 _ rfl; (with_reducible repeat (first | refine blk_drewN ?_ _ | refine blk_drew ?_ | refine blk_alloc ?_ _)); refine blk_put (cs := #[.slice none 0 0, .int .i64 0, .int .u64 0, .slice none 0 0, .slice none 0 0, .slice none 0 0, .int .u32 0, .int .u32 0, .int .u64 0]) ?_ 5 _ rfl; (with_reducible repeat (first | refine blk_drewN ?_ _ | refine blk_drew ?_ | refine blk_alloc ?_ _)); refine blk_put (cs := #[.slice none 0 0, .int .i64 0, .int .u64 0, .slice none 0 0, .slice none 0 0, .slice none 0 0, .int .u32 0, .int .u32 0, .int .u64 0]) ?_ 4 _ rfl; (with_reducible repeat (first | refine blk_drewN ?_ _ | refine blk_drew ?_ | refine blk_alloc ?_ _)); refine blk_put (cs := #[.slice none 0 0, .int .i64 0, .int .u64 0, .slice none 0 0, .slice none 0 0, .slice none 0 0, .int .u32 0, .int .u32 0, .int .u64 0]) ?_ 3 _ rfl; (with_reducible repeat (first | refine blk_drewN ?_ _ | refine blk_drew ?_ | refine blk_alloc ?_ _)); refine blk_put (cs := #[.slice none 0 0, .int .i64 0, .int .u64 0, .slice none 0 0, .slice none 0 0, .slice none 0 0, .int .u32 0, .int .u32 0, .int .u64 0]) ?_ 2 _ rfl; (with_reducible repeat (first | refine blk_drewN ?_ _ | refine blk_drew ?_ | refine blk_alloc ?_ _)); refine blk_put (cs := #[.slice none 0 0, .int .i64 0, .int .u64 0, .slice none 0 0, .slice none 0 0, .slice none 0 0, .int .u32 0, .int .u32 0, .int .u64 0]) ?_ 1 _ rfl; (with_reducible repeat (first | refine blk_drewN ?_ _ | refine blk_drew ?_ | refine blk_alloc ?_ _)); refine blk_put (cs := #[.slice none 0 0, .int .i64 0, .int .u64 0, .slice none 0 0, .slice none 0 0, .slice none 0 0, .int .u32 0, .int .u32 0, .int .u64 0]) ?_ 0 _ rfl; (with_reducible repeat (first | refine blk_drewN ?_ _ | refine blk_drew ?_ | refine blk_alloc ?_ _)); exact BK167.out) Try.underlying92 rfl (by kernel_rfl)) rfl ?_
           exact ⟨_, _, _, _, by first | rfl | (simp [errW_none, errW_some] <;> rfl) | (simp [*, errW_none, errW_some] <;> rfl), Kd.V_nil _ _ _ _ _, Kd.V_nil _ _ _ _ _, Kd.V_nil _ _ _ _ _, Kd.V_nil _ _ _ _ _, by repeat (first | (with_reducible first | exact HB.out | apply below_alloc | apply pw_below_drewN | apply below_drew1 | refine below_set ?_ GE166.out | refine below_set ?_ GE167.out) | exact HB.out)⟩
          ·rw [if_neg c35] at H
           have c35b0 : decide (4096 < (rd t168 2)) = false := decide_eq_false c35
           clear c35
           replace H := Option.bind_eq_some_iff.mp H
           obtain ⟨⟨t183, t186⟩, A390, H⟩ := H
           replace H : (if t186.isNone = true then (if 4 ≤ (IntKind.u64.wrap (4 + (IntKind.u64.wrap (2 * (IntKind.u64.wrap (rd t168 2)))))) then (if (IntKind.u64.wrap (4 + (IntKind.u64.wrap (2 * (IntKind.u64.wrap (rd t168 2)))))) ≤ (t183.length : Int) then (if 0 ≤ (IntKind.u64.wrap (4 + (IntKind.u64.wrap (2 * (IntKind.u64.wrap (rd t168 2)))))) then ((some (t183.drop ((IntKind.u64.wrap (4 + (IntKind.u64.wrap (2 * (IntKind.u64.wrap (rd t168 2)))))) : Int).toNat : List Int)).bind fun y193 => (if 3 < (t168.length : Int) then (hash_file_gnu.l0 kj3 y193 (y193.length : Int) 0 l0_0 a0_1 a0_2 l0_3 ((t183.take ((IntKind.u64.wrap (4 + (IntKind.u64.wrap (2 * (IntKind.u64.wrap (rd t168 2)))))) : Int).toNat).drop 4) y193 (rd t168 1) (rd t168 3) (IntKind.u64.wrap (a1 + (IntKind.u64.wrap (4 * (IntKind.u64.wrap ((IntKind.u64.wrap (4 + (IntKind.u64.wrap (2 * (IntKind.u64.wrap (rd t168 2)))))) + (IntKind.u64.wrap (rd t168 0))))))))) else (none))) else (none)) else (none)) else (none)) else (some (([] : List Int), 0, 0, ([] : List (S29)), ([] : List Int), ([] : List Int), 0, 0, 0, some (t186.getD 0)))) = some (r1, r2, r3, r4, r5, r6, r7, r8, r9, r10) := H
           have A39 := Aside0.mk A390
           clear A390
           rcases t186 with _ | q187
           ·have H1 : (if 4 ≤ (IntKind.u64.wrap (4 + (IntKind.u64.wrap (2 * (IntKind.u64.wrap (rd t168 2)))))) then (if (IntKind.u64.wrap (4 + (IntKind.u64.wrap (2 * (IntKind.u64.wrap (rd t168 2)))))) ≤ (t183.length : Int) then (if 0 ≤ (IntKind.u64.wrap (4 + (IntKind.u64.wrap (2 * (IntKind.u64.wrap (rd t168 2)))))) then ((some (t183.drop ((IntKind.u64.wrap (4 + (IntKind.u64.wrap (2 * (IntKind.u64.wrap (rd t168 2)))))) : Int).toNat : List Int)).bind fun y193 => (if 3 < (t168.length : Int) then (hash_file_gnu.l0 kj3 y193 (y193.length : Int) 0 l0_0 a0_1 a0_2 l0_3 ((t183.take ((IntKind.u64.wrap (4 + (IntKind.u64.wrap (2 * (IntKind.u64.wrap (rd t168 2)))))) : Int).toNat).drop 4) y193 (rd t168 1) (rd t168 3) (IntKind.u64.wrap (a1 + (IntKind.u64.wrap (4 * (IntKind.u64.wrap ((IntKind.u64.wrap (4 + (IntKind.u64.wrap (2 * (IntKind.u64.wrap (rd t168 2)))))) + (IntKind.u64.wrap (rd t168 0))))))))) else (none))) else (none)) else (none)) else (none)) = some (r1, r2, r3, r4, r5, r6, r7, r8, r9, r10) := by rw [if_pos (show (none : Option Int).isNone = true by rfl)] at H; exact H
            clear H
            have H := H1
            clear H1
            try simp only [errW_none, errW_some]
            by_cases c40 : 4 ≤ (IntKind.u64.wrap (4 + (IntKind.u64.wrap (2 * (IntKind.u64.wrap (rd t168 2))))))
            ·rw [if_pos c40] at H
             have c40b0 := eq_true c40
             have c40b1 : decide (4 ≤ (IntKind.u64.wrap (4 + (IntKind.u64.wrap (2 * (IntKind.u64.wrap (rd t168 2))))))) = true := decide_eq_true c40
             by_cases c41 : (IntKind.u64.wrap (4 + (IntKind.u64.wrap (2 * (IntKind.u64.wrap (rd t168 2)))))) ≤ (t183.length : Int)
             ·rw [if_pos c41] at H
              have c41b0 := eq_true c41
              have c41b1 : decide ((IntKind.u64.wrap (4 + (IntKind.u64.wrap (2 * (IntKind.u64.wrap (rd t168 2)))))) ≤ (t183.length : Int)) = true := decide_eq_true c41
              obtain ⟨y188, hy188⟩ : ∃ y_ : List Int, y_ = ((t183.take ((IntKind.u64.wrap (4 + (IntKind.u64.wrap (2 * (IntKind.u64.wrap (rd t168 2)))))) : Int).toNat).drop 4) := ⟨_, rfl⟩
              replace H : (if 0 ≤ (IntKind.u64.wrap (4 + (IntKind.u64.wrap (2 * (IntKind.u64.wrap (rd t168 2)))))) then ((some (t183.drop ((IntKind.u64.wrap (4 + (IntKind.u64.wrap (2 * (IntKind.u64.wrap (rd t168 2)))))) : Int).toNat : List Int)).bind fun y193 => (if 3 < (t168.length : Int) then (hash_file_gnu.l0 kj3 y193 (y193.length : Int) 0 l0_0 a0_1 a0_2 l0_3 y188 y193 (rd t168 1) (rd t168 3) (IntKind.u64.wrap (a1 + (IntKind.u64.wrap (4 * (IntKind.u64.wrap ((IntKind.u64.wrap (4 + (IntKind.u64.wrap (2 * (IntKind.u64.wrap (rd t168 2)))))) + (IntKind.u64.wrap (rd t168 0))))))))) else (none))) else (none)) = some (r1, r2, r3, r4, r5, r6, r7, r8, r9, r10) := by first | (rw [hy188]; with_reducible exact H) | (have H2_ := (Option.bind_some _ _).symm.trans H; rw [hy188]; with_reducible exact H2_) | (have H2_ := (Option.bind_some _ _).symm.trans H; with_reducible exact H2_) | with_reducible exact H | (rw [hy188]; exact H) | exact H
              have Ny188 := Aside0.mk hy188
              clear hy188
              obtain ⟨ji42, hji42⟩ : ∃ j_ : Int, (IntKind.u64.wrap (4 + (IntKind.u64.wrap (2 * (IntKind.u64.wrap (rd t168 2)))))) = j_ := ⟨_, rfl⟩
              replace H : (if 0 ≤ (ji42) then ((some (t183.drop ((ji42) : Int).toNat : List Int)).bind fun y193 => (if 3 < (t168.length : Int) then (hash_file_gnu.l0 kj3 y193 (y193.length : Int) 0 l0_0 a0_1 a0_2 l0_3 y188 y193 (rd t168 1) (rd t168 3) (IntKind.u64.wrap (a1 + (IntKind.u64.wrap (4 * (IntKind.u64.wrap ((ji42) + (IntKind.u64.wrap (rd t168 0))))))))) else (none))) else (none)) = some (r1, r2, r3, r4, r5, r6, r7, r8, r9, r10) := by first | (rw [hji42] at H; exact H) | (simp only [hji42] at H ⊢; exact H)
              (try rw [hji42] at c40b0)
              (try rw [hji42] at c40b1)
              (try rw [hji42] at c40)
              (try rw [hji42] at c41b0)
              (try rw [hji42] at c41b1)
              (try rw [hji42] at c41)
              (try rw [hji42] at A39)
              (try rw [hji42] at Ny188)
              by_cases c43 : 0 ≤ (ji42)
              ·rw [if_pos c43] at H
               have c43b0 := eq_true c43
               have c43b1 : decide (0 ≤ (ji42)) = true := decide_eq_true c43
               clear c43
               have c44b0 := eq_true (of_decide_eq_true (by assumption) : (ji42) ≤ (t183.length : Int))
               obtain ⟨y193, hy193⟩ : ∃ y_ : List Int, y_ = (t183.drop ((ji42) : Int).toNat) := ⟨_, rfl⟩
               replace H : (if 3 < (t168.length : Int) then (hash_file_gnu.l0 kj3 y193 (y193.length : Int) 0 l0_0 a0_1 a0_2 l0_3 y188 y193 (rd t168 1) (rd t168 3) (IntKind.u64.wrap (a1 + (IntKind.u64.wrap (4 * (IntKind.u64.wrap ((ji42) + (IntKind.u64.wrap (rd t168 0))))))))) else (none)) = some (r1, r2, r3, r4, r5, r6, r7, r8, r9, r10) := by first | (rw [hy193]; with_reducible exact H) | (have H2_ := (Option.bind_some _ _).symm.trans H; rw [hy193]; with_reducible exact H2_) | (have H2_ := (Option.bind_some _ _).symm.trans H; with_reducible exact H2_) | with_reducible exact H | (rw [hy193]; exact H) | exact H
               have Ny193 := Aside0.mk hy193
               clear hy193
               by_cases c45 : 3 < (t168.length : Int)
               ·rw [if_pos c45] at H
                have c45b0 : decide (3 < (t168.length : Int)) = true := decide_eq_true c45
                have c45b1 : decide (3 < t168.length) = true := decide_eq_true (by omega)
                clear c45
                have H' := Aside0.mk H
                clear H
                obtain ⟨Ao46, co46, eo46⟩ := Kd.V_slice HO_6.out
                subst eo46
                have p178 : 0 ≤ (0 : Int) := (by omega)
                have q178 : 0 < (t168.length : Int) := of_decide_eq_true (by assumption)
                obtain ⟨ad178, e178, hx178_0⟩ := Kd.at_int (Kd.V_reads' HO_6.out).2.2 0 p178 q178
                cases e178
                have qi178 : (0 < t168.length) = True := eq_true (by omega)
                (try rw [show ((0 : Int)).toNat = 0 from rfl] at hx178_0)
                (try rw [Addr.add_zero'] at hx178_0)
                replace p178 := eq_true p178
                replace q178 := eq_true q178
                have p179 : 0 ≤ (1 : Int) := (by omega)
                have q179 : 1 < (t168.length : Int) := of_decide_eq_true (by assumption)
                obtain ⟨ad179, e179, hx179_0⟩ := Kd.at_int (Kd.V_reads' HO_6.out).2.2 1 p179 q179
                obtain rfl : ad178 = ad179 := (by injection e179)
                (try simp only [show (1 : Int).toNat = 1 from rfl, Nat.reduceMul, Nat.reduceEqDiff, Go.Addr.add, ↓reduceIte] at hx179_0)
                have qi179 : (1 < t168.length) = True := eq_true (by omega)
                (try rw [show ((1 : Int)).toNat = 1 from rfl] at hx179_0)
                replace p179 := eq_true p179
                replace q179 := eq_true q179
                have p180 : 0 ≤ (2 : Int) := (by omega)
                have q180 : 2 < (t168.length : Int) := of_decide_eq_true (by assumption)
                obtain ⟨ad180, e180, hx180_0⟩ := Kd.at_int (Kd.V_reads' HO_6.out).2.2 2 p180 q180
                obtain rfl : ad178 = ad180 := (by injection e180)
                (try simp only [show (2 : Int).toNat = 2 from rfl, Nat.reduceMul, Nat.reduceEqDiff, Go.Addr.add, ↓reduceIte] at hx180_0)
                have qi180 : (2 < t168.length) = True := eq_true (by omega)
                (try rw [show ((2 : Int)).toNat = 2 from rfl] at hx180_0)
                replace p180 := eq_true p180
                replace q180 := eq_true q180
                have p181 : 0 ≤ (2 : Int) := (by omega)
                have q181 : 2 < (t168.length : Int) := of_decide_eq_true (by assumption)
                obtain ⟨ad181, e181, hx181_0⟩ := Kd.at_int (Kd.V_reads' HO_6.out).2.2 2 p181 q181
                obtain rfl : ad178 = ad181 := (by injection e181)
                (try simp only [show (2 : Int).toNat = 2 from rfl, Nat.reduceMul, Nat.reduceEqDiff, Go.Addr.add, ↓reduceIte] at hx181_0)
                have qi181 : (2 < t168.length) = True := eq_true (by omega)
                (try rw [show ((2 : Int)).toNat = 2 from rfl] at hx181_0)
                replace p181 := eq_true p181
                replace q181 := eq_true q181
                try go_wp2
                have n0_ := Aside0.mk (Kd.V_drew HO_6.out)
                have n1_ := Aside0.mk (Kd.V_drew HO_167000.out)
                have n2_ := Aside0.mk (Kd.V_drew HO_167003.out)
                have n3_ := Aside0.mk (blk_drew BK166.out)
                have n4_ := Aside0.mk (blk_drew BK167.out)
                have n5_ := Aside0.mk (below_drew1 HB.out)
                clear HO_6
                clear HO_167000
                clear HO_167003
                clear BK166
                clear BK167
                clear HB
                have HO_6 := n0_
                have HO_167000 := n1_
                have HO_167003 := n2_
                have BK166 := n3_
                have BK167 := n4_
                have HB := n5_
                clear n0_ n1_ n2_ n3_ n4_ n5_
                have p182 : 0 ≤ (0 : Int) := (by omega)
                have q182 : 0 < (t168.length : Int) := of_decide_eq_true (by assumption)
                obtain ⟨ad182, e182, hx182_0⟩ := Kd.at_int (Kd.V_reads' HO_6.out).2.2 0 p182 q182
                obtain rfl : ad178 = ad182 := (by injection e182)
                have qi182 : (0 < t168.length) = True := eq_true (by omega)
                (try rw [show ((0 : Int)).toNat = 0 from rfl] at hx182_0)
                (try rw [Addr.add_zero'] at hx182_0)
                replace p182 := eq_true p182
                replace q182 := eq_true q182
                refine start_ (n := 14) (S := fun w' => w'.cell? ⟨gb166, 0, none⟩ = some (.slice A0_0 l0_0.length c0_0) ∧ w'.cell? ⟨gb166, 1, none⟩ = some (.int .i64 a0_1) ∧ w'.cell? ⟨gb166, 2, none⟩ = some (.int .u64 a0_2) ∧ w'.cell? ⟨gb166, 3, none⟩ = some (.slice A0_3 l0_3.length c0_3) ∧ w'.cell? ad178 = some (.int .u32 (rd t168 0))) (ds := []) #[false, false, false, false, false, false, false, false, false, false, false, false, false, false] (by kernel_rfl) rfl rfl ⟨(blk_cell BK166.out 0).trans rfl, (blk_cell BK166.out 1).trans rfl, (blk_cell BK166.out 2).trans rfl, (blk_cell BK166.out 3).trans rfl, hx182_0⟩ (fun hHeld => ?_); refine with_tabW hash_file_gnu.tab9 hash_file_gnu.bits9 (fun HT_ HW_ => ?_)
                generalize wc.drew = w47 at HO_6 HO_167000 HO_167003 BK166 BK167 HB hx182_0 hHeld ⊢
                refine pure_ (i := 1) (N := some 77) (v := ?_) (a' := ?_) #[false, true, false, false, false, false, false, false, false, false, false, false, false, false] rfl rfl (any_of HT_.out (by kernel_rfl)) (fun _ _ _ h => h) (Or.inl ⟨by rfl, ?_⟩) ?_ ?_
                rotate_left
                ·intro w'
                 go_simp
                 with_reducible rfl
                rotate_left
                ·simp only [Act.put, List.setIfInBounds_toArray, List.set_cons_zero, List.set_cons_succ, i64_w, i32_w]
                 rfl
                refine pure_ (i := 2) (N := some 78) (v := ?_) (a' := ?_) #[false, true, true, false, false, false, false, false, false, false, false, false, false, false] rfl rfl (any_of HT_.out (by kernel_rfl)) (fun _ _ _ h => h) (Or.inl ⟨by rfl, ?_⟩) ?_ ?_
                rotate_left
                ·intro w'
                 go_simp
                 with_reducible rfl
                rotate_left
                ·simp only [Act.put, List.setIfInBounds_toArray, List.set_cons_zero, List.set_cons_succ, i64_w, i32_w]
                 rfl
                refine pure_ (i := 3) (N := some 79) (v := ?_) (a' := ?_) #[false, true, true, true, false, false, false, false, false, false, false, false, false, false] rfl rfl (any_of HT_.out (by kernel_rfl)) (fun _ _ _ h => h) (Or.inl ⟨by rfl, ?_⟩) ?_ ?_
                rotate_left
                ·intro w'
                 go_simp
                 with_reducible rfl
                rotate_left
                ·simp only [Act.put, List.setIfInBounds_toArray, List.set_cons_zero, List.set_cons_succ, i64_w, i32_w]
                 rfl
                refine pure_ (i := 4) (N := some 80) (v := ?_) (a' := ?_) #[false, true, true, true, true, false, false, false, false, false, false, false, false, false] rfl rfl (any_of HT_.out (by kernel_rfl)) (fun _ _ _ h => h) (Or.inl ⟨by rfl, ?_⟩) ?_ ?_
                rotate_left
                ·intro w'
                 go_simp
                 with_reducible rfl
                rotate_left
                ·simp only [Act.put, List.setIfInBounds_toArray, List.set_cons_zero, List.set_cons_succ, i64_w, i32_w]
                 rfl
                refine take_ (i := 0) (N := some 76) (v := ?_) (a' := ?_) #[true, true, true, true, true, false, false, false, false, false, false, false, false, false] rfl rfl (take_ofW HT_.out HW_.out (by kernel_rfl)) (fun _ _ _ h => h) (Or.inl ⟨by rfl, ?_⟩) hHeld ?_ ?_
                rotate_left
                ·rintro w' ⟨s0, s1, s2, s3, s4⟩
                 go_simp
                 with_reducible rfl
                rotate_left
                ·simp only [Act.put, List.setIfInBounds_toArray, List.set_cons_zero, List.set_cons_succ, i64_w, i32_w]
                 rfl
                refine take_ (i := 5) (N := some 81) (v := ?_) (a' := ?_) #[true, true, true, true, true, true, false, false, false, false, false, false, false, false] rfl rfl (take_ofW HT_.out HW_.out (by kernel_rfl)) (fun _ _ _ h => h) (Or.inl ⟨by rfl, ?_⟩) hHeld ?_ ?_
                rotate_left
                ·rintro w' ⟨s0, s1, s2, s3, s4⟩
                 go_simp
                 with_reducible rfl
                rotate_left
                ·simp only [Act.put, List.setIfInBounds_toArray, List.set_cons_zero, List.set_cons_succ, i64_w, i32_w]
                 rfl
                refine pure_ (i := 6) (N := some 82) (v := ?_) (a' := ?_) #[true, true, true, true, true, true, true, false, false, false, false, false, false, false] rfl rfl (any_of HT_.out (by kernel_rfl)) (fun _ _ _ h => h) (Or.inl ⟨by rfl, ?_⟩) ?_ ?_
                rotate_left
                ·intro w'
                 go_simp
                 with_reducible rfl
                rotate_left
                ·simp only [Act.put, List.setIfInBounds_toArray, List.set_cons_zero, List.set_cons_succ, i64_w, i32_w]
                 rfl
                refine pure_ (i := 7) (N := some 83) (v := ?_) (a' := ?_) #[true, true, true, true, true, true, true, true, false, false, false, false, false, false] rfl rfl (any_of HT_.out (by kernel_rfl)) (fun _ _ _ h => h) (Or.inl ⟨by rfl, ?_⟩) ?_ ?_
                rotate_left
                ·intro w'
                 go_simp
                 with_reducible rfl
                rotate_left
                ·simp only [Act.put, List.setIfInBounds_toArray, List.set_cons_zero, List.set_cons_succ, i64_w, i32_w]
                 rfl
                refine one_ (i := 8) (N := some 84) #[true, true, true, true, true, true, true, true, true, false, false, false, false, false] rfl rfl (one_of HT_.out (by kernel_rfl)) (by decide) (fun K hK => ?_)
                refine goes_ Try.func52 (by kernel_rfl) rfl #[.agg #[.slice A0_0 l0_0.length c0_0, .int .i64 a0_1, .int .u64 a0_2, .slice A0_3 l0_3.length c0_3], .int .u64 a1, .int .u64 (IntKind.u64.wrap ((ji42) + (IntKind.u64.wrap (rd t168 0))))] (by rfl) rfl rfl (by (try simp only [List.map_toArray, List.map_cons, List.map_nil]); first | done | (simp only [hji42]; rfl) | rfl | (simp only [List.length_drop, List.length_take]; rfl)) ?_
                with_reducible refine (hash_file_words.calls kj3 _ _ l0_0 a0_1 a0_2 _ _ l0_3 a1 (IntKind.u64.wrap ((ji42) + (IntKind.u64.wrap (rd t168 0)))) t183 none _ ?side1 ?side2 ?side3 ?side4 A39.out).mono ?_
                (case side1 => repeat (first | exact (Kd.V_reads' HO_167000.out).2.2 | (with_reducible refine Kd.C_alloc ?_ _) | (with_reducible refine Kd.C_drewN ?_ _) | (with_reducible refine Kd.C_drew ?_)))
                (case side2 => exact (Kd.V_reads' HO_167000.out).2.1)
                (case side3 => repeat (first | exact (Kd.V_reads' HO_167003.out).2.2 | (with_reducible refine Kd.C_alloc ?_ _) | (with_reducible refine Kd.C_drewN ?_ _) | (with_reducible refine Kd.C_drew ?_)))
                (case side4 => exact (Kd.V_reads' HO_167003.out).2.1)
                rintro e w48 ⟨v184, rfl, ho0, hb⟩
                have HS4_ := (hb.cell (World.block_lt_of_cell? _ _ (hHeld.2.2.2.2))).trans (hHeld.2.2.2.2)
                refine ⟨_, rfl, ?_⟩
                have n0_ := Aside0.mk (Kd.V_below (by (with_reducible repeat (first | apply Kd.V_alloc | apply Kd.V_drewN | apply Kd.V_drew)); exact HO_6.out) hb)
                have n1_ := Aside0.mk (Kd.V_below (by (with_reducible repeat (first | apply Kd.V_alloc | apply Kd.V_drewN | apply Kd.V_drew)); exact HO_167000.out) hb)
                have n2_ := Aside0.mk (Kd.V_below (by (with_reducible repeat (first | apply Kd.V_alloc | apply Kd.V_drewN | apply Kd.V_drew)); exact HO_167003.out) hb)
                have n3_ := Aside0.mk (Kd.V_lower (Kd.V_mono (ok' := fun k_ => ((P0_0_ k_ ∨ P0_3_ k_) ∨ w.heap.size ≤ k_) ∧ k_ ≠ gb166 ∧ k_ ≠ gb167) ho0 (fun k_ hk_ => ⟨(.inr (Nat.le_trans (below_size (by repeat (first | (with_reducible first | exact HB.out | apply below_alloc | apply pw_below_drewN | apply below_drew1 | refine below_set ?_ GE166.out | refine below_set ?_ GE167.out) | exact HB.out))) hk_)), (Kd.freshB (g := gb166) (o := .cells #[.slice A0_0 l0_0.length c0_0, .int .i64 a0_1, .int .u64 a0_2, .slice A0_3 l0_3.length c0_3] 86 (0, 0)) (by (with_reducible repeat (first | refine blk_drewN ?_ _ | refine blk_drew ?_ | refine blk_alloc ?_ _)); exact BK166.out) k_ hk_), (Kd.freshB (g := gb167) (o := .cells #[.slice none 0 0, .int .i64 0, .int .u64 0, .slice none 0 0, .slice none 0 0, .slice none 0 0, .int .u32 0, .int .u32 0, .int .u64 0] 92 (0, 0)) (by (with_reducible repeat (first | refine blk_drewN ?_ _ | refine blk_drew ?_ | refine blk_alloc ?_ _)); exact BK167.out) k_ hk_)⟩)) (below_size (by repeat (first | (with_reducible first | exact HB.out | apply below_alloc | apply pw_below_drewN | apply below_drew1 | refine below_set ?_ GE166.out | refine below_set ?_ GE167.out) | exact HB.out))))
                have n4_ := Aside0.mk (blk_below (g := gb166) (o := .cells #[.slice A0_0 l0_0.length c0_0, .int .i64 a0_1, .int .u64 a0_2, .slice A0_3 l0_3.length c0_3] 86 (0, 0)) (by (with_reducible repeat (first | refine blk_drewN ?_ _ | refine blk_drew ?_ | refine blk_alloc ?_ _)); exact BK166.out) hb)
                have n5_ := Aside0.mk (blk_below (g := gb167) (o := .cells #[.slice none 0 0, .int .i64 0, .int .u64 0, .slice none 0 0, .slice none 0 0, .slice none 0 0, .int .u32 0, .int .u32 0, .int .u64 0] 92 (0, 0)) (by (with_reducible repeat (first | refine blk_drewN ?_ _ | refine blk_drew ?_ | refine blk_alloc ?_ _)); exact BK167.out) hb)
                have n6_ := Aside0.mk (below_step (by repeat (first | (with_reducible first | exact HB.out | apply below_alloc | apply pw_below_drewN | apply below_drew1 | refine below_set ?_ GE166.out | refine below_set ?_ GE167.out) | exact HB.out)) hb)
                clear HO_6
                clear HO_167000
                clear HO_167003
                clear BK166
                clear BK167
                clear HB
                have HO_6 := n0_
                have HO_167000 := n1_
                have HO_167003 := n2_
                have HO185 := n3_
                have BK166 := n4_
                have BK167 := n5_
                have HB := n6_
                clear n0_ n1_ n2_ n3_ n4_ n5_ n6_
                (try clear hb)
                (try clear hb2)
                (try clear hk)
                (try clear hi)
                (try clear ho0)
                (try simp only [errW_none, errW_some])
                refine hK.out _ _ ⟨(blk_cell BK166.out 0).trans rfl, (blk_cell BK166.out 1).trans rfl, (blk_cell BK166.out 2).trans rfl, (blk_cell BK166.out 3).trans rfl, HS4_⟩ (fun hHeld => ?_)
                clear hK K
                refine norm_ (a' := ?_) ?_ ?_
                rotate_left
                ·show Act.put _ (some 84) _ = _
                 simp only [Act.put, List.setIfInBounds_toArray, List.set_cons_zero, List.set_cons_succ, i64_w, i32_w]
                 rfl
                refine pure_ (i := 9) (N := some 75) (v := ?_) (a' := ?_) #[true, true, true, true, true, true, true, true, true, true, false, false, false, false] rfl rfl (any_of HT_.out (by kernel_rfl)) (fun _ _ _ h => h) (Or.inl ⟨by rfl, ?_⟩) ?_ ?_
                rotate_left
                ·intro w'
                 go_simp
                 with_reducible rfl
                rotate_left
                ·simp only [Act.put, List.setIfInBounds_toArray, List.set_cons_zero, List.set_cons_succ, i64_w, i32_w]
                 rfl
                refine pure_ (i := 10) (N := some 85) (v := ?_) (a' := ?_) #[true, true, true, true, true, true, true, true, true, true, true, false, false, false] rfl rfl (any_of HT_.out (by kernel_rfl)) (fun _ _ _ h => h) (Or.inl ⟨by rfl, ?_⟩) ?_ ?_
                rotate_left
                ·intro w'
                 go_simp
                 with_reducible rfl
                rotate_left
                ·simp only [Act.put, List.setIfInBounds_toArray, List.set_cons_zero, List.set_cons_succ, i64_w, i32_w]
                 rfl
                refine pure_ (i := 11) (N := some 86) (v := ?_) (a' := ?_) #[true, true, true, true, true, true, true, true, true, true, true, true, false, false] rfl rfl (any_of HT_.out (by kernel_rfl)) (fun _ _ _ h => h) (Or.inl ⟨by rfl, ?_⟩) ?_ ?_
                rotate_left
                ·intro w'
                 go_simp
                 with_reducible rfl
                rotate_left
                ·simp only [Act.put, List.setIfInBounds_toArray, List.set_cons_zero, List.set_cons_succ, i64_w, i32_w]
                 rfl
                refine pure_ (i := 12) (N := some 9) (v := ?_) (a' := ?_) #[true, true, true, true, true, true, true, true, true, true, true, true, true, false] rfl rfl (any_of HT_.out (by kernel_rfl)) (fun _ _ _ h => h) (Or.inl ⟨by rfl, ?_⟩) ?_ ?_
                rotate_left
                ·intro w'
                 go_simp
                 with_reducible rfl
                rotate_left
                ·simp only [Act.put, List.setIfInBounds_toArray, List.set_cons_zero, List.set_cons_succ, i64_w, i32_w]
                 rfl
                refine pure_ (i := 13) (N := some 7) (v := ?_) (a' := ?_) #[true, true, true, true, true, true, true, true, true, true, true, true, true, true] rfl rfl (any_of HT_.out (by kernel_rfl)) (fun _ _ _ h => h) (Or.inl ⟨by rfl, ?_⟩) ?_ ?_
                rotate_left
                ·intro w'
                 go_simp
                 with_reducible rfl
                rotate_left
                ·simp only [Act.put, List.setIfInBounds_toArray, List.set_cons_zero, List.set_cons_succ, i64_w, i32_w]
                 rfl
                refine done_ (done_of HT_.out (by kernel_rfl)) ?_
                try go_wp2
                have n0_ := Aside0.mk (Kd.V_drew HO_6.out)
                have n1_ := Aside0.mk (Kd.V_drew HO_167000.out)
                have n2_ := Aside0.mk (Kd.V_drew HO_167003.out)
                have n3_ := Aside0.mk (Kd.V_drew HO185.out)
                have n4_ := Aside0.mk (blk_drew BK166.out)
                have n5_ := Aside0.mk (blk_drew BK167.out)
                have n6_ := Aside0.mk (below_drew1 HB.out)
                clear HO_6
                clear HO_167000
                clear HO_167003
                clear HO185
                clear BK166
                clear BK167
                clear HB
                have HO_6 := n0_
                have HO_167000 := n1_
                have HO_167003 := n2_
                have HO185 := n3_
                have BK166 := n4_
                have BK167 := n5_
                have HB := n6_
                clear n0_ n1_ n2_ n3_ n4_ n5_ n6_
                obtain ⟨Ao51, co51, eo51⟩ := Kd.V_slice HO185.out
                (first | subst eo51 | (injection eo51 with f1_ f2_ f3_; have f4_ := f1_.symm; have f5_ := f3_.symm; clear f1_ f2_ f3_; subst f4_; subst f5_))
                have q50 : ((ji42) : Int) ≤ ((t183.length : Int) : Int) := of_decide_eq_true (by assumption)
                obtain ⟨i050, hi050, _, hsz50, _⟩ := info_parts info26
                have hroom50 : t183.length ≤ co51 := (Kd.V_reads' HO185.out).2.1
                have hC50 : Kd.F (Kd.int .u32) _ _ Ao51 t183.length t183 := (Kd.V_at (base := w.heap.size) HO185.out).2.2
                have ql50 : (4 : Int) ≤ ((ji42) : Int) := of_decide_eq_true (by assumption)
                have hcut50 := cut_mid (P := Try.prog) 83 26 .i64 .u64 Try.underlying83 hi050 1 hsz50 Ao51 t183.length co51 4 (ji42) (by omega) ql50 q50 hroom50
                have hr50 := Kd.F_mid (lo := (4 : Int).toNat) (hi := ((ji42) : Int).toNat) (c := co51) hC50 (by omega) (by omega) hroom50
                obtain ⟨A50, hA50⟩ : ∃ A1, A1 = (if co51 = (4 : Int).toNat then Ao51 else (Ao51 : Option Addr).map (·.add ((4 : Int).toNat * 1))) := ⟨_, rfl⟩
                obtain ⟨c50, hc50⟩ : ∃ c1, c1 = co51 - (4 : Int).toNat := ⟨_, rfl⟩
                have hy50 : y188.length = ((ji42) : Int).toNat - (4 : Int).toNat := (by rw [Ny188.out, List.length_drop, List.length_take] <;> omega)
                rw [show ((t183).take ((ji42) : Int).toNat).drop (4 : Int).toNat = y188 from Ny188.out.symm] at hr50
                replace hr50 : Kd.F (Kd.int .u32) _ _ A50 y188.length y188 := (by rw [hA50]; exact hr50)
                rw [← hy50, ← hA50, ← hc50] at hcut50
                have HO192 := Aside0.mk (show Kd.V (Kd.int .u32) 26 _ w.heap.size _ (.slice A50 y188.length c50) y188 from Kd.V_mk (by rw [hy50, hc50]; exact Nat.sub_le_sub_right (Nat.le_trans (by omega) hroom50) _) hr50)
                have HC192 := Aside0.mk (show y188.length ≤ c50 from by rw [hy50, hc50]; exact Nat.sub_le_sub_right (Nat.le_trans (by omega) hroom50) _)
                clear hr50 hC50 hroom50 hi050 hsz50 hc50
                have KY50 := Aside0.mk hy50
                have KA50 := Aside0.mk hA50
                clear hy50 hA50
                replace q50 := eq_true q50
                have q52 : ((ji42) : Int) ≤ ((t183.length : Int) : Int) := of_decide_eq_true (by assumption)
                obtain ⟨i052, hi052, _, hsz52, _⟩ := info_parts info26
                have hroom52 : t183.length ≤ co51 := (Kd.V_reads' HO185.out).2.1
                have hC52 : Kd.F (Kd.int .u32) _ _ Ao51 t183.length t183 := (Kd.V_at (base := w.heap.size) HO185.out).2.2
                have q052 : (0 : Int) ≤ ((ji42) : Int) := of_decide_eq_true (by assumption)
                have hcut52 := cut_from (P := Try.prog) 83 26 .u64 Try.underlying83 hi052 1 hsz52 Ao51 t183.length co51 (ji42) q052 q52
                have hr52 := Kd.F_cut (m := ((ji42) : Int).toNat) (c := co51) hC52 (by omega) hroom52
                obtain ⟨A52, hA52⟩ : ∃ A1, A1 = (if co51 = ((ji42) : Int).toNat then Ao51 else (Ao51 : Option Addr).map (·.add (((ji42) : Int).toNat * 1))) := ⟨_, rfl⟩
                obtain ⟨c52, hc52⟩ : ∃ c1, c1 = co51 - ((ji42) : Int).toNat := ⟨_, rfl⟩
                have hy52 : y193.length = t183.length - ((ji42) : Int).toNat := (by rw [Ny193.out, List.length_drop] <;> omega)
                rw [show (t183).drop ((ji42) : Int).toNat = y193 from Ny193.out.symm] at hr52
                replace hr52 : Kd.F (Kd.int .u32) _ _ A52 y193.length y193 := (by rw [hA52]; exact hr52)
                rw [← hy52, ← hA52, ← hc52] at hcut52
                have HO197 := Aside0.mk (show Kd.V (Kd.int .u32) 26 _ w.heap.size _ (.slice A52 y193.length c52) y193 from Kd.V_mk (by rw [hy52, hc52]; exact Nat.sub_le_sub_right hroom52 _) hr52)
                have HC197 := Aside0.mk (show y193.length ≤ c52 from by rw [hy52, hc52]; exact Nat.sub_le_sub_right hroom52 _)
                clear hr52 hC52 hroom52 hi052 hsz52 hc52
                have KY52 := Aside0.mk hy52
                have KA52 := Aside0.mk hA52
                clear hy52 hA52
                replace q52 := eq_true q52
                have p198 : 0 ≤ (1 : Int) := (by omega)
                have q198 : 1 < (t168.length : Int) := of_decide_eq_true (by assumption)
                obtain ⟨ad198, e198, hx198_0⟩ := Kd.at_int (Kd.V_reads' HO_6.out).2.2 1 p198 q198
                obtain rfl : ad178 = ad198 := (by injection e198)
                (try simp only [show (1 : Int).toNat = 1 from rfl, Nat.reduceMul, Nat.reduceEqDiff, Go.Addr.add, ↓reduceIte] at hx198_0)
                have qi198 : (1 < t168.length) = True := eq_true (by omega)
                (try rw [show ((1 : Int)).toNat = 1 from rfl] at hx198_0)
                replace p198 := eq_true p198
                replace q198 := eq_true q198
                have p199 : 0 ≤ (3 : Int) := (by omega)
                have q199 : 3 < (t168.length : Int) := of_decide_eq_true (by assumption)
                obtain ⟨ad199, e199, hx199_0⟩ := Kd.at_int (Kd.V_reads' HO_6.out).2.2 3 p199 q199
                obtain rfl : ad178 = ad199 := (by injection e199)
                (try simp only [show (3 : Int).toNat = 3 from rfl, Nat.reduceMul, Nat.reduceEqDiff, Go.Addr.add, ↓reduceIte] at hx199_0)
                have qi199 : (3 < t168.length) = True := eq_true (by omega)
                (try rw [show ((3 : Int)).toNat = 3 from rfl] at hx199_0)
                replace p199 := eq_true p199
                replace q199 := eq_true q199
                have p200 : 0 ≤ (0 : Int) := (by omega)
                have q200 : 0 < (t168.length : Int) := of_decide_eq_true (by assumption)
                obtain ⟨ad200, e200, hx200_0⟩ := Kd.at_int (Kd.V_reads' HO_6.out).2.2 0 p200 q200
                obtain rfl : ad178 = ad200 := (by injection e200)
                have qi200 : (0 < t168.length) = True := eq_true (by omega)
                (try rw [show ((0 : Int)).toNat = 0 from rfl] at hx200_0)
                (try rw [Addr.add_zero'] at hx200_0)
                replace p200 := eq_true p200
                replace q200 := eq_true q200
                refine start_ (n := 25) (S := fun w' => w'.cell? ⟨gb166, 0, none⟩ = some (.slice A0_0 l0_0.length c0_0) ∧ w'.cell? ⟨gb166, 1, none⟩ = some (.int .i64 a0_1) ∧ w'.cell? ⟨gb166, 2, none⟩ = some (.int .u64 a0_2) ∧ w'.cell? ⟨gb166, 3, none⟩ = some (.slice A0_3 l0_3.length c0_3) ∧ w'.cell? ⟨ad178.block, ad178.off + 1, none⟩ = some (.int .u32 (rd t168 1)) ∧ w'.cell? ⟨ad178.block, ad178.off + 3, none⟩ = some (.int .u32 (rd t168 3)) ∧ w'.cell? ad178 = some (.int .u32 (rd t168 0))) (ds := []) #[false, false, false, false, false, false, false, false, false, false, false, false, false, false, false, false, false, false, false, false, false, false, false, false, false] (by kernel_rfl) rfl rfl ⟨(blk_cell BK166.out 0).trans rfl, (blk_cell BK166.out 1).trans rfl, (blk_cell BK166.out 2).trans rfl, (blk_cell BK166.out 3).trans rfl, hx198_0, hx199_0, hx200_0⟩ (fun hHeld => ?_); refine with_tabW hash_file_gnu.tab12 hash_file_gnu.bits12 (fun HT_ HW_ => ?_)
                generalize w48.drew = w49 at HO_6 HO_167000 HO_167003 HO185 BK166 BK167 HB HO192 HO197 hx198_0 hx199_0 hx200_0 hHeld ⊢
                refine pure_ (i := 1) (N := some 92) (v := ?_) (a' := ?_) #[false, true, false, false, false, false, false, false, false, false, false, false, false, false, false, false, false, false, false, false, false, false, false, false, false] rfl rfl (any_of HT_.out (by kernel_rfl)) (fun _ _ _ h => h) (Or.inl ⟨by rfl, ?_⟩) ?_ ?_
                rotate_left
                ·intro w'
                 go_simp
                 with_reducible rfl
                rotate_left
                ·simp only [Act.put, List.setIfInBounds_toArray, List.set_cons_zero, List.set_cons_succ, i64_w, i32_w]
                 rfl
                refine pure_ (i := 2) (N := some 93) (v := ?_) (a' := ?_) #[false, true, true, false, false, false, false, false, false, false, false, false, false, false, false, false, false, false, false, false, false, false, false, false, false] rfl rfl (any_of HT_.out (by kernel_rfl)) (fun _ _ _ h => h) (Or.inl ⟨by rfl, ?_⟩) ?_ ?_
                rotate_left
                ·intro w'
                 go_simp
                 with_reducible rfl
                rotate_left
                ·simp only [Act.put, List.setIfInBounds_toArray, List.set_cons_zero, List.set_cons_succ, i64_w, i32_w]
                 rfl
                refine pure_ (i := 3) (N := some 94) (v := ?_) (a' := ?_) #[false, true, true, true, false, false, false, false, false, false, false, false, false, false, false, false, false, false, false, false, false, false, false, false, false] rfl rfl (any_of HT_.out (by kernel_rfl)) (fun _ _ _ h => h) (Or.inl ⟨by rfl, ?_⟩) ?_ ?_
                rotate_left
                ·intro w'
                 go_simp
                 with_reducible rfl
                rotate_left
                ·simp only [Act.put, List.setIfInBounds_toArray, List.set_cons_zero, List.set_cons_succ, i64_w, i32_w]
                 rfl
                refine pure_ (i := 4) (N := some 95) (v := ?_) (a' := ?_) #[false, true, true, true, true, false, false, false, false, false, false, false, false, false, false, false, false, false, false, false, false, false, false, false, false] rfl rfl (any_of HT_.out (by kernel_rfl)) (fun _ _ _ h => h) (Or.inl ⟨by rfl, ?_⟩) ?_ ?_
                rotate_left
                ·intro w'
                 go_simp
                 with_reducible rfl
                rotate_left
                ·simp only [Act.put, List.setIfInBounds_toArray, List.set_cons_zero, List.set_cons_succ, i64_w, i32_w]
                 rfl
                refine pure_ (i := 5) (N := some 96) (v := ?_) (a' := ?_) #[false, true, true, true, true, true, false, false, false, false, false, false, false, false, false, false, false, false, false, false, false, false, false, false, false] rfl rfl (any_of HT_.out (by kernel_rfl)) (fun _ _ _ h => h) (Or.inl ⟨by rfl, ?_⟩) ?_ ?_
                rotate_left
                ·intro w'
                 go_simp
                 with_reducible rfl
                rotate_left
                ·simp only [Act.put, List.setIfInBounds_toArray, List.set_cons_zero, List.set_cons_succ, i64_w, i32_w]
                 rfl
                refine pure_ (i := 6) (N := some 97) (v := ?_) (a' := ?_) #[false, true, true, true, true, true, true, false, false, false, false, false, false, false, false, false, false, false, false, false, false, false, false, false, false] rfl rfl (any_of HT_.out (by kernel_rfl)) (fun _ _ _ h => h) (Or.inl ⟨by rfl, ?_⟩) ?_ ?_
                rotate_left
                ·intro w'
                 go_simp
                 with_reducible rfl
                rotate_left
                ·simp only [Act.put, List.setIfInBounds_toArray, List.set_cons_zero, List.set_cons_succ, i64_w, i32_w]
                 rfl
                refine pure_ (i := 7) (N := some 98) (v := ?_) (a' := ?_) #[false, true, true, true, true, true, true, true, false, false, false, false, false, false, false, false, false, false, false, false, false, false, false, false, false] rfl rfl (any_of HT_.out (by kernel_rfl)) (fun _ _ _ h => h) (Or.inl ⟨by rfl, ?_⟩) ?_ ?_
                rotate_left
                ·intro w'
                 go_simp
                 with_reducible rfl
                rotate_left
                ·simp only [Act.put, List.setIfInBounds_toArray, List.set_cons_zero, List.set_cons_succ, i64_w, i32_w]
                 rfl
                refine pure_ (i := 8) (N := some 99) (v := ?_) (a' := ?_) #[false, true, true, true, true, true, true, true, true, false, false, false, false, false, false, false, false, false, false, false, false, false, false, false, false] rfl rfl (any_of HT_.out (by kernel_rfl)) (fun _ _ _ h => h) (Or.inl ⟨by rfl, ?_⟩) ?_ ?_
                rotate_left
                ·intro w'
                 go_simp
                 with_reducible rfl
                rotate_left
                ·simp only [Act.put, List.setIfInBounds_toArray, List.set_cons_zero, List.set_cons_succ, i64_w, i32_w]
                 rfl
                refine pure_ (i := 10) (N := some 101) (v := ?_) (a' := ?_) #[false, true, true, true, true, true, true, true, true, false, true, false, false, false, false, false, false, false, false, false, false, false, false, false, false] rfl rfl (any_of HT_.out (by kernel_rfl)) (fun _ _ _ h => h) (Or.inl ⟨by rfl, ?_⟩) ?_ ?_
                rotate_left
                ·intro w'
                 go_simp
                 with_reducible rfl
                rotate_left
                ·simp only [Act.put, List.setIfInBounds_toArray, List.set_cons_zero, List.set_cons_succ, i64_w, i32_w]
                 rfl
                refine pure_ (i := 11) (N := some 102) (v := ?_) (a' := ?_) #[false, true, true, true, true, true, true, true, true, false, true, true, false, false, false, false, false, false, false, false, false, false, false, false, false] rfl rfl (any_of HT_.out (by kernel_rfl)) (fun _ _ _ h => h) (Or.inl ⟨by rfl, ?_⟩) ?_ ?_
                rotate_left
                ·intro w'
                 go_simp
                 with_reducible rfl
                rotate_left
                ·simp only [Act.put, List.setIfInBounds_toArray, List.set_cons_zero, List.set_cons_succ, i64_w, i32_w]
                 rfl
                refine pure_ (i := 13) (N := some 104) (v := ?_) (a' := ?_) #[false, true, true, true, true, true, true, true, true, false, true, true, false, true, false, false, false, false, false, false, false, false, false, false, false] rfl rfl (any_of HT_.out (by kernel_rfl)) (fun _ _ _ h => h) (Or.inl ⟨by rfl, ?_⟩) ?_ ?_
                rotate_left
                ·intro w'
                 go_simp
                 with_reducible rfl
                rotate_left
                ·simp only [Act.put, List.setIfInBounds_toArray, List.set_cons_zero, List.set_cons_succ, i64_w, i32_w]
                 rfl
                refine pure_ (i := 14) (N := some 105) (v := ?_) (a' := ?_) #[false, true, true, true, true, true, true, true, true, false, true, true, false, true, true, false, false, false, false, false, false, false, false, false, false] rfl rfl (any_of HT_.out (by kernel_rfl)) (fun _ _ _ h => h) (Or.inl ⟨by rfl, ?_⟩) ?_ ?_
                rotate_left
                ·intro w'
                 go_simp
                 with_reducible rfl
                rotate_left
                ·simp only [Act.put, List.setIfInBounds_toArray, List.set_cons_zero, List.set_cons_succ, i64_w, i32_w]
                 rfl
                refine pure_ (i := 15) (N := some 106) (v := ?_) (a' := ?_) #[false, true, true, true, true, true, true, true, true, false, true, true, false, true, true, true, false, false, false, false, false, false, false, false, false] rfl rfl (any_of HT_.out (by kernel_rfl)) (fun _ _ _ h => h) (Or.inl ⟨by rfl, ?_⟩) ?_ ?_
                rotate_left
                ·intro w'
                 go_simp
                 with_reducible rfl
                rotate_left
                ·simp only [Act.put, List.setIfInBounds_toArray, List.set_cons_zero, List.set_cons_succ, i64_w, i32_w]
                 rfl
                refine pure_ (i := 16) (N := some 107) (v := ?_) (a' := ?_) #[false, true, true, true, true, true, true, true, true, false, true, true, false, true, true, true, true, false, false, false, false, false, false, false, false] rfl rfl (any_of HT_.out (by kernel_rfl)) (fun _ _ _ h => h) (Or.inl ⟨by rfl, ?_⟩) ?_ ?_
                rotate_left
                ·intro w'
                 go_simp
                 with_reducible rfl
                rotate_left
                ·simp only [Act.put, List.setIfInBounds_toArray, List.set_cons_zero, List.set_cons_succ, i64_w, i32_w]
                 rfl
                refine take_ (i := 0) (N := some 91) (v := ?_) (a' := ?_) #[true, true, true, true, true, true, true, true, true, false, true, true, false, true, true, true, true, false, false, false, false, false, false, false, false] rfl rfl (take_ofW HT_.out HW_.out (by kernel_rfl)) (fun _ _ _ h => h) (Or.inl ⟨by rfl, ?_⟩) hHeld ?_ ?_
                rotate_left
                ·rintro w' ⟨s0, s1, s2, s3, s4, s5, s6⟩
                 go_simp
                 with_reducible rfl
                rotate_left
                ·simp only [Act.put, List.setIfInBounds_toArray, List.set_cons_zero, List.set_cons_succ, i64_w, i32_w]
                 rfl
                refine take_ (i := 9) (N := some 100) (v := ?_) (a' := ?_) #[true, true, true, true, true, true, true, true, true, true, true, true, false, true, true, true, true, false, false, false, false, false, false, false, false] rfl rfl (take_ofW HT_.out HW_.out (by kernel_rfl)) (fun _ _ _ h => h) (Or.inl ⟨by rfl, ?_⟩) hHeld ?_ ?_
                rotate_left
                ·rintro w' ⟨s0, s1, s2, s3, s4, s5, s6⟩
                 go_simp
                 with_reducible rfl
                rotate_left
                ·simp only [Act.put, List.setIfInBounds_toArray, List.set_cons_zero, List.set_cons_succ, i64_w, i32_w]
                 rfl
                refine take_ (i := 12) (N := some 103) (v := ?_) (a' := ?_) #[true, true, true, true, true, true, true, true, true, true, true, true, true, true, true, true, true, false, false, false, false, false, false, false, false] rfl rfl (take_ofW HT_.out HW_.out (by kernel_rfl)) (fun _ _ _ h => h) (Or.inl ⟨by rfl, ?_⟩) hHeld ?_ ?_
                rotate_left
                ·rintro w' ⟨s0, s1, s2, s3, s4, s5, s6⟩
                 go_simp
                 with_reducible rfl
                rotate_left
                ·simp only [Act.put, List.setIfInBounds_toArray, List.set_cons_zero, List.set_cons_succ, i64_w, i32_w]
                 rfl
                refine take_ (i := 17) (N := some 108) (v := ?_) (a' := ?_) #[true, true, true, true, true, true, true, true, true, true, true, true, true, true, true, true, true, true, false, false, false, false, false, false, false] rfl rfl (take_ofW HT_.out HW_.out (by kernel_rfl)) (fun _ _ _ h => h) (Or.inl ⟨by rfl, ?_⟩) hHeld ?_ ?_
                rotate_left
                ·rintro w' ⟨s0, s1, s2, s3, s4, s5, s6⟩
                 go_simp
                 with_reducible rfl
                rotate_left
                ·simp only [Act.put, List.setIfInBounds_toArray, List.set_cons_zero, List.set_cons_succ, i64_w, i32_w]
                 rfl
                refine pure_ (i := 18) (N := some 109) (v := ?_) (a' := ?_) #[true, true, true, true, true, true, true, true, true, true, true, true, true, true, true, true, true, true, true, false, false, false, false, false, false] rfl rfl (any_of HT_.out (by kernel_rfl)) (fun _ _ _ h => h) (Or.inl ⟨by rfl, ?_⟩) ?_ ?_
                rotate_left
                ·intro w'
                 go_simp
                 with_reducible rfl
                rotate_left
                ·simp only [Act.put, List.setIfInBounds_toArray, List.set_cons_zero, List.set_cons_succ, i64_w, i32_w]
                 rfl
                refine pure_ (i := 19) (N := some 110) (v := ?_) (a' := ?_) #[true, true, true, true, true, true, true, true, true, true, true, true, true, true, true, true, true, true, true, true, false, false, false, false, false] rfl rfl (any_of HT_.out (by kernel_rfl)) (fun _ _ _ h => h) (Or.inl ⟨by rfl, ?_⟩) ?_ ?_
                rotate_left
                ·intro w'
                 go_simp
                 with_reducible rfl
                rotate_left
                ·simp only [Act.put, List.setIfInBounds_toArray, List.set_cons_zero, List.set_cons_succ, i64_w, i32_w]
                 rfl
                refine pure_ (i := 20) (N := some 111) (v := ?_) (a' := ?_) #[true, true, true, true, true, true, true, true, true, true, true, true, true, true, true, true, true, true, true, true, true, false, false, false, false] rfl rfl (any_of HT_.out (by kernel_rfl)) (fun _ _ _ h => h) (Or.inl ⟨by rfl, ?_⟩) ?_ ?_
                rotate_left
                ·intro w'
                 go_simp
                 with_reducible rfl
                rotate_left
                ·simp only [Act.put, List.setIfInBounds_toArray, List.set_cons_zero, List.set_cons_succ, i64_w, i32_w]
                 rfl
                refine pure_ (i := 21) (N := some 112) (v := ?_) (a' := ?_) #[true, true, true, true, true, true, true, true, true, true, true, true, true, true, true, true, true, true, true, true, true, true, false, false, false] rfl rfl (any_of HT_.out (by kernel_rfl)) (fun _ _ _ h => h) (Or.inl ⟨by rfl, ?_⟩) ?_ ?_
                rotate_left
                ·intro w'
                 go_simp
                 with_reducible rfl
                rotate_left
                ·simp only [Act.put, List.setIfInBounds_toArray, List.set_cons_zero, List.set_cons_succ, i64_w, i32_w]
                 rfl
                refine pure_ (i := 22) (N := some 113) (v := ?_) (a' := ?_) #[true, true, true, true, true, true, true, true, true, true, true, true, true, true, true, true, true, true, true, true, true, true, true, false, false] rfl rfl (any_of HT_.out (by kernel_rfl)) (fun _ _ _ h => h) (Or.inl ⟨by rfl, ?_⟩) ?_ ?_
                rotate_left
                ·intro w'
                 go_simp
                 with_reducible rfl
                rotate_left
                ·simp only [Act.put, List.setIfInBounds_toArray, List.set_cons_zero, List.set_cons_succ, i64_w, i32_w]
                 rfl
                refine one_ (i := 23) (N := some 10) #[true, true, true, true, true, true, true, true, true, true, true, true, true, true, true, true, true, true, true, true, true, true, true, true, false] rfl rfl (one_of HT_.out (by kernel_rfl)) (by decide) (fun K hK => ?_)
                refine box_step ?hg (N := 10) ?hd (cs := #[.slice none 0 0, .int .i64 0, .int .u64 0, .slice none 0 0, .slice none 0 0, .slice none 0 0, .int .u32 0, .int .u32 0, .int .u64 0]) (t := 92) ?hr ?_; (case hd => rfl); (case hg => rfl); (case hr => first | (go_simp; done) | (go_simp; rfl))
                intro gb201 hg w53 hbox hb
                have HS4_ := (hb.cell (World.block_lt_of_cell? _ _ (hHeld.2.2.2.2.1))).trans (hHeld.2.2.2.2.1)
                have HS5_ := (hb.cell (World.block_lt_of_cell? _ _ (hHeld.2.2.2.2.2.1))).trans (hHeld.2.2.2.2.2.1)
                have HS6_ := (hb.cell (World.block_lt_of_cell? _ _ (hHeld.2.2.2.2.2.2))).trans (hHeld.2.2.2.2.2.2)
                have n0_ := Aside0.mk (Kd.V_below (Kd.V_elderB (by (with_reducible repeat (first | apply Kd.V_alloc | apply Kd.V_drewN | apply Kd.V_drew)); exact HO_6.out) gb201 (Nat.le_of_eq hg.symm)) hb)
                have n1_ := Aside0.mk (Kd.V_below (Kd.V_elderB (by (with_reducible repeat (first | apply Kd.V_alloc | apply Kd.V_drewN | apply Kd.V_drew)); exact HO_167000.out) gb201 (Nat.le_of_eq hg.symm)) hb)
                have n2_ := Aside0.mk (Kd.V_below (Kd.V_elderB (by (with_reducible repeat (first | apply Kd.V_alloc | apply Kd.V_drewN | apply Kd.V_drew)); exact HO_167003.out) gb201 (Nat.le_of_eq hg.symm)) hb)
                have n3_ := Aside0.mk (Kd.V_below (Kd.V_elderB (by (with_reducible repeat (first | apply Kd.V_alloc | apply Kd.V_drewN | apply Kd.V_drew)); exact HO185.out) gb201 (Nat.le_of_eq hg.symm)) hb)
                have n4_ := Aside0.mk (Kd.V_below (Kd.V_elderB (by (with_reducible repeat (first | apply Kd.V_alloc | apply Kd.V_drewN | apply Kd.V_drew)); exact HO192.out) gb201 (Nat.le_of_eq hg.symm)) hb)
                have n5_ := Aside0.mk (Kd.V_below (Kd.V_elderB (by (with_reducible repeat (first | apply Kd.V_alloc | apply Kd.V_drewN | apply Kd.V_drew)); exact HO197.out) gb201 (Nat.le_of_eq hg.symm)) hb)
                have n6_ := Aside0.mk (blk_below (g := gb166) (o := .cells #[.slice A0_0 l0_0.length c0_0, .int .i64 a0_1, .int .u64 a0_2, .slice A0_3 l0_3.length c0_3] 86 (0, 0)) (by (with_reducible repeat (first | refine blk_drewN ?_ _ | refine blk_drew ?_ | refine blk_alloc ?_ _)); exact BK166.out) hb)
                have n7_ := Aside0.mk (blk_below (g := gb167) (o := .cells #[.slice none 0 0, .int .i64 0, .int .u64 0, .slice none 0 0, .slice none 0 0, .slice none 0 0, .int .u32 0, .int .u32 0, .int .u64 0] 92 (0, 0)) (by (with_reducible repeat (first | refine blk_drewN ?_ _ | refine blk_drew ?_ | refine blk_alloc ?_ _)); exact BK167.out) hb)
                have n8_ := Aside0.mk (below_step (by repeat (first | (with_reducible first | exact HB.out | apply below_alloc | apply pw_below_drewN | apply below_drew1 | refine below_set ?_ GE166.out | refine below_set ?_ GE167.out) | exact HB.out)) hb)
                have n9_ := Aside0.mk (hbox)
                have n10_ := Aside0.mk ((by rw [hg]; exact (below_size (by repeat (first | (with_reducible first | exact HB.out | apply below_alloc | apply pw_below_drewN | apply below_drew1 | refine below_set ?_ GE166.out | refine below_set ?_ GE167.out) | exact HB.out))) : w.heap.size ≤ gb201))
                have n11_ := Aside0.mk ((by rw [hg]; exact (below_size (by repeat (first | (with_reducible first | exact HB.out | apply below_alloc | apply pw_below_drewN | apply below_drew1 | refine below_set ?_ GE166.out | refine below_set ?_ GE167.out) | exact HB.out))) : w.heap.size ≤ gb201))
                have n12_ := Aside0.mk ((by rw [hg]; exact Nat.ne_of_lt (blk_lt (g := gb166) (o := .cells #[.slice A0_0 l0_0.length c0_0, .int .i64 a0_1, .int .u64 a0_2, .slice A0_3 l0_3.length c0_3] 86 (0, 0)) (by (with_reducible repeat (first | refine blk_drewN ?_ _ | refine blk_drew ?_ | refine blk_alloc ?_ _)); exact BK166.out)) : gb166 ≠ gb201))
                have n13_ := Aside0.mk ((by rw [hg]; exact Nat.ne_of_gt (blk_lt (g := gb166) (o := .cells #[.slice A0_0 l0_0.length c0_0, .int .i64 a0_1, .int .u64 a0_2, .slice A0_3 l0_3.length c0_3] 86 (0, 0)) (by (with_reducible repeat (first | refine blk_drewN ?_ _ | refine blk_drew ?_ | refine blk_alloc ?_ _)); exact BK166.out)) : gb201 ≠ gb166))
                have n14_ := Aside0.mk ((by rw [hg]; exact Nat.ne_of_lt (blk_lt (g := gb167) (o := .cells #[.slice none 0 0, .int .i64 0, .int .u64 0, .slice none 0 0, .slice none 0 0, .slice none 0 0, .int .u32 0, .int .u32 0, .int .u64 0] 92 (0, 0)) (by (with_reducible repeat (first | refine blk_drewN ?_ _ | refine blk_drew ?_ | refine blk_alloc ?_ _)); exact BK167.out)) : gb167 ≠ gb201))
                have n15_ := Aside0.mk ((by rw [hg]; exact Nat.ne_of_gt (blk_lt (g := gb167) (o := .cells #[.slice none 0 0, .int .i64 0, .int .u64 0, .slice none 0 0, .slice none 0 0, .slice none 0 0, .int .u32 0, .int .u32 0, .int .u64 0] 92 (0, 0)) (by (with_reducible repeat (first | refine blk_drewN ?_ _ | refine blk_drew ?_ | refine blk_alloc ?_ _)); exact BK167.out)) : gb201 ≠ gb167))
                clear HO_6
                clear HO_167000
                clear HO_167003
                clear HO185
                clear HO192
                clear HO197
                clear BK166
                clear BK167
                clear HB
                have HO_6 := n0_
                have HO_167000 := n1_
                have HO_167003 := n2_
                have HO185 := n3_
                have HO192 := n4_
                have HO197 := n5_
                have BK166 := n6_
                have BK167 := n7_
                have HB := n8_
                have BK201 := n9_
                have GW201 := n10_
                have GE201 := n11_
                have NB166_201 := n12_
                have NB201_166 := n13_
                have NB167_201 := n14_
                have NB201_167 := n15_
                clear n0_ n1_ n2_ n3_ n4_ n5_ n6_ n7_ n8_ n9_ n10_ n11_ n12_ n13_ n14_ n15_
                clear hb hbox hg
                refine hK.out _ _ ⟨(blk_cell BK166.out 0).trans rfl, (blk_cell BK166.out 1).trans rfl, (blk_cell BK166.out 2).trans rfl, (blk_cell BK166.out 3).trans rfl, HS4_, HS5_, HS6_⟩ (fun hHeld => ?_)
                clear hK K
                refine norm_ (a' := ?_) ?_ ?_
                rotate_left
                ·show Act.put _ (some 10) _ = _
                 simp only [Act.put, List.setIfInBounds_toArray, List.set_cons_zero, List.set_cons_succ, i64_w, i32_w]
                 rfl
                refine one_ (i := 24) (N := none) #[true, true, true, true, true, true, true, true, true, true, true, true, true, true, true, true, true, true, true, true, true, true, true, true, true] rfl rfl (one_of HT_.out (by kernel_rfl)) (by decide) (fun K hK => ?_)
                have hs54 : w53.cell? ⟨gb201, 0, none⟩ = some (.slice none 0 0) := (blk_cell BK201.out 0).trans rfl
                have hfs54 := blk_frozen BK201.out 0
                have hns54_0 := NB166_201.out
                have hns54_1 := NB167_201.out
                have hms54_0 := NB201_166.out
                have hms54_1 := NB201_167.out
                have hs55 : w53.cell? ⟨gb201, 1, none⟩ = some (.int .i64 0) := (blk_cell BK201.out 1).trans rfl
                have hfs55 := blk_frozen BK201.out 1
                have hns55_0 := NB166_201.out
                have hns55_1 := NB167_201.out
                have hms55_0 := NB201_166.out
                have hms55_1 := NB201_167.out
                have hs56 : w53.cell? ⟨gb201, 2, none⟩ = some (.int .u64 0) := (blk_cell BK201.out 2).trans rfl
                have hfs56 := blk_frozen BK201.out 2
                have hns56_0 := NB166_201.out
                have hns56_1 := NB167_201.out
                have hms56_0 := NB201_166.out
                have hms56_1 := NB201_167.out
                have hs57 : w53.cell? ⟨gb201, 3, none⟩ = some (.slice none 0 0) := (blk_cell BK201.out 3).trans rfl
                have hfs57 := blk_frozen BK201.out 3
                have hns57_0 := NB166_201.out
                have hns57_1 := NB167_201.out
                have hms57_0 := NB201_166.out
                have hms57_1 := NB201_167.out
                have hs58 : w53.cell? ⟨gb201, 4, none⟩ = some (.slice none 0 0) := (blk_cell BK201.out 4).trans rfl
                have hfs58 := blk_frozen BK201.out 4
                have hns58_0 := NB166_201.out
                have hns58_1 := NB167_201.out
                have hms58_0 := NB201_166.out
                have hms58_1 := NB201_167.out
                have hs59 : w53.cell? ⟨gb201, 5, none⟩ = some (.slice none 0 0) := (blk_cell BK201.out 5).trans rfl
                have hfs59 := blk_frozen BK201.out 5
                have hns59_0 := NB166_201.out
                have hns59_1 := NB167_201.out
                have hms59_0 := NB201_166.out
                have hms59_1 := NB201_167.out
                have hs60 : w53.cell? ⟨gb201, 6, none⟩ = some (.int .u32 0) := (blk_cell BK201.out 6).trans rfl
                have hfs60 := blk_frozen BK201.out 6
                have hns60_0 := NB166_201.out
                have hns60_1 := NB167_201.out
                have hms60_0 := NB201_166.out
                have hms60_1 := NB201_167.out
                have hs61 : w53.cell? ⟨gb201, 7, none⟩ = some (.int .u32 0) := (blk_cell BK201.out 7).trans rfl
                have hfs61 := blk_frozen BK201.out 7
                have hns61_0 := NB166_201.out
                have hns61_1 := NB167_201.out
                have hms61_0 := NB201_166.out
                have hms61_1 := NB201_167.out
                have hs62 : w53.cell? ⟨gb201, 8, none⟩ = some (.int .u64 0) := (blk_cell BK201.out 8).trans rfl
                have hfs62 := blk_frozen BK201.out 8
                have hns62_0 := NB166_201.out
                have hns62_1 := NB167_201.out
                have hms62_0 := NB201_166.out
                have hms62_1 := NB201_167.out
                refine skip_ (w1 := ?_) (by rfl) rfl ?_ ?_
                rotate_left
                ·go_simp
                 rfl
                refine hK.out _ _ ⟨((cell_far (p := ⟨gb201, _, none⟩) NB166_201.out _).trans (((cell_far (p := ⟨gb201, _, none⟩) NB166_201.out _).trans (((cell_far (p := ⟨gb201, _, none⟩) NB166_201.out _).trans (((cell_far (p := ⟨gb201, _, none⟩) NB166_201.out _).trans (((cell_far (p := ⟨gb201, _, none⟩) NB166_201.out _).trans (((cell_far (p := ⟨gb201, _, none⟩) NB166_201.out _).trans (((cell_far (p := ⟨gb201, _, none⟩) NB166_201.out _).trans (((cell_far (p := ⟨gb201, _, none⟩) NB166_201.out _).trans (((cell_far (p := ⟨gb201, _, none⟩) NB166_201.out _).trans (hHeld.1)))))))))))))))))), ((cell_far (p := ⟨gb201, _, none⟩) NB166_201.out _).trans (((cell_far (p := ⟨gb201, _, none⟩) NB166_201.out _).trans (((cell_far (p := ⟨gb201, _, none⟩) NB166_201.out _).trans (((cell_far (p := ⟨gb201, _, none⟩) NB166_201.out _).trans (((cell_far (p := ⟨gb201, _, none⟩) NB166_201.out _).trans (((cell_far (p := ⟨gb201, _, none⟩) NB166_201.out _).trans (((cell_far (p := ⟨gb201, _, none⟩) NB166_201.out _).trans (((cell_far (p := ⟨gb201, _, none⟩) NB166_201.out _).trans (((cell_far (p := ⟨gb201, _, none⟩) NB166_201.out _).trans (hHeld.2.1)))))))))))))))))), ((cell_far (p := ⟨gb201, _, none⟩) NB166_201.out _).trans (((cell_far (p := ⟨gb201, _, none⟩) NB166_201.out _).trans (((cell_far (p := ⟨gb201, _, none⟩) NB166_201.out _).trans (((cell_far (p := ⟨gb201, _, none⟩) NB166_201.out _).trans (((cell_far (p := ⟨gb201, _, none⟩) NB166_201.out _).trans (((cell_far (p := ⟨gb201, _, none⟩) NB166_201.out _).trans (((cell_far (p := ⟨gb201, _, none⟩) NB166_201.out _).trans (((cell_far (p := ⟨gb201, _, none⟩) NB166_201.out _).trans (((cell_far (p := ⟨gb201, _, none⟩) NB166_201.out _).trans (hHeld.2.2.1)))))))))))))))))), ((cell_far (p := ⟨gb201, _, none⟩) NB166_201.out _).trans (((cell_far (p := ⟨gb201, _, none⟩) NB166_201.out _).trans (((cell_far (p := ⟨gb201, _, none⟩) NB166_201.out _).trans (((cell_far (p := ⟨gb201, _, none⟩) NB166_201.out _).trans (((cell_far (p := ⟨gb201, _, none⟩) NB166_201.out _).trans (((cell_far (p := ⟨gb201, _, none⟩) NB166_201.out _).trans (((cell_far (p := ⟨gb201, _, none⟩) NB166_201.out _).trans (((cell_far (p := ⟨gb201, _, none⟩) NB166_201.out _).trans (((cell_far (p := ⟨gb201, _, none⟩) NB166_201.out _).trans (hHeld.2.2.2.1)))))))))))))))))), ((cell_far (p := ⟨gb201, _, none⟩) (by first | exact Kd.V_own_int HO_6.out (of_eq_true (by assumption)) (fun _ hk => hk.2) | (rw [add_block]; exact Kd.V_own_int HO_6.out (of_eq_true (by assumption)) (fun _ hk => hk.2)) | (show (Addr.add _ _).block ≠ _; rw [add_block]; exact Kd.V_own_int HO_6.out (of_eq_true (by assumption)) (fun _ hk => hk.2)) | (dsimp only; exact Kd.V_own_int HO_6.out (of_eq_true (by assumption)) (fun _ hk => hk.2))) _).trans (((cell_far (p := ⟨gb201, _, none⟩) (by first | exact Kd.V_own_int HO_6.out (of_eq_true (by assumption)) (fun _ hk => hk.2) | (rw [add_block]; exact Kd.V_own_int HO_6.out (of_eq_true (by assumption)) (fun _ hk => hk.2)) | (show (Addr.add _ _).block ≠ _; rw [add_block]; exact Kd.V_own_int HO_6.out (of_eq_true (by assumption)) (fun _ hk => hk.2)) | (dsimp only; exact Kd.V_own_int HO_6.out (of_eq_true (by assumption)) (fun _ hk => hk.2))) _).trans (((cell_far (p := ⟨gb201, _, none⟩) (by first | exact Kd.V_own_int HO_6.out (of_eq_true (by assumption)) (fun _ hk => hk.2) | (rw [add_block]; exact Kd.V_own_int HO_6.out (of_eq_true (by assumption)) (fun _ hk => hk.2)) | (show (Addr.add _ _).block ≠ _; rw [add_block]; exact Kd.V_own_int HO_6.out (of_eq_true (by assumption)) (fun _ hk => hk.2)) | (dsimp only; exact Kd.V_own_int HO_6.out (of_eq_true (by assumption)) (fun _ hk => hk.2))) _).trans (((cell_far (p := ⟨gb201, _, none⟩) (by first | exact Kd.V_own_int HO_6.out (of_eq_true (by assumption)) (fun _ hk => hk.2) | (rw [add_block]; exact Kd.V_own_int HO_6.out (of_eq_true (by assumption)) (fun _ hk => hk.2)) | (show (Addr.add _ _).block ≠ _; rw [add_block]; exact Kd.V_own_int HO_6.out (of_eq_true (by assumption)) (fun _ hk => hk.2)) | (dsimp only; exact Kd.V_own_int HO_6.out (of_eq_true (by assumption)) (fun _ hk => hk.2))) _).trans (((cell_far (p := ⟨gb201, _, none⟩) (by first | exact Kd.V_own_int HO_6.out (of_eq_true (by assumption)) (fun _ hk => hk.2) | (rw [add_block]; exact Kd.V_own_int HO_6.out (of_eq_true (by assumption)) (fun _ hk => hk.2)) | (show (Addr.add _ _).block ≠ _; rw [add_block]; exact Kd.V_own_int HO_6.out (of_eq_true (by assumption)) (fun _ hk => hk.2)) | (dsimp only; exact Kd.V_own_int HO_6.out (of_eq_true (by assumption)) (fun _ hk => hk.2))) _).trans (((cell_far (p := ⟨gb201, _, none⟩) (by first | exact Kd.V_own_int HO_6.out (of_eq_true (by assumption)) (fun _ hk => hk.2) | (rw [add_block]; exact Kd.V_own_int HO_6.out (of_eq_true (by assumption)) (fun _ hk => hk.2)) | (show (Addr.add _ _).block ≠ _; rw [add_block]; exact Kd.V_own_int HO_6.out (of_eq_true (by assumption)) (fun _ hk => hk.2)) | (dsimp only; exact Kd.V_own_int HO_6.out (of_eq_true (by assumption)) (fun _ hk => hk.2))) _).trans (((cell_far (p := ⟨gb201, _, none⟩) (by first | exact Kd.V_own_int HO_6.out (of_eq_true (by assumption)) (fun _ hk => hk.2) | (rw [add_block]; exact Kd.V_own_int HO_6.out (of_eq_true (by assumption)) (fun _ hk => hk.2)) | (show (Addr.add _ _).block ≠ _; rw [add_block]; exact Kd.V_own_int HO_6.out (of_eq_true (by assumption)) (fun _ hk => hk.2)) | (dsimp only; exact Kd.V_own_int HO_6.out (of_eq_true (by assumption)) (fun _ hk => hk.2))) _).trans (((cell_far (p := ⟨gb201, _, none⟩) (by first | exact Kd.V_own_int HO_6.out (of_eq_true (by assumption)) (fun _ hk => hk.2) | (rw [add_block]; exact Kd.V_own_int HO_6.out (of_eq_true (by assumption)) (fun _ hk => hk.2)) | (show (Addr.add _ _).block ≠ _; rw [add_block]; exact Kd.V_own_int HO_6.out (of_eq_true (by assumption)) (fun _ hk => hk.2)) | (dsimp only; exact Kd.V_own_int HO_6.out (of_eq_true (by assumption)) (fun _ hk => hk.2))) _).trans (((cell_far (p := ⟨gb201, _, none⟩) (by first | exact Kd.V_own_int HO_6.out (of_eq_true (by assumption)) (fun _ hk => hk.2) | (rw [add_block]; exact Kd.V_own_int HO_6.out (of_eq_true (by assumption)) (fun _ hk => hk.2)) | (show (Addr.add _ _).block ≠ _; rw [add_block]; exact Kd.V_own_int HO_6.out (of_eq_true (by assumption)) (fun _ hk => hk.2)) | (dsimp only; exact Kd.V_own_int HO_6.out (of_eq_true (by assumption)) (fun _ hk => hk.2))) _).trans (hHeld.2.2.2.2.1)))))))))))))))))), ((cell_far (p := ⟨gb201, _, none⟩) (by first | exact Kd.V_own_int HO_6.out (of_eq_true (by assumption)) (fun _ hk => hk.2) | (rw [add_block]; exact Kd.V_own_int HO_6.out (of_eq_true (by assumption)) (fun _ hk => hk.2)) | (show (Addr.add _ _).block ≠ _; rw [add_block]; exact Kd.V_own_int HO_6.out (of_eq_true (by assumption)) (fun _ hk => hk.2)) | (dsimp only; exact Kd.V_own_int HO_6.out (of_eq_true (by assumption)) (fun _ hk => hk.2))) _).trans (((cell_far (p := ⟨gb201, _, none⟩) (by first | exact Kd.V_own_int HO_6.out (of_eq_true (by assumption)) (fun _ hk => hk.2) | (rw [add_block]; exact Kd.V_own_int HO_6.out (of_eq_true (by assumption)) (fun _ hk => hk.2)) | (show (Addr.add _ _).block ≠ _; rw [add_block]; exact Kd.V_own_int HO_6.out (of_eq_true (by assumption)) (fun _ hk => hk.2)) | (dsimp only; exact Kd.V_own_int HO_6.out (of_eq_true (by assumption)) (fun _ hk => hk.2))) _).trans (((cell_far (p := ⟨gb201, _, none⟩) (by first | exact Kd.V_own_int HO_6.out (of_eq_true (by assumption)) (fun _ hk => hk.2) | (rw [add_block]; exact Kd.V_own_int HO_6.out (of_eq_true (by assumption)) (fun _ hk => hk.2)) | (show (Addr.add _ _).block ≠ _; rw [add_block]; exact Kd.V_own_int HO_6.out (of_eq_true (by assumption)) (fun _ hk => hk.2)) | (dsimp only; exact Kd.V_own_int HO_6.out (of_eq_true (by assumption)) (fun _ hk => hk.2))) _).trans (((cell_far (p := ⟨gb201, _, none⟩) (by first | exact Kd.V_own_int HO_6.out (of_eq_true (by assumption)) (fun _ hk => hk.2) | (rw [add_block]; exact Kd.V_own_int HO_6.out (of_eq_true (by assumption)) (fun _ hk => hk.2)) | (show (Addr.add _ _).block ≠ _; rw [add_block]; exact Kd.V_own_int HO_6.out (of_eq_true (by assumption)) (fun _ hk => hk.2)) | (dsimp only; exact Kd.V_own_int HO_6.out (of_eq_true (by assumption)) (fun _ hk => hk.2))) _).trans (((cell_far (p := ⟨gb201, _, none⟩) (by first | exact Kd.V_own_int HO_6.out (of_eq_true (by assumption)) (fun _ hk => hk.2) | (rw [add_block]; exact Kd.V_own_int HO_6.out (of_eq_true (by assumption)) (fun _ hk => hk.2)) | (show (Addr.add _ _).block ≠ _; rw [add_block]; exact Kd.V_own_int HO_6.out (of_eq_true (by assumption)) (fun _ hk => hk.2)) | (dsimp only; exact Kd.V_own_int HO_6.out (of_eq_true (by assumption)) (fun _ hk => hk.2))) _).trans (((cell_far (p := ⟨gb201, _, none⟩) (by first | exact Kd.V_own_int HO_6.out (of_eq_true (by assumption)) (fun _ hk => hk.2) | (rw [add_block]; exact Kd.V_own_int HO_6.out (of_eq_true (by assumption)) (fun _ hk => hk.2)) | (show (Addr.add _ _).block ≠ _; rw [add_block]; exact Kd.V_own_int HO_6.out (of_eq_true (by assumption)) (fun _ hk => hk.2)) | (dsimp only; exact Kd.V_own_int HO_6.out (of_eq_true (by assumption)) (fun _ hk => hk.2))) _).trans (((cell_far (p := ⟨gb201, _, none⟩) (by first | exact Kd.V_own_int HO_6.out (of_eq_true (by assumption)) (fun _ hk => hk.2) | (rw [add_block]; exact Kd.V_own_int HO_6.out (of_eq_true (by assumption)) (fun _ hk => hk.2)) | (show (Addr.add _ _).block ≠ _; rw [add_block]; exact Kd.V_own_int HO_6.out (of_eq_true (by assumption)) (fun _ hk => hk.2)) | (dsimp only; exact Kd.V_own_int HO_6.out (of_eq_true (by assumption)) (fun _ hk => hk.2))) _).trans (((cell_far (p := ⟨gb201, _, none⟩) (by first | exact Kd.V_own_int HO_6.out (of_eq_true (by assumption)) (fun _ hk => hk.2) | (rw [add_block]; exact Kd.V_own_int HO_6.out (of_eq_true (by assumption)) (fun _ hk => hk.2)) | (show (Addr.add _ _).block ≠ _; rw [add_block]; exact Kd.V_own_int HO_6.out (of_eq_true (by assumption)) (fun _ hk => hk.2)) | (dsimp only; exact Kd.V_own_int HO_6.out (of_eq_true (by assumption)) (fun _ hk => hk.2))) _).trans (((cell_far (p := ⟨gb201, _, none⟩) (by first | exact Kd.V_own_int HO_6.out (of_eq_true (by assumption)) (fun _ hk => hk.2) | (rw [add_block]; exact Kd.V_own_int HO_6.out (of_eq_true (by assumption)) (fun _ hk => hk.2)) | (show (Addr.add _ _).block ≠ _; rw [add_block]; exact Kd.V_own_int HO_6.out (of_eq_true (by assumption)) (fun _ hk => hk.2)) | (dsimp only; exact Kd.V_own_int HO_6.out (of_eq_true (by assumption)) (fun _ hk => hk.2))) _).trans (hHeld.2.2.2.2.2.1)))))))))))))))))), ((cell_far (p := ⟨gb201, _, none⟩) (by first | exact Kd.V_own_int HO_6.out (of_eq_true (by assumption)) (fun _ hk => hk.2) | (rw [add_block]; exact Kd.V_own_int HO_6.out (of_eq_true (by assumption)) (fun _ hk => hk.2)) | (show (Addr.add _ _).block ≠ _; rw [add_block]; exact Kd.V_own_int HO_6.out (of_eq_true (by assumption)) (fun _ hk => hk.2)) | (dsimp only; exact Kd.V_own_int HO_6.out (of_eq_true (by assumption)) (fun _ hk => hk.2))) _).trans (((cell_far (p := ⟨gb201, _, none⟩) (by first | exact Kd.V_own_int HO_6.out (of_eq_true (by assumption)) (fun _ hk => hk.2) | (rw [add_block]; exact Kd.V_own_int HO_6.out (of_eq_true (by assumption)) (fun _ hk => hk.2)) | (show (Addr.add _ _).block ≠ _; rw [add_block]; exact Kd.V_own_int HO_6.out (of_eq_true (by assumption)) (fun _ hk => hk.2)) | (dsimp only; exact Kd.V_own_int HO_6.out (of_eq_true (by assumption)) (fun _ hk => hk.2))) _).trans (((cell_far (p := ⟨gb201, _, none⟩) (by first | exact Kd.V_own_int HO_6.out (of_eq_true (by assumption)) (fun _ hk => hk.2) | (rw [add_block]; exact Kd.V_own_int HO_6.out (of_eq_true (by assumption)) (fun _ hk => hk.2)) | (show (Addr.add _ _).block ≠ _; rw [add_block]; exact Kd.V_own_int HO_6.out (of_eq_true (by assumption)) (fun _ hk => hk.2)) | (dsimp only; exact Kd.V_own_int HO_6.out (of_eq_true (by assumption)) (fun _ hk => hk.2))) _).trans (((cell_far (p := ⟨gb201, _, none⟩) (by first | exact Kd.V_own_int HO_6.out (of_eq_true (by assumption)) (fun _ hk => hk.2) | (rw [add_block]; exact Kd.V_own_int HO_6.out (of_eq_true (by assumption)) (fun _ hk => hk.2)) | (show (Addr.add _ _).block ≠ _; rw [add_block]; exact Kd.V_own_int HO_6.out (of_eq_true (by assumption)) (fun _ hk => hk.2)) | (dsimp only; exact Kd.V_own_int HO_6.out (of_eq_true (by assumption)) (fun _ hk => hk.2))) _).trans (((cell_far (p := ⟨gb201, _, none⟩) (by first | exact Kd.V_own_int HO_6.out (of_eq_true (by assumption)) (fun _ hk => hk.2) | (rw [add_block]; exact Kd.V_own_int HO_6.out (of_eq_true (by assumption)) (fun _ hk => hk.2)) | (show (Addr.add _ _).block ≠ _; rw [add_block]; exact Kd.V_own_int HO_6.out (of_eq_true (by assumption)) (fun _ hk => hk.2)) | (dsimp only; exact Kd.V_own_int HO_6.out (of_eq_true (by assumption)) (fun _ hk => hk.2))) _).trans (((cell_far (p := ⟨gb201, _, none⟩) (by first | exact Kd.V_own_int HO_6.out (of_eq_true (by assumption)) (fun _ hk => hk.2) | (rw [add_block]; exact Kd.V_own_int HO_6.out (of_eq_true (by assumption)) (fun _ hk => hk.2)) | (show (Addr.add _ _).block ≠ _; rw [add_block]; exact Kd.V_own_int HO_6.out (of_eq_true (by assumption)) (fun _ hk => hk.2)) | (dsimp only; exact Kd.V_own_int HO_6.out (of_eq_true (by assumption)) (fun _ hk => hk.2))) _).trans (((cell_far (p := ⟨gb201, _, none⟩) (by first | exact Kd.V_own_int HO_6.out (of_eq_true (by assumption)) (fun _ hk => hk.2) | (rw [add_block]; exact Kd.V_own_int HO_6.out (of_eq_true (by assumption)) (fun _ hk => hk.2)) | (show (Addr.add _ _).block ≠ _; rw [add_block]; exact Kd.V_own_int HO_6.out (of_eq_true (by assumption)) (fun _ hk => hk.2)) | (dsimp only; exact Kd.V_own_int HO_6.out (of_eq_true (by assumption)) (fun _ hk => hk.2))) _).trans (((cell_far (p := ⟨gb201, _, none⟩) (by first | exact Kd.V_own_int HO_6.out (of_eq_true (by assumption)) (fun _ hk => hk.2) | (rw [add_block]; exact Kd.V_own_int HO_6.out (of_eq_true (by assumption)) (fun _ hk => hk.2)) | (show (Addr.add _ _).block ≠ _; rw [add_block]; exact Kd.V_own_int HO_6.out (of_eq_true (by assumption)) (fun _ hk => hk.2)) | (dsimp only; exact Kd.V_own_int HO_6.out (of_eq_true (by assumption)) (fun _ hk => hk.2))) _).trans (((cell_far (p := ⟨gb201, _, none⟩) (by first | exact Kd.V_own_int HO_6.out (of_eq_true (by assumption)) (fun _ hk => hk.2) | (rw [add_block]; exact Kd.V_own_int HO_6.out (of_eq_true (by assumption)) (fun _ hk => hk.2)) | (show (Addr.add _ _).block ≠ _; rw [add_block]; exact Kd.V_own_int HO_6.out (of_eq_true (by assumption)) (fun _ hk => hk.2)) | (dsimp only; exact Kd.V_own_int HO_6.out (of_eq_true (by assumption)) (fun _ hk => hk.2))) _).trans (hHeld.2.2.2.2.2.2))))))))))))))))))⟩ (fun hHeld => ?_)
                clear hK K
                refine done_ (done_of HT_.out (by kernel_rfl)) ?_
                have hnb63 := NB201_166.out
                have hnc63 := NB166_201.out
                have hnb64 := NB201_167.out
                have hnc64 := NB167_201.out
                have hcz65_0 : w53.cell? ⟨gb201, 0, none⟩ = some (.slice none 0 0) := (blk_cell BK201.out 0).trans rfl
                have hcz65_1 : w53.cell? ⟨gb201, 1, none⟩ = some (.int .i64 0) := (blk_cell BK201.out 1).trans rfl
                have hcz65_2 : w53.cell? ⟨gb201, 2, none⟩ = some (.int .u64 0) := (blk_cell BK201.out 2).trans rfl
                have hcz65_3 : w53.cell? ⟨gb201, 3, none⟩ = some (.slice none 0 0) := (blk_cell BK201.out 3).trans rfl
                have hcz65_4 : w53.cell? ⟨gb201, 4, none⟩ = some (.slice none 0 0) := (blk_cell BK201.out 4).trans rfl
                have hcz65_5 : w53.cell? ⟨gb201, 5, none⟩ = some (.slice none 0 0) := (blk_cell BK201.out 5).trans rfl
                have hcz65_6 : w53.cell? ⟨gb201, 6, none⟩ = some (.int .u32 0) := (blk_cell BK201.out 6).trans rfl
                have hcz65_7 : w53.cell? ⟨gb201, 7, none⟩ = some (.int .u32 0) := (blk_cell BK201.out 7).trans rfl
                have hcz65_8 : w53.cell? ⟨gb201, 8, none⟩ = some (.int .u64 0) := (blk_cell BK201.out 8).trans rfl
                have hfz65_0 := blk_frozen BK201.out 0
                have hfz65_1 := blk_frozen BK201.out 1
                have hfz65_2 := blk_frozen BK201.out 2
                have hfz65_3 := blk_frozen BK201.out 3
                have hfz65_4 := blk_frozen BK201.out 4
                have hfz65_5 := blk_frozen BK201.out 5
                have hfz65_6 := blk_frozen BK201.out 6
                have hfz65_7 := blk_frozen BK201.out 7
                have hfz65_8 := blk_frozen BK201.out 8
                try go_wp2
                go_loopg [117] kj3 (fun kq v117 w' => ∃ (x117_2 : Int) (x168001_2 : Int) (x168002_2 : Int) (x168006_2 : Int) (x168007_2 : Int) (x168008_2 : Int), v117 = .int .i64 x117_2 ∧ Aside0 (hash_file_gnu.l0 kq y193 (y193.length : Int) x117_2 l0_0 a0_1 a0_2 l0_3 y188 y193 (rd t168 1) (rd t168 3) (IntKind.u64.wrap (a1 + (IntKind.u64.wrap (4 * (IntKind.u64.wrap ((ji42) + (IntKind.u64.wrap (rd t168 0)))))))) = some (r1, r2, r3, r4, r5, r6, r7, r8, r9, r10)) ∧ Aside0 (kq ≤ kj3) ∧ Aside0 (Kd.V (Kd.int .u32) 26 w' w.heap.size (fun k_ => ((P0_0_ k_ ∨ P0_3_ k_) ∨ w.heap.size ≤ k_) ∧ k_ ≠ gb166 ∧ k_ ≠ gb167 ∧ k_ ≠ gb201) (.slice A52 y193.length c52) y193) ∧ Aside0 (Kd.V (Kd.int .u8) 5 w' w.heap.size (fun k_ => ((P0_0_ k_ ∨ P0_3_ k_) ∨ w.heap.size ≤ k_) ∧ k_ ≠ gb166 ∧ k_ ≠ gb167 ∧ k_ ≠ gb201) (.slice A0_0 l0_0.length c0_0) l0_0) ∧ Aside0 (Kd.V k29 29 w' w.heap.size (fun k_ => ((P0_0_ k_ ∨ P0_3_ k_) ∨ w.heap.size ≤ k_) ∧ k_ ≠ gb166 ∧ k_ ≠ gb167 ∧ k_ ≠ gb201) (.slice A0_3 l0_3.length c0_3) l0_3) ∧ Aside0 (Kd.V (Kd.int .u8) 5 w' w.heap.size (fun k_ => ((P0_0_ k_ ∨ P0_3_ k_) ∨ w.heap.size ≤ k_) ∧ k_ ≠ gb166 ∧ k_ ≠ gb167 ∧ k_ ≠ gb201) (.slice A0_0 l0_0.length c0_0) l0_0) ∧ Aside0 (Kd.V k29 29 w' w.heap.size (fun k_ => ((P0_0_ k_ ∨ P0_3_ k_) ∨ w.heap.size ≤ k_) ∧ k_ ≠ gb166 ∧ k_ ≠ gb167 ∧ k_ ≠ gb201) (.slice A0_3 l0_3.length c0_3) l0_3) ∧ Aside0 (Kd.V (Kd.int .u32) 26 w' w.heap.size (fun k_ => ((P0_0_ k_ ∨ P0_3_ k_) ∨ w.heap.size ≤ k_) ∧ k_ ≠ gb166 ∧ k_ ≠ gb167 ∧ k_ ≠ gb201) (.slice A50 y188.length c50) y188) ∧ Aside0 (Kd.V (Kd.int .u32) 26 w' w.heap.size (fun k_ => ((P0_0_ k_ ∨ P0_3_ k_) ∨ w.heap.size ≤ k_) ∧ k_ ≠ gb166 ∧ k_ ≠ gb167 ∧ k_ ≠ gb201) (.slice A52 y193.length c52) y193) ∧ Aside0 (w'.heap[gb166]? = some (.cells #[(.slice A0_0 l0_0.length c0_0), .int .i64 a0_1, .int .u64 a0_2, (.slice A0_3 l0_3.length c0_3)] 86 (0, 0))) ∧ Aside0 (w'.heap[gb167]? = some (.cells #[(.slice none 0 0), .int .i64 x168001_2, .int .u64 x168002_2, (.slice none 0 0), (.slice none 0 0), (.slice none 0 0), .int .u32 x168006_2, .int .u32 x168007_2, .int .u64 x168008_2] 92 (0, 0))) ∧ Aside0 (w'.heap[gb201]? = some (.cells #[(.slice A0_0 l0_0.length c0_0), .int .i64 a0_1, .int .u64 a0_2, (.slice A0_3 l0_3.length c0_3), (.slice A50 y188.length c50), (.slice A52 y193.length c52), .int .u32 (rd t168 1), .int .u32 (rd t168 3), .int .u64 (IntKind.u64.wrap (a1 + (IntKind.u64.wrap (4 * (IntKind.u64.wrap ((ji42) + (IntKind.u64.wrap (rd t168 0))))))))] 92 (0, 0))) ∧ Aside0 (Below w.heap.size w w'))
                case atStart => exact ⟨(0), (0), (0), (0), (0), (0), (by first | rfl | (simp; done) | (simp [*]; done)), H', ⟨Nat.le_refl _⟩, ⟨by (with_reducible repeat (first | apply Kd.V_alloc | apply Kd.V_drewN | apply Kd.V_drew)); exact Kd.V_mono (Kd.V_far (p := ⟨gb201, 8, none⟩) (Kd.V_far (p := ⟨gb201, 7, none⟩) (Kd.V_far (p := ⟨gb201, 6, none⟩) (Kd.V_far (p := ⟨gb201, 5, none⟩) (Kd.V_far (p := ⟨gb201, 4, none⟩) (Kd.V_far (p := ⟨gb201, 3, none⟩) (Kd.V_far (p := ⟨gb201, 2, none⟩) (Kd.V_far (p := ⟨gb201, 1, none⟩) (Kd.V_far (p := ⟨gb201, 0, none⟩) (Kd.V_mono HO197.out (fun k_ hk => (⟨hk, hk.2⟩ : _ ∧ k_ ≠ gb201))) (fun _ hk => hk.2) (.slice A0_0 l0_0.length c0_0)) (fun _ hk => hk.2) (.int .i64 a0_1)) (fun _ hk => hk.2) (.int .u64 a0_2)) (fun _ hk => hk.2) (.slice A0_3 l0_3.length c0_3)) (fun _ hk => hk.2) (.slice A50 y188.length c50)) (fun _ hk => hk.2) (.slice A52 y193.length c52)) (fun _ hk => hk.2) (.int .u32 (rd t168 1))) (fun _ hk => hk.2) (.int .u32 (rd t168 3))) (fun _ hk => hk.2) (.int .u64 (IntKind.u64.wrap (a1 + (IntKind.u64.wrap (4 * (IntKind.u64.wrap ((ji42) + (IntKind.u64.wrap (rd t168 0)))))))))) (fun _ hk => ⟨hk.1.1.1, ⟨hk.1.1.2.1, ⟨hk.1.1.2.2, hk.1.2⟩⟩⟩)⟩, ⟨by (with_reducible repeat (first | apply Kd.V_alloc | apply Kd.V_drewN | apply Kd.V_drew)); exact Kd.V_mono (Kd.V_far (p := ⟨gb201, 8, none⟩) (Kd.V_far (p := ⟨gb201, 7, none⟩) (Kd.V_far (p := ⟨gb201, 6, none⟩) (Kd.V_far (p := ⟨gb201, 5, none⟩) (Kd.V_far (p := ⟨gb201, 4, none⟩) (Kd.V_far (p := ⟨gb201, 3, none⟩) (Kd.V_far (p := ⟨gb201, 2, none⟩) (Kd.V_far (p := ⟨gb201, 1, none⟩) (Kd.V_far (p := ⟨gb201, 0, none⟩) (Kd.V_mono HO_167000.out (fun k_ hk => (⟨hk, hk.2⟩ : _ ∧ k_ ≠ gb201))) (fun _ hk => hk.2) (.slice A0_0 l0_0.length c0_0)) (fun _ hk => hk.2) (.int .i64 a0_1)) (fun _ hk => hk.2) (.int .u64 a0_2)) (fun _ hk => hk.2) (.slice A0_3 l0_3.length c0_3)) (fun _ hk => hk.2) (.slice A50 y188.length c50)) (fun _ hk => hk.2) (.slice A52 y193.length c52)) (fun _ hk => hk.2) (.int .u32 (rd t168 1))) (fun _ hk => hk.2) (.int .u32 (rd t168 3))) (fun _ hk => hk.2) (.int .u64 (IntKind.u64.wrap (a1 + (IntKind.u64.wrap (4 * (IntKind.u64.wrap ((ji42) + (IntKind.u64.wrap (rd t168 0)))))))))) (fun _ hk => ⟨hk.1.1.1, ⟨hk.1.1.2.1, ⟨hk.1.1.2.2, hk.1.2⟩⟩⟩)⟩, ⟨by (with_reducible repeat (first | apply Kd.V_alloc | apply Kd.V_drewN | apply Kd.V_drew)); exact Kd.V_mono (Kd.V_far (p := ⟨gb201, 8, none⟩) (Kd.V_far (p := ⟨gb201, 7, none⟩) (Kd.V_far (p := ⟨gb201, 6, none⟩) (Kd.V_far (p := ⟨gb201, 5, none⟩) (Kd.V_far (p := ⟨gb201, 4, none⟩) (Kd.V_far (p := ⟨gb201, 3, none⟩) (Kd.V_far (p := ⟨gb201, 2, none⟩) (Kd.V_far (p := ⟨gb201, 1, none⟩) (Kd.V_far (p := ⟨gb201, 0, none⟩) (Kd.V_mono HO_167003.out (fun k_ hk => (⟨hk, hk.2⟩ : _ ∧ k_ ≠ gb201))) (fun _ hk => hk.2) (.slice A0_0 l0_0.length c0_0)) (fun _ hk => hk.2) (.int .i64 a0_1)) (fun _ hk => hk.2) (.int .u64 a0_2)) (fun _ hk => hk.2) (.slice A0_3 l0_3.length c0_3)) (fun _ hk => hk.2) (.slice A50 y188.length c50)) (fun _ hk => hk.2) (.slice A52 y193.length c52)) (fun _ hk => hk.2) (.int .u32 (rd t168 1))) (fun _ hk => hk.2) (.int .u32 (rd t168 3))) (fun _ hk => hk.2) (.int .u64 (IntKind.u64.wrap (a1 + (IntKind.u64.wrap (4 * (IntKind.u64.wrap ((ji42) + (IntKind.u64.wrap (rd t168 0)))))))))) (fun _ hk => ⟨hk.1.1.1, ⟨hk.1.1.2.1, ⟨hk.1.1.2.2, hk.1.2⟩⟩⟩)⟩, ⟨by (with_reducible repeat (first | apply Kd.V_alloc | apply Kd.V_drewN | apply Kd.V_drew)); exact Kd.V_mono (Kd.V_far (p := ⟨gb201, 8, none⟩) (Kd.V_far (p := ⟨gb201, 7, none⟩) (Kd.V_far (p := ⟨gb201, 6, none⟩) (Kd.V_far (p := ⟨gb201, 5, none⟩) (Kd.V_far (p := ⟨gb201, 4, none⟩) (Kd.V_far (p := ⟨gb201, 3, none⟩) (Kd.V_far (p := ⟨gb201, 2, none⟩) (Kd.V_far (p := ⟨gb201, 1, none⟩) (Kd.V_far (p := ⟨gb201, 0, none⟩) (Kd.V_mono HO_167000.out (fun k_ hk => (⟨hk, hk.2⟩ : _ ∧ k_ ≠ gb201))) (fun _ hk => hk.2) (.slice A0_0 l0_0.length c0_0)) (fun _ hk => hk.2) (.int .i64 a0_1)) (fun _ hk => hk.2) (.int .u64 a0_2)) (fun _ hk => hk.2) (.slice A0_3 l0_3.length c0_3)) (fun _ hk => hk.2) (.slice A50 y188.length c50)) (fun _ hk => hk.2) (.slice A52 y193.length c52)) (fun _ hk => hk.2) (.int .u32 (rd t168 1))) (fun _ hk => hk.2) (.int .u32 (rd t168 3))) (fun _ hk => hk.2) (.int .u64 (IntKind.u64.wrap (a1 + (IntKind.u64.wrap (4 * (IntKind.u64.wrap ((ji42) + (IntKind.u64.wrap (rd t168 0)))))))))) (fun _ hk => ⟨hk.1.1.1, ⟨hk.1.1.2.1, ⟨hk.1.1.2.2, hk.1.2⟩⟩⟩)⟩, ⟨by (with_reducible repeat (first | apply Kd.V_alloc | apply Kd.V_drewN | apply Kd.V_drew)); exact Kd.V_mono (Kd.V_far (p := ⟨gb201, 8, none⟩) (Kd.V_far (p := ⟨gb201, 7, none⟩) (Kd.V_far (p := ⟨gb201, 6, none⟩) (Kd.V_far (p := ⟨gb201, 5, none⟩) (Kd.V_far (p := ⟨gb201, 4, none⟩) (Kd.V_far (p := ⟨gb201, 3, none⟩) (Kd.V_far (p := ⟨gb201, 2, none⟩) (Kd.V_far (p := ⟨gb201, 1, none⟩) (Kd.V_far (p := ⟨gb201, 0, none⟩) (Kd.V_mono HO_167003.out (fun k_ hk => (⟨hk, hk.2⟩ : _ ∧ k_ ≠ gb201))) (fun _ hk => hk.2) (.slice A0_0 l0_0.length c0_0)) (fun _ hk => hk.2) (.int .i64 a0_1)) (fun _ hk => hk.2) (.int .u64 a0_2)) (fun _ hk => hk.2) (.slice A0_3 l0_3.length c0_3)) (fun _ hk => hk.2) (.slice A50 y188.length c50)) (fun _ hk => hk.2) (.slice A52 y193.length c52)) (fun _ hk => hk.2) (.int .u32 (rd t168 1))) (fun _ hk => hk.2) (.int .u32 (rd t168 3))) (fun _ hk => hk.2) (.int .u64 (IntKind.u64.wrap (a1 + (IntKind.u64.wrap (4 * (IntKind.u64.wrap ((ji42) + (IntKind.u64.wrap (rd t168 0)))))))))) (fun _ hk => ⟨hk.1.1.1, ⟨hk.1.1.2.1, ⟨hk.1.1.2.2, hk.1.2⟩⟩⟩)⟩, ⟨by (with_reducible repeat (first | apply Kd.V_alloc | apply Kd.V_drewN | apply Kd.V_drew)); exact Kd.V_mono (Kd.V_far (p := ⟨gb201, 8, none⟩) (Kd.V_far (p := ⟨gb201, 7, none⟩) (Kd.V_far (p := ⟨gb201, 6, none⟩) (Kd.V_far (p := ⟨gb201, 5, none⟩) (Kd.V_far (p := ⟨gb201, 4, none⟩) (Kd.V_far (p := ⟨gb201, 3, none⟩) (Kd.V_far (p := ⟨gb201, 2, none⟩) (Kd.V_far (p := ⟨gb201, 1, none⟩) (Kd.V_far (p := ⟨gb201, 0, none⟩) (Kd.V_mono HO192.out (fun k_ hk => (⟨hk, hk.2⟩ : _ ∧ k_ ≠ gb201))) (fun _ hk => hk.2) (.slice A0_0 l0_0.length c0_0)) (fun _ hk => hk.2) (.int .i64 a0_1)) (fun _ hk => hk.2) (.int .u64 a0_2)) (fun _ hk => hk.2) (.slice A0_3 l0_3.length c0_3)) (fun _ hk => hk.2) (.slice A50 y188.length c50)) (fun _ hk => hk.2) (.slice A52 y193.length c52)) (fun _ hk => hk.2) (.int .u32 (rd t168 1))) (fun _ hk => hk.2) (.int .u32 (rd t168 3))) (fun _ hk => hk.2) (.int .u64 (IntKind.u64.wrap (a1 + (IntKind.u64.wrap (4 * (IntKind.u64.wrap ((ji42) + (IntKind.u64.wrap (rd t168 0)))))))))) (fun _ hk => ⟨hk.1.1.1, ⟨hk.1.1.2.1, ⟨hk.1.1.2.2, hk.1.2⟩⟩⟩)⟩, ⟨by (with_reducible repeat (first | apply Kd.V_alloc | apply Kd.V_drewN | apply Kd.V_drew)); exact Kd.V_mono (Kd.V_far (p := ⟨gb201, 8, none⟩) (Kd.V_far (p := ⟨gb201, 7, none⟩) (Kd.V_far (p := ⟨gb201, 6, none⟩) (Kd.V_far (p := ⟨gb201, 5, none⟩) (Kd.V_far (p := ⟨gb201, 4, none⟩) (Kd.V_far (p := ⟨gb201, 3, none⟩) (Kd.V_far (p := ⟨gb201, 2, none⟩) (Kd.V_far (p := ⟨gb201, 1, none⟩) (Kd.V_far (p := ⟨gb201, 0, none⟩) (Kd.V_mono HO197.out (fun k_ hk => (⟨hk, hk.2⟩ : _ ∧ k_ ≠ gb201))) (fun _ hk => hk.2) (.slice A0_0 l0_0.length c0_0)) (fun _ hk => hk.2) (.int .i64 a0_1)) (fun _ hk => hk.2) (.int .u64 a0_2)) (fun _ hk => hk.2) (.slice A0_3 l0_3.length c0_3)) (fun _ hk => hk.2) (.slice A50 y188.length c50)) (fun _ hk => hk.2) (.slice A52 y193.length c52)) (fun _ hk => hk.2) (.int .u32 (rd t168 1))) (fun _ hk => hk.2) (.int .u32 (rd t168 3))) (fun _ hk => hk.2) (.int .u64 (IntKind.u64.wrap (a1 + (IntKind.u64.wrap (4 * (IntKind.u64.wrap ((ji42) + (IntKind.u64.wrap (rd t168 0)))))))))) (fun _ hk => ⟨hk.1.1.1, ⟨hk.1.1.2.1, ⟨hk.1.1.2.2, hk.1.2⟩⟩⟩)⟩, ⟨by (with_reducible repeat (first | refine blk_drewN ?_ _ | refine blk_drew ?_ | refine blk_alloc ?_ _)); refine blk_far ?_ NB166_201.out _; (with_reducible repeat (first | refine blk_drewN ?_ _ | refine blk_drew ?_ | refine blk_alloc ?_ _)); refine blk_far ?_ NB166_201.out _; (with_reducible repeat (first | refine blk_drewN ?_ _ | refine blk_drew ?_ | refine blk_alloc ?_ _)); refine blk_far ?_ NB166_201.out _; (with_reducible repeat (first | refine blk_drewN ?_ _ | refine blk_drew ?_ | refine blk_alloc ?_ _)); refine blk_far ?_ NB166_201.out _; (with_reducible repeat (first | refine blk_drewN ?_ _ | refine blk_drew ?_ | refine blk_alloc ?_ _)); refine blk_far ?_ NB166_201.out _; (with_reducible repeat (first | refine blk_drewN ?_ _ | refine blk_drew ?_ | refine blk_alloc ?_ _)); refine blk_far ?_ NB166_201.out _; (with_reducible repeat (first | refine blk_drewN ?_ _ | refine blk_drew ?_ | refine blk_alloc ?_ _)); refine blk_far ?_ NB166_201.out _; (with_reducible repeat (first | refine blk_drewN ?_ _ | refine blk_drew ?_ | refine blk_alloc ?_ _)); refine blk_far ?_ NB166_201.out _; (with_reducible repeat (first | refine blk_drewN ?_ _ | refine blk_drew ?_ | refine blk_alloc ?_ _)); refine blk_far ?_ NB166_201.out _; (with_reducible repeat (first | refine blk_drewN ?_ _ | refine blk_drew ?_ | refine blk_alloc ?_ _)); exact BK166.out⟩, ⟨by (with_reducible repeat (first | refine blk_drewN ?_ _ | refine blk_drew ?_ | refine blk_alloc ?_ _)); refine blk_far ?_ NB167_201.out _; (with_reducible repeat (first | refine blk_drewN ?_ _ | refine blk_drew ?_ | refine blk_alloc ?_ _)); refine blk_far ?_ NB167_201.out _; (with_reducible repeat (first | refine blk_drewN ?_ _ | refine blk_drew ?_ | refine blk_alloc ?_ _)); refine blk_far ?_ NB167_201.out _; (with_reducible repeat (first | refine blk_drewN ?_ _ | refine blk_drew ?_ | refine blk_alloc ?_ _)); refine blk_far ?_ NB167_201.out _; (with_reducible repeat (first | refine blk_drewN ?_ _ | refine blk_drew ?_ | refine blk_alloc ?_ _)); refine blk_far ?_ NB167_201.out _; (with_reducible repeat (first | refine blk_drewN ?_ _ | refine blk_drew ?_ | refine blk_alloc ?_ _)); refine blk_far ?_ NB167_201.out _; (with_reducible repeat (first | refine blk_drewN ?_ _ | refine blk_drew ?_ | refine blk_alloc ?_ _)); refine blk_far ?_ NB167_201.out _; (with_reducible repeat (first | refine blk_drewN ?_ _ | refine blk_drew ?_ | refine blk_alloc ?_ _)); refine blk_far ?_ NB167_201.out _; (with_reducible repeat (first | refine blk_drewN ?_ _ | refine blk_drew ?_ | refine blk_alloc ?_ _)); refine blk_far ?_ NB167_201.out _; (with_reducible repeat (first | refine blk_drewN ?_ _ | refine blk_drew ?_ | refine blk_alloc ?_ _)); exact BK167.out⟩, ⟨by (with_reducible repeat (first | refine blk_drewN ?_ _ | refine blk_drew ?_ | refine blk_alloc ?_ _)); refine blk_put (cs := #[.slice A0_0 l0_0.length c0_0, .int .i64 a0_1, .int .u64 a0_2, .slice A0_3 l0_3.length c0_3, .slice A50 y188.length c50, .slice A52 y193.length c52, .int .u32 (rd t168 1), .int .u32 (rd t168 3), .int .u64 0]) ?_ 8 _ rfl; (with_reducible repeat (first | refine blk_drewN ?_ _ | refine blk_drew ?_ | refine blk_alloc ?_ _)); refine blk_put (cs := #[.slice A0_0 l0_0.length c0_0, .int .i64 a0_1, .int .u64 a0_2, .slice A0_3 l0_3.length c0_3, .slice A50 y188.length c50, .slice A52 y193.length c52, .int .u32 (rd t168 1), .int .u32 0, .int .u64 0]) ?_ 7 _ rfl; (with_reducible repeat (first | refine blk_drewN ?_ _ | refine blk_drew ?_ | refine blk_alloc ?_ _)); refine blk_put (cs := #[.slice A0_0 l0_0.length c0_0, .int .i64 a0_1, .int .u64 a0_2, .slice A0_3 l0_3.length c0_3, .slice A50 y188.length c50, .slice A52 y193.length c52, .int .u32 0, .int .u32 0, .int .u64 0]) ?_ 6 _ rfl; (with_reducible repeat (first | refine blk_drewN ?_ _ | refine blk_drew ?_ | refine blk_alloc ?_ _)); refine blk_put (cs := #[.slice A0_0 l0_0.length c0_0, .int .i64 a0_1, .int .u64 a0_2, .slice A0_3 l0_3.length c0_3, .slice A50 y188.length c50, .slice none 0 0, .int .u32 0, .int .u32 0, .int .u64 0]) ?_ 5 _ rfl; (with_reducible repeat (first | refine blk_drewN ?_ _ | refine blk_drew ?_ | refine blk_alloc ?_ _)); refine blk_put (cs := #[.slice A0_0 l0_0.length c0_0, .int .i64 a0_1, .int .u64 a0_2, .slice A0_3 l0_3.length c0_3, .slice none 0 0, .slice none 0 0, .int .u32 0, .int .u32 0, .int .u64 0]) ?_ 4 _ rfl; (with_reducible repeat (first | refine blk_drewN ?_ _ | refine blk_drew ?_ | refine blk_alloc ?_ _)); refine blk_put (cs := #[.slice A0_0 l0_0.length c0_0, .int .i64 a0_1, .int .u64 a0_2, .slice none 0 0, .slice none 0 0, .slice none 0 0, .int .u32 0, .int .u32 0, .int .u64 0]) ?_ 3 _ rfl; (with_reducible repeat (first | refine blk_drewN ?_ _ | refine blk_drew ?_ | refine blk_alloc ?_ _)); refine blk_put (cs := #[.slice A0_0 l0_0.length c0_0, .int .i64 a0_1, .int .u64 0, .slice none 0 0, .slice none 0 0, .slice none 0 0, .int .u32 0, .int .u32 0, .int .u64 0]) ?_ 2 _ rfl; (with_reducible repeat (first | refine blk_drewN ?_ _ | refine blk_drew ?_ | refine blk_alloc ?_ _)); refine blk_put (cs := #[.slice A0_0 l0_0.length c0_0, .int .i64 0, .int .u64 0, .slice none 0 0, .slice none 0 0, .slice none 0 0, .int .u32 0, .int .u32 0, .int .u64 0]) ?_ 1 _ rfl; (with_reducible repeat (first | refine blk_drewN ?_ _ | refine blk_drew ?_ | refine blk_alloc ?_ _)); refine blk_put (cs := #[.slice none 0 0, .int .i64 0, .int .u64 0, .slice none 0 0, .slice none 0 0, .slice none 0 0, .int .u32 0, .int .u32 0, .int .u64 0]) ?_ 0 _ rfl; (with_reducible repeat (first | refine blk_drewN ?_ _ | refine blk_drew ?_ | refine blk_alloc ?_ _)); exact BK201.out⟩, ⟨by repeat (first | (with_reducible first | exact HB.out | apply below_alloc | apply pw_below_drewN | apply below_drew1 | refine below_set ?_ GE166.out | refine below_set ?_ GE167.out | refine below_set ?_ GE201.out) | exact HB.out)⟩⟩
                case round =>
                 clear H'
                 try clear c1
                 try clear p1
                 try clear q1
                 try clear hx1
                 try clear qi1
                 try clear p2
                 try clear q2
                 try clear hx2
                 try clear qi2
                 try clear c5
                 try clear q5
                 try clear c6
                 try clear p18
                 try clear q18
                 try clear hx18
                 try clear qi18
                 try clear p19
                 try clear q19
                 try clear hx19
                 try clear qi19
                 try clear p20
                 try clear q20
                 try clear hx20
                 try clear qi20
                 try clear c50
                 try clear q50
                 try clear c52
                 try clear q52
                 try clear c63
                 try clear c64
                 try clear hcz65_0
                 try clear hcz65_1
                 try clear hcz65_2
                 try clear hcz65_3
                 try clear hcz65_4
                 try clear hcz65_5
                 try clear hcz65_6
                 try clear hcz65_7
                 try clear hcz65_8
                 try clear hfz65_0
                 try clear hfz65_1
                 try clear hfz65_2
                 try clear hfz65_3
                 try clear hfz65_4
                 try clear hfz65_5
                 try clear hfz65_6
                 try clear hfz65_7
                 try clear hfz65_8
                 try clear hx182_0
                 try clear hx198_0
                 try clear hx199_0
                 try clear hx200_0
                 try clear p182
                 try clear p198
                 try clear p199
                 try clear p200
                 try clear q052
                 try clear q182
                 try clear q198
                 try clear q199
                 try clear q200
                 try clear q50
                 try clear q52
                 obtain ⟨x117_2, x168001_2, x168002_2, x168006_2, x168007_2, x168008_2, rfl, HA, HK2, HO_115, HO_167000, HO_167003, HO_202000, HO_202003, HO_202004, HO_202005, BK166, BK167, BK201, HB⟩ := hrel
                 cases gk with
                 | zero => exact absurd HA.out (by simp [hash_file_gnu.l0])
                 | succ k2 =>
                  have H := HA.out
                  clear HA
                  simp only [hash_file_gnu.l0] at H
                  by_cases c66 : x117_2 < (y193.length : Int)
                  ·rw [if_pos c66] at H
                   have c66b0 : decide (x117_2 < (y193.length : Int)) = true := decide_eq_true c66
                   clear c66
                   by_cases c67 : 0 ≤ x117_2
                   ·rw [if_pos c67] at H
                    have c67b0 : decide (0 ≤ x117_2) = true := decide_eq_true c67
                    clear c67
                    by_cases c68 : x117_2 < (y193.length : Int)
                    ·rw [if_pos c68] at H
                     have c68b0 : decide (x117_2 < (y193.length : Int)) = true := decide_eq_true c68
                     clear c68
                     by_cases c69 : (rd y193 x117_2) = 0
                     ·rw [if_pos c69] at H
                      have c69b0 : ((rd y193 x117_2) == 0) = true := beq_iff_eq.mpr c69
                      have c69b1 : ((rd y193 x117_2) != 0) = false := bne_eq_false_iff_eq.mpr c69
                      clear c69
                      have H' := Aside0.mk H
                      clear H
                      have p202 : 0 ≤ (x117_2 : Int) := of_decide_eq_true (by assumption)
                      have q202 : x117_2 < (y193.length : Int) := of_decide_eq_true (by assumption)
                      obtain ⟨ad202, e202, hx202_0⟩ := Kd.at_int (Kd.V_reads' HO_115.out).2.2 x117_2 p202 q202
                      cases e202
                      replace p202 := eq_true p202
                      replace q202 := eq_true q202
                      go_wp2
                      go_roundg k2
                      case measure => have := HJ3.out; have := HK2.out; omega
                      case rel => exact ⟨(wrap64 (x117_2 + 1)), (x168001_2), (x168002_2), (x168006_2), (x168007_2), (x168008_2), (by first | rfl | (simp; done) | (simp [*]; done)), H', ⟨by have := HJ3.out; have := HK2.out; omega⟩, ⟨by (with_reducible repeat (first | apply Kd.V_alloc | apply Kd.V_drewN | apply Kd.V_drew)); exact HO_115.out⟩, ⟨by (with_reducible repeat (first | apply Kd.V_alloc | apply Kd.V_drewN | apply Kd.V_drew)); exact HO_167000.out⟩, ⟨by (with_reducible repeat (first | apply Kd.V_alloc | apply Kd.V_drewN | apply Kd.V_drew)); exact HO_167003.out⟩, ⟨by (with_reducible repeat (first | apply Kd.V_alloc | apply Kd.V_drewN | apply Kd.V_drew)); exact HO_202000.out⟩, ⟨by (with_reducible repeat (first | apply Kd.V_alloc | apply Kd.V_drewN | apply Kd.V_drew)); exact HO_202003.out⟩, ⟨by (with_reducible repeat (first | apply Kd.V_alloc | apply Kd.V_drewN | apply Kd.V_drew)); exact HO_202004.out⟩, ⟨by (with_reducible repeat (first | apply Kd.V_alloc | apply Kd.V_drewN | apply Kd.V_drew)); exact HO_202005.out⟩, ⟨by (with_reducible repeat (first | refine blk_drewN ?_ _ | refine blk_drew ?_ | refine blk_alloc ?_ _)); exact BK166.out⟩, ⟨by (with_reducible repeat (first | refine blk_drewN ?_ _ | refine blk_drew ?_ | refine blk_alloc ?_ _)); exact BK167.out⟩, ⟨by (with_reducible repeat (first | refine blk_drewN ?_ _ | refine blk_drew ?_ | refine blk_alloc ?_ _)); exact BK201.out⟩, ⟨by repeat (first | (with_reducible first | exact HB.out | apply below_alloc | apply pw_below_drewN | apply below_drew1 | refine below_set ?_ GE166.out | refine below_set ?_ GE167.out | refine below_set ?_ GE201.out) | exact HB.out)⟩⟩
                     ·rw [if_neg c69] at H
                      have c69b0 : ((rd y193 x117_2) == 0) = false := beq_eq_false_iff_ne.mpr c69
                      have c69b1 : ((rd y193 x117_2) != 0) = true := bne_iff_ne.mpr c69
                      by_cases c70 : (rd y193 x117_2) < (rd t168 1)
                      ·rw [if_pos c70] at H
                       have c70b0 : decide ((rd y193 x117_2) < (rd t168 1)) = true := decide_eq_true c70
                       clear c70
                       simp only [Option.some.injEq, Prod.mk.injEq] at H
                       obtain ⟨rfl, rfl, rfl, rfl, rfl, rfl, rfl, rfl, rfl, rfl⟩ := H
                       have p202 : 0 ≤ (x117_2 : Int) := of_decide_eq_true (by assumption)
                       have q202 : x117_2 < (y193.length : Int) := of_decide_eq_true (by assumption)
                       obtain ⟨ad202, e202, hx202_0⟩ := Kd.at_int (Kd.V_reads' HO_115.out).2.2 x117_2 p202 q202
                       cases e202
                       replace p202 := eq_true p202
                       replace q202 := eq_true q202
                       have hnb71 := NB201_166.out
                       have hnc71 := NB166_201.out
                       have hnb72 := NB201_167.out
                       have hnc72 := NB167_201.out
                       have hcz73_0 : wr.cell? ⟨gb201, 0, none⟩ = some (.slice A0_0 l0_0.length c0_0) := (blk_cell BK201.out 0).trans rfl
                       have hcz73_1 : wr.cell? ⟨gb201, 1, none⟩ = some (.int .i64 a0_1) := (blk_cell BK201.out 1).trans rfl
                       have hcz73_2 : wr.cell? ⟨gb201, 2, none⟩ = some (.int .u64 a0_2) := (blk_cell BK201.out 2).trans rfl
                       have hcz73_3 : wr.cell? ⟨gb201, 3, none⟩ = some (.slice A0_3 l0_3.length c0_3) := (blk_cell BK201.out 3).trans rfl
                       have hcz73_4 : wr.cell? ⟨gb201, 4, none⟩ = some (.slice A50 y188.length c50) := (blk_cell BK201.out 4).trans rfl
                       have hcz73_5 : wr.cell? ⟨gb201, 5, none⟩ = some (.slice (some ad202) y193.length c52) := (blk_cell BK201.out 5).trans rfl
                       have hcz73_6 : wr.cell? ⟨gb201, 6, none⟩ = some (.int .u32 (rd t168 1)) := (blk_cell BK201.out 6).trans rfl
                       have hcz73_7 : wr.cell? ⟨gb201, 7, none⟩ = some (.int .u32 (rd t168 3)) := (blk_cell BK201.out 7).trans rfl
                       have hcz73_8 : wr.cell? ⟨gb201, 8, none⟩ = some (.int .u64 (IntKind.u64.wrap (a1 + (IntKind.u64.wrap (4 * (IntKind.u64.wrap ((ji42) + (IntKind.u64.wrap (rd t168 0))))))))) := (blk_cell BK201.out 8).trans rfl
                       have hfz73_0 := blk_frozen BK201.out 0
                       have hfz73_1 := blk_frozen BK201.out 1
                       have hfz73_2 := blk_frozen BK201.out 2
                       have hfz73_3 := blk_frozen BK201.out 3
                       have hfz73_4 := blk_frozen BK201.out 4
                       have hfz73_5 := blk_frozen BK201.out 5
                       have hfz73_6 := blk_frozen BK201.out 6
                       have hfz73_7 := blk_frozen BK201.out 7
                       have hfz73_8 := blk_frozen BK201.out 8
                       have hnb74 := NB167_166.out
                       have hnc74 := NB166_167.out
                       have hcz75_0 : wr.cell? ⟨gb167, 0, none⟩ = some (.slice none 0 0) := (blk_cell BK167.out 0).trans rfl
                       have hcz75_1 : wr.cell? ⟨gb167, 1, none⟩ = some (.int .i64 x168001_2) := (blk_cell BK167.out 1).trans rfl
                       have hcz75_2 : wr.cell? ⟨gb167, 2, none⟩ = some (.int .u64 x168002_2) := (blk_cell BK167.out 2).trans rfl
                       have hcz75_3 : wr.cell? ⟨gb167, 3, none⟩ = some (.slice none 0 0) := (blk_cell BK167.out 3).trans rfl
                       have hcz75_4 : wr.cell? ⟨gb167, 4, none⟩ = some (.slice none 0 0) := (blk_cell BK167.out 4).trans rfl
                       have hcz75_5 : wr.cell? ⟨gb167, 5, none⟩ = some (.slice none 0 0) := (blk_cell BK167.out 5).trans rfl
                       have hcz75_6 : wr.cell? ⟨gb167, 6, none⟩ = some (.int .u32 x168006_2) := (blk_cell BK167.out 6).trans rfl
                       have hcz75_7 : wr.cell? ⟨gb167, 7, none⟩ = some (.int .u32 x168007_2) := (blk_cell BK167.out 7).trans rfl
                       have hcz75_8 : wr.cell? ⟨gb167, 8, none⟩ = some (.int .u64 x168008_2) := (blk_cell BK167.out 8).trans rfl
                       have hfz75_0 := blk_frozen BK167.out 0
                       have hfz75_1 := blk_frozen BK167.out 1
                       have hfz75_2 := blk_frozen BK167.out 2
                       have hfz75_3 := blk_frozen BK167.out 3
                       have hfz75_4 := blk_frozen BK167.out 4
                       have hfz75_5 := blk_frozen BK167.out 5
                       have hfz75_6 := blk_frozen BK167.out 6
                       have hfz75_7 := blk_frozen BK167.out 7
                       have hfz75_8 := blk_frozen BK167.out 8
                       go_wp2
                       refine bodyPost_ret (results_ct rfl _ _ gb167 92 #[.slice none 0 0, .int .i64 0, .int .u64 0, .slice none 0 0, .slice none 0 0, .slice none 0 0, .int .u32 0, .int .u32 0, .int .u64 0] (0, 0) _ rfl (by (with_reducible repeat (first | refine blk_drewN ?_ _ | refine blk_drew ?_ | refine blk_alloc ?_ _)); refine blk_put (cs := #[.slice none 0 0, .int .i64 0, .int .u64 0, .slice none 0 0, .slice none 0 0, .slice none 0 0, .int .u32 0, .int .u32 0, .int .u64 x168008_2]) ?_ 8 _ rfl; (with_reducible repeat (first | refine blk_drewN ?_ _ | refine blk_drew ?_ | refine blk_alloc ?_ _)); refine blk_put (cs := #[.slice none 0 0, .int .i64 0, .int .u64 0, .slice none 0 0, .slice none 0 0, .slice none 0 0, .int .u32 0, .int .u32 x168007_2, .int .u64 x168008_2]) ?_ 7 _ rfl; (with_reducible repeat (first | refine blk_drewN ?_ _ | refine blk_drew ?_ | refine blk_alloc ?_ _)); refine blk_put (cs := #[.slice none 0 0, .int .i64 0, .int .u64 0, .slice none 0 0, .slice none 0 0, .slice none 0 0, .int .u32 x168006_2, .int .u32 x168007_2, .int .u64 x168008_2]) ?_ 6 _ rfl; (with_reducible repeat (first | refine blk_drewN ?_ _ | refine blk_drew ?_ | refine blk_alloc ?_ _)); refine blk_put (cs := #[.slice none 0 0, .int .i64 0, .int .u64 0, .slice none 0 0, .slice none 0 0, .slice none 0 0, .int .u32 x168006_2, .int .u32 x168007_2, .int .u64 x168008_2]) ?_ 5 _ rfl; (with_reducible repeat (first | refine blk_drewN ?_ _ | refine blk_drew ?_ | refine blk_alloc ?_ _)); refine blk_put (cs := #[.slice none 0 0, .int .i64 0, .int .u64 0, .slice none 0 0, .slice none 0 0, .slice none 0 0, .int .u32 x168006_2, .int .u32 x168007_2, .int .u64 x168008_2]) ?_ 4 _ rfl; (with_reducible repeat (first | refine blk_drewN ?_ _ | refine blk_drew ?_ | refine blk_alloc ?_ _)); refine blk_put (cs := #[.slice none 0 0, .int .i64 0, .int .u64 0, .slice none 0 0, .slice none 0 0, .slice none 0 0, .int .u32 x168006_2, .int .u32 x168007_2, .int .u64 x168008_2]) ?_ 3 _ rfl; (with_reducible repeat (first | refine blk_drewN ?_ _ | refine blk_drew ?_ | refine blk_alloc ?_ _)); refine blk_put (cs := #[.slice none 0 0, .int .i64 0, .int .u64 x168002_2, .slice none 0 0, .slice none 0 0, .slice none 0 0, .int .u32 x168006_2, .int .u32 x168007_2, .int .u64 x168008_2]) ?_ 2 _ rfl; (with_reducible repeat (first | refine blk_drewN ?_ _ | refine blk_drew ?_ | refine blk_alloc ?_ _)); refine blk_put (cs := #[.slice none 0 0, .int .i64 x168001_2, .int .u64 x168002_2, .slice none 0 0, .slice none 0 0, .slice none 0 0, .int .u32 x168006_2, .int .u32 x168007_2, .int .u64 x168008_2]) ?_ 1 _ rfl; (with_reducible repeat (first | refine blk_drewN ?_ _ | refine blk_drew ?_ | refine blk_alloc ?_ _)); refine blk_put (cs := #[.slice none 0 0, .int .i64 x168001_2, .int .u64 x168002_2, .slice none 0 0, .slice none 0 0, .slice none 0 0, .int .u32 x168006_2, .int .u32 x168007_2, .int .u64 x168008_2]) ?_ 0 _ rfl; (with_reducible repeat (first | refine blk_drewN ?_ _ | refine blk_drew ?_ | refine blk_alloc ?_ _)); exact BK167.out) Try.underlying92 rfl (by kernel_rfl)) rfl ?_
                       exact ⟨_, _, _, _, by first | rfl | (simp [errW_none, errW_some] <;> rfl) | (simp only [← hji42]; first | rfl | (simp [errW_none, errW_some] <;> rfl)) | (simp [*, errW_none, errW_some] <;> rfl), Kd.V_nil _ _ _ _ _, Kd.V_nil _ _ _ _ _, Kd.V_nil _ _ _ _ _, Kd.V_nil _ _ _ _ _, by repeat (first | (with_reducible first | exact HB.out | apply below_alloc | apply pw_below_drewN | apply below_drew1 | refine below_set ?_ GE166.out | refine below_set ?_ GE167.out | refine below_set ?_ GE201.out) | exact HB.out)⟩
                      ·rw [if_neg c70] at H
                       have c70b0 : decide ((rd y193 x117_2) < (rd t168 1)) = false := decide_eq_false c70
                       clear c70
                       have H' := Aside0.mk H
                       clear H
                       have p202 : 0 ≤ (x117_2 : Int) := of_decide_eq_true (by assumption)
                       have q202 : x117_2 < (y193.length : Int) := of_decide_eq_true (by assumption)
                       obtain ⟨ad202, e202, hx202_0⟩ := Kd.at_int (Kd.V_reads' HO_115.out).2.2 x117_2 p202 q202
                       cases e202
                       replace p202 := eq_true p202
                       replace q202 := eq_true q202
                       have hnb76 := NB201_166.out
                       have hnc76 := NB166_201.out
                       have hnb77 := NB201_167.out
                       have hnc77 := NB167_201.out
                       have hcz78_0 : wr.cell? ⟨gb201, 0, none⟩ = some (.slice A0_0 l0_0.length c0_0) := (blk_cell BK201.out 0).trans rfl
                       have hcz78_1 : wr.cell? ⟨gb201, 1, none⟩ = some (.int .i64 a0_1) := (blk_cell BK201.out 1).trans rfl
                       have hcz78_2 : wr.cell? ⟨gb201, 2, none⟩ = some (.int .u64 a0_2) := (blk_cell BK201.out 2).trans rfl
                       have hcz78_3 : wr.cell? ⟨gb201, 3, none⟩ = some (.slice A0_3 l0_3.length c0_3) := (blk_cell BK201.out 3).trans rfl
                       have hcz78_4 : wr.cell? ⟨gb201, 4, none⟩ = some (.slice A50 y188.length c50) := (blk_cell BK201.out 4).trans rfl
                       have hcz78_5 : wr.cell? ⟨gb201, 5, none⟩ = some (.slice (some ad202) y193.length c52) := (blk_cell BK201.out 5).trans rfl
                       have hcz78_6 : wr.cell? ⟨gb201, 6, none⟩ = some (.int .u32 (rd t168 1)) := (blk_cell BK201.out 6).trans rfl
                       have hcz78_7 : wr.cell? ⟨gb201, 7, none⟩ = some (.int .u32 (rd t168 3)) := (blk_cell BK201.out 7).trans rfl
                       have hcz78_8 : wr.cell? ⟨gb201, 8, none⟩ = some (.int .u64 (IntKind.u64.wrap (a1 + (IntKind.u64.wrap (4 * (IntKind.u64.wrap ((ji42) + (IntKind.u64.wrap (rd t168 0))))))))) := (blk_cell BK201.out 8).trans rfl
                       have hfz78_0 := blk_frozen BK201.out 0
                       have hfz78_1 := blk_frozen BK201.out 1
                       have hfz78_2 := blk_frozen BK201.out 2
                       have hfz78_3 := blk_frozen BK201.out 3
                       have hfz78_4 := blk_frozen BK201.out 4
                       have hfz78_5 := blk_frozen BK201.out 5
                       have hfz78_6 := blk_frozen BK201.out 6
                       have hfz78_7 := blk_frozen BK201.out 7
                       have hfz78_8 := blk_frozen BK201.out 8
                       go_wp2
                       go_roundg k2
                       case measure => have := HJ3.out; have := HK2.out; omega
                       case rel => exact ⟨(wrap64 (x117_2 + 1)), (x168001_2), (x168002_2), (x168006_2), (x168007_2), (x168008_2), (by first | rfl | (simp; done) | (simp [*]; done)), H', ⟨by have := HJ3.out; have := HK2.out; omega⟩, ⟨by (with_reducible repeat (first | apply Kd.V_alloc | apply Kd.V_drewN | apply Kd.V_drew)); exact HO_115.out⟩, ⟨by (with_reducible repeat (first | apply Kd.V_alloc | apply Kd.V_drewN | apply Kd.V_drew)); exact HO_167000.out⟩, ⟨by (with_reducible repeat (first | apply Kd.V_alloc | apply Kd.V_drewN | apply Kd.V_drew)); exact HO_167003.out⟩, ⟨by (with_reducible repeat (first | apply Kd.V_alloc | apply Kd.V_drewN | apply Kd.V_drew)); exact HO_202000.out⟩, ⟨by (with_reducible repeat (first | apply Kd.V_alloc | apply Kd.V_drewN | apply Kd.V_drew)); exact HO_202003.out⟩, ⟨by (with_reducible repeat (first | apply Kd.V_alloc | apply Kd.V_drewN | apply Kd.V_drew)); exact HO_202004.out⟩, ⟨by (with_reducible repeat (first | apply Kd.V_alloc | apply Kd.V_drewN | apply Kd.V_drew)); exact HO_202005.out⟩, ⟨by (with_reducible repeat (first | refine blk_drewN ?_ _ | refine blk_drew ?_ | refine blk_alloc ?_ _)); exact BK166.out⟩, ⟨by (with_reducible repeat (first | refine blk_drewN ?_ _ | refine blk_drew ?_ | refine blk_alloc ?_ _)); exact BK167.out⟩, ⟨by (with_reducible repeat (first | refine blk_drewN ?_ _ | refine blk_drew ?_ | refine blk_alloc ?_ _)); exact BK201.out⟩, ⟨by repeat (first | (with_reducible first | exact HB.out | apply below_alloc | apply pw_below_drewN | apply below_drew1 | refine below_set ?_ GE166.out | refine below_set ?_ GE167.out | refine below_set ?_ GE201.out) | exact HB.out)⟩⟩
                    ·rw [if_neg c68] at H
                     exact absurd H (by simp)
                   ·rw [if_neg c67] at H
                    exact absurd H (by simp)
                  ·rw [if_neg c66] at H
                   have c66b0 : decide (x117_2 < (y193.length : Int)) = false := decide_eq_false c66
                   clear c66
                   simp only [Option.some.injEq, Prod.mk.injEq] at H
                   obtain ⟨rfl, rfl, rfl, rfl, rfl, rfl, rfl, rfl, rfl, rfl⟩ := H
                   have hnb79 := NB201_166.out
                   have hnc79 := NB166_201.out
                   have hnb80 := NB201_167.out
                   have hnc80 := NB167_201.out
                   have hcz81_0 : wr.cell? ⟨gb201, 0, none⟩ = some (.slice A0_0 l0_0.length c0_0) := (blk_cell BK201.out 0).trans rfl
                   have hcz81_1 : wr.cell? ⟨gb201, 1, none⟩ = some (.int .i64 a0_1) := (blk_cell BK201.out 1).trans rfl
                   have hcz81_2 : wr.cell? ⟨gb201, 2, none⟩ = some (.int .u64 a0_2) := (blk_cell BK201.out 2).trans rfl
                   have hcz81_3 : wr.cell? ⟨gb201, 3, none⟩ = some (.slice A0_3 l0_3.length c0_3) := (blk_cell BK201.out 3).trans rfl
                   have hcz81_4 : wr.cell? ⟨gb201, 4, none⟩ = some (.slice A50 y188.length c50) := (blk_cell BK201.out 4).trans rfl
                   have hcz81_5 : wr.cell? ⟨gb201, 5, none⟩ = some (.slice A52 y193.length c52) := (blk_cell BK201.out 5).trans rfl
                   have hcz81_6 : wr.cell? ⟨gb201, 6, none⟩ = some (.int .u32 (rd t168 1)) := (blk_cell BK201.out 6).trans rfl
                   have hcz81_7 : wr.cell? ⟨gb201, 7, none⟩ = some (.int .u32 (rd t168 3)) := (blk_cell BK201.out 7).trans rfl
                   have hcz81_8 : wr.cell? ⟨gb201, 8, none⟩ = some (.int .u64 (IntKind.u64.wrap (a1 + (IntKind.u64.wrap (4 * (IntKind.u64.wrap ((ji42) + (IntKind.u64.wrap (rd t168 0))))))))) := (blk_cell BK201.out 8).trans rfl
                   have hfz81_0 := blk_frozen BK201.out 0
                   have hfz81_1 := blk_frozen BK201.out 1
                   have hfz81_2 := blk_frozen BK201.out 2
                   have hfz81_3 := blk_frozen BK201.out 3
                   have hfz81_4 := blk_frozen BK201.out 4
                   have hfz81_5 := blk_frozen BK201.out 5
                   have hfz81_6 := blk_frozen BK201.out 6
                   have hfz81_7 := blk_frozen BK201.out 7
                   have hfz81_8 := blk_frozen BK201.out 8
                   have hnb82 := NB167_166.out
                   have hnc82 := NB166_167.out
                   have hcz83_0 : wr.cell? ⟨gb167, 0, none⟩ = some (.slice none 0 0) := (blk_cell BK167.out 0).trans rfl
                   have hcz83_1 : wr.cell? ⟨gb167, 1, none⟩ = some (.int .i64 x168001_2) := (blk_cell BK167.out 1).trans rfl
                   have hcz83_2 : wr.cell? ⟨gb167, 2, none⟩ = some (.int .u64 x168002_2) := (blk_cell BK167.out 2).trans rfl
                   have hcz83_3 : wr.cell? ⟨gb167, 3, none⟩ = some (.slice none 0 0) := (blk_cell BK167.out 3).trans rfl
                   have hcz83_4 : wr.cell? ⟨gb167, 4, none⟩ = some (.slice none 0 0) := (blk_cell BK167.out 4).trans rfl
                   have hcz83_5 : wr.cell? ⟨gb167, 5, none⟩ = some (.slice none 0 0) := (blk_cell BK167.out 5).trans rfl
                   have hcz83_6 : wr.cell? ⟨gb167, 6, none⟩ = some (.int .u32 x168006_2) := (blk_cell BK167.out 6).trans rfl
                   have hcz83_7 : wr.cell? ⟨gb167, 7, none⟩ = some (.int .u32 x168007_2) := (blk_cell BK167.out 7).trans rfl
                   have hcz83_8 : wr.cell? ⟨gb167, 8, none⟩ = some (.int .u64 x168008_2) := (blk_cell BK167.out 8).trans rfl
                   have hfz83_0 := blk_frozen BK167.out 0
                   have hfz83_1 := blk_frozen BK167.out 1
                   have hfz83_2 := blk_frozen BK167.out 2
                   have hfz83_3 := blk_frozen BK167.out 3
                   have hfz83_4 := blk_frozen BK167.out 4
                   have hfz83_5 := blk_frozen BK167.out 5
                   have hfz83_6 := blk_frozen BK167.out 6
                   have hfz83_7 := blk_frozen BK167.out 7
                   have hfz83_8 := blk_frozen BK167.out 8
                   go_wp2
                   refine bodyPost_ret (results_ct rfl _ _ gb167 92 #[.slice A0_0 l0_0.length c0_0, .int .i64 a0_1, .int .u64 a0_2, .slice A0_3 l0_3.length c0_3, .slice A50 y188.length c50, .slice A52 y193.length c52, .int .u32 (rd t168 1), .int .u32 (rd t168 3), .int .u64 (IntKind.u64.wrap (a1 + (IntKind.u64.wrap (4 * (IntKind.u64.wrap ((ji42) + (IntKind.u64.wrap (rd t168 0))))))))] (0, 0) _ rfl (by (with_reducible repeat (first | refine blk_drewN ?_ _ | refine blk_drew ?_ | refine blk_alloc ?_ _)); refine blk_put (cs := #[.slice A0_0 l0_0.length c0_0, .int .i64 a0_1, .int .u64 a0_2, .slice A0_3 l0_3.length c0_3, .slice A50 y188.length c50, .slice A52 y193.length c52, .int .u32 (rd t168 1), .int .u32 (rd t168 3), .int .u64 x168008_2]) ?_ 8 _ rfl; (with_reducible repeat (first | refine blk_drewN ?_ _ | refine blk_drew ?_ | refine blk_alloc ?_ _)); refine blk_put (cs := #[.slice A0_0 l0_0.length c0_0, .int .i64 a0_1, .int .u64 a0_2, .slice A0_3 l0_3.length c0_3, .slice A50 y188.length c50, .slice A52 y193.length c52, .int .u32 (rd t168 1), .int .u32 x168007_2, .int .u64 x168008_2]) ?_ 7 _ rfl; (with_reducible repeat (first | refine blk_drewN ?_ _ | refine blk_drew ?_ | refine blk_alloc ?_ _)); refine blk_put (cs := #[.slice A0_0 l0_0.length c0_0, .int .i64 a0_1, .int .u64 a0_2, .slice A0_3 l0_3.length c0_3, .slice A50 y188.length c50, .slice A52 y193.length c52, .int .u32 x168006_2, .int .u32 x168007_2, .int .u64 x168008_2]) ?_ 6 _ rfl; (with_reducible repeat (first | refine blk_drewN ?_ _ | refine blk_drew ?_ | refine blk_alloc ?_ _)); refine blk_put (cs := #[.slice A0_0 l0_0.length c0_0, .int .i64 a0_1, .int .u64 a0_2, .slice A0_3 l0_3.length c0_3, .slice A50 y188.length c50, .slice none 0 0, .int .u32 x168006_2, .int .u32 x168007_2, .int .u64 x168008_2]) ?_ 5 _ rfl; (with_reducible repeat (first | refine blk_drewN ?_ _ | refine blk_drew ?_ | refine blk_alloc ?_ _)); refine blk_put (cs := #[.slice A0_0 l0_0.length c0_0, .int .i64 a0_1, .int .u64 a0_2, .slice A0_3 l0_3.length c0_3, .slice none 0 0, .slice none 0 0, .int .u32 x168006_2, .int .u32 x168007_2, .int .u64 x168008_2]) ?_ 4 _ rfl; (with_reducible repeat (first | refine blk_drewN ?_ _ | refine blk_drew ?_ | refine blk_alloc ?_ _)); refine blk_put (cs := #[.slice A0_0 l0_0.length c0_0, .int .i64 a0_1, .int .u64 a0_2, .slice none 0 0, .slice none 0 0, .slice none 0 0, .int .u32 x168006_2, .int .u32 x168007_2, .int .u64 x168008_2]) ?_ 3 _ rfl; (with_reducible repeat (first | refine blk_drewN ?_ _ | refine blk_drew ?_ | refine blk_alloc ?_ _)); refine blk_put (cs := #[.slice A0_0 l0_0.length c0_0, .int .i64 a0_1, .int .u64 x168002_2, .slice none 0 0, .slice none 0 0, .slice none 0 0, .int .u32 x168006_2, .int .u32 x168007_2, .int .u64 x168008_2]) ?_ 2 _ rfl; (with_reducible repeat (first | refine blk_drewN ?_ _ | refine blk_drew ?_ | refine blk_alloc ?_ _)); refine blk_put (cs := #[.slice A0_0 l0_0.length c0_0, .int .i64 x168001_2, .int .u64 x168002_2, .slice none 0 0, .slice none 0 0, .slice none 0 0, .int .u32 x168006_2, .int .u32 x168007_2, .int .u64 x168008_2]) ?_ 1 _ rfl; (with_reducible repeat (first | refine blk_drewN ?_ _ | refine blk_drew ?_ | refine blk_alloc ?_ _)); refine blk_put (cs := #[.slice none 0 0, .int .i64 x168001_2, .int .u64 x168002_2, .slice none 0 0, .slice none 0 0, .slice none 0 0, .int .u32 x168006_2, .int .u32 x168007_2, .int .u64 x168008_2]) ?_ 0 _ rfl; (with_reducible repeat (first | refine blk_drewN ?_ _ | refine blk_drew ?_ | refine blk_alloc ?_ _)); exact BK167.out) Try.underlying92 rfl (by kernel_rfl)) rfl ?_
                   exact ⟨_, _, _, _, by first | rfl | (simp [errW_none, errW_some] <;> rfl) | (simp only [← hji42]; first | rfl | (simp [errW_none, errW_some] <;> rfl)) | (simp [*, errW_none, errW_some] <;> rfl), by (with_reducible repeat (first | apply Kd.V_alloc | apply Kd.V_drewN | apply Kd.V_drew)); exact Kd.V_mono (Kd.V_far (p := ⟨gb167, 8, none⟩) (Kd.V_far (p := ⟨gb167, 7, none⟩) (Kd.V_far (p := ⟨gb167, 6, none⟩) (Kd.V_far (p := ⟨gb167, 5, none⟩) (Kd.V_far (p := ⟨gb167, 4, none⟩) (Kd.V_far (p := ⟨gb167, 3, none⟩) (Kd.V_far (p := ⟨gb167, 2, none⟩) (Kd.V_far (p := ⟨gb167, 1, none⟩) (Kd.V_far (p := ⟨gb167, 0, none⟩) (Kd.V_mono HO_202000.out (fun k_ hk => (⟨hk, hk.2.2.1⟩ : _ ∧ k_ ≠ gb167))) (fun _ hk => hk.2) (.slice A0_0 l0_0.length c0_0)) (fun _ hk => hk.2) (.int .i64 a0_1)) (fun _ hk => hk.2) (.int .u64 a0_2)) (fun _ hk => hk.2) (.slice A0_3 l0_3.length c0_3)) (fun _ hk => hk.2) (.slice A50 y188.length c50)) (fun _ hk => hk.2) (.slice A52 y193.length c52)) (fun _ hk => hk.2) (.int .u32 (rd t168 1))) (fun _ hk => hk.2) (.int .u32 (rd t168 3))) (fun _ hk => hk.2) (.int .u64 (IntKind.u64.wrap (a1 + (IntKind.u64.wrap (4 * (IntKind.u64.wrap ((ji42) + (IntKind.u64.wrap (rd t168 0)))))))))) (fun _ hk => hk.1.1), by (with_reducible repeat (first | apply Kd.V_alloc | apply Kd.V_drewN | apply Kd.V_drew)); exact Kd.V_mono (Kd.V_far (p := ⟨gb167, 8, none⟩) (Kd.V_far (p := ⟨gb167, 7, none⟩) (Kd.V_far (p := ⟨gb167, 6, none⟩) (Kd.V_far (p := ⟨gb167, 5, none⟩) (Kd.V_far (p := ⟨gb167, 4, none⟩) (Kd.V_far (p := ⟨gb167, 3, none⟩) (Kd.V_far (p := ⟨gb167, 2, none⟩) (Kd.V_far (p := ⟨gb167, 1, none⟩) (Kd.V_far (p := ⟨gb167, 0, none⟩) (Kd.V_mono HO_202003.out (fun k_ hk => (⟨hk, hk.2.2.1⟩ : _ ∧ k_ ≠ gb167))) (fun _ hk => hk.2) (.slice A0_0 l0_0.length c0_0)) (fun _ hk => hk.2) (.int .i64 a0_1)) (fun _ hk => hk.2) (.int .u64 a0_2)) (fun _ hk => hk.2) (.slice A0_3 l0_3.length c0_3)) (fun _ hk => hk.2) (.slice A50 y188.length c50)) (fun _ hk => hk.2) (.slice A52 y193.length c52)) (fun _ hk => hk.2) (.int .u32 (rd t168 1))) (fun _ hk => hk.2) (.int .u32 (rd t168 3))) (fun _ hk => hk.2) (.int .u64 (IntKind.u64.wrap (a1 + (IntKind.u64.wrap (4 * (IntKind.u64.wrap ((ji42) + (IntKind.u64.wrap (rd t168 0)))))))))) (fun _ hk => hk.1.1), by (with_reducible repeat (first | apply Kd.V_alloc | apply Kd.V_drewN | apply Kd.V_drew)); exact Kd.V_mono (Kd.V_far (p := ⟨gb167, 8, none⟩) (Kd.V_far (p := ⟨gb167, 7, none⟩) (Kd.V_far (p := ⟨gb167, 6, none⟩) (Kd.V_far (p := ⟨gb167, 5, none⟩) (Kd.V_far (p := ⟨gb167, 4, none⟩) (Kd.V_far (p := ⟨gb167, 3, none⟩) (Kd.V_far (p := ⟨gb167, 2, none⟩) (Kd.V_far (p := ⟨gb167, 1, none⟩) (Kd.V_far (p := ⟨gb167, 0, none⟩) (Kd.V_mono HO_202004.out (fun k_ hk => (⟨hk, hk.2.2.1⟩ : _ ∧ k_ ≠ gb167))) (fun _ hk => hk.2) (.slice A0_0 l0_0.length c0_0)) (fun _ hk => hk.2) (.int .i64 a0_1)) (fun _ hk => hk.2) (.int .u64 a0_2)) (fun _ hk => hk.2) (.slice A0_3 l0_3.length c0_3)) (fun _ hk => hk.2) (.slice A50 y188.length c50)) (fun _ hk => hk.2) (.slice A52 y193.length c52)) (fun _ hk => hk.2) (.int .u32 (rd t168 1))) (fun _ hk => hk.2) (.int .u32 (rd t168 3))) (fun _ hk => hk.2) (.int .u64 (IntKind.u64.wrap (a1 + (IntKind.u64.wrap (4 * (IntKind.u64.wrap ((ji42) + (IntKind.u64.wrap (rd t168 0)))))))))) (fun _ hk => hk.1.1), by (with_reducible repeat (first | apply Kd.V_alloc | apply Kd.V_drewN | apply Kd.V_drew)); exact Kd.V_mono (Kd.V_far (p := ⟨gb167, 8, none⟩) (Kd.V_far (p := ⟨gb167, 7, none⟩) (Kd.V_far (p := ⟨gb167, 6, none⟩) (Kd.V_far (p := ⟨gb167, 5, none⟩) (Kd.V_far (p := ⟨gb167, 4, none⟩) (Kd.V_far (p := ⟨gb167, 3, none⟩) (Kd.V_far (p := ⟨gb167, 2, none⟩) (Kd.V_far (p := ⟨gb167, 1, none⟩) (Kd.V_far (p := ⟨gb167, 0, none⟩) (Kd.V_mono HO_202005.out (fun k_ hk => (⟨hk, hk.2.2.1⟩ : _ ∧ k_ ≠ gb167))) (fun _ hk => hk.2) (.slice A0_0 l0_0.length c0_0)) (fun _ hk => hk.2) (.int .i64 a0_1)) (fun _ hk => hk.2) (.int .u64 a0_2)) (fun _ hk => hk.2) (.slice A0_3 l0_3.length c0_3)) (fun _ hk => hk.2) (.slice A50 y188.length c50)) (fun _ hk => hk.2) (.slice A52 y193.length c52)) (fun _ hk => hk.2) (.int .u32 (rd t168 1))) (fun _ hk => hk.2) (.int .u32 (rd t168 3))) (fun _ hk => hk.2) (.int .u64 (IntKind.u64.wrap (a1 + (IntKind.u64.wrap (4 * (IntKind.u64.wrap ((ji42) + (IntKind.u64.wrap (rd t168 0)))))))))) (fun _ hk => hk.1.1), by repeat (first | (with_reducible first | exact HB.out | apply below_alloc | apply pw_below_drewN | apply below_drew1 | refine below_set ?_ GE166.out | refine below_set ?_ GE167.out | refine below_set ?_ GE201.out) | exact HB.out)⟩
               ·rw [if_neg c45] at H
                exact absurd H (by simp)
              ·rw [if_neg c43] at H
               exact absurd H (by simp)
             ·rw [if_neg c41] at H
              exact absurd H (by simp)
            ·rw [if_neg c40] at H
             exact absurd H (by simp)
           ·have H1 : (some (([] : List Int), 0, 0, ([] : List (S29)), ([] : List Int), ([] : List Int), 0, 0, 0, some q187)) = some (r1, r2, r3, r4, r5, r6, r7, r8, r9, r10) := by rw [if_neg (show ¬ (some q187).isNone = true by simp)] at H; exact H
            clear H
            have H := H1
            clear H1
            try simp only [errW_none, errW_some]
            simp only [Option.some.injEq, Prod.mk.injEq] at H
            obtain ⟨rfl, rfl, rfl, rfl, rfl, rfl, rfl, rfl, rfl, rfl⟩ := H
            obtain ⟨Ao84, co84, eo84⟩ := Kd.V_slice HO_6.out
            subst eo84
            have p178 : 0 ≤ (0 : Int) := (by omega)
            have q178 : 0 < (t168.length : Int) := of_decide_eq_true (by assumption)
            obtain ⟨ad178, e178, hx178_0⟩ := Kd.at_int (Kd.V_reads' HO_6.out).2.2 0 p178 q178
            cases e178
            have qi178 : (0 < t168.length) = True := eq_true (by omega)
            (try rw [show ((0 : Int)).toNat = 0 from rfl] at hx178_0)
            (try rw [Addr.add_zero'] at hx178_0)
            replace p178 := eq_true p178
            replace q178 := eq_true q178
            have p179 : 0 ≤ (1 : Int) := (by omega)
            have q179 : 1 < (t168.length : Int) := of_decide_eq_true (by assumption)
            obtain ⟨ad179, e179, hx179_0⟩ := Kd.at_int (Kd.V_reads' HO_6.out).2.2 1 p179 q179
            obtain rfl : ad178 = ad179 := (by injection e179)
            (try simp only [show (1 : Int).toNat = 1 from rfl, Nat.reduceMul, Nat.reduceEqDiff, Go.Addr.add, ↓reduceIte] at hx179_0)
            have qi179 : (1 < t168.length) = True := eq_true (by omega)
            (try rw [show ((1 : Int)).toNat = 1 from rfl] at hx179_0)
            replace p179 := eq_true p179
            replace q179 := eq_true q179
            have p180 : 0 ≤ (2 : Int) := (by omega)
            have q180 : 2 < (t168.length : Int) := of_decide_eq_true (by assumption)
            obtain ⟨ad180, e180, hx180_0⟩ := Kd.at_int (Kd.V_reads' HO_6.out).2.2 2 p180 q180
            obtain rfl : ad178 = ad180 := (by injection e180)
            (try simp only [show (2 : Int).toNat = 2 from rfl, Nat.reduceMul, Nat.reduceEqDiff, Go.Addr.add, ↓reduceIte] at hx180_0)
            have qi180 : (2 < t168.length) = True := eq_true (by omega)
            (try rw [show ((2 : Int)).toNat = 2 from rfl] at hx180_0)
            replace p180 := eq_true p180
            replace q180 := eq_true q180
            have p181 : 0 ≤ (2 : Int) := (by omega)
            have q181 : 2 < (t168.length : Int) := of_decide_eq_true (by assumption)
            obtain ⟨ad181, e181, hx181_0⟩ := Kd.at_int (Kd.V_reads' HO_6.out).2.2 2 p181 q181
            obtain rfl : ad178 = ad181 := (by injection e181)
            (try simp only [show (2 : Int).toNat = 2 from rfl, Nat.reduceMul, Nat.reduceEqDiff, Go.Addr.add, ↓reduceIte] at hx181_0)
            have qi181 : (2 < t168.length) = True := eq_true (by omega)
            (try rw [show ((2 : Int)).toNat = 2 from rfl] at hx181_0)
            replace p181 := eq_true p181
            replace q181 := eq_true q181
            try go_wp2
            have n0_ := Aside0.mk (Kd.V_drew HO_6.out)
            have n1_ := Aside0.mk (Kd.V_drew HO_167000.out)
            have n2_ := Aside0.mk (Kd.V_drew HO_167003.out)
            have n3_ := Aside0.mk (blk_drew BK166.out)
            have n4_ := Aside0.mk (blk_drew BK167.out)
            have n5_ := Aside0.mk (below_drew1 HB.out)
            clear HO_6
            clear HO_167000
            clear HO_167003
            clear BK166
            clear BK167
            clear HB
            have HO_6 := n0_
            have HO_167000 := n1_
            have HO_167003 := n2_
            have BK166 := n3_
            have BK167 := n4_
            have HB := n5_
            clear n0_ n1_ n2_ n3_ n4_ n5_
            have p182 : 0 ≤ (0 : Int) := (by omega)
            have q182 : 0 < (t168.length : Int) := of_decide_eq_true (by assumption)
            obtain ⟨ad182, e182, hx182_0⟩ := Kd.at_int (Kd.V_reads' HO_6.out).2.2 0 p182 q182
            obtain rfl : ad178 = ad182 := (by injection e182)
            have qi182 : (0 < t168.length) = True := eq_true (by omega)
            (try rw [show ((0 : Int)).toNat = 0 from rfl] at hx182_0)
            (try rw [Addr.add_zero'] at hx182_0)
            replace p182 := eq_true p182
            replace q182 := eq_true q182
            refine start_ (n := 14) (S := fun w' => w'.cell? ⟨gb166, 0, none⟩ = some (.slice A0_0 l0_0.length c0_0) ∧ w'.cell? ⟨gb166, 1, none⟩ = some (.int .i64 a0_1) ∧ w'.cell? ⟨gb166, 2, none⟩ = some (.int .u64 a0_2) ∧ w'.cell? ⟨gb166, 3, none⟩ = some (.slice A0_3 l0_3.length c0_3) ∧ w'.cell? ad178 = some (.int .u32 (rd t168 0))) (ds := []) #[false, false, false, false, false, false, false, false, false, false, false, false, false, false] (by kernel_rfl) rfl rfl ⟨(blk_cell BK166.out 0).trans rfl, (blk_cell BK166.out 1).trans rfl, (blk_cell BK166.out 2).trans rfl, (blk_cell BK166.out 3).trans rfl, hx182_0⟩ (fun hHeld => ?_); refine with_tabW hash_file_gnu.tab9 hash_file_gnu.bits9 (fun HT_ HW_ => ?_)
            generalize wc.drew = w85 at HO_6 HO_167000 HO_167003 BK166 BK167 HB hx182_0 hHeld ⊢
            refine pure_ (i := 1) (N := some 77) (v := ?_) (a' := ?_) #[false, true, false, false, false, false, false, false, false, false, false, false, false, false] rfl rfl (any_of HT_.out (by kernel_rfl)) (fun _ _ _ h => h) (Or.inl ⟨by rfl, ?_⟩) ?_ ?_
            rotate_left
            ·intro w'
             go_simp
             with_reducible rfl
            rotate_left
            ·simp only [Act.put, List.setIfInBounds_toArray, List.set_cons_zero, List.set_cons_succ, i64_w, i32_w]
             rfl
            refine pure_ (i := 2) (N := some 78) (v := ?_) (a' := ?_) #[false, true, true, false, false, false, false, false, false, false, false, false, false, false] rfl rfl (any_of HT_.out (by kernel_rfl)) (fun _ _ _ h => h) (Or.inl ⟨by rfl, ?_⟩) ?_ ?_
            rotate_left
            ·intro w'
             go_simp
             with_reducible rfl
            rotate_left
            ·simp only [Act.put, List.setIfInBounds_toArray, List.set_cons_zero, List.set_cons_succ, i64_w, i32_w]
             rfl
            refine pure_ (i := 3) (N := some 79) (v := ?_) (a' := ?_) #[false, true, true, true, false, false, false, false, false, false, false, false, false, false] rfl rfl (any_of HT_.out (by kernel_rfl)) (fun _ _ _ h => h) (Or.inl ⟨by rfl, ?_⟩) ?_ ?_
            rotate_left
            ·intro w'
             go_simp
             with_reducible rfl
            rotate_left
            ·simp only [Act.put, List.setIfInBounds_toArray, List.set_cons_zero, List.set_cons_succ, i64_w, i32_w]
             rfl
            refine pure_ (i := 4) (N := some 80) (v := ?_) (a' := ?_) #[false, true, true, true, true, false, false, false, false, false, false, false, false, false] rfl rfl (any_of HT_.out (by kernel_rfl)) (fun _ _ _ h => h) (Or.inl ⟨by rfl, ?_⟩) ?_ ?_
            rotate_left
            ·intro w'
             go_simp
             with_reducible rfl
            rotate_left
            ·simp only [Act.put, List.setIfInBounds_toArray, List.set_cons_zero, List.set_cons_succ, i64_w, i32_w]
             rfl
            refine take_ (i := 0) (N := some 76) (v := ?_) (a' := ?_) #[true, true, true, true, true, false, false, false, false, false, false, false, false, false] rfl rfl (take_ofW HT_.out HW_.out (by kernel_rfl)) (fun _ _ _ h => h) (Or.inl ⟨by rfl, ?_⟩) hHeld ?_ ?_
            rotate_left
            ·rintro w' ⟨s0, s1, s2, s3, s4⟩
             go_simp
             with_reducible rfl
            rotate_left
            ·simp only [Act.put, List.setIfInBounds_toArray, List.set_cons_zero, List.set_cons_succ, i64_w, i32_w]
             rfl
            refine take_ (i := 5) (N := some 81) (v := ?_) (a' := ?_) #[true, true, true, true, true, true, false, false, false, false, false, false, false, false] rfl rfl (take_ofW HT_.out HW_.out (by kernel_rfl)) (fun _ _ _ h => h) (Or.inl ⟨by rfl, ?_⟩) hHeld ?_ ?_
            rotate_left
            ·rintro w' ⟨s0, s1, s2, s3, s4⟩
             go_simp
             with_reducible rfl
            rotate_left
            ·simp only [Act.put, List.setIfInBounds_toArray, List.set_cons_zero, List.set_cons_succ, i64_w, i32_w]
             rfl
            refine pure_ (i := 6) (N := some 82) (v := ?_) (a' := ?_) #[true, true, true, true, true, true, true, false, false, false, false, false, false, false] rfl rfl (any_of HT_.out (by kernel_rfl)) (fun _ _ _ h => h) (Or.inl ⟨by rfl, ?_⟩) ?_ ?_
            rotate_left
            ·intro w'
             go_simp
             with_reducible rfl
            rotate_left
            ·simp only [Act.put, List.setIfInBounds_toArray, List.set_cons_zero, List.set_cons_succ, i64_w, i32_w]
             rfl
            refine pure_ (i := 7) (N := some 83) (v := ?_) (a' := ?_) #[true, true, true, true, true, true, true, true, false, false, false, false, false, false] rfl rfl (any_of HT_.out (by kernel_rfl)) (fun _ _ _ h => h) (Or.inl ⟨by rfl, ?_⟩) ?_ ?_
            rotate_left
            ·intro w'
             go_simp
             with_reducible rfl
            rotate_left
            ·simp only [Act.put, List.setIfInBounds_toArray, List.set_cons_zero, List.set_cons_succ, i64_w, i32_w]
             rfl
            refine one_ (i := 8) (N := some 84) #[true, true, true, true, true, true, true, true, true, false, false, false, false, false] rfl rfl (one_of HT_.out (by kernel_rfl)) (by decide) (fun K hK => ?_)
            refine goes_ Try.func52 (by kernel_rfl) rfl #[.agg #[.slice A0_0 l0_0.length c0_0, .int .i64 a0_1, .int .u64 a0_2, .slice A0_3 l0_3.length c0_3], .int .u64 a1, .int .u64 (IntKind.u64.wrap ((IntKind.u64.wrap (4 + (IntKind.u64.wrap (2 * (IntKind.u64.wrap (rd t168 2)))))) + (IntKind.u64.wrap (rd t168 0))))] (by rfl) rfl rfl (by (try simp only [List.map_toArray, List.map_cons, List.map_nil]); first | done | rfl | (simp only [List.length_drop, List.length_take]; rfl)) ?_
            with_reducible refine (hash_file_words.calls kj3 _ _ l0_0 a0_1 a0_2 _ _ l0_3 a1 (IntKind.u64.wrap ((IntKind.u64.wrap (4 + (IntKind.u64.wrap (2 * (IntKind.u64.wrap (rd t168 2)))))) + (IntKind.u64.wrap (rd t168 0)))) t183 (some q187) _ ?side1 ?side2 ?side3 ?side4 A39.out).mono ?_
            (case side1 => repeat (first | exact (Kd.V_reads' HO_167000.out).2.2 | (with_reducible refine Kd.C_alloc ?_ _) | (with_reducible refine Kd.C_drewN ?_ _) | (with_reducible refine Kd.C_drew ?_)))
            (case side2 => exact (Kd.V_reads' HO_167000.out).2.1)
            (case side3 => repeat (first | exact (Kd.V_reads' HO_167003.out).2.2 | (with_reducible refine Kd.C_alloc ?_ _) | (with_reducible refine Kd.C_drewN ?_ _) | (with_reducible refine Kd.C_drew ?_)))
            (case side4 => exact (Kd.V_reads' HO_167003.out).2.1)
            rintro e w86 ⟨v184, rfl, ho0, hb⟩
            have HS4_ := (hb.cell (World.block_lt_of_cell? _ _ (hHeld.2.2.2.2))).trans (hHeld.2.2.2.2)
            refine ⟨_, rfl, ?_⟩
            have n0_ := Aside0.mk (Kd.V_below (by (with_reducible repeat (first | apply Kd.V_alloc | apply Kd.V_drewN | apply Kd.V_drew)); exact HO_6.out) hb)
            have n1_ := Aside0.mk (Kd.V_below (by (with_reducible repeat (first | apply Kd.V_alloc | apply Kd.V_drewN | apply Kd.V_drew)); exact HO_167000.out) hb)
            have n2_ := Aside0.mk (Kd.V_below (by (with_reducible repeat (first | apply Kd.V_alloc | apply Kd.V_drewN | apply Kd.V_drew)); exact HO_167003.out) hb)
            have n3_ := Aside0.mk (Kd.V_lower (Kd.V_mono (ok' := fun k_ => ((P0_0_ k_ ∨ P0_3_ k_) ∨ w.heap.size ≤ k_) ∧ k_ ≠ gb166 ∧ k_ ≠ gb167) ho0 (fun k_ hk_ => ⟨(.inr (Nat.le_trans (below_size (by repeat (first | (with_reducible first | exact HB.out | apply below_alloc | apply pw_below_drewN | apply below_drew1 | refine below_set ?_ GE166.out | refine below_set ?_ GE167.out) | exact HB.out))) hk_)), (Kd.freshB (g := gb166) (o := .cells #[.slice A0_0 l0_0.length c0_0, .int .i64 a0_1, .int .u64 a0_2, .slice A0_3 l0_3.length c0_3] 86 (0, 0)) (by (with_reducible repeat (first | refine blk_drewN ?_ _ | refine blk_drew ?_ | refine blk_alloc ?_ _)); exact BK166.out) k_ hk_), (Kd.freshB (g := gb167) (o := .cells #[.slice none 0 0, .int .i64 0, .int .u64 0, .slice none 0 0, .slice none 0 0, .slice none 0 0, .int .u32 0, .int .u32 0, .int .u64 0] 92 (0, 0)) (by (with_reducible repeat (first | refine blk_drewN ?_ _ | refine blk_drew ?_ | refine blk_alloc ?_ _)); exact BK167.out) k_ hk_)⟩)) (below_size (by repeat (first | (with_reducible first | exact HB.out | apply below_alloc | apply pw_below_drewN | apply below_drew1 | refine below_set ?_ GE166.out | refine below_set ?_ GE167.out) | exact HB.out))))
            have n4_ := Aside0.mk (blk_below (g := gb166) (o := .cells #[.slice A0_0 l0_0.length c0_0, .int .i64 a0_1, .int .u64 a0_2, .slice A0_3 l0_3.length c0_3] 86 (0, 0)) (by (with_reducible repeat (first | refine blk_drewN ?_ _ | refine blk_drew ?_ | refine blk_alloc ?_ _)); exact BK166.out) hb)
            have n5_ := Aside0.mk (blk_below (g := gb167) (o := .cells #[.slice none 0 0, .int .i64 0, .int .u64 0, .slice none 0 0, .slice none 0 0, .slice none 0 0, .int .u32 0, .int .u32 0, .int .u64 0] 92 (0, 0)) (by (with_reducible repeat (first | refine blk_drewN ?_ _ | refine blk_drew ?_ | refine blk_alloc ?_ _)); exact BK167.out) hb)
            have n6_ := Aside0.mk (below_step (by repeat (first | (with_reducible first | exact HB.out | apply below_alloc | apply pw_below_drewN | apply below_drew1 | refine below_set ?_ GE166.out | refine below_set ?_ GE167.out) | exact HB.out)) hb)
            clear HO_6
            clear HO_167000
            clear HO_167003
            clear BK166
            clear BK167
            clear HB
            have HO_6 := n0_
            have HO_167000 := n1_
            have HO_167003 := n2_
            have HO185 := n3_
            have BK166 := n4_
            have BK167 := n5_
            have HB := n6_
            clear n0_ n1_ n2_ n3_ n4_ n5_ n6_
            (try clear hb)
            (try clear hb2)
            (try clear hk)
            (try clear hi)
            (try clear ho0)
            (try simp only [errW_none, errW_some])
            refine hK.out _ _ ⟨(blk_cell BK166.out 0).trans rfl, (blk_cell BK166.out 1).trans rfl, (blk_cell BK166.out 2).trans rfl, (blk_cell BK166.out 3).trans rfl, HS4_⟩ (fun hHeld => ?_)
            clear hK K
            refine norm_ (a' := ?_) ?_ ?_
            rotate_left
            ·show Act.put _ (some 84) _ = _
             simp only [Act.put, List.setIfInBounds_toArray, List.set_cons_zero, List.set_cons_succ, i64_w, i32_w]
             rfl
            refine pure_ (i := 9) (N := some 75) (v := ?_) (a' := ?_) #[true, true, true, true, true, true, true, true, true, true, false, false, false, false] rfl rfl (any_of HT_.out (by kernel_rfl)) (fun _ _ _ h => h) (Or.inl ⟨by rfl, ?_⟩) ?_ ?_
            rotate_left
            ·intro w'
             go_simp
             with_reducible rfl
            rotate_left
            ·simp only [Act.put, List.setIfInBounds_toArray, List.set_cons_zero, List.set_cons_succ, i64_w, i32_w]
             rfl
            refine pure_ (i := 10) (N := some 85) (v := ?_) (a' := ?_) #[true, true, true, true, true, true, true, true, true, true, true, false, false, false] rfl rfl (any_of HT_.out (by kernel_rfl)) (fun _ _ _ h => h) (Or.inl ⟨by rfl, ?_⟩) ?_ ?_
            rotate_left
            ·intro w'
             go_simp
             with_reducible rfl
            rotate_left
            ·simp only [Act.put, List.setIfInBounds_toArray, List.set_cons_zero, List.set_cons_succ, i64_w, i32_w]
             rfl
            refine pure_ (i := 11) (N := some 86) (v := ?_) (a' := ?_) #[true, true, true, true, true, true, true, true, true, true, true, true, false, false] rfl rfl (any_of HT_.out (by kernel_rfl)) (fun _ _ _ h => h) (Or.inl ⟨by rfl, ?_⟩) ?_ ?_
            rotate_left
            ·intro w'
             go_simp
             with_reducible rfl
            rotate_left
            ·simp only [Act.put, List.setIfInBounds_toArray, List.set_cons_zero, List.set_cons_succ, i64_w, i32_w]
             rfl
            refine pure_ (i := 12) (N := some 9) (v := ?_) (a' := ?_) #[true, true, true, true, true, true, true, true, true, true, true, true, true, false] rfl rfl (any_of HT_.out (by kernel_rfl)) (fun _ _ _ h => h) (Or.inl ⟨by rfl, ?_⟩) ?_ ?_
            rotate_left
            ·intro w'
             go_simp
             with_reducible rfl
            rotate_left
            ·simp only [Act.put, List.setIfInBounds_toArray, List.set_cons_zero, List.set_cons_succ, i64_w, i32_w]
             rfl
            refine pure_ (i := 13) (N := some 7) (v := ?_) (a' := ?_) #[true, true, true, true, true, true, true, true, true, true, true, true, true, true] rfl rfl (any_of HT_.out (by kernel_rfl)) (fun _ _ _ h => h) (Or.inl ⟨by rfl, ?_⟩) ?_ ?_
            rotate_left
            ·intro w'
             go_simp
             with_reducible rfl
            rotate_left
            ·simp only [Act.put, List.setIfInBounds_toArray, List.set_cons_zero, List.set_cons_succ, i64_w, i32_w]
             rfl
            refine done_ (done_of HT_.out (by kernel_rfl)) ?_
            have hnb87 := NB167_166.out
            have hnc87 := NB166_167.out
            have hcz88_0 : w86.cell? ⟨gb167, 0, none⟩ = some (.slice none 0 0) := (blk_cell BK167.out 0).trans rfl
            have hcz88_1 : w86.cell? ⟨gb167, 1, none⟩ = some (.int .i64 0) := (blk_cell BK167.out 1).trans rfl
            have hcz88_2 : w86.cell? ⟨gb167, 2, none⟩ = some (.int .u64 0) := (blk_cell BK167.out 2).trans rfl
            have hcz88_3 : w86.cell? ⟨gb167, 3, none⟩ = some (.slice none 0 0) := (blk_cell BK167.out 3).trans rfl
            have hcz88_4 : w86.cell? ⟨gb167, 4, none⟩ = some (.slice none 0 0) := (blk_cell BK167.out 4).trans rfl
            have hcz88_5 : w86.cell? ⟨gb167, 5, none⟩ = some (.slice none 0 0) := (blk_cell BK167.out 5).trans rfl
            have hcz88_6 : w86.cell? ⟨gb167, 6, none⟩ = some (.int .u32 0) := (blk_cell BK167.out 6).trans rfl
            have hcz88_7 : w86.cell? ⟨gb167, 7, none⟩ = some (.int .u32 0) := (blk_cell BK167.out 7).trans rfl
            have hcz88_8 : w86.cell? ⟨gb167, 8, none⟩ = some (.int .u64 0) := (blk_cell BK167.out 8).trans rfl
            have hfz88_0 := blk_frozen BK167.out 0
            have hfz88_1 := blk_frozen BK167.out 1
            have hfz88_2 := blk_frozen BK167.out 2
            have hfz88_3 := blk_frozen BK167.out 3
            have hfz88_4 := blk_frozen BK167.out 4
            have hfz88_5 := blk_frozen BK167.out 5
            have hfz88_6 := blk_frozen BK167.out 6
            have hfz88_7 := blk_frozen BK167.out 7
            have hfz88_8 := blk_frozen BK167.out 8
            try go_wp2
            refine bodyPost_ret (results_ct rfl _ _ gb167 92 #[.slice none 0 0, .int .i64 0, .int .u64 0, .slice none 0 0, .slice none 0 0, .slice none 0 0, .int .u32 0, .int .u32 0, .int .u64 0] (0, 0) _ rfl (by (with_reducible repeat (first | refine blk_drewN ?_ _ | refine blk_drew ?_ | refine blk_alloc ?_ _)); refine blk_put (cs := #[.slice none 0 0, .int .i64 0, .int .u64 0, .slice none 0 0, .slice none 0 0, .slice none 0 0, .int .u32 0, .int .u32 0, .int .u64 0]) ?_ 8 _ rfl; (with_reducible repeat (first | refine blk_drewN ?_ _ | refine blk_drew ?_ | refine blk_alloc ?_ _)); refine blk_put (cs := #[.slice none 0 0, .int .i64 0, .int .u64 0, .slice none 0 0, .slice none 0 0, .slice none 0 0, .int .u32 0, .int .u32 0, .int .u64 0]) ?_ 7 _ rfl; (with_reducible repeat (first | refine blk_drewN ?_ _ | refine blk_drew ?_ | refine blk_alloc ?_ _)); refine blk_put (cs := #[.slice none 0 0, .int .i64 0, .int .u64 0, .slice none 0 0, .slice none 0 0, .slice none 0 0, .int .u32 0, .int .u32 0, .int .u64 0]) ?_ 6 _ rfl; (with_reducible repeat (first | refine blk_drewN ?_ _ | refine blk_drew ?_ | refine blk_alloc ?_ _)); refine blk_put (cs := #[.slice none 0 0, .int .i64 0, .int .u64 0, .slice none 0 0, .slice none 0 0, .slice none 0 0, .int .u32 0, .int .u32 0, .int .u64 0]) ?_ 5 _ rfl; (with_reducible repeat (first | refine blk_drewN ?_ _ | refine blk_drew ?_ | refine blk_alloc ?_ _)); refine blk_put (cs := #[.slice none 0 0, .int .i64 0, .int .u64 0, .slice none 0 0, .slice none 0 0, .slice none 0 0, .int .u32 0, .int .u32 0, .int .u64 0]) ?_ 4 _ rfl; (with_reducible repeat (first | refine blk_drewN ?_ _ | refine blk_drew ?_ | refine blk_alloc ?_ _)); refine blk_put (cs := #[.slice none 0 0, .int .i64 0, .int .u64 0, .slice none 0 0, .slice none 0 0, .slice none 0 0, .int .u32 0, .int .u32 0, .int .u64 0]) ?_ 3 _ rfl; (with_reducible repeat (first | refine blk_drewN ?_ _ | refine blk_drew ?_ | refine blk_alloc ?_ _)); refine blk_put (cs := #[.slice none 0 0, .int .i64 0, .int .u64 0, .slice none 0 0, .slice none 0 0, .slice none 0 0, .int .u32 0, .int .u32 0, .int .u64 0]) ?_ 2 _ rfl; (with_reducible repeat (first | refine blk_drewN ?_ _ | refine blk_drew ?_ | refine blk_alloc ?_ _)); refine blk_put (cs := #[.slice none 0 0, .int .i64 0, .int .u64 0, .slice none 0 0, .slice none 0 0, .slice none 0 0, .int .u32 0, .int .u32 0, .int .u64 0]) ?_ 1 _ rfl; (with_reducible repeat (first | refine blk_drewN ?_ _ | refine blk_drew ?_ | refine blk_alloc ?_ _)); refine blk_put (cs := #[.slice none 0 0, .int .i64 0, .int .u64 0, .slice none 0 0, .slice none 0 0, .slice none 0 0, .int .u32 0, .int .u32 0, .int .u64 0]) ?_ 0 _ rfl; (with_reducible repeat (first | refine blk_drewN ?_ _ | refine blk_drew ?_ | refine blk_alloc ?_ _)); exact BK167.out) Try.underlying92 rfl (by kernel_rfl)) rfl ?_
            exact ⟨_, _, _, _, by first | rfl | (simp [errW_none, errW_some] <;> rfl) | (simp [*, errW_none, errW_some] <;> rfl), Kd.V_nil _ _ _ _ _, Kd.V_nil _ _ _ _ _, Kd.V_nil _ _ _ _ _, Kd.V_nil _ _ _ _ _, by repeat (first | (with_reducible first | exact HB.out | apply below_alloc | apply pw_below_drewN | apply below_drew1 | refine below_set ?_ GE166.out | refine below_set ?_ GE167.out) | exact HB.out)⟩
         ·rw [if_neg c34] at H
          exact absurd H (by simp)
       ·rw [if_neg c29] at H
        exact absurd H (by simp)
     ·rw [if_neg c24] at H
      exact absurd H (by simp)
 ·have H1 : (some (([] : List Int), 0, 0, ([] : List (S29)), ([] : List Int), ([] : List Int), 0, 0, 0, some q172)) = some (r1, r2, r3, r4, r5, r6, r7, r8, r9, r10) := by rw [if_neg (show ¬ (some q172).isNone = true by simp)] at H; exact H
  clear H
  have H := H1
  clear H1
  try simp only [errW_none, errW_some]
  simp only [Option.some.injEq, Prod.mk.injEq] at H
  obtain ⟨rfl, rfl, rfl, rfl, rfl, rfl, rfl, rfl, rfl, rfl⟩ := H
  go_enter Try.func31, Try.ntmps31
  go_wp2_with (first | ((with_reducible refine gate_ (.load 92 (.tmp 4)) rfl ?_); refine wpList_load_row rfl 92 (.tmp 4) rfl gb167 rfl 92 _ (0, 0) _ (by (with_reducible repeat (first | refine blk_drewN ?_ _ | refine blk_drew ?_ | refine blk_alloc ?_ _)); exact BK167.out) Try.underlying92 rfl (by kernel_rfl) ?_) | ((with_reducible refine gate_dst (N := 2) rfl ?_); refine box_event ?hg (N := 2) ?hd (cs := #[.slice A0_0 l0_0.length c0_0, .int .i64 a0_1, .int .u64 a0_2, .slice A0_3 l0_3.length c0_3]) (t := 86) ?hr ?_; (case hd => rfl); (case hg => rfl); (case hr => first | (go_simp; done) | (go_simp; rfl)); intro gb166 hg w89 hbox hb; have n0_ := Aside0.mk (Kd.V_below (Kd.V_elderB (by (with_reducible repeat (first | apply Kd.V_alloc | apply Kd.V_drewN | apply Kd.V_drew)); exact HO0_0.out) gb166 (Nat.le_of_eq hg.symm)) hb); have n1_ := Aside0.mk (Kd.V_below (Kd.V_elderB (by (with_reducible repeat (first | apply Kd.V_alloc | apply Kd.V_drewN | apply Kd.V_drew)); exact HO0_3.out) gb166 (Nat.le_of_eq hg.symm)) hb); have n2_ := Aside0.mk (below_step (by repeat (first | (with_reducible first | exact HB.out | apply below_alloc | apply pw_below_drewN | apply below_drew1) | exact HB.out)) hb); have n3_ := Aside0.mk (hbox); have n4_ := Aside0.mk ((by rw [hg]; exact (below_size (by repeat (first | (with_reducible first | exact HB.out | apply below_alloc | apply pw_below_drewN | apply below_drew1) | exact HB.out))) : w.heap.size ≤ gb166)); have n5_ := Aside0.mk ((by rw [hg]; exact (below_size (by repeat (first | (with_reducible first | exact HB.out | apply below_alloc | apply pw_below_drewN | apply below_drew1) | exact HB.out))) : w.heap.size ≤ gb166)); clear HO0_0; clear HO0_3; clear HB; have HO0_0 := n0_; have HO0_3 := n1_; have HB := n2_; have BK166 := n3_; have GW166 := n4_; have GE166 := n5_; clear n0_ n1_ n2_ n3_ n4_ n5_; clear hb hbox hg) | ((with_reducible refine gate_dst (N := 4) rfl ?_); refine box_event ?hg (N := 4) ?hd (cs := #[.slice none 0 0, .int .i64 0, .int .u64 0, .slice none 0 0, .slice none 0 0, .slice none 0 0, .int .u32 0, .int .u32 0, .int .u64 0]) (t := 92) ?hr ?_; (case hd => rfl); (case hg => rfl); (case hr => first | (go_simp; done) | (go_simp; rfl)); intro gb167 hg w90 hbox hb; have n0_ := Aside0.mk (Kd.V_below (Kd.V_elderB (by (with_reducible repeat (first | apply Kd.V_alloc | apply Kd.V_drewN | apply Kd.V_drew)); exact HO0_0.out) gb167 (Nat.le_of_eq hg.symm)) hb); have n1_ := Aside0.mk (Kd.V_below (Kd.V_elderB (by (with_reducible repeat (first | apply Kd.V_alloc | apply Kd.V_drewN | apply Kd.V_drew)); exact HO0_3.out) gb167 (Nat.le_of_eq hg.symm)) hb); have n2_ := Aside0.mk (blk_below (g := gb166) (o := .cells #[.slice A0_0 l0_0.length c0_0, .int .i64 a0_1, .int .u64 a0_2, .slice A0_3 l0_3.length c0_3] 86 (0, 0)) (by (with_reducible repeat (first | refine blk_drewN ?_ _ | refine blk_drew ?_ | refine blk_alloc ?_ _)); exact BK166.out) hb); have n3_ := Aside0.mk (below_step (by repeat (first | (with_reducible first | exact HB.out | apply below_alloc | apply pw_below_drewN | apply below_drew1 | refine below_set ?_ GE166.out) | exact HB.out)) hb); have n4_ := Aside0.mk (hbox); have n5_ := Aside0.mk ((by rw [hg]; exact (below_size (by repeat (first | (with_reducible first | exact HB.out | apply below_alloc | apply pw_below_drewN | apply below_drew1 | refine below_set ?_ GE166.out) | exact HB.out))) : w.heap.size ≤ gb167)); have n6_ := Aside0.mk ((by rw [hg]; exact (below_size (by repeat (first | (with_reducible first | exact HB.out | apply below_alloc | apply pw_below_drewN | apply below_drew1 | refine below_set ?_ GE166.out) | exact HB.out))) : w.heap.size ≤ gb167)); have n7_ := Aside0.mk ((by rw [hg]; exact Nat.ne_of_lt (blk_lt (g := gb166) (o := .cells #[.slice A0_0 l0_0.length c0_0, .int .i64 a0_1, .int .u64 a0_2, .slice A0_3 l0_3.length c0_3] 86 (0, 0)) (by (with_reducible repeat (first | refine blk_drewN ?_ _ | refine blk_drew ?_ | refine blk_alloc ?_ _)); exact BK166.out)) : gb166 ≠ gb167)); have n8_ := Aside0.mk ((by rw [hg]; exact Nat.ne_of_gt (blk_lt (g := gb166) (o := .cells #[.slice A0_0 l0_0.length c0_0, .int .i64 a0_1, .int .u64 a0_2, .slice A0_3 l0_3.length c0_3] 86 (0, 0)) (by (with_reducible repeat (first | refine blk_drewN ?_ _ | refine blk_drew ?_ | refine blk_alloc ?_ _)); exact BK166.out)) : gb167 ≠ gb166)); clear HO0_0; clear HO0_3; clear BK166; clear HB; have HO0_0 := n0_; have HO0_3 := n1_; have BK166 := n2_; have HB := n3_; have BK167 := n4_; have GW167 := n5_; have GE167 := n6_; have NB166_167 := n7_; have NB167_166 := n8_; clear n0_ n1_ n2_ n3_ n4_ n5_ n6_ n7_ n8_; clear hb hbox hg; have hnb91 := NB166_167.out; have hnc91 := NB167_166.out; have hcz92_0 : w90.cell? ⟨gb166, 0, none⟩ = some (.slice A0_0 l0_0.length c0_0) := (blk_cell BK166.out 0).trans rfl; have hcz92_1 : w90.cell? ⟨gb166, 1, none⟩ = some (.int .i64 a0_1) := (blk_cell BK166.out 1).trans rfl; have hcz92_2 : w90.cell? ⟨gb166, 2, none⟩ = some (.int .u64 a0_2) := (blk_cell BK166.out 2).trans rfl; have hcz92_3 : w90.cell? ⟨gb166, 3, none⟩ = some (.slice A0_3 l0_3.length c0_3) := (blk_cell BK166.out 3).trans rfl; have hfz92_0 := blk_frozen BK166.out 0; have hfz92_1 := blk_frozen BK166.out 1; have hfz92_2 := blk_frozen BK166.out 2; have hfz92_3 := blk_frozen BK166.out 3) | ((with_reducible refine gate_callee (f := 52) rfl ?_); refine goesL_ (some 16) rfl rfl Try.func52 (by kernel_rfl) rfl #[.agg #[.slice A0_0 l0_0.length c0_0, .int .i64 a0_1, .int .u64 a0_2, .slice A0_3 l0_3.length c0_3], .int .u64 a1, .int .u64 4] rfl (by (try simp only [List.map_toArray, List.map_cons, List.map_nil]); first | done | rfl | (simp only [List.length_drop, List.length_take]; rfl)) ?_; (with_reducible refine (hash_file_words.calls k _ _ l0_0 a0_1 a0_2 _ _ l0_3 a1 4 t168 (some q172) _ ?side1 ?side2 ?side3 ?side4 A3.out).mono ?_); (case side1 => repeat (first | exact (Kd.V_reads' HO0_0.out).2.2 | (with_reducible refine Kd.C_alloc ?_ _) | (with_reducible refine Kd.C_drewN ?_ _) | (with_reducible refine Kd.C_drew ?_))); (case side2 => exact (Kd.V_reads' HO0_0.out).2.1); (case side3 => repeat (first | exact (Kd.V_reads' HO0_3.out).2.2 | (with_reducible refine Kd.C_alloc ?_ _) | (with_reducible refine Kd.C_drewN ?_ _) | (with_reducible refine Kd.C_drew ?_))); (case side4 => exact (Kd.V_reads' HO0_3.out).2.1); rintro e w93 ⟨v169, rfl, ho0, hb⟩; refine ⟨_, rfl, ?_⟩; have n0_ := Aside0.mk (Kd.V_below (by (with_reducible repeat (first | apply Kd.V_alloc | apply Kd.V_drewN | apply Kd.V_drew)); exact HO0_0.out) hb); have n1_ := Aside0.mk (Kd.V_below (by (with_reducible repeat (first | apply Kd.V_alloc | apply Kd.V_drewN | apply Kd.V_drew)); exact HO0_3.out) hb); have n2_ := Aside0.mk (Kd.V_lower (Kd.V_mono (ok' := fun k_ => ((P0_0_ k_ ∨ P0_3_ k_) ∨ w.heap.size ≤ k_) ∧ k_ ≠ gb166 ∧ k_ ≠ gb167) ho0 (fun k_ hk_ => ⟨(.inr (Nat.le_trans (below_size (by repeat (first | (with_reducible first | exact HB.out | apply below_alloc | apply pw_below_drewN | apply below_drew1 | refine below_set ?_ GE166.out | refine below_set ?_ GE167.out) | exact HB.out))) hk_)), (Kd.freshB (g := gb166) (o := .cells #[.slice A0_0 l0_0.length c0_0, .int .i64 a0_1, .int .u64 a0_2, .slice A0_3 l0_3.length c0_3] 86 (0, 0)) (by (with_reducible repeat (first | refine blk_drewN ?_ _ | refine blk_drew ?_ | refine blk_alloc ?_ _)); exact BK166.out) k_ hk_), (Kd.freshB (g := gb167) (o := .cells #[.slice none 0 0, .int .i64 0, .int .u64 0, .slice none 0 0, .slice none 0 0, .slice none 0 0, .int .u32 0, .int .u32 0, .int .u64 0] 92 (0, 0)) (by (with_reducible repeat (first | refine blk_drewN ?_ _ | refine blk_drew ?_ | refine blk_alloc ?_ _)); exact BK167.out) k_ hk_)⟩)) (below_size (by repeat (first | (with_reducible first | exact HB.out | apply below_alloc | apply pw_below_drewN | apply below_drew1 | refine below_set ?_ GE166.out | refine below_set ?_ GE167.out) | exact HB.out)))); have n3_ := Aside0.mk (blk_below (g := gb166) (o := .cells #[.slice A0_0 l0_0.length c0_0, .int .i64 a0_1, .int .u64 a0_2, .slice A0_3 l0_3.length c0_3] 86 (0, 0)) (by (with_reducible repeat (first | refine blk_drewN ?_ _ | refine blk_drew ?_ | refine blk_alloc ?_ _)); exact BK166.out) hb); have n4_ := Aside0.mk (blk_below (g := gb167) (o := .cells #[.slice none 0 0, .int .i64 0, .int .u64 0, .slice none 0 0, .slice none 0 0, .slice none 0 0, .int .u32 0, .int .u32 0, .int .u64 0] 92 (0, 0)) (by (with_reducible repeat (first | refine blk_drewN ?_ _ | refine blk_drew ?_ | refine blk_alloc ?_ _)); exact BK167.out) hb); have n5_ := Aside0.mk (below_step (by repeat (first | (with_reducible first | exact HB.out | apply below_alloc | apply pw_below_drewN | apply below_drew1 | refine below_set ?_ GE166.out | refine below_set ?_ GE167.out) | exact HB.out)) hb); clear HO0_0; clear HO0_3; clear BK166; clear BK167; clear HB; have HO0_0 := n0_; have HO0_3 := n1_; have HO170 := n2_; have BK166 := n3_; have BK167 := n4_; have HB := n5_; clear n0_ n1_ n2_ n3_ n4_ n5_; (try clear hb); (try clear hb2); (try clear hk); (try clear hi); (try clear ho0); (try simp only [errW_none, errW_some]); have hcz94_0 : w93.cell? ⟨gb167, 0, none⟩ = some (.slice none 0 0) := (blk_cell BK167.out 0).trans rfl; have hcz94_1 : w93.cell? ⟨gb167, 1, none⟩ = some (.int .i64 0) := (blk_cell BK167.out 1).trans rfl; have hcz94_2 : w93.cell? ⟨gb167, 2, none⟩ = some (.int .u64 0) := (blk_cell BK167.out 2).trans rfl; have hcz94_3 : w93.cell? ⟨gb167, 3, none⟩ = some (.slice none 0 0) := (blk_cell BK167.out 3).trans rfl; have hcz94_4 : w93.cell? ⟨gb167, 4, none⟩ = some (.slice none 0 0) := (blk_cell BK167.out 4).trans rfl; have hcz94_5 : w93.cell? ⟨gb167, 5, none⟩ = some (.slice none 0 0) := (blk_cell BK167.out 5).trans rfl; have hcz94_6 : w93.cell? ⟨gb167, 6, none⟩ = some (.int .u32 0) := (blk_cell BK167.out 6).trans rfl; have hcz94_7 : w93.cell? ⟨gb167, 7, none⟩ = some (.int .u32 0) := (blk_cell BK167.out 7).trans rfl; have hcz94_8 : w93.cell? ⟨gb167, 8, none⟩ = some (.int .u64 0) := (blk_cell BK167.out 8).trans rfl; have hfz94_0 := blk_frozen BK167.out 0; have hfz94_1 := blk_frozen BK167.out 1; have hfz94_2 := blk_frozen BK167.out 2; have hfz94_3 := blk_frozen BK167.out 3; have hfz94_4 := blk_frozen BK167.out 4; have hfz94_5 := blk_frozen BK167.out 5; have hfz94_6 := blk_frozen BK167.out 6; have hfz94_7 := blk_frozen BK167.out 7; have hfz94_8 := blk_frozen BK167.out 8))
  refine bodyPost_ret (results_ct rfl _ _ gb167 92 #[.slice none 0 0, .int .i64 0, .int .u64 0, .slice none 0 0, .slice none 0 0, .slice none 0 0, .int .u32 0, .int .u32 0, .int .u64 0] (0, 0) _ rfl (by (with_reducible repeat (first | refine blk_drewN ?_ _ | refine blk_drew ?_ | refine blk_alloc ?_ _)); refine blk_put (cs := #[.slice none 0 0, .int .i64 0, .int .u64 0, .slice none 0 0, .slice none 0 0, .slice none 0 0, .int .u32 0, .int .u32 0, .int .u64 0]) ?_ 8 _ rfl; (with_reducible repeat (first | refine blk_drewN ?_ _ | refine blk_drew ?_ | refine blk_alloc ?_ _)); refine blk_put (cs := #[.slice none 0 0, .int .i64 0, .int .u64 0, .slice none 0 0, .slice none 0 0, .slice none 0 0, .int .u32 0, .int .u32 0, .int .u64 0]) ?_ 7 _ rfl; (with_reducible repeat (first | refine blk_drewN ?_ _ | refine blk_drew ?_ | refine blk_alloc ?_ _)); refine blk_put (cs := #[.slice none 0 0, .int .i64 0, .int .u64 0, .slice none 0 0, .slice none 0 0, .slice none 0 0, .int .u32 0, .int .u32 0, .int .u64 0]) ?_ 6 _ rfl; (with_reducible repeat (first | refine blk_drewN ?_ _ | refine blk_drew ?_ | refine blk_alloc ?_ _)); refine blk_put (cs := #[.slice none 0 0, .int .i64 0, .int .u64 0, .slice none 0 0, .slice none 0 0, .slice none 0 0, .int .u32 0, .int .u32 0, .int .u64 0]) ?_ 5 _ rfl; (with_reducible repeat (first | refine blk_drewN ?_ _ | refine blk_drew ?_ | refine blk_alloc ?_ _)); refine blk_put (cs := #[.slice none 0 0, .int .i64 0, .int .u64 0, .slice none 0 0, .slice none 0 0, .slice none 0 0, .int .u32 0, .int .u32 0, .int .u64 0]) ?_ 4 _ rfl; (with_reducible repeat (first | refine blk_drewN ?_ _ | refine blk_drew ?_ | refine blk_alloc ?_ _)); refine blk_put (cs := #[.slice none 0 0, .int .i64 0, .int .u64 0, .slice none 0 0, .slice none 0 0, .slice none 0 0, .int .u32 0, .int .u32 0, .int .u64 0]) ?_ 3 _ rfl; (with_reducible repeat (first | refine blk_drewN ?_ _ | refine blk_drew ?_ | refine blk_alloc ?_ _)); refine blk_put (cs := #[.slice none 0 0, .int .i64 0, .int .u64 0, .slice none 0 0, .slice none 0 0, .slice none 0 0, .int .u32 0, .int .u32 0, .int .u64 0]) ?_ 2 _ rfl; (with_reducible repeat (first | refine blk_drewN ?_ _ | refine blk_drew ?_ | refine blk_alloc ?_ _)); refine blk_put (cs := #[.slice none 0 0, .int .i64 0, .int .u64 0, .slice none 0 0, .slice none 0 0, .slice none 0 0, .int .u32 0, .int .u32 0, .int .u64 0]) ?_ 1 _ rfl; (with_reducible repeat (first | refine blk_drewN ?_ _ | refine blk_drew ?_ | refine blk_alloc ?_ _)); refine blk_put (cs := #[.slice none 0 0, .int .i64 0, .int .u64 0, .slice none 0 0, .slice none 0 0, .slice none 0 0, .int .u32 0, .int .u32 0, .int .u64 0]) ?_ 0 _ rfl; (with_reducible repeat (first | refine blk_drewN ?_ _ | refine blk_drew ?_ | refine blk_alloc ?_ _)); exact BK167.out) Try.underlying92 rfl (by kernel_rfl)) rfl ?_
  exact ⟨_, _, _, _, by first | rfl | (simp [errW_none, errW_some] <;> rfl) | (simp [*, errW_none, errW_some] <;> rfl), Kd.V_nil _ _ _ _ _, Kd.V_nil _ _ _ _ _, Kd.V_nil _ _ _ _ _, Kd.V_nil _ _ _ _ _, by repeat (first | (with_reducible first | exact HB.out | apply below_alloc | apply pw_below_drewN | apply below_drew1 | refine below_set ?_ GE166.out | refine below_set ?_ GE167.out) | exact HB.out)⟩
end Go.Proofs.Ythopdoamajjojaa.QBindF
