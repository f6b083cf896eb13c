-- Laid by wip/hook.py (this session's own program) out of the translation; with contracts that were written by hand.
import Derived.Test.YthopdoamajjojaaQHashBx0
import Derived.Test.YthopdoamajjojaaQHashBx1
import Derived.Test.YthopdoamajjojaaQHashBx6
namespace Go.Proofs.Ythopdoamajjojaa.QHashB
open Go.RowKit Go.Proofs.YthopdoamajjojaaW.PrintWords Go.Proofs.YthopdoamajjojaaW.PrintLast Go.Proofs.YthopdoamajjojaaW.PrintMore
attribute [local go_sem] max2_int min2_int max_two min_two max_three min_three max_four min_four   -- for this text's walks alone
set_option linter.unusedVariables false
set_option linter.unusedSimpArgs false

/-! ### shacklelaw07_second: function 16 -/
mutual
def shacklelaw07_second.l0 : Nat → List ByteArray → Int → Int → List Int → List Int → List Int → List Int → Int → Option (List Int)
 | 0, _, _, _, _, _, _, _, _ => none
 | k + 1, x0, x1, x2, x7, x8, x9, x10, x11 => if x11 < (x0.length : Int) then (if 0 ≤ x11 then ((hash_Gnu.f k (rdOf ByteArray.empty x0 x11)).bind fun t275 => (if 0 ≤ (((Int.tdiv t275 64) % 4294967296) % 4) then (if (((Int.tdiv t275 64) % 4294967296) % 4) < (x8.length : Int) then (if 0 ≤ (Int.tmod t275 64) then (if 0 ≤ x2 then (if 0 ≤ (Int.tmod (shr .u32 t275 x2) 64) then ((some (x8.set ((((Int.tdiv t275 64) % 4294967296) % 4) : Int).toNat (Go.bits .or .u64 (Go.bits .or .u64 (rd x8 (((Int.tdiv t275 64) % 4294967296) % 4)) (shl .u64 1 (Int.tmod t275 64))) (shl .u64 1 (Int.tmod (shr .u32 t275 x2) 64))) : List Int)).bind fun y277 => (if x1 = 0 then (none) else (if 0 ≤ (Int.tmod t275 x1) then (if (Int.tmod t275 x1) < (x9.length : Int) then (if (rd x9 (Int.tmod t275 x1)) = 0 then (shacklelaw07_second.j1 k x0 x1 x2 x7 y277 (x9.set ((Int.tmod t275 x1) : Int).toNat ((x11) % 4294967296)) x10 x11 t275) else (shacklelaw07_second.j1 k x0 x1 x2 x7 y277 x9 x10 x11 t275)) else (none)) else (none)))) else (none)) else (none)) else (none)) else (none)) else (none))) else (none)) else (shacklelaw07_second.l1 k x7 x8 x9 x10 0)
def shacklelaw07_second.j1 : Nat → List ByteArray → Int → Int → List Int → List Int → List Int → List Int → Int → Int → Option (List Int)
 | 0, _, _, _, _, _, _, _, _, _ => none
 | k + 1, x0, x1, x2, x7, x8, x9, x10, x11, x12 => if 0 ≤ x11 then (if x11 < (x10.length : Int) then ((some (x10.set (x11 : Int).toNat ((((Int.tdiv x12 2) % 4294967296) * 2) % 4294967296) : List Int)).bind fun y280 => (if x11 = (wrap64 ((x0.length : Int) - 1)) then (shacklelaw07_second.l0 k x0 x1 x2 x7 x8 x9 (y280.set (x11 : Int).toNat (((rd y280 x11) + 1) % 4294967296)) (wrap64 (x11 + 1))) else (if 0 ≤ (wrap64 (x11 + 1)) then (if (wrap64 (x11 + 1)) < (x0.length : Int) then ((hash_Gnu.f k (rdOf ByteArray.empty x0 (wrap64 (x11 + 1)))).bind fun t284 => (if x1 = 0 then (none) else (if (Int.tmod t284 x1) = (Int.tmod x12 x1) then (shacklelaw07_second.l0 k x0 x1 x2 x7 x8 x9 y280 (wrap64 (x11 + 1))) else (shacklelaw07_second.l0 k x0 x1 x2 x7 x8 x9 (y280.set (x11 : Int).toNat (((rd y280 x11) + 1) % 4294967296)) (wrap64 (x11 + 1)))))) else (none)) else (none)))) else (none)) else (none)
def shacklelaw07_second.l1 : Nat → List Int → List Int → List Int → List Int → Int → Option (List Int)
 | 0, _, _, _, _, _ => none
 | k + 1, x7, x8, x9, x10, x13 => if x13 < 4 then (if 0 ≤ x13 then (if x13 < (x8.length : Int) then ((some (([(Int.tmod (rd x8 x13) 4294967296) % 4294967296, (IntKind.u64.wrap (Int.tdiv (rd x8 x13) 4294967296)) % 4294967296] : List Int) : List Int)).bind fun y289 => (if x7.length + y289.length < 35184372088832 then (shacklelaw07_second.l1 k (x7 ++ y289) x8 x9 x10 (wrap64 (x13 + 1))) else (none))) else (none)) else (none)) else (if x7.length + x9.length < 35184372088832 then ((some (x7 ++ x9 : List Int)).bind fun y295 => (if 1 ≤ (x10.length : Int) then ((some (x10.drop 1 : List Int)).bind fun y298 => (if y295.length + y298.length < 35184372088832 then ((shacklelaw07_four.f k (y295 ++ y298)).bind fun t305 => (some t305)) else (none))) else (none))) else (none))
end
def shacklelaw07_second.f (k : Nat) (l0 : List ByteArray) (a1 : Int) (a2 : Int) : Option (List Int) := if 4 ≤ 35184372088832 then (if 0 ≤ a1 then (if (a1 : Int).toNat ≤ 70368744177664 then (if 0 ≤ (l0.length : Int) then (if ((l0.length : Int) : Int).toNat ≤ 70368744177664 then (shacklelaw07_second.l0 k l0 a1 a2 (([a1, 1, 4, a2] : List Int)) (List.replicate 4 0) (List.replicate (a1 : Int).toNat 0) (List.replicate ((l0.length : Int) : Int).toNat 0) 1) else (none)) else (none)) else (none)) else (none)) else (none)
theorem shacklelaw07_second.mono_l : ∀ k, (∀ y0 y1 y2 y3 y4 y5 y6 y7, LeO (shacklelaw07_second.l0 k y0 y1 y2 y3 y4 y5 y6 y7) (shacklelaw07_second.l0 (k + 1) y0 y1 y2 y3 y4 y5 y6 y7)) ∧ (∀ y0 y1 y2 y3 y4 y5 y6 y7 y8, LeO (shacklelaw07_second.j1 k y0 y1 y2 y3 y4 y5 y6 y7 y8) (shacklelaw07_second.j1 (k + 1) y0 y1 y2 y3 y4 y5 y6 y7 y8)) ∧ (∀ y0 y1 y2 y3 y4, LeO (shacklelaw07_second.l1 k y0 y1 y2 y3 y4) (shacklelaw07_second.l1 (k + 1) y0 y1 y2 y3 y4))
 | 0 => ⟨fun _ _ _ _ _ _ _ _ r h => by simp [shacklelaw07_second.l0] at h, fun _ _ _ _ _ _ _ _ _ r h => by simp [shacklelaw07_second.j1] at h, fun _ _ _ _ _ r h => by simp [shacklelaw07_second.l1] at h⟩
 | k + 1 => by
  obtain ⟨ih0, ih1, ih2⟩ := shacklelaw07_second.mono_l k
  refine ⟨?_, ?_, ?_⟩
  ·intro y0 y1 y2 y3 y4 y5 y6 y7
   unfold shacklelaw07_second.l0
   repeat' first
   | (with_reducible exact ih0 _ _ _ _ _ _ _ _)
   | (with_reducible exact ih1 _ _ _ _ _ _ _ _ _)
   | (with_reducible exact ih2 _ _ _ _ _)
   | (with_reducible exact hash_Gnu.mono _ _)
   | (with_reducible exact shacklelaw07_four.mono _ _)
   | (with_reducible exact LeO.refl _)
   | (with_reducible exact LeO.none _)
   | (with_reducible refine LeO.ite ?_ ?_)
   | (with_reducible refine LeO.bind ?_ (fun _ => ?_))
   | exact ih0 _ _ _ _ _ _ _ _
   | exact ih1 _ _ _ _ _ _ _ _ _
   | exact ih2 _ _ _ _ _
   | exact hash_Gnu.mono _ _
   | exact shacklelaw07_four.mono _ _
   | exact LeO.none _
   | refine LeO.ite ?_ ?_
   | refine LeO.bind ?_ (fun _ => ?_)
  ·intro y0 y1 y2 y3 y4 y5 y6 y7 y8
   unfold shacklelaw07_second.j1
   repeat' first
   | (with_reducible exact ih0 _ _ _ _ _ _ _ _)
   | (with_reducible exact ih1 _ _ _ _ _ _ _ _ _)
   | (with_reducible exact ih2 _ _ _ _ _)
   | (with_reducible exact hash_Gnu.mono _ _)
   | (with_reducible exact shacklelaw07_four.mono _ _)
   | (with_reducible exact LeO.refl _)
   | (with_reducible exact LeO.none _)
   | (with_reducible refine LeO.ite ?_ ?_)
   | (with_reducible refine LeO.bind ?_ (fun _ => ?_))
   | exact ih0 _ _ _ _ _ _ _ _
   | exact ih1 _ _ _ _ _ _ _ _ _
   | exact ih2 _ _ _ _ _
   | exact hash_Gnu.mono _ _
   | exact shacklelaw07_four.mono _ _
   | exact LeO.none _
   | refine LeO.ite ?_ ?_
   | refine LeO.bind ?_ (fun _ => ?_)
  ·intro y0 y1 y2 y3 y4
   unfold shacklelaw07_second.l1
   repeat' first
   | (with_reducible exact ih0 _ _ _ _ _ _ _ _)
   | (with_reducible exact ih1 _ _ _ _ _ _ _ _ _)
   | (with_reducible exact ih2 _ _ _ _ _)
   | (with_reducible exact hash_Gnu.mono _ _)
   | (with_reducible exact shacklelaw07_four.mono _ _)
   | (with_reducible exact LeO.refl _)
   | (with_reducible exact LeO.none _)
   | (with_reducible refine LeO.ite ?_ ?_)
   | (with_reducible refine LeO.bind ?_ (fun _ => ?_))
   | exact ih0 _ _ _ _ _ _ _ _
   | exact ih1 _ _ _ _ _ _ _ _ _
   | exact ih2 _ _ _ _ _
   | exact hash_Gnu.mono _ _
   | exact shacklelaw07_four.mono _ _
   | exact LeO.none _
   | refine LeO.ite ?_ ?_
   | refine LeO.bind ?_ (fun _ => ?_)
theorem shacklelaw07_second.mono : ∀ a0 a1 a2 k, LeO (shacklelaw07_second.f k a0 a1 a2) (shacklelaw07_second.f (k + 1) a0 a1 a2) := by
 intro a0 a1 a2 k
 obtain ⟨ih0, ih1, ih2⟩ := shacklelaw07_second.mono_l k
 unfold shacklelaw07_second.f
 repeat' first
   | (with_reducible exact ih0 _ _ _ _ _ _ _ _)
   | (with_reducible exact ih1 _ _ _ _ _ _ _ _ _)
   | (with_reducible exact ih2 _ _ _ _ _)
   | (with_reducible exact hash_Gnu.mono _ _)
   | (with_reducible exact shacklelaw07_four.mono _ _)
   | (with_reducible exact LeO.refl _)
   | (with_reducible exact LeO.none _)
   | (with_reducible refine LeO.ite ?_ ?_)
   | (with_reducible refine LeO.bind ?_ (fun _ => ?_))
   | exact ih0 _ _ _ _ _ _ _ _
   | exact ih1 _ _ _ _ _ _ _ _ _
   | exact ih2 _ _ _ _ _
   | exact hash_Gnu.mono _ _
   | exact shacklelaw07_four.mono _ _
   | exact LeO.none _
   | refine LeO.ite ?_ ?_
   | refine LeO.bind ?_ (fun _ => ?_)
def shacklelaw07_second.T13 : Bool × List (List Nat × List Nat) := (true, [([], []), ([], []), ([1], [1]), ([2], [2]), ([0, 3], [0, 3]), ([4], [4]), ([5], [5]), ([5], [5]), ([7, 5], [5, 7]), ([6, 8, 5], [5, 6, 8]), ([9, 5], [5, 9]), ([10, 5, 5], [5, 10]), ([5], [5]), ([11, 12, 5], [5, 11, 12]), ([5], [5]), ([5], [5]), ([14, 15, 5], [5, 14, 15]), ([13, 16, 5], [5, 13, 16]), ([5, 17], [5, 17])])
def shacklelaw07_second.B13 : List Nat := [0, 0, 2, 6, 15, 31, 63, 63, 191, 511, 1023, 2047, 63, 8191, 63, 63, 49215, 131071, 262143]
theorem shacklelaw07_second.tab13 : rtab .any (opsOf Try.f16 13) = shacklelaw07_second.T13 := by kernel_rfl
theorem shacklelaw07_second.bits13 : waitsOk shacklelaw07_second.T13.2 shacklelaw07_second.B13 = true := by kernel_rfl
def shacklelaw07_second.T18 : Bool × List (List Nat × List Nat) := (true, [([], []), ([], []), ([], []), ([1, 2], [1, 2]), ([3], [3]), ([4], [4]), ([5], [5]), ([], []), ([], []), ([7, 8], [7, 8]), ([9], [9]), ([10], [10]), ([11], [11]), ([6, 12], [6, 12]), ([0, 13], [0, 13]), ([14, 14, 0, 1, 2, 3, 4, 5, 6, 7, 8, 9, 10, 11, 12, 13, 14], [0, 14])])
def shacklelaw07_second.B18 : List Nat := [0, 0, 0, 6, 14, 30, 62, 0, 0, 384, 896, 1920, 3968, 8190, 16383, 32767]
theorem shacklelaw07_second.tab18 : rtab .any (opsOf Try.f16 18) = shacklelaw07_second.T18 := by kernel_rfl
theorem shacklelaw07_second.bits18 : waitsOk shacklelaw07_second.T18.2 shacklelaw07_second.B18 = true := by kernel_rfl
set_option maxHeartbeats 8000000 in
set_option maxRecDepth 100000 in
theorem shacklelaw07_second.calls (k : Nat) (A0 : Option Addr) (c0 : Nat) (l0 : List ByteArray) (a1 : Int) (a2 : Int) (r : List Int) (w : World) (hr0 : Kd.C Kd.string w A0 l0.length l0) (hc0 : l0.length ≤ c0) (h : shacklelaw07_second.f k l0 a1 a2 = some r) :
  Calls Try.prog 16 #[.slice A0 l0.length c0, .int .u32 a1, .int .u32 a2] w fun e w' => ∃ v0_ : Value, e = .returned (v0_) ∧ Kd.R (Kd.int .u8) 5 w' w.heap.size (fun _ => True) v0_ r ∧ Below w.heap.size w w' := by
 have HR0 := Aside0.mk hr0
 have HC0 := Aside0.mk hc0
 clear hr0 hc0
 have HB := Aside0.mk (Below.refl w.heap.size w)
 have H : (if 4 ≤ 35184372088832 then (if 0 ≤ a1 then (if (a1 : Int).toNat ≤ 70368744177664 then (if 0 ≤ (l0.length : Int) then (if ((l0.length : Int) : Int).toNat ≤ 70368744177664 then (shacklelaw07_second.l0 k l0 a1 a2 (([a1, 1, 4, a2] : List Int)) (List.replicate 4 0) (List.replicate (a1 : Int).toNat 0) (List.replicate ((l0.length : Int) : Int).toNat 0) 1) else (none)) else (none)) else (none)) else (none)) else (none)) = some r := h
 clear h
 obtain ⟨y262, hy262⟩ : ∃ y_ : List Int, y_ = (([a1, 1, 4, a2] : List Int)) := ⟨_, rfl⟩
 replace H : (if 4 ≤ 35184372088832 then (if 0 ≤ a1 then (if (a1 : Int).toNat ≤ 70368744177664 then (if 0 ≤ (l0.length : Int) then (if ((l0.length : Int) : Int).toNat ≤ 70368744177664 then (shacklelaw07_second.l0 k l0 a1 a2 y262 (List.replicate 4 0) (List.replicate (a1 : Int).toNat 0) (List.replicate ((l0.length : Int) : Int).toNat 0) 1) else (none)) else (none)) else (none)) else (none)) else (none)) = some r := by first | (rw [hy262]; with_reducible exact H) | (have H2_ := (Option.bind_some _ _).symm.trans H; rw [hy262]; with_reducible exact H2_) | (have H2_ := (Option.bind_some _ _).symm.trans H; with_reducible exact H2_) | with_reducible exact H | (rw [hy262]; exact H) | exact H
 have Ny262 := Aside0.mk hy262
 clear hy262
 by_cases c4 : 4 ≤ 35184372088832
 ·rw [if_pos c4] at H
  have c4b0 := eq_true c4
  have c4b1 : decide (4 ≤ 35184372088832) = true := decide_eq_true c4
  clear c4
  obtain ⟨y265, hy265⟩ : ∃ y_ : List Int, y_ = (List.replicate 4 0) := ⟨_, rfl⟩
  replace H : (if 0 ≤ a1 then (if (a1 : Int).toNat ≤ 70368744177664 then (if 0 ≤ (l0.length : Int) then (if ((l0.length : Int) : Int).toNat ≤ 70368744177664 then (shacklelaw07_second.l0 k l0 a1 a2 y262 y265 (List.replicate (a1 : Int).toNat 0) (List.replicate ((l0.length : Int) : Int).toNat 0) 1) else (none)) else (none)) else (none)) else (none)) = some r := by first | (rw [hy265]; with_reducible exact H) | (have H2_ := (Option.bind_some _ _).symm.trans H; rw [hy265]; with_reducible exact H2_) | (have H2_ := (Option.bind_some _ _).symm.trans H; with_reducible exact H2_) | with_reducible exact H | (rw [hy265]; exact H) | exact H
  have Ny265 := Aside0.mk hy265
  clear hy265
  by_cases c5 : 0 ≤ a1
  ·rw [if_pos c5] at H
   have c5b0 := eq_true c5
   have c5b1 : decide (0 ≤ a1) = true := decide_eq_true c5
   clear c5
   by_cases c6 : (a1 : Int).toNat ≤ 70368744177664
   ·rw [if_pos c6] at H
    have c6b0 := eq_true c6
    have c6b1 : decide ((a1 : Int).toNat ≤ 70368744177664) = true := decide_eq_true c6
    clear c6
    obtain ⟨y268, hy268⟩ : ∃ y_ : List Int, y_ = (List.replicate (a1 : Int).toNat 0) := ⟨_, rfl⟩
    replace H : (if 0 ≤ (l0.length : Int) then (if ((l0.length : Int) : Int).toNat ≤ 70368744177664 then (shacklelaw07_second.l0 k l0 a1 a2 y262 y265 y268 (List.replicate ((l0.length : Int) : Int).toNat 0) 1) else (none)) else (none)) = some r := by first | (rw [hy268]; with_reducible exact H) | (have H2_ := (Option.bind_some _ _).symm.trans H; rw [hy268]; with_reducible exact H2_) | (have H2_ := (Option.bind_some _ _).symm.trans H; with_reducible exact H2_) | with_reducible exact H | (rw [hy268]; exact H) | exact H
    have Ny268 := Aside0.mk hy268
    clear hy268
    by_cases c7 : 0 ≤ (l0.length : Int)
    ·rw [if_pos c7] at H
     have c7b0 := eq_true c7
     have c7b1 : decide (0 ≤ (l0.length : Int)) = true := decide_eq_true c7
     clear c7
     by_cases c8 : ((l0.length : Int) : Int).toNat ≤ 70368744177664
     ·rw [if_pos c8] at H
      have c8b0 := eq_true c8
      have c8b1 : decide (((l0.length : Int) : Int).toNat ≤ 70368744177664) = true := decide_eq_true c8
      clear c8
      obtain ⟨y271, hy271⟩ : ∃ y_ : List Int, y_ = (List.replicate ((l0.length : Int) : Int).toNat 0) := ⟨_, rfl⟩
      replace H : (shacklelaw07_second.l0 k l0 a1 a2 y262 y265 y268 y271 1) = some r := by first | (rw [hy271]; with_reducible exact H) | (have H2_ := (Option.bind_some _ _).symm.trans H; rw [hy271]; with_reducible exact H2_) | (have H2_ := (Option.bind_some _ _).symm.trans H; with_reducible exact H2_) | with_reducible exact H | (rw [hy271]; exact H) | exact H
      have Ny271 := Aside0.mk hy271
      clear hy271
      have H' := Aside0.mk H
      clear H
      go_enter Try.func16, Try.ntmps16
      go_wp2_with (first | ((with_reducible refine gate_dst (N := 16) rfl ?_); refine Kd.R_lit (Kd.int .u32) _ 26 ?hg (N := 16) ?hd (xs := ([a1, 1, 4, a2] : List Int)) (inner := [.int .u32 a1, .int .u32 1, .int .u32 4, .int .u32 a2]) (ok := fun _ => True) (okp := fun _ => True) ?hr ?hp (fun _ hk => hk) trivial (Below.refl _ _) (Nat.le_refl _) (by simp) ?_; (case hd => rfl); (case hg => rfl); (case hr => first | (go_simp; done) | (go_simp; rfl)); (case hp => exact (Reps.one (show Kd.M (Kd.int .u32) _ _ _ a1 [.int .u32 a1] from rfl) (Reps.one (show Kd.M (Kd.int .u32) _ _ _ 1 [.int .u32 1] from rfl) (Reps.one (show Kd.M (Kd.int .u32) _ _ _ 4 [.int .u32 4] from rfl) (Reps.one (show Kd.M (Kd.int .u32) _ _ _ a2 [.int .u32 a2] from rfl) (Reps.none _ _)))))); intro v263 w9 ho10 hb hg_ hnew_; clear hg_ hnew_; (first | rw [← Ny262.out] at ho10 | (simp only [Int.reduceToNat] at ho10; rw [← Ny262.out] at ho10)); have n0_ := Aside0.mk (Kd.R_lower ho10 (below_size (by repeat (first | (with_reducible first | exact HB.out | apply below_alloc | apply pw_below_drewN | apply below_drew1) | exact HB.out)))); have n1_ := Aside0.mk (below_step (by repeat (first | (with_reducible first | exact HB.out | apply below_alloc | apply pw_below_drewN | apply below_drew1) | exact HB.out)) hb); clear HB; have HO264 := n0_; have HB := n1_; clear n0_ n1_; clear hb ho10) | ((with_reducible refine gate_dst (N := 17) rfl ?_); refine Kd.R_make (Kd.int .u64) _ 27 rfl (N := 17) rfl 33 _ _ rfl 4 rfl rfl Try.underlying33 (.int .u64 0) 8 info27 rfl (by decide) (by omega) 0 (ok := fun _ => True) (okp := fun _ => True) rfl (fun _ hk => hk) trivial (by omega) (by omega) (Below.refl _ _) (Nat.le_refl _) ?_; intro v266 w11 ho12 hb hg_ hnew_; clear hg_ hnew_; (first | rw [← Ny265.out] at ho12 | (simp only [Int.reduceToNat] at ho12; rw [← Ny265.out] at ho12)); have n0_ := Aside0.mk (Kd.R_below (by (with_reducible repeat (first | apply Kd.R_alloc | apply Kd.R_drewN | apply Kd.R_drew)); exact HO264.out) hb); have n1_ := Aside0.mk (Kd.R_lower ho12 (below_size (by repeat (first | (with_reducible first | exact HB.out | apply below_alloc | apply pw_below_drewN | apply below_drew1) | exact HB.out)))); have n2_ := Aside0.mk (below_step (by repeat (first | (with_reducible first | exact HB.out | apply below_alloc | apply pw_below_drewN | apply below_drew1) | exact HB.out)) hb); clear HO264; clear HB; have HO264 := n0_; have HO267 := n1_; have HB := n2_; clear n0_ n1_ n2_; clear hb ho12) | ((with_reducible refine gate_dst (N := 19) rfl ?_); refine Kd.R_makeK .u32 (Kd.int .u32) _ 26 rfl (N := 19) rfl 83 _ _ rfl a1 rfl rfl Try.underlying83 (.int .u32 0) 4 info26 rfl (by decide) (by omega) 0 (ok := fun _ => True) (okp := fun _ => True) rfl (fun _ hk => hk) trivial (of_decide_eq_true (by assumption)) (Nat.le_trans (Nat.mul_le_mul_right _ (of_decide_eq_true (by assumption) : a1.toNat ≤ 70368744177664)) (by omega)) (Below.refl _ _) (Nat.le_refl _) ?_; intro v269 w13 ho14 hb hg_ hnew_; clear hg_ hnew_; (first | rw [← Ny268.out] at ho14 | (simp only [Int.reduceToNat] at ho14; rw [← Ny268.out] at ho14)); have n0_ := Aside0.mk (Kd.R_elder' (by (with_reducible repeat (first | apply Kd.R_alloc | apply Kd.R_drewN | apply Kd.R_drew)); exact HO264.out) (Kd.R_base ho14) hb); have n1_ := Aside0.mk (Kd.R_below (by (with_reducible repeat (first | apply Kd.R_alloc | apply Kd.R_drewN | apply Kd.R_drew)); exact HO267.out) hb); have n2_ := Aside0.mk (Kd.R_lower (Kd.R_new' ho14 (Kd.R_lt (by (with_reducible repeat (first | apply Kd.R_alloc | apply Kd.R_drewN | apply Kd.R_drew)); exact HO264.out))) (below_size (by repeat (first | (with_reducible first | exact HB.out | apply below_alloc | apply pw_below_drewN | apply below_drew1) | exact HB.out)))); have n3_ := Aside0.mk (below_step (by repeat (first | (with_reducible first | exact HB.out | apply below_alloc | apply pw_below_drewN | apply below_drew1) | exact HB.out)) hb); clear HO264; clear HO267; clear HB; have HO264 := n0_; have HO267 := n1_; have HO270 := n2_; have HB := n3_; clear n0_ n1_ n2_ n3_; clear hb ho14) | ((with_reducible refine gate_dst (N := 22) rfl ?_); refine Kd.R_make (Kd.int .u32) _ 26 rfl (N := 22) rfl 83 _ _ rfl (l0.length : Int) rfl rfl Try.underlying83 (.int .u32 0) 4 info26 rfl (by decide) (by omega) 0 (ok := fun _ => True) (okp := fun _ => True) rfl (fun _ hk => hk) trivial (of_decide_eq_true (by assumption)) (Nat.le_trans (Nat.mul_le_mul_right _ (of_decide_eq_true (by assumption) : (l0.length : Int).toNat ≤ 70368744177664)) (by omega)) (Below.refl _ _) (Nat.le_refl _) ?_; intro v272 w15 ho16 hb hg_ hnew_; clear hg_ hnew_; (first | rw [← Ny271.out] at ho16 | (simp only [Int.reduceToNat] at ho16; rw [← Ny271.out] at ho16)); have n0_ := Aside0.mk (Kd.R_elder' (by (with_reducible repeat (first | apply Kd.R_alloc | apply Kd.R_drewN | apply Kd.R_drew)); exact HO264.out) (Kd.R_base ho16) hb); have n1_ := Aside0.mk (Kd.R_below (by (with_reducible repeat (first | apply Kd.R_alloc | apply Kd.R_drewN | apply Kd.R_drew)); exact HO267.out) hb); have n2_ := Aside0.mk (Kd.R_elder' (by (with_reducible repeat (first | apply Kd.R_alloc | apply Kd.R_drewN | apply Kd.R_drew)); exact HO270.out) (Kd.R_base ho16) hb); have n3_ := Aside0.mk (Kd.R_lower (Kd.R_new' (Kd.R_new' ho16 (Kd.R_lt (by (with_reducible repeat (first | apply Kd.R_alloc | apply Kd.R_drewN | apply Kd.R_drew)); exact HO264.out))) (Kd.R_lt (by (with_reducible repeat (first | apply Kd.R_alloc | apply Kd.R_drewN | apply Kd.R_drew)); exact HO270.out))) (below_size (by repeat (first | (with_reducible first | exact HB.out | apply below_alloc | apply pw_below_drewN | apply below_drew1) | exact HB.out)))); have n4_ := Aside0.mk (below_step (by repeat (first | (with_reducible first | exact HB.out | apply below_alloc | apply pw_below_drewN | apply below_drew1) | exact HB.out)) hb); clear HO264; clear HO267; clear HO270; clear HB; have HO264 := n0_; have HO267 := n1_; have HO270 := n2_; have HO273 := n3_; have HB := n4_; clear n0_ n1_ n2_ n3_ n4_; clear hb ho16))
      go_loopg [11] k (fun kq v11 w' => ∃ (x8_1 : List Int) (x9_1 : List Int) (x10_1 : List Int) (x11_1 : Int), v11 = .int .i64 x11_1 ∧ Aside0 (shacklelaw07_second.l0 kq l0 a1 a2 y262 x8_1 x9_1 x10_1 x11_1 = some r) ∧ Aside0 (kq ≤ k) ∧ Aside0 (Kd.R (Kd.int .u32) 26 w' w.heap.size (fun k_ => some k_ ≠ (v269 : Value).ownBlock ∧ some k_ ≠ (v272 : Value).ownBlock) v263 y262) ∧ Aside0 (Kd.R (Kd.int .u64) 27 w' w.heap.size (fun _ => True) v266 x8_1) ∧ Aside0 (Kd.R (Kd.int .u32) 26 w' w.heap.size (fun k_ => some k_ ≠ (v263 : Value).ownBlock ∧ some k_ ≠ (v272 : Value).ownBlock) v269 x9_1) ∧ Aside0 (Kd.R (Kd.int .u32) 26 w' w.heap.size (fun k_ => some k_ ≠ (v263 : Value).ownBlock ∧ some k_ ≠ (v269 : Value).ownBlock) v272 x10_1) ∧ Aside0 (Below w.heap.size w w'))
      case atStart => exact ⟨(y265), (y268), (y271), (1), (by first | rfl | (simp; done) | (simp [*]; done)), H', ⟨Nat.le_refl _⟩, ⟨by (with_reducible repeat (first | apply Kd.R_alloc | apply Kd.R_drewN | apply Kd.R_drew)); exact Kd.R_mono HO264.out (fun _ hk => ⟨hk.1.2, hk.2⟩)⟩, ⟨by (with_reducible repeat (first | apply Kd.R_alloc | apply Kd.R_drewN | apply Kd.R_drew)); exact HO267.out⟩, ⟨by (with_reducible repeat (first | apply Kd.R_alloc | apply Kd.R_drewN | apply Kd.R_drew)); exact Kd.R_mono HO270.out (fun _ hk => ⟨hk.1.2, hk.2⟩)⟩, ⟨by (with_reducible repeat (first | apply Kd.R_alloc | apply Kd.R_drewN | apply Kd.R_drew)); exact Kd.R_mono HO273.out (fun _ hk => ⟨hk.1.2, hk.2⟩)⟩, ⟨by repeat (first | (with_reducible first | exact HB.out | apply below_alloc | apply pw_below_drewN | apply below_drew1) | exact HB.out)⟩⟩
      case round =>
       clear H'
       try clear c1
       try clear p2
       try clear c4
       try clear c4b0
       try clear c4b1
       try clear c5
       try clear c5b0
       try clear c5b1
       try clear c6
       try clear c6b0
       try clear c6b1
       try clear c7
       try clear c7b0
       try clear c7b1
       try clear c8
       try clear c8b0
       try clear c8b1
       try clear c16
       obtain ⟨x8_1, x9_1, x10_1, x11_1, rfl, HA, HK1, HO_7, HO_8, HO_9, HO_10, HB⟩ := hrel
       cases gk with
       | zero => exact absurd HA.out (by simp [shacklelaw07_second.l0])
       | succ k1 =>
        have H := HA.out
        clear HA
        simp only [shacklelaw07_second.l0] at H
        by_cases c17 : x11_1 < (l0.length : Int)
        ·rw [if_pos c17] at H
         have c17b0 : decide (x11_1 < (l0.length : Int)) = true := decide_eq_true c17
         clear c17
         by_cases c18 : 0 ≤ x11_1
         ·rw [if_pos c18] at H
          have c18b0 : decide (0 ≤ x11_1) = true := decide_eq_true c18
          clear c18
          replace H := Option.bind_eq_some_iff.mp H
          obtain ⟨t275, A190, H⟩ := H
          replace H : (if 0 ≤ (((Int.tdiv t275 64) % 4294967296) % 4) then (if (((Int.tdiv t275 64) % 4294967296) % 4) < (x8_1.length : Int) then (if 0 ≤ (Int.tmod t275 64) then (if 0 ≤ a2 then (if 0 ≤ (Int.tmod (shr .u32 t275 a2) 64) then ((some (x8_1.set ((((Int.tdiv t275 64) % 4294967296) % 4) : Int).toNat (Go.bits .or .u64 (Go.bits .or .u64 (rd x8_1 (((Int.tdiv t275 64) % 4294967296) % 4)) (shl .u64 1 (Int.tmod t275 64))) (shl .u64 1 (Int.tmod (shr .u32 t275 a2) 64))) : List Int)).bind fun y277 => (if a1 = 0 then (none) else (if 0 ≤ (Int.tmod t275 a1) then (if (Int.tmod t275 a1) < (x9_1.length : Int) then (if (rd x9_1 (Int.tmod t275 a1)) = 0 then (shacklelaw07_second.j1 k1 l0 a1 a2 y262 y277 (x9_1.set ((Int.tmod t275 a1) : Int).toNat ((x11_1) % 4294967296)) x10_1 x11_1 t275) else (shacklelaw07_second.j1 k1 l0 a1 a2 y262 y277 x9_1 x10_1 x11_1 t275)) else (none)) else (none)))) else (none)) else (none)) else (none)) else (none)) else (none)) = some r := H
          have A19 := Aside0.mk A190
          clear A190
          obtain ⟨ji20, hji20⟩ : ∃ j_ : Int, (((Int.tdiv t275 64) % 4294967296) % 4) = j_ := ⟨_, rfl⟩
          have hji20v : ((IntKind.u32.wrap ((Int.tdiv t275 64))) % 4) = ji20 := by simp only [IntKind.wrap_u32]; exact hji20
          replace H : (if 0 ≤ (ji20) then (if (ji20) < (x8_1.length : Int) then (if 0 ≤ (Int.tmod t275 64) then (if 0 ≤ a2 then (if 0 ≤ (Int.tmod (shr .u32 t275 a2) 64) then ((some (x8_1.set ((ji20) : Int).toNat (Go.bits .or .u64 (Go.bits .or .u64 (rd x8_1 (ji20)) (shl .u64 1 (Int.tmod t275 64))) (shl .u64 1 (Int.tmod (shr .u32 t275 a2) 64))) : List Int)).bind fun y277 => (if a1 = 0 then (none) else (if 0 ≤ (Int.tmod t275 a1) then (if (Int.tmod t275 a1) < (x9_1.length : Int) then (if (rd x9_1 (Int.tmod t275 a1)) = 0 then (shacklelaw07_second.j1 k1 l0 a1 a2 y262 y277 (x9_1.set ((Int.tmod t275 a1) : Int).toNat ((x11_1) % 4294967296)) x10_1 x11_1 t275) else (shacklelaw07_second.j1 k1 l0 a1 a2 y262 y277 x9_1 x10_1 x11_1 t275)) else (none)) else (none)))) else (none)) else (none)) else (none)) else (none)) else (none)) = some r := by first | (rw [hji20] at H; exact H) | (simp only [hji20] at H ⊢; exact H)
          (try rw [hji20] at A19)
          by_cases c21 : 0 ≤ (ji20)
          ·rw [if_pos c21] at H
           have c21b0 : decide (0 ≤ (ji20)) = true := decide_eq_true c21
           clear c21
           by_cases c22 : (ji20) < (x8_1.length : Int)
           ·rw [if_pos c22] at H
            have c22b0 : decide ((ji20) < (x8_1.length : Int)) = true := decide_eq_true c22
            clear c22
            obtain ⟨ji23, hji23⟩ : ∃ j_ : Int, (Int.tmod t275 64) = j_ := ⟨_, rfl⟩
            replace H : (if 0 ≤ (ji23) then (if 0 ≤ a2 then (if 0 ≤ (Int.tmod (shr .u32 t275 a2) 64) then ((some (x8_1.set ((ji20) : Int).toNat (Go.bits .or .u64 (Go.bits .or .u64 (rd x8_1 (ji20)) (shl .u64 1 (ji23))) (shl .u64 1 (Int.tmod (shr .u32 t275 a2) 64))) : List Int)).bind fun y277 => (if a1 = 0 then (none) else (if 0 ≤ (Int.tmod t275 a1) then (if (Int.tmod t275 a1) < (x9_1.length : Int) then (if (rd x9_1 (Int.tmod t275 a1)) = 0 then (shacklelaw07_second.j1 k1 l0 a1 a2 y262 y277 (x9_1.set ((Int.tmod t275 a1) : Int).toNat ((x11_1) % 4294967296)) x10_1 x11_1 t275) else (shacklelaw07_second.j1 k1 l0 a1 a2 y262 y277 x9_1 x10_1 x11_1 t275)) else (none)) else (none)))) else (none)) else (none)) else (none)) = some r := by first | (rw [hji23] at H; exact H) | (simp only [hji23] at H ⊢; exact H)
            (try rw [hji23] at A19)
            by_cases c24 : 0 ≤ (ji23)
            ·rw [if_pos c24] at H
             have c24b0 := eq_true c24
             have c24b1 : decide (0 ≤ (ji23)) = true := decide_eq_true c24
             clear c24
             obtain ⟨ji25, hji25⟩ : ∃ j_ : Int, (shl .u64 1 (ji23)) = j_ := ⟨_, rfl⟩
             replace H : (if 0 ≤ a2 then (if 0 ≤ (Int.tmod (shr .u32 t275 a2) 64) then ((some (x8_1.set ((ji20) : Int).toNat (Go.bits .or .u64 (Go.bits .or .u64 (rd x8_1 (ji20)) (ji25)) (shl .u64 1 (Int.tmod (shr .u32 t275 a2) 64))) : List Int)).bind fun y277 => (if a1 = 0 then (none) else (if 0 ≤ (Int.tmod t275 a1) then (if (Int.tmod t275 a1) < (x9_1.length : Int) then (if (rd x9_1 (Int.tmod t275 a1)) = 0 then (shacklelaw07_second.j1 k1 l0 a1 a2 y262 y277 (x9_1.set ((Int.tmod t275 a1) : Int).toNat ((x11_1) % 4294967296)) x10_1 x11_1 t275) else (shacklelaw07_second.j1 k1 l0 a1 a2 y262 y277 x9_1 x10_1 x11_1 t275)) else (none)) else (none)))) else (none)) else (none)) = some r := by first | (rw [hji25] at H; exact H) | (simp only [hji25] at H ⊢; exact H)
             (try rw [hji25] at A19)
             have hji25_ : (IntKind.u64.wrap (1 * 2 ^ min (ji23).toNat 64)) = ji25 := hji25
             have hji25z : (ji23) ≤ 64 → (IntKind.u64.wrap (1 * 2 ^ (ji23).toNat)) = ji25 := shl_small hji25
             have hji25u : (IntKind.u64.wrap (2 ^ min (ji23).toNat 64)) = ji25 := by have h_ := hji25_; rw [Int.one_mul] at h_; exact h_
             have hji25v : (ji23) ≤ 64 → (IntKind.u64.wrap (2 ^ (ji23).toNat)) = ji25 := fun hle_ => by have h_ := hji25z hle_; rw [Int.one_mul] at h_; exact h_
             by_cases c26 : 0 ≤ a2
             ·rw [if_pos c26] at H
              have c26b0 := eq_true c26
              have c26b1 : decide (0 ≤ a2) = true := decide_eq_true c26
              clear c26
              obtain ⟨ji27, hji27⟩ : ∃ j_ : Int, (shr .u32 t275 a2) = j_ := ⟨_, rfl⟩
              replace H : (if 0 ≤ (Int.tmod (ji27) 64) then ((some (x8_1.set ((ji20) : Int).toNat (Go.bits .or .u64 (Go.bits .or .u64 (rd x8_1 (ji20)) (ji25)) (shl .u64 1 (Int.tmod (ji27) 64))) : List Int)).bind fun y277 => (if a1 = 0 then (none) else (if 0 ≤ (Int.tmod t275 a1) then (if (Int.tmod t275 a1) < (x9_1.length : Int) then (if (rd x9_1 (Int.tmod t275 a1)) = 0 then (shacklelaw07_second.j1 k1 l0 a1 a2 y262 y277 (x9_1.set ((Int.tmod t275 a1) : Int).toNat ((x11_1) % 4294967296)) x10_1 x11_1 t275) else (shacklelaw07_second.j1 k1 l0 a1 a2 y262 y277 x9_1 x10_1 x11_1 t275)) else (none)) else (none)))) else (none)) = some r := by first | (rw [hji27] at H; exact H) | (simp only [hji27] at H ⊢; exact H)
              (try rw [hji27] at A19)
              have hji27_ : (t275 / 2 ^ min a2.toNat 32) = ji27 := hji27
              have hji27z : a2 ≤ 32 → (t275 / 2 ^ a2.toNat) = ji27 := shr_small hji27
              obtain ⟨ji28, hji28⟩ : ∃ j_ : Int, (Int.tmod (ji27) 64) = j_ := ⟨_, rfl⟩
              replace H : (if 0 ≤ (ji28) then ((some (x8_1.set ((ji20) : Int).toNat (Go.bits .or .u64 (Go.bits .or .u64 (rd x8_1 (ji20)) (ji25)) (shl .u64 1 (ji28))) : List Int)).bind fun y277 => (if a1 = 0 then (none) else (if 0 ≤ (Int.tmod t275 a1) then (if (Int.tmod t275 a1) < (x9_1.length : Int) then (if (rd x9_1 (Int.tmod t275 a1)) = 0 then (shacklelaw07_second.j1 k1 l0 a1 a2 y262 y277 (x9_1.set ((Int.tmod t275 a1) : Int).toNat ((x11_1) % 4294967296)) x10_1 x11_1 t275) else (shacklelaw07_second.j1 k1 l0 a1 a2 y262 y277 x9_1 x10_1 x11_1 t275)) else (none)) else (none)))) else (none)) = some r := by first | (rw [hji28] at H; exact H) | (simp only [hji28] at H ⊢; exact H)
              (try rw [hji28] at A19)
              by_cases c29 : 0 ≤ (ji28)
              ·rw [if_pos c29] at H
               have c29b0 := eq_true c29
               have c29b1 : decide (0 ≤ (ji28)) = true := decide_eq_true c29
               clear c29
               obtain ⟨ji30, hji30⟩ : ∃ j_ : Int, (shl .u64 1 (ji28)) = j_ := ⟨_, rfl⟩
               replace H : ((some (x8_1.set ((ji20) : Int).toNat (Go.bits .or .u64 (Go.bits .or .u64 (rd x8_1 (ji20)) (ji25)) (ji30)) : List Int)).bind fun y277 => (if a1 = 0 then (none) else (if 0 ≤ (Int.tmod t275 a1) then (if (Int.tmod t275 a1) < (x9_1.length : Int) then (if (rd x9_1 (Int.tmod t275 a1)) = 0 then (shacklelaw07_second.j1 k1 l0 a1 a2 y262 y277 (x9_1.set ((Int.tmod t275 a1) : Int).toNat ((x11_1) % 4294967296)) x10_1 x11_1 t275) else (shacklelaw07_second.j1 k1 l0 a1 a2 y262 y277 x9_1 x10_1 x11_1 t275)) else (none)) else (none)))) = some r := by first | (rw [hji30] at H; exact H) | (simp only [hji30] at H ⊢; exact H)
               (try rw [hji30] at A19)
               have hji30_ : (IntKind.u64.wrap (1 * 2 ^ min (ji28).toNat 64)) = ji30 := hji30
               have hji30z : (ji28) ≤ 64 → (IntKind.u64.wrap (1 * 2 ^ (ji28).toNat)) = ji30 := shl_small hji30
               have hji30u : (IntKind.u64.wrap (2 ^ min (ji28).toNat 64)) = ji30 := by have h_ := hji30_; rw [Int.one_mul] at h_; exact h_
               have hji30v : (ji28) ≤ 64 → (IntKind.u64.wrap (2 ^ (ji28).toNat)) = ji30 := fun hle_ => by have h_ := hji30z hle_; rw [Int.one_mul] at h_; exact h_
               obtain ⟨y277, hy277⟩ : ∃ y_ : List Int, y_ = (x8_1.set ((ji20) : Int).toNat (Go.bits .or .u64 (Go.bits .or .u64 (rd x8_1 (ji20)) (ji25)) (ji30))) := ⟨_, rfl⟩
               replace H : (if a1 = 0 then (none) else (if 0 ≤ (Int.tmod t275 a1) then (if (Int.tmod t275 a1) < (x9_1.length : Int) then (if (rd x9_1 (Int.tmod t275 a1)) = 0 then (shacklelaw07_second.j1 k1 l0 a1 a2 y262 y277 (x9_1.set ((Int.tmod t275 a1) : Int).toNat ((x11_1) % 4294967296)) x10_1 x11_1 t275) else (shacklelaw07_second.j1 k1 l0 a1 a2 y262 y277 x9_1 x10_1 x11_1 t275)) else (none)) else (none))) = some r := by first | (rw [hy277]; with_reducible exact H) | (have H2_ := (Option.bind_some _ _).symm.trans H; rw [hy277]; with_reducible exact H2_) | (have H2_ := (Option.bind_some _ _).symm.trans H; with_reducible exact H2_) | with_reducible exact H | (rw [hy277]; exact H) | exact H
               have Ny277 := Aside0.mk hy277
               clear hy277
               by_cases c32 : a1 = 0
               ·rw [if_pos c32] at H
                exact absurd H (by simp)
               ·rw [if_neg c32] at H
                have c32b0 : (a1 == 0) = false := beq_eq_false_iff_ne.mpr c32
                have c32b1 : (a1 != 0) = true := bne_iff_ne.mpr c32
                obtain ⟨ji33, hji33⟩ : ∃ j_ : Int, (Int.tmod t275 a1) = j_ := ⟨_, rfl⟩
                replace H : (if 0 ≤ (ji33) then (if (ji33) < (x9_1.length : Int) then (if (rd x9_1 (ji33)) = 0 then (shacklelaw07_second.j1 k1 l0 a1 a2 y262 y277 (x9_1.set ((ji33) : Int).toNat ((x11_1) % 4294967296)) x10_1 x11_1 t275) else (shacklelaw07_second.j1 k1 l0 a1 a2 y262 y277 x9_1 x10_1 x11_1 t275)) else (none)) else (none)) = some r := by first | (rw [hji33] at H; exact H) | (simp only [hji33] at H ⊢; exact H)
                (try rw [hji33] at A19)
                by_cases c34 : 0 ≤ (ji33)
                ·rw [if_pos c34] at H
                 have c34b0 : decide (0 ≤ (ji33)) = true := decide_eq_true c34
                 clear c34
                 by_cases c35 : (ji33) < (x9_1.length : Int)
                 ·rw [if_pos c35] at H
                  have c35b0 : decide ((ji33) < (x9_1.length : Int)) = true := decide_eq_true c35
                  clear c35
                  have HC36 := Aside0.mk H
                  clear H
                  have p274 : 0 ≤ (x11_1 : Int) := of_decide_eq_true (by assumption)
                  have q274 : x11_1 < (l0.length : Int) := of_decide_eq_true (by assumption)
                  obtain ⟨ad274, e274, hx274_0⟩ := Kd.at_string HR0.out x11_1 p274 q274
                  cases e274
                  replace hx274_0 := (HB.out.cell (World.block_lt_of_cell? w _ hx274_0)).trans hx274_0
                  replace p274 := eq_true p274
                  replace q274 := eq_true q274
                  go_upto_if 61 with (first | ((with_reducible refine gate_callee (f := 15) rfl ?_); refine goesL_ (some 33) rfl rfl Try.func15 (by kernel_rfl) rfl #[.string (rdOf ByteArray.empty l0 x11_1)] rfl (by (try simp only [List.map_toArray, List.map_cons, List.map_nil]); first | done | rfl | (simp only [List.length_drop, List.length_take]; rfl)) ?_; (with_reducible refine (hash_Gnu.calls k1 (rdOf ByteArray.empty l0 x11_1) t275 _ A19.out).mono ?_); rintro e w' ⟨rfl, ⟨nd, rfl⟩⟩; refine ⟨_, rfl, ?_⟩; (try (rw [drewN_self wr]; generalize hq_ : World.drewN wr _ = wr; have n0_ : Aside0 (Kd.R (Kd.int .u32) 26 wr w.heap.size (fun k_ => some k_ ≠ (v263 : Value).ownBlock ∧ some k_ ≠ (v269 : Value).ownBlock) v272 x10_1) := ⟨by rw [← hq_]; exact (by (with_reducible repeat (first | apply Kd.R_alloc | apply Kd.R_drewN | apply Kd.R_drew)); exact HO_10.out)⟩; have n1_ : Aside0 (Kd.R (Kd.int .u32) 26 wr w.heap.size (fun k_ => some k_ ≠ (v272 : Value).ownBlock ∧ some k_ ≠ (v269 : Value).ownBlock) v263 y262) := ⟨by rw [← hq_]; exact (by (with_reducible repeat (first | apply Kd.R_alloc | apply Kd.R_drewN | apply Kd.R_drew)); exact Kd.R_mono HO_7.out (fun _ hk => ⟨hk.2, hk.1⟩))⟩; have n2_ : Aside0 (Kd.R (Kd.int .u64) 27 wr w.heap.size (fun _ => True) v266 x8_1) := ⟨by rw [← hq_]; exact (by (with_reducible repeat (first | apply Kd.R_alloc | apply Kd.R_drewN | apply Kd.R_drew)); exact HO_8.out)⟩; have n3_ : Aside0 (Kd.R (Kd.int .u32) 26 wr w.heap.size (fun k_ => some k_ ≠ (v272 : Value).ownBlock ∧ some k_ ≠ (v263 : Value).ownBlock) v269 x9_1) := ⟨by rw [← hq_]; exact (by (with_reducible repeat (first | apply Kd.R_alloc | apply Kd.R_drewN | apply Kd.R_drew)); exact Kd.R_mono HO_9.out (fun _ hk => ⟨hk.2, hk.1⟩))⟩; have n4_ : Aside0 (Below w.heap.size w wr) := ⟨by rw [← hq_]; exact (by repeat (first | (with_reducible first | exact HB.out | apply below_alloc | apply pw_below_drewN | apply below_drew1) | exact HB.out))⟩; clear HO_10 HO_7 HO_8 HO_9 HB hq_; have HO_10 := n0_; have HO_7 := n1_; have HO_8 := n2_; have HO_9 := n3_; have HB := n4_; clear n0_ n1_ n2_ n3_ n4_)); obtain ⟨Ao37, co37, eo37⟩ := Kd.R_slice HO_8.out; subst eo37; have p276 : 0 ≤ ((ji20) : Int) := of_decide_eq_true (by assumption); have q276 : (ji20) < (x8_1.length : Int) := of_decide_eq_true (by assumption); obtain ⟨ad276, e276, hx276_0⟩ := Kd.at_int (Kd.R_reads' HO_8.out).2.2 (ji20) p276 q276; cases e276; replace p276 := eq_true p276; replace q276 := eq_true q276; have p31 : 0 ≤ ((ji20) : Int) := of_decide_eq_true (by assumption); have q31 : ((ji20) : Int) < ((x8_1.length : Int) : Int) := of_decide_eq_true (by assumption); obtain ⟨go31, co31, eo31, gb31, gl31, cl31, HG31⟩ := Kd.R_form HO_8.out (by omega); (first | cases eo31 | (injection eo31 with ea_ en_ ec_; (first | subst ea_ | (injection ea_ with ea_; subst ea_)); subst ec_; clear en_)); have GB31 := Aside0.mk gb31; have GG31 := Aside0.mk HG31; clear gb31 gl31 HG31; (first | simp only [add_plain] at hx276_0 | skip); obtain ⟨hx31_0, hf31_0⟩ := Kd.R_celln 0 HO_8.out ((ji20) : Int) p31 q31; replace p31 := eq_true p31; replace q31 := eq_true q31; obtain ⟨hy38_, hz38_⟩ := Kd.R_celln 0 HO_8.out ((ji20) : Int) (of_decide_eq_true (by assumption)) (of_decide_eq_true (by assumption)); have HP38 := Kd.R_putg HO_8.out ((ji20) : Int) (Go.bits .or .u64 (Go.bits .or .u64 (rd x8_1 (ji20)) (ji25)) (ji30))) | ((with_reducible refine gate_store (t := 27) (p := 54) rfl ?_); refine store_event (t := 27) (p := 54) (v := ?vo_w39) (w1 := (wr.setCell ⟨go31, ((ji20) : Int).toNat, none⟩ (.int .u64 (Go.bits .or .u64 (Go.bits .or .u64 (rd x8_1 (ji20)) (ji25)) (ji30))))) ?hg ?ho ?hn ?hr ?_; (case ho => rfl); (case hg => rfl); (case hn => rfl); (case hr => first | (go_simp; done) | (go_simp; rfl)); intro w39 hw; have hg : wr.grownBy w39 (some go31) := (by rw [hw]; exact HP38.2); have hp_ : Kd.R (Kd.int .u64) 27 w39 w.heap.size (fun _ => True) (.slice (some ⟨go31, 0, none⟩) x8_1.length co37) y277 := (by rw [hw, Ny277.out]; exact HP38.1); clear HP38; have n0_ := Aside0.mk (Kd.R_over' (v := (.slice (some ⟨go31, 0, none⟩) x8_1.length co37)) (by (with_reducible repeat (first | apply Kd.R_alloc | apply Kd.R_drewN | apply Kd.R_drew)); exact HO_7.out) (Kd.R_typed HO_8.out) (by decide) hg); have n1_ := Aside0.mk (hp_); have n2_ := Aside0.mk (Kd.R_over' (v := (.slice (some ⟨go31, 0, none⟩) x8_1.length co37)) (by (with_reducible repeat (first | apply Kd.R_alloc | apply Kd.R_drewN | apply Kd.R_drew)); exact HO_9.out) (Kd.R_typed HO_8.out) (by decide) hg); have n3_ := Aside0.mk (Kd.R_over' (v := (.slice (some ⟨go31, 0, none⟩) x8_1.length co37)) (by (with_reducible repeat (first | apply Kd.R_alloc | apply Kd.R_drewN | apply Kd.R_drew)); exact HO_10.out) (Kd.R_typed HO_8.out) (by decide) hg); have n4_ := Aside0.mk ((by rw [hw]; exact below_set (HB.out) GB31.out : Below w.heap.size w w39)); clear HO_7; clear HO_8; clear HO_9; clear HO_10; clear HB; have HO_7 := n0_; have HO_8 := n1_; have HO_9 := n2_; have HO_10 := n3_; have HB := n4_; clear n0_ n1_ n2_ n3_ n4_; clear hg hw hp_; obtain ⟨Ao40, co40, eo40⟩ := Kd.R_slice HO_9.out; subst eo40; have p278 : 0 ≤ ((ji33) : Int) := of_decide_eq_true (by assumption); have q278 : (ji33) < (x9_1.length : Int) := of_decide_eq_true (by assumption); obtain ⟨ad278, e278, hx278_0⟩ := Kd.at_int (Kd.R_reads' HO_9.out).2.2 (ji33) p278 q278; cases e278; replace p278 := eq_true p278; replace q278 := eq_true q278))
                  (try simp only [Act.put, List.setIfInBounds_toArray, List.set_cons_zero, List.set_cons_succ])
                  go_cut [] (fun wc => ∃ (kq : Nat) (x9_35 : List Int), Aside0 (shacklelaw07_second.j1 kq l0 a1 a2 y262 y277 x9_35 x10_1 x11_1 t275 = some r) ∧ Aside0 (kq ≤ k1) ∧ Aside0 (Kd.R (Kd.int .u32) 26 wc w.heap.size (fun k_ => some k_ ≠ ((.slice (some ad278) x9_1.length co40) : Value).ownBlock ∧ some k_ ≠ (v272 : Value).ownBlock) v263 y262) ∧ Aside0 (Kd.R (Kd.int .u64) 27 wc w.heap.size (fun _ => True) (.slice (some ⟨go31, 0, none⟩) x8_1.length co37) y277) ∧ Aside0 (Kd.R (Kd.int .u32) 26 wc w.heap.size (fun k_ => some k_ ≠ (v263 : Value).ownBlock ∧ some k_ ≠ (v272 : Value).ownBlock) (.slice (some ad278) x9_1.length co40) x9_35) ∧ Aside0 (Kd.R (Kd.int .u32) 26 wc w.heap.size (fun k_ => some k_ ≠ (v263 : Value).ownBlock ∧ some k_ ≠ ((.slice (some ad278) x9_1.length co40) : Value).ownBlock) v272 x10_1) ∧ Aside0 (Below w.heap.size w wc))
                  case first =>
                   have H := HC36.out
                   clear HC36
                   have n0_ := Aside0.mk (Kd.R_mono (ok' := fun k_ => some k_ ≠ (.slice (some ad278) x9_1.length co40 : Value).ownBlock ∧ some k_ ≠ (v272 : Value).ownBlock) HO_7.out (fun _ hk => ⟨hk.2, hk.1⟩))
                   have n1_ := Aside0.mk (Kd.R_mono (ok' := fun k_ => some k_ ≠ (v263 : Value).ownBlock ∧ some k_ ≠ (v272 : Value).ownBlock) HO_9.out (fun _ hk => ⟨hk.2, hk.1⟩))
                   clear HO_7 HO_9
                   have HO_7 := n0_
                   have HO_9 := n1_
                   clear n0_ n1_
                   by_cases c41 : (rd x9_1 (ji33)) = 0
                   ·rw [if_pos c41] at H
                    have c41b0 : ((rd x9_1 (ji33)) == 0) = true := beq_iff_eq.mpr c41
                    have c41b1 : ((rd x9_1 (ji33)) != 0) = false := bne_eq_false_iff_eq.mpr c41
                    clear c41
                    (first | rw [c41b0] | (simp only [i64_w, i32_w]; rw [c41b0]) | skip)
                    obtain ⟨y279, hy279⟩ : ∃ y_ : List Int, y_ = (x9_1.set ((ji33) : Int).toNat ((x11_1) % 4294967296)) := ⟨_, rfl⟩
                    replace H : (shacklelaw07_second.j1 k1 l0 a1 a2 y262 y277 y279 x10_1 x11_1 t275) = some r := by first | (rw [hy279]; with_reducible exact H) | (have H2_ := (Option.bind_some _ _).symm.trans H; rw [hy279]; with_reducible exact H2_) | (have H2_ := (Option.bind_some _ _).symm.trans H; with_reducible exact H2_) | with_reducible exact H | (rw [hy279]; exact H) | exact H
                    have Ny279 := Aside0.mk hy279
                    clear hy279
                    have H' := Aside0.mk H
                    clear H
                    have p42 : 0 ≤ ((ji33) : Int) := of_decide_eq_true (by assumption)
                    have q42 : ((ji33) : Int) < ((x9_1.length : Int) : Int) := of_decide_eq_true (by assumption)
                    obtain ⟨go42, co42, eo42, gb42, gl42, cl42, HG42⟩ := Kd.R_form HO_9.out (by omega)
                    (first | cases eo42 | (injection eo42 with ea_ en_ ec_; (first | subst ea_ | (injection ea_ with ea_; subst ea_)); subst ec_; clear en_))
                    have GB42 := Aside0.mk gb42
                    have GG42 := Aside0.mk HG42
                    clear gb42 gl42 HG42
                    (first | simp only [add_plain] at hx278_0 | skip)
                    obtain ⟨hx42_0, hf42_0⟩ := Kd.R_celln 0 HO_9.out ((ji33) : Int) p42 q42
                    replace p42 := eq_true p42
                    replace q42 := eq_true q42
                    have HP43 := Kd.R_putg HO_9.out ((ji33) : Int) ((x11_1) % 4294967296)
                    go_wp2_with (first | ((with_reducible refine gate_store (t := 26) (p := 68) rfl ?_); refine store_event (t := 26) (p := 68) (v := ?vo_w44) (w1 := (w39.setCell ⟨go42, ((ji33) : Int).toNat, none⟩ (.int .u32 ((x11_1) % 4294967296)))) ?hg ?ho ?hn ?hr ?_; (case ho => rfl); (case hg => rfl); (case hn => rfl); (case hr => first | (go_simp; done) | (go_simp; rfl)); intro w44 hw; have hg : w39.grownBy w44 (some go42) := (by rw [hw]; exact HP43.2); have hp_ : Kd.R (Kd.int .u32) 26 w44 w.heap.size (fun k_ => some k_ ≠ (v263 : Value).ownBlock ∧ some k_ ≠ (v272 : Value).ownBlock) (.slice (some ⟨go42, 0, none⟩) x9_1.length co40) y279 := (by rw [hw, Ny279.out]; exact HP43.1); clear HP43; have n0_ := Aside0.mk (Kd.R_after (v := (.slice (some ⟨go42, 0, none⟩) x9_1.length co40)) (v1 := (.slice (some ⟨go42, 0, none⟩) x9_1.length co40)) (ok := (fun k_ => some k_ ≠ (v272 : Value).ownBlock)) (by (with_reducible repeat (first | apply Kd.R_alloc | apply Kd.R_drewN | apply Kd.R_drew)); exact Kd.R_mono HO_7.out (fun _ hk => ⟨hk.2, hk.1⟩)) hg (.inl rfl)); have n1_ := Aside0.mk (Kd.R_over' (v := (.slice (some ⟨go42, 0, none⟩) x9_1.length co40)) (by (with_reducible repeat (first | apply Kd.R_alloc | apply Kd.R_drewN | apply Kd.R_drew)); exact HO_8.out) (Kd.R_typed HO_9.out) (by decide) hg); have n2_ := Aside0.mk (hp_); have n3_ := Aside0.mk (Kd.R_after (v := (.slice (some ⟨go42, 0, none⟩) x9_1.length co40)) (v1 := (.slice (some ⟨go42, 0, none⟩) x9_1.length co40)) (ok := (fun k_ => some k_ ≠ (v263 : Value).ownBlock)) (by (with_reducible repeat (first | apply Kd.R_alloc | apply Kd.R_drewN | apply Kd.R_drew)); exact HO_10.out) hg (.inl rfl)); have n4_ := Aside0.mk ((by rw [hw]; exact below_set (HB.out) GB42.out : Below w.heap.size w w44)); clear HO_7; clear HO_8; clear HO_9; clear HO_10; clear HB; have HO_7 := n0_; have HO_8 := n1_; have HO_9 := n2_; have HO_10 := n3_; have HB := n4_; clear n0_ n1_ n2_ n3_ n4_; clear hg hw hp_))
                    go_meet
                    case rel => exact ⟨_, (y279), H', ⟨by have := HK1.out; first | omega | exact Nat.le_refl _⟩, ⟨by (with_reducible repeat (first | apply Kd.R_alloc | apply Kd.R_drewN | apply Kd.R_drew)); exact Kd.R_mono HO_7.out (fun _ hk => ⟨hk.2, hk.1⟩)⟩, ⟨by (with_reducible repeat (first | apply Kd.R_alloc | apply Kd.R_drewN | apply Kd.R_drew)); exact HO_8.out⟩, ⟨by (with_reducible repeat (first | apply Kd.R_alloc | apply Kd.R_drewN | apply Kd.R_drew)); exact HO_9.out⟩, ⟨by (with_reducible repeat (first | apply Kd.R_alloc | apply Kd.R_drewN | apply Kd.R_drew)); exact HO_10.out⟩, ⟨by repeat (first | (with_reducible first | exact HB.out | apply below_alloc | apply pw_below_drewN | apply below_drew1) | exact HB.out)⟩⟩
                   ·rw [if_neg c41] at H
                    have c41b0 : ((rd x9_1 (ji33)) == 0) = false := beq_eq_false_iff_ne.mpr c41
                    have c41b1 : ((rd x9_1 (ji33)) != 0) = true := bne_iff_ne.mpr c41
                    (first | rw [c41b0] | (simp only [i64_w, i32_w]; rw [c41b0]) | skip)
                    have H' := Aside0.mk H
                    clear H
                    go_wp2
                    go_meet
                    case rel => exact ⟨_, (x9_1), H', ⟨by have := HK1.out; first | omega | exact Nat.le_refl _⟩, ⟨by (with_reducible repeat (first | apply Kd.R_alloc | apply Kd.R_drewN | apply Kd.R_drew)); exact HO_7.out⟩, ⟨by (with_reducible repeat (first | apply Kd.R_alloc | apply Kd.R_drewN | apply Kd.R_drew)); exact HO_8.out⟩, ⟨by (with_reducible repeat (first | apply Kd.R_alloc | apply Kd.R_drewN | apply Kd.R_drew)); exact HO_9.out⟩, ⟨by (with_reducible repeat (first | apply Kd.R_alloc | apply Kd.R_drewN | apply Kd.R_drew)); exact HO_10.out⟩, ⟨by repeat (first | (with_reducible first | exact HB.out | apply below_alloc | apply pw_below_drewN | apply below_drew1) | exact HB.out)⟩⟩
                  case rest =>
                   clear HC36
                   try clear c1
                   try clear c2
                   try clear p2
                   try clear q2
                   try clear hx2
                   try clear c3
                   try clear p3
                   try clear q3
                   try clear hx3
                   try clear hf3
                   try clear c4
                   try clear c4b0
                   try clear c4b1
                   try clear p4
                   try clear q4
                   try clear hx4
                   try clear hf4
                   try clear c5
                   try clear c5b0
                   try clear c5b1
                   try clear c6
                   try clear c6b0
                   try clear c6b1
                   try clear c7
                   try clear c7b0
                   try clear c7b1
                   try clear c8
                   try clear c8b0
                   try clear c8b1
                   try clear c15
                   try clear c16
                   try clear c17
                   try clear c17b0
                   try clear c18
                   try clear c18b0
                   try clear c21
                   try clear c21b0
                   try clear c22
                   try clear c22b0
                   try clear c24
                   try clear c24b0
                   try clear c24b1
                   try clear c26
                   try clear c26b0
                   try clear c26b1
                   try clear p27
                   try clear q27
                   try clear hx27
                   try clear c29
                   try clear c29b0
                   try clear c29b1
                   try clear p31
                   try clear q31
                   try clear hx31
                   try clear hf31
                   try clear c32
                   try clear c32b0
                   try clear c32b1
                   try clear c34
                   try clear c34b0
                   try clear c35
                   try clear c35b0
                   try clear c41
                   try clear c41b0
                   try clear c41b1
                   try clear p42
                   try clear q42
                   try clear hx42
                   try clear hf42
                   try clear hx274_0
                   try clear hx276_0
                   try clear hx278_0
                   try clear hx31_0
                   try clear hx42_0
                   try clear p2
                   try clear p274
                   try clear p276
                   try clear p278
                   try clear p31
                   try clear p42
                   try clear q274
                   try clear q276
                   try clear q278
                   try clear q31
                   try clear q42
                   obtain ⟨kq, x9_35, HA, HJ35, HO_7, HO_8, HO_9, HO_10, HB⟩ := hcut
                   have hl8_35 := (Kd.R_reads' HO_8.out).1
                   rw [hl8_35] at HO_8
                   (try simp only [hl8_35])
                   (try simp only [hl8_35] at HO_7)
                   (try simp only [hl8_35] at HO_9)
                   (try simp only [hl8_35] at HO_10)
                   have hl9_35 := (Kd.R_reads' HO_9.out).1
                   rw [hl9_35] at HO_9
                   (try simp only [hl9_35])
                   (try simp only [hl9_35] at HO_7)
                   (try simp only [hl9_35] at HO_8)
                   (try simp only [hl9_35] at HO_10)
                   cases kq with
                   | zero => exact absurd HA.out (by simp [shacklelaw07_second.j1])
                   | succ kj35 =>
                    have H := HA.out
                    clear HA
                    simp only [shacklelaw07_second.j1] at H
                    by_cases c45 : 0 ≤ x11_1
                    ·rw [if_pos c45] at H
                     have c45b0 : decide (0 ≤ x11_1) = true := decide_eq_true c45
                     clear c45
                     by_cases c46 : x11_1 < (x10_1.length : Int)
                     ·rw [if_pos c46] at H
                      have c46b0 : decide (x11_1 < (x10_1.length : Int)) = true := decide_eq_true c46
                      have c46r0 := c46b0
                      (try simp only [hl8_35, hl9_35] at c46r0)
                      clear c46
                      obtain ⟨y280, hy280⟩ : ∃ y_ : List Int, y_ = (x10_1.set (x11_1 : Int).toNat ((((Int.tdiv t275 2) % 4294967296) * 2) % 4294967296)) := ⟨_, rfl⟩
                      replace H : (if x11_1 = (wrap64 ((l0.length : Int) - 1)) then (shacklelaw07_second.l0 kj35 l0 a1 a2 y262 y277 x9_35 (y280.set (x11_1 : Int).toNat (((rd y280 x11_1) + 1) % 4294967296)) (wrap64 (x11_1 + 1))) else (if 0 ≤ (wrap64 (x11_1 + 1)) then (if (wrap64 (x11_1 + 1)) < (l0.length : Int) then ((hash_Gnu.f kj35 (rdOf ByteArray.empty l0 (wrap64 (x11_1 + 1)))).bind fun t284 => (if a1 = 0 then (none) else (if (Int.tmod t284 a1) = (Int.tmod t275 a1) then (shacklelaw07_second.l0 kj35 l0 a1 a2 y262 y277 x9_35 y280 (wrap64 (x11_1 + 1))) else (shacklelaw07_second.l0 kj35 l0 a1 a2 y262 y277 x9_35 (y280.set (x11_1 : Int).toNat (((rd y280 x11_1) + 1) % 4294967296)) (wrap64 (x11_1 + 1)))))) else (none)) else (none))) = some r := by first | (rw [hy280]; with_reducible exact H) | (have H2_ := (Option.bind_some _ _).symm.trans H; rw [hy280]; with_reducible exact H2_) | (have H2_ := (Option.bind_some _ _).symm.trans H; with_reducible exact H2_) | with_reducible exact H | (rw [hy280]; exact H) | exact H
                      have Ny280 := Aside0.mk hy280
                      clear hy280
                      by_cases c48 : x11_1 = (wrap64 ((l0.length : Int) - 1))
                      ·rw [if_pos c48] at H
                       have c48b0 : (x11_1 == (wrap64 ((l0.length : Int) - 1))) = true := beq_iff_eq.mpr c48
                       have c48r0 := c48b0
                       (try simp only [hl8_35, hl9_35] at c48r0)
                       have c48b1 : (x11_1 != (wrap64 ((l0.length : Int) - 1))) = false := bne_eq_false_iff_eq.mpr c48
                       have c48r1 := c48b1
                       (try simp only [hl8_35, hl9_35] at c48r1)
                       clear c48
                       obtain ⟨y282, hy282⟩ : ∃ y_ : List Int, y_ = (y280.set (x11_1 : Int).toNat (((rd y280 x11_1) + 1) % 4294967296)) := ⟨_, rfl⟩
                       replace H : (shacklelaw07_second.l0 kj35 l0 a1 a2 y262 y277 x9_35 y282 (wrap64 (x11_1 + 1))) = some r := by first | (rw [hy282]; with_reducible exact H) | (have H2_ := (Option.bind_some _ _).symm.trans H; rw [hy282]; with_reducible exact H2_) | (have H2_ := (Option.bind_some _ _).symm.trans H; with_reducible exact H2_) | with_reducible exact H | (rw [hy282]; exact H) | exact H
                       have Ny282 := Aside0.mk hy282
                       clear hy282
                       have H' := Aside0.mk H
                       clear H
                       have p47 : 0 ≤ (x11_1 : Int) := of_decide_eq_true (by assumption)
                       have q47 : (x11_1 : Int) < ((x10_1.length : Int) : Int) := of_decide_eq_true (by assumption)
                       obtain ⟨go47, co47, eo47, gb47, gl47, cl47, HG47⟩ := Kd.R_form HO_10.out (by omega)
                       (first | cases eo47 | (injection eo47 with ea_ en_ ec_; (first | subst ea_ | (injection ea_ with ea_; subst ea_)); subst ec_; clear en_))
                       have GB47 := Aside0.mk gb47
                       have GG47 := Aside0.mk HG47
                       clear gb47 gl47 HG47
                       obtain ⟨hx47_0, hf47_0⟩ := Kd.R_celln 0 HO_10.out (x11_1 : Int) p47 q47
                       replace p47 := eq_true p47
                       replace q47 := eq_true q47
                       have HP50 := Kd.R_putg HO_10.out (x11_1 : Int) ((((Int.tdiv t275 2) % 4294967296) * 2) % 4294967296)
                       try go_wp2_with (first | ((with_reducible refine gate_store (t := 26) (p := 74) rfl ?_); refine store_event (t := 26) (p := 74) (v := ?vo_w51) (w1 := (wc.setCell ⟨go47, (x11_1 : Int).toNat, none⟩ (.int .u32 ((((Int.tdiv t275 2) % 4294967296) * 2) % 4294967296)))) ?hg ?ho ?hn ?hr ?_; (case ho => rfl); (case hg => rfl); (case hn => rfl); (case hr => first | (go_simp; done) | (go_simp; rfl)); intro w51 hw; have hg : wc.grownBy w51 (some go47) := (by rw [hw]; exact HP50.2); have hp_ : Kd.R (Kd.int .u32) 26 w51 w.heap.size (fun k_ => some k_ ≠ (v263 : Value).ownBlock ∧ some k_ ≠ (.slice (some ad278) x9_35.length co40 : Value).ownBlock) (.slice (some ⟨go47, 0, none⟩) x10_1.length co47) y280 := (by rw [hw, Ny280.out]; exact HP50.1); clear HP50; have n0_ := Aside0.mk (Kd.R_after (v := (.slice (some ⟨go47, 0, none⟩) x10_1.length co47)) (v1 := (.slice (some ⟨go47, 0, none⟩) x10_1.length co47)) (ok := (fun k_ => some k_ ≠ (.slice (some ad278) x9_35.length co40 : Value).ownBlock)) (by (with_reducible repeat (first | apply Kd.R_alloc | apply Kd.R_drewN | apply Kd.R_drew)); exact HO_7.out) hg (.inl rfl)); have n1_ := Aside0.mk (Kd.R_over' (v := (.slice (some ⟨go47, 0, none⟩) x10_1.length co47)) (by (with_reducible repeat (first | apply Kd.R_alloc | apply Kd.R_drewN | apply Kd.R_drew)); exact HO_8.out) (Kd.R_typed HO_10.out) (by decide) hg); have n2_ := Aside0.mk (Kd.R_after (v := (.slice (some ⟨go47, 0, none⟩) x10_1.length co47)) (v1 := (.slice (some ⟨go47, 0, none⟩) x10_1.length co47)) (ok := (fun k_ => some k_ ≠ (v263 : Value).ownBlock)) (by (with_reducible repeat (first | apply Kd.R_alloc | apply Kd.R_drewN | apply Kd.R_drew)); exact HO_9.out) hg (.inl rfl)); have n3_ := Aside0.mk (hp_); have n4_ := Aside0.mk ((by rw [hw]; exact below_set (HB.out) GB47.out : Below w.heap.size w w51)); clear HO_7; clear HO_8; clear HO_9; clear HO_10; clear HB; have HO_7 := n0_; have HO_8 := n1_; have HO_9 := n2_; have HO_10 := n3_; have HB := n4_; clear n0_ n1_ n2_ n3_ n4_; clear hg hw hp_))
                       have n0_ := Aside0.mk (Kd.R_drew HO_7.out)
                       have n1_ := Aside0.mk (Kd.R_drew HO_8.out)
                       have n2_ := Aside0.mk (Kd.R_drew HO_9.out)
                       have n3_ := Aside0.mk (Kd.R_drew HO_10.out)
                       have n4_ := Aside0.mk (below_drew1 HB.out)
                       clear HO_7
                       clear HO_8
                       clear HO_9
                       clear HO_10
                       clear HB
                       have HO_7 := n0_
                       have HO_8 := n1_
                       have HO_9 := n2_
                       have HO_10 := n3_
                       have HB := n4_
                       clear n0_ n1_ n2_ n3_ n4_
                       refine start_ (n := 19) (S := fun w' => True) (ds := []) #[false, false, false, false, false, false, false, false, false, false, false, false, false, false, false, false, false, false, false] (by kernel_rfl) rfl rfl trivial (fun hHeld => ?_); refine with_tabW shacklelaw07_second.tab13 shacklelaw07_second.bits13 (fun HT_ HW_ => ?_)
                       generalize w51.drew = w52 at HO_7 HO_8 HO_9 HO_10 HB hHeld ⊢
                       refine pure_ (i := 0) (N := some 75) (v := ?_) (a' := ?_) #[true, false, false, false, false, false, false, false, false, false, false, false, false, false, false, false, false, false, false] rfl rfl (any_of HT_.out (by kernel_rfl)) (fun _ _ _ h => h) (Or.inl ⟨by rfl, ?_⟩) ?_ ?_
                       rotate_left
                       ·intro w'
                        go_simp
                        with_reducible rfl
                       rotate_left
                       ·simp only [Act.put, List.setIfInBounds_toArray, List.set_cons_zero, List.set_cons_succ, i64_w, i32_w]
                        rfl
                       refine pure_ (i := 1) (N := some 76) (v := ?_) (a' := ?_) #[true, true, false, false, false, false, false, false, false, false, false, false, false, false, false, false, false, false, false] rfl rfl (any_of HT_.out (by kernel_rfl)) (fun _ _ _ h => h) (Or.inl ⟨by rfl, ?_⟩) ?_ ?_
                       rotate_left
                       ·intro w'
                        go_simp
                        with_reducible rfl
                       rotate_left
                       ·simp only [Act.put, List.setIfInBounds_toArray, List.set_cons_zero, List.set_cons_succ, i64_w, i32_w]
                        rfl
                       refine pure_ (i := 2) (N := some 77) (v := ?_) (a' := ?_) #[true, true, true, false, false, false, false, false, false, false, false, false, false, false, false, false, false, false, false] rfl rfl (any_of HT_.out (by kernel_rfl)) (fun _ _ _ h => h) (Or.inl ⟨by rfl, ?_⟩) ?_ ?_
                       rotate_left
                       ·intro w'
                        go_simp
                        with_reducible rfl
                       rotate_left
                       ·simp only [Act.put, List.setIfInBounds_toArray, List.set_cons_zero, List.set_cons_succ, i64_w, i32_w]
                        rfl
                       refine pure_ (i := 3) (N := some 78) (v := ?_) (a' := ?_) #[true, true, true, true, false, false, false, false, false, false, false, false, false, false, false, false, false, false, false] rfl rfl (any_of HT_.out (by kernel_rfl)) (fun _ _ _ h => h) (Or.inl ⟨by rfl, ?_⟩) ?_ ?_
                       rotate_left
                       ·intro w'
                        go_simp
                        with_reducible rfl
                       rotate_left
                       ·simp only [Act.put, List.setIfInBounds_toArray, List.set_cons_zero, List.set_cons_succ, i64_w, i32_w]
                        rfl
                       refine pure_ (i := 4) (N := some 79) (v := ?_) (a' := ?_) #[true, true, true, true, true, false, false, false, false, false, false, false, false, false, false, false, false, false, false] rfl rfl (any_of HT_.out (by kernel_rfl)) (fun _ _ _ h => h) (Or.inl ⟨by rfl, ?_⟩) ?_ ?_
                       rotate_left
                       ·intro w'
                        go_simp
                        with_reducible rfl
                       rotate_left
                       ·simp only [Act.put, List.setIfInBounds_toArray, List.set_cons_zero, List.set_cons_succ, i64_w, i32_w]
                        rfl
                       refine pure_ (i := 5) (N := some 80) (v := ?_) (a' := ?_) #[true, true, true, true, true, true, false, false, false, false, false, false, false, false, false, false, false, false, false] rfl rfl (any_of HT_.out (by kernel_rfl)) (fun _ _ _ h => h) (Or.inl ⟨by rfl, ?_⟩) ?_ ?_
                       rotate_left
                       ·intro w'
                        go_simp
                        with_reducible rfl
                       rotate_left
                       ·simp only [Act.put, List.setIfInBounds_toArray, List.set_cons_zero, List.set_cons_succ, i64_w, i32_w]
                        rfl
                       refine pure_ (i := 6) (N := some 81) (v := undef) (a' := ?_) #[true, true, true, true, true, true, true, false, false, false, false, false, false, false, false, false, false, false, false] rfl rfl (any_of HT_.out (by kernel_rfl)) (fun _ _ _ h => h) (Or.inr ⟨by rfl, rfl⟩) ?_ ?_
                       rotate_left
                       ·simp only [Act.put, List.setIfInBounds_toArray, List.set_cons_zero, List.set_cons_succ, i64_w, i32_w]
                        rfl
                       refine pure_ (i := 7) (N := some 82) (v := undef) (a' := ?_) #[true, true, true, true, true, true, true, true, false, false, false, false, false, false, false, false, false, false, false] rfl rfl (any_of HT_.out (by kernel_rfl)) (fun _ _ _ h => h) (Or.inr ⟨by rfl, rfl⟩) ?_ ?_
                       rotate_left
                       ·simp only [Act.put, List.setIfInBounds_toArray, List.set_cons_zero, List.set_cons_succ, i64_w, i32_w]
                        rfl
                       refine pure_ (i := 8) (N := some 83) (v := undef) (a' := ?_) #[true, true, true, true, true, true, true, true, true, false, false, false, false, false, false, false, false, false, false] rfl rfl (any_of HT_.out (by kernel_rfl)) (fun _ _ _ h => h) (Or.inr ⟨by rfl, rfl⟩) ?_ ?_
                       rotate_left
                       ·simp only [Act.put, List.setIfInBounds_toArray, List.set_cons_zero, List.set_cons_succ, i64_w, i32_w]
                        rfl
                       refine pure_ (i := 9) (N := some 84) (v := undef) (a' := ?_) #[true, true, true, true, true, true, true, true, true, true, false, false, false, false, false, false, false, false, false] rfl rfl (any_of HT_.out (by kernel_rfl)) (fun _ _ _ h => h) (Or.inr ⟨by rfl, rfl⟩) ?_ ?_
                       rotate_left
                       ·simp only [Act.put, List.setIfInBounds_toArray, List.set_cons_zero, List.set_cons_succ, i64_w, i32_w]
                        rfl
                       refine pure_ (i := 10) (N := some 85) (v := undef) (a' := ?_) #[true, true, true, true, true, true, true, true, true, true, true, false, false, false, false, false, false, false, false] rfl rfl (any_of HT_.out (by kernel_rfl)) (fun _ _ _ h => h) (Or.inr ⟨by rfl, rfl⟩) ?_ ?_
                       rotate_left
                       ·simp only [Act.put, List.setIfInBounds_toArray, List.set_cons_zero, List.set_cons_succ, i64_w, i32_w]
                        rfl
                       refine pure_ (i := 11) (N := some 86) (v := undef) (a' := ?_) #[true, true, true, true, true, true, true, true, true, true, true, true, false, false, false, false, false, false, false] rfl rfl (any_of HT_.out (by kernel_rfl)) (fun _ _ _ h => h) (Or.inr ⟨by rfl, rfl⟩) ?_ ?_
                       rotate_left
                       ·simp only [Act.put, List.setIfInBounds_toArray, List.set_cons_zero, List.set_cons_succ, i64_w, i32_w]
                        rfl
                       refine pure_ (i := 12) (N := some 87) (v := undef) (a' := ?_) #[true, true, true, true, true, true, true, true, true, true, true, true, true, false, false, false, false, false, false] rfl rfl (any_of HT_.out (by kernel_rfl)) (fun _ _ _ h => h) (Or.inr ⟨by rfl, rfl⟩) ?_ ?_
                       rotate_left
                       ·simp only [Act.put, List.setIfInBounds_toArray, List.set_cons_zero, List.set_cons_succ, i64_w, i32_w]
                        rfl
                       refine pure_ (i := 13) (N := some 88) (v := undef) (a' := ?_) #[true, true, true, true, true, true, true, true, true, true, true, true, true, true, false, false, false, false, false] rfl rfl (any_of HT_.out (by kernel_rfl)) (fun _ _ _ h => h) (Or.inr ⟨by rfl, rfl⟩) ?_ ?_
                       rotate_left
                       ·simp only [Act.put, List.setIfInBounds_toArray, List.set_cons_zero, List.set_cons_succ, i64_w, i32_w]
                        rfl
                       refine pure_ (i := 14) (N := some 89) (v := undef) (a' := ?_) #[true, true, true, true, true, true, true, true, true, true, true, true, true, true, true, false, false, false, false] rfl rfl (any_of HT_.out (by kernel_rfl)) (fun _ _ _ h => h) (Or.inr ⟨by rfl, rfl⟩) ?_ ?_
                       rotate_left
                       ·simp only [Act.put, List.setIfInBounds_toArray, List.set_cons_zero, List.set_cons_succ, i64_w, i32_w]
                        rfl
                       refine pure_ (i := 15) (N := some 90) (v := undef) (a' := ?_) #[true, true, true, true, true, true, true, true, true, true, true, true, true, true, true, true, false, false, false] rfl rfl (any_of HT_.out (by kernel_rfl)) (fun _ _ _ h => h) (Or.inr ⟨by rfl, rfl⟩) ?_ ?_
                       rotate_left
                       ·simp only [Act.put, List.setIfInBounds_toArray, List.set_cons_zero, List.set_cons_succ, i64_w, i32_w]
                        rfl
                       refine pure_ (i := 16) (N := some 91) (v := undef) (a' := ?_) #[true, true, true, true, true, true, true, true, true, true, true, true, true, true, true, true, true, false, false] rfl rfl (any_of HT_.out (by kernel_rfl)) (fun _ _ _ h => h) (Or.inr ⟨by rfl, rfl⟩) ?_ ?_
                       rotate_left
                       ·simp only [Act.put, List.setIfInBounds_toArray, List.set_cons_zero, List.set_cons_succ, i64_w, i32_w]
                        rfl
                       refine pure_ (i := 17) (N := some 92) (v := undef) (a' := ?_) #[true, true, true, true, true, true, true, true, true, true, true, true, true, true, true, true, true, true, false] rfl rfl (any_of HT_.out (by kernel_rfl)) (fun _ _ _ h => h) (Or.inr ⟨by rfl, rfl⟩) ?_ ?_
                       rotate_left
                       ·simp only [Act.put, List.setIfInBounds_toArray, List.set_cons_zero, List.set_cons_succ, i64_w, i32_w]
                        rfl
                       refine pure_ (i := 18) (N := some 93) (v := ?_) (a' := ?_) #[true, true, true, true, true, true, true, true, true, true, true, true, true, true, true, true, true, true, true] rfl rfl (any_of HT_.out (by kernel_rfl)) (fun _ _ _ h => h) (Or.inl ⟨by rfl, ?_⟩) ?_ ?_
                       rotate_left
                       ·intro w'
                        go_simp
                        with_reducible rfl
                       rotate_left
                       ·simp only [Act.put, List.setIfInBounds_toArray, List.set_cons_zero, List.set_cons_succ, i64_w, i32_w]
                        rfl
                       refine done_ (done_of HT_.out (by kernel_rfl)) ?_
                       have p281 : 0 ≤ (x11_1 : Int) := of_decide_eq_true (by assumption)
                       have q281 : x11_1 < (y280.length : Int) := (by have h_ : (x11_1 : Int) < ((x10_1.length : Int) : Int) := of_decide_eq_true (by assumption); first | (have e_ := (Kd.R_reads' HO_10.out).1; omega) | simpa only [Ny280.out, List.length_set] using h_)
                       have ql281 : ((x11_1 : Int) < ((x10_1.length : Int) : Int)) = True := eq_true (of_decide_eq_true (by assumption))
                       obtain ⟨ad281, e281, hx281_0⟩ := Kd.at_int (Kd.R_reads' HO_10.out).2.2 x11_1 p281 q281
                       obtain rfl : (⟨go47, 0, none⟩ : Addr) = ad281 := (by injection e281)
                       (first | simp only [add_plain] at hx281_0 | simp only [add_at] at hx281_0 | simp only [Addr.add, Nat.zero_add] at hx281_0 | skip)
                       replace p281 := eq_true p281
                       replace q281 := eq_true q281
                       have p49 : 0 ≤ (x11_1 : Int) := of_decide_eq_true (by assumption)
                       have q49 : (x11_1 : Int) < ((x10_1.length : Int) : Int) := of_decide_eq_true (by assumption)
                       obtain ⟨hx49_0, hf49_0⟩ := Kd.R_celln 0 HO_10.out (x11_1 : Int) p49 q49
                       replace p49 := eq_true p49
                       replace q49 := eq_true q49
                       obtain ⟨hy53_, hz53_⟩ := Kd.R_celln 0 HO_10.out (x11_1 : Int) (of_decide_eq_true (by assumption)) (of_decide_eq_true (by assumption))
                       have HP53 := Kd.R_putg HO_10.out (x11_1 : Int) (((rd y280 x11_1) + 1) % 4294967296)
                       try go_wp2_with (first | ((with_reducible refine gate_store (t := 26) (p := 99) rfl ?_); refine store_event (t := 26) (p := 99) (v := ?vo_w54) (w1 := (w52.setCell ⟨go47, (x11_1 : Int).toNat, none⟩ (.int .u32 (((rd y280 x11_1) + 1) % 4294967296)))) ?hg ?ho ?hn ?hr ?_; (case ho => rfl); (case hg => rfl); (case hn => rfl); (case hr => first | (go_simp; done) | (go_simp; rfl)); intro w54 hw; have hg : w52.grownBy w54 (some go47) := (by rw [hw]; exact HP53.2); have hp_ : Kd.R (Kd.int .u32) 26 w54 w.heap.size (fun k_ => some k_ ≠ (v263 : Value).ownBlock ∧ some k_ ≠ (.slice (some ad278) x9_35.length co40 : Value).ownBlock) (.slice (some ⟨go47, 0, none⟩) x10_1.length co47) y282 := (by rw [hw, Ny282.out]; exact HP53.1); clear HP53; have n0_ := Aside0.mk (Kd.R_after (v := (.slice (some ⟨go47, 0, none⟩) x10_1.length co47)) (v1 := (.slice (some ⟨go47, 0, none⟩) x10_1.length co47)) (ok := (fun k_ => some k_ ≠ (.slice (some ad278) x9_35.length co40 : Value).ownBlock)) (by (with_reducible repeat (first | apply Kd.R_alloc | apply Kd.R_drewN | apply Kd.R_drew)); exact HO_7.out) hg (.inl rfl)); have n1_ := Aside0.mk (Kd.R_over' (v := (.slice (some ⟨go47, 0, none⟩) x10_1.length co47)) (by (with_reducible repeat (first | apply Kd.R_alloc | apply Kd.R_drewN | apply Kd.R_drew)); exact HO_8.out) (Kd.R_typed HO_10.out) (by decide) hg); have n2_ := Aside0.mk (Kd.R_after (v := (.slice (some ⟨go47, 0, none⟩) x10_1.length co47)) (v1 := (.slice (some ⟨go47, 0, none⟩) x10_1.length co47)) (ok := (fun k_ => some k_ ≠ (v263 : Value).ownBlock)) (by (with_reducible repeat (first | apply Kd.R_alloc | apply Kd.R_drewN | apply Kd.R_drew)); exact HO_9.out) hg (.inl rfl)); have n3_ := Aside0.mk (hp_); have n4_ := Aside0.mk ((by rw [hw]; exact below_set (HB.out) GB47.out : Below w.heap.size w w54)); clear HO_7; clear HO_8; clear HO_9; clear HO_10; clear HB; have HO_7 := n0_; have HO_8 := n1_; have HO_9 := n2_; have HO_10 := n3_; have HB := n4_; clear n0_ n1_ n2_ n3_ n4_; clear hg hw hp_))
                       (try simp only [← hl8_35, ← hl9_35])
                       go_roundg kj35
                       case measure => have := HK1.out; have := HJ35.out; omega
                       case rel => exact ⟨(y277), (x9_35), (y282), (wrap64 (x11_1 + 1)), (by first | rfl | (simp; done) | (simp [*]; done)), H', ⟨by have := HK1.out; have := HJ35.out; omega⟩, ⟨by (try simp only [hl8_35]); (try simp only [hl9_35]); (with_reducible repeat (first | apply Kd.R_alloc | apply Kd.R_drewN | apply Kd.R_drew)); exact HO_7.out⟩, ⟨by (try simp only [hl8_35]); (try simp only [hl9_35]); (with_reducible repeat (first | apply Kd.R_alloc | apply Kd.R_drewN | apply Kd.R_drew)); exact HO_8.out⟩, ⟨by (try simp only [hl8_35]); (try simp only [hl9_35]); (with_reducible repeat (first | apply Kd.R_alloc | apply Kd.R_drewN | apply Kd.R_drew)); exact HO_9.out⟩, ⟨by (try simp only [hl8_35]); (try simp only [hl9_35]); (with_reducible repeat (first | apply Kd.R_alloc | apply Kd.R_drewN | apply Kd.R_drew)); exact HO_10.out⟩, ⟨by repeat (first | (with_reducible first | exact HB.out | apply below_alloc | apply pw_below_drewN | apply below_drew1) | exact HB.out)⟩⟩
                      ·rw [if_neg c48] at H
                       have c48b0 : (x11_1 == (wrap64 ((l0.length : Int) - 1))) = false := beq_eq_false_iff_ne.mpr c48
                       have c48r0 := c48b0
                       (try simp only [hl8_35, hl9_35] at c48r0)
                       have c48b1 : (x11_1 != (wrap64 ((l0.length : Int) - 1))) = true := bne_iff_ne.mpr c48
                       have c48r1 := c48b1
                       (try simp only [hl8_35, hl9_35] at c48r1)
                       obtain ⟨ji55, hji55⟩ : ∃ j_ : Int, (wrap64 (x11_1 + 1)) = j_ := ⟨_, rfl⟩
                       replace H : (if 0 ≤ (ji55) then (if (ji55) < (l0.length : Int) then ((hash_Gnu.f kj35 (rdOf ByteArray.empty l0 (ji55))).bind fun t284 => (if a1 = 0 then (none) else (if (Int.tmod t284 a1) = (Int.tmod t275 a1) then (shacklelaw07_second.l0 kj35 l0 a1 a2 y262 y277 x9_35 y280 ji55) else (shacklelaw07_second.l0 kj35 l0 a1 a2 y262 y277 x9_35 (y280.set (x11_1 : Int).toNat (((rd y280 x11_1) + 1) % 4294967296)) ji55)))) else (none)) else (none)) = some r := by first | (rw [hji55] at H; exact H) | (simp only [hji55] at H ⊢; exact H)
                       have hji55w : (IntKind.i64.wrap (x11_1 + 1)) = ji55 := (i64_w _).trans hji55
                       by_cases c56 : 0 ≤ (ji55)
                       ·rw [if_pos c56] at H
                        have c56b0 : decide (0 ≤ (ji55)) = true := decide_eq_true c56
                        clear c56
                        by_cases c57 : (ji55) < (l0.length : Int)
                        ·rw [if_pos c57] at H
                         have c57b0 : decide ((ji55) < (l0.length : Int)) = true := decide_eq_true c57
                         have c57r0 := c57b0
                         (try simp only [hl8_35, hl9_35] at c57r0)
                         clear c57
                         replace H := Option.bind_eq_some_iff.mp H
                         obtain ⟨t284, A580, H⟩ := H
                         replace H : (if a1 = 0 then (none) else (if (Int.tmod t284 a1) = (Int.tmod t275 a1) then (shacklelaw07_second.l0 kj35 l0 a1 a2 y262 y277 x9_35 y280 ji55) else (shacklelaw07_second.l0 kj35 l0 a1 a2 y262 y277 x9_35 (y280.set (x11_1 : Int).toNat (((rd y280 x11_1) + 1) % 4294967296)) ji55))) = some r := H
                         have A58 := Aside0.mk A580
                         clear A580
                         by_cases c59 : a1 = 0
                         ·rw [if_pos c59] at H
                          exact absurd H (by simp)
                         ·rw [if_neg c59] at H
                          have c59b0 : (a1 == 0) = false := beq_eq_false_iff_ne.mpr c59
                          have c59b1 : (a1 != 0) = true := bne_iff_ne.mpr c59
                          by_cases c60 : (Int.tmod t284 a1) = (Int.tmod t275 a1)
                          ·rw [if_pos c60] at H
                           have c60b0 : ((Int.tmod t284 a1) == (Int.tmod t275 a1)) = true := beq_iff_eq.mpr c60
                           have c60b1 : ((Int.tmod t284 a1) != (Int.tmod t275 a1)) = false := bne_eq_false_iff_eq.mpr c60
                           clear c60
                           have H' := Aside0.mk H
                           clear H
                           have p47 : 0 ≤ (x11_1 : Int) := of_decide_eq_true (by assumption)
                           have q47 : (x11_1 : Int) < ((x10_1.length : Int) : Int) := of_decide_eq_true (by assumption)
                           obtain ⟨go47, co47, eo47, gb47, gl47, cl47, HG47⟩ := Kd.R_form HO_10.out (by omega)
                           (first | cases eo47 | (injection eo47 with ea_ en_ ec_; (first | subst ea_ | (injection ea_ with ea_; subst ea_)); subst ec_; clear en_))
                           have GB47 := Aside0.mk gb47
                           have GG47 := Aside0.mk HG47
                           clear gb47 gl47 HG47
                           obtain ⟨hx47_0, hf47_0⟩ := Kd.R_celln 0 HO_10.out (x11_1 : Int) p47 q47
                           replace p47 := eq_true p47
                           replace q47 := eq_true q47
                           have HP61 := Kd.R_putg HO_10.out (x11_1 : Int) ((((Int.tdiv t275 2) % 4294967296) * 2) % 4294967296)
                           try go_wp2_with (first | ((with_reducible refine gate_store (t := 26) (p := 74) rfl ?_); refine store_event (t := 26) (p := 74) (v := ?vo_w62) (w1 := (wc.setCell ⟨go47, (x11_1 : Int).toNat, none⟩ (.int .u32 ((((Int.tdiv t275 2) % 4294967296) * 2) % 4294967296)))) ?hg ?ho ?hn ?hr ?_; (case ho => rfl); (case hg => rfl); (case hn => rfl); (case hr => first | (go_simp; done) | (go_simp; rfl)); intro w62 hw; have hg : wc.grownBy w62 (some go47) := (by rw [hw]; exact HP61.2); have hp_ : Kd.R (Kd.int .u32) 26 w62 w.heap.size (fun k_ => some k_ ≠ (v263 : Value).ownBlock ∧ some k_ ≠ (.slice (some ad278) x9_35.length co40 : Value).ownBlock) (.slice (some ⟨go47, 0, none⟩) x10_1.length co47) y280 := (by rw [hw, Ny280.out]; exact HP61.1); clear HP61; have n0_ := Aside0.mk (Kd.R_after (v := (.slice (some ⟨go47, 0, none⟩) x10_1.length co47)) (v1 := (.slice (some ⟨go47, 0, none⟩) x10_1.length co47)) (ok := (fun k_ => some k_ ≠ (.slice (some ad278) x9_35.length co40 : Value).ownBlock)) (by (with_reducible repeat (first | apply Kd.R_alloc | apply Kd.R_drewN | apply Kd.R_drew)); exact HO_7.out) hg (.inl rfl)); have n1_ := Aside0.mk (Kd.R_over' (v := (.slice (some ⟨go47, 0, none⟩) x10_1.length co47)) (by (with_reducible repeat (first | apply Kd.R_alloc | apply Kd.R_drewN | apply Kd.R_drew)); exact HO_8.out) (Kd.R_typed HO_10.out) (by decide) hg); have n2_ := Aside0.mk (Kd.R_after (v := (.slice (some ⟨go47, 0, none⟩) x10_1.length co47)) (v1 := (.slice (some ⟨go47, 0, none⟩) x10_1.length co47)) (ok := (fun k_ => some k_ ≠ (v263 : Value).ownBlock)) (by (with_reducible repeat (first | apply Kd.R_alloc | apply Kd.R_drewN | apply Kd.R_drew)); exact HO_9.out) hg (.inl rfl)); have n3_ := Aside0.mk (hp_); have n4_ := Aside0.mk ((by rw [hw]; exact below_set (HB.out) GB47.out : Below w.heap.size w w62)); clear HO_7; clear HO_8; clear HO_9; clear HO_10; clear HB; have HO_7 := n0_; have HO_8 := n1_; have HO_9 := n2_; have HO_10 := n3_; have HB := n4_; clear n0_ n1_ n2_ n3_ n4_; clear hg hw hp_))
                           have n0_ := Aside0.mk (Kd.R_drew HO_7.out)
                           have n1_ := Aside0.mk (Kd.R_drew HO_8.out)
                           have n2_ := Aside0.mk (Kd.R_drew HO_9.out)
                           have n3_ := Aside0.mk (Kd.R_drew HO_10.out)
                           have n4_ := Aside0.mk (below_drew1 HB.out)
                           clear HO_7
                           clear HO_8
                           clear HO_9
                           clear HO_10
                           clear HB
                           have HO_7 := n0_
                           have HO_8 := n1_
                           have HO_9 := n2_
                           have HO_10 := n3_
                           have HB := n4_
                           clear n0_ n1_ n2_ n3_ n4_
                           have p283 : 0 ≤ ((ji55) : Int) := of_decide_eq_true (by assumption)
                           have q283 : (ji55) < (l0.length : Int) := of_decide_eq_true (by assumption)
                           obtain ⟨ad283, e283, hx283_0⟩ := Kd.at_string HR0.out (ji55) p283 q283
                           have hw283_0 := hx283_0
                           obtain rfl : ad274 = ad283 := (by injection e283)
                           replace hx283_0 := (HB.out.cell (World.block_lt_of_cell? w _ hx283_0)).trans hx283_0
                           replace p283 := eq_true p283
                           replace q283 := eq_true q283
                           refine start_ (n := 19) (S := fun w' => w'.cell? (ad274.add ((ji55)).toNat) = some (.string (rdOf ByteArray.empty l0 (ji55)))) (ds := []) #[false, false, false, false, false, false, false, false, false, false, false, false, false, false, false, false, false, false, false] (by kernel_rfl) rfl rfl (((HB.out.cell (World.block_lt_of_cell? w _ hw283_0)).trans hw283_0)) (fun hHeld => ?_); refine with_tabW shacklelaw07_second.tab13 shacklelaw07_second.bits13 (fun HT_ HW_ => ?_)
                           generalize w62.drew = w63 at HO_7 HO_8 HO_9 HO_10 HB hx283_0 hHeld ⊢
                           refine pure_ (i := 0) (N := some 75) (v := ?_) (a' := ?_) #[true, false, false, false, false, false, false, false, false, false, false, false, false, false, false, false, false, false, false] rfl rfl (any_of HT_.out (by kernel_rfl)) (fun _ _ _ h => h) (Or.inl ⟨by rfl, ?_⟩) ?_ ?_
                           rotate_left
                           ·intro w'
                            go_simp
                            with_reducible rfl
                           rotate_left
                           ·simp only [Act.put, List.setIfInBounds_toArray, List.set_cons_zero, List.set_cons_succ, i64_w, i32_w]
                            rfl
                           refine pure_ (i := 1) (N := some 76) (v := ?_) (a' := ?_) #[true, true, false, false, false, false, false, false, false, false, false, false, false, false, false, false, false, false, false] rfl rfl (any_of HT_.out (by kernel_rfl)) (fun _ _ _ h => h) (Or.inl ⟨by rfl, ?_⟩) ?_ ?_
                           rotate_left
                           ·intro w'
                            go_simp
                            with_reducible rfl
                           rotate_left
                           ·simp only [Act.put, List.setIfInBounds_toArray, List.set_cons_zero, List.set_cons_succ, i64_w, i32_w]
                            rfl
                           refine pure_ (i := 2) (N := some 77) (v := ?_) (a' := ?_) #[true, true, true, false, false, false, false, false, false, false, false, false, false, false, false, false, false, false, false] rfl rfl (any_of HT_.out (by kernel_rfl)) (fun _ _ _ h => h) (Or.inl ⟨by rfl, ?_⟩) ?_ ?_
                           rotate_left
                           ·intro w'
                            go_simp
                            with_reducible rfl
                           rotate_left
                           ·simp only [Act.put, List.setIfInBounds_toArray, List.set_cons_zero, List.set_cons_succ, i64_w, i32_w]
                            rfl
                           refine pure_ (i := 3) (N := some 78) (v := ?_) (a' := ?_) #[true, true, true, true, false, false, false, false, false, false, false, false, false, false, false, false, false, false, false] rfl rfl (any_of HT_.out (by kernel_rfl)) (fun _ _ _ h => h) (Or.inl ⟨by rfl, ?_⟩) ?_ ?_
                           rotate_left
                           ·intro w'
                            go_simp
                            with_reducible rfl
                           rotate_left
                           ·simp only [Act.put, List.setIfInBounds_toArray, List.set_cons_zero, List.set_cons_succ, i64_w, i32_w]
                            rfl
                           refine pure_ (i := 4) (N := some 79) (v := ?_) (a' := ?_) #[true, true, true, true, true, false, false, false, false, false, false, false, false, false, false, false, false, false, false] rfl rfl (any_of HT_.out (by kernel_rfl)) (fun _ _ _ h => h) (Or.inl ⟨by rfl, ?_⟩) ?_ ?_
                           rotate_left
                           ·intro w'
                            go_simp
                            with_reducible rfl
                           rotate_left
                           ·simp only [Act.put, List.setIfInBounds_toArray, List.set_cons_zero, List.set_cons_succ, i64_w, i32_w]
                            rfl
                           refine pure_ (i := 5) (N := some 80) (v := ?_) (a' := ?_) #[true, true, true, true, true, true, false, false, false, false, false, false, false, false, false, false, false, false, false] rfl rfl (any_of HT_.out (by kernel_rfl)) (fun _ _ _ h => h) (Or.inl ⟨by rfl, ?_⟩) ?_ ?_
                           rotate_left
                           ·intro w'
                            go_simp
                            with_reducible rfl
                           rotate_left
                           ·simp only [Act.put, List.setIfInBounds_toArray, List.set_cons_zero, List.set_cons_succ, i64_w, i32_w]
                            rfl
                           refine pure_ (i := 6) (N := some 81) (v := ?_) (a' := ?_) #[true, true, true, true, true, true, true, false, false, false, false, false, false, false, false, false, false, false, false] rfl rfl (any_of HT_.out (by kernel_rfl)) (fun _ _ _ h => h) (Or.inl ⟨by rfl, ?_⟩) ?_ ?_
                           rotate_left
                           ·intro w'
                            go_simp
                            with_reducible rfl
                           rotate_left
                           ·simp only [Act.put, List.setIfInBounds_toArray, List.set_cons_zero, List.set_cons_succ, i64_w, i32_w]
                            rfl
                           refine pure_ (i := 7) (N := some 82) (v := ?_) (a' := ?_) #[true, true, true, true, true, true, true, true, false, false, false, false, false, false, false, false, false, false, false] rfl rfl (any_of HT_.out (by kernel_rfl)) (fun _ _ _ h => h) (Or.inl ⟨by rfl, ?_⟩) ?_ ?_
                           rotate_left
                           ·intro w'
                            go_simp
                            with_reducible rfl
                           rotate_left
                           ·simp only [Act.put, List.setIfInBounds_toArray, List.set_cons_zero, List.set_cons_succ, i64_w, i32_w]
                            rfl
                           refine pure_ (i := 8) (N := some 83) (v := ?_) (a' := ?_) #[true, true, true, true, true, true, true, true, true, false, false, false, false, false, false, false, false, false, false] rfl rfl (any_of HT_.out (by kernel_rfl)) (fun _ _ _ h => h) (Or.inl ⟨by rfl, ?_⟩) ?_ ?_
                           rotate_left
                           ·intro w'
                            go_simp
                            with_reducible rfl
                           rotate_left
                           ·simp only [Act.put, List.setIfInBounds_toArray, List.set_cons_zero, List.set_cons_succ, i64_w, i32_w]
                            rfl
                           refine pure_ (i := 9) (N := some 84) (v := ?_) (a' := ?_) #[true, true, true, true, true, true, true, true, true, true, false, false, false, false, false, false, false, false, false] rfl rfl (any_of HT_.out (by kernel_rfl)) (fun _ _ _ h => h) (Or.inl ⟨by rfl, ?_⟩) ?_ ?_
                           rotate_left
                           ·intro w'
                            go_simp
                            with_reducible rfl
                           rotate_left
                           ·simp only [Act.put, List.setIfInBounds_toArray, List.set_cons_zero, List.set_cons_succ, i64_w, i32_w]
                            rfl
                           refine pure_ (i := 12) (N := some 87) (v := ?_) (a' := ?_) #[true, true, true, true, true, true, true, true, true, true, false, false, true, false, false, false, false, false, false] rfl rfl (any_of HT_.out (by kernel_rfl)) (fun _ _ _ h => h) (Or.inl ⟨by rfl, ?_⟩) ?_ ?_
                           rotate_left
                           ·intro w'
                            go_simp
                            with_reducible rfl
                           rotate_left
                           ·simp only [Act.put, List.setIfInBounds_toArray, List.set_cons_zero, List.set_cons_succ, i64_w, i32_w]
                            rfl
                           refine pure_ (i := 14) (N := some 89) (v := ?_) (a' := ?_) #[true, true, true, true, true, true, true, true, true, true, false, false, true, false, true, false, false, false, false] rfl rfl (any_of HT_.out (by kernel_rfl)) (fun _ _ _ h => h) (Or.inl ⟨by rfl, ?_⟩) ?_ ?_
                           rotate_left
                           ·intro w'
                            go_simp
                            with_reducible rfl
                           rotate_left
                           ·simp only [Act.put, List.setIfInBounds_toArray, List.set_cons_zero, List.set_cons_succ, i64_w, i32_w]
                            rfl
                           refine pure_ (i := 15) (N := some 90) (v := ?_) (a' := ?_) #[true, true, true, true, true, true, true, true, true, true, false, false, true, false, true, true, false, false, false] rfl rfl (any_of HT_.out (by kernel_rfl)) (fun _ _ _ h => h) (Or.inl ⟨by rfl, ?_⟩) ?_ ?_
                           rotate_left
                           ·intro w'
                            go_simp
                            with_reducible rfl
                           rotate_left
                           ·simp only [Act.put, List.setIfInBounds_toArray, List.set_cons_zero, List.set_cons_succ, i64_w, i32_w]
                            rfl
                           refine pure_ (i := 16) (N := some 91) (v := ?_) (a' := ?_) #[true, true, true, true, true, true, true, true, true, true, false, false, true, false, true, true, true, false, false] rfl rfl (any_of HT_.out (by kernel_rfl)) (fun _ _ _ h => h) (Or.inl ⟨by rfl, ?_⟩) ?_ ?_
                           rotate_left
                           ·intro w'
                            go_simp
                            with_reducible rfl
                           rotate_left
                           ·simp only [Act.put, List.setIfInBounds_toArray, List.set_cons_zero, List.set_cons_succ, i64_w, i32_w]
                            rfl
                           refine take_ (i := 10) (N := some 85) (v := ?_) (a' := ?_) #[true, true, true, true, true, true, true, true, true, true, true, false, true, false, true, true, true, false, false] rfl rfl (take_ofW HT_.out HW_.out (by kernel_rfl)) (fun _ _ _ h => h) (Or.inl ⟨by rfl, ?_⟩) hHeld ?_ ?_
                           rotate_left
                           ·intro w' s0
                            go_simp
                            with_reducible rfl
                           rotate_left
                           ·simp only [Act.put, List.setIfInBounds_toArray, List.set_cons_zero, List.set_cons_succ, i64_w, i32_w]
                            rfl
                           refine one_ (i := 11) (N := some 86) #[true, true, true, true, true, true, true, true, true, true, true, true, true, false, true, true, true, false, false] rfl rfl (one_of HT_.out (by kernel_rfl)) (by decide) (fun K hK => ?_)
                           refine goes_ Try.func15 (by kernel_rfl) rfl #[.string (rdOf ByteArray.empty l0 (ji55))] (by rfl) rfl rfl (by (try simp only [List.map_toArray, List.map_cons, List.map_nil]); first | done | (simp only [hji55]; rfl) | rfl | (simp only [List.length_drop, List.length_take]; rfl)) ?_
                           with_reducible refine (hash_Gnu.calls kj35 (rdOf ByteArray.empty l0 (ji55)) t284 _ A58.out).mono ?_
                           rintro e w' ⟨rfl, ⟨nd, rfl⟩⟩
                           refine ⟨_, rfl, ?_⟩
                           refine hK.out _ _ (((HB.out.cell (World.block_lt_of_cell? w _ hw283_0)).trans hw283_0)) (fun hHeld => ?_)
                           clear hK K
                           refine norm_ (a' := ?_) ?_ ?_
                           rotate_left
                           ·show Act.put _ (some 86) _ = _
                            simp only [Act.put, List.setIfInBounds_toArray, List.set_cons_zero, List.set_cons_succ, i64_w, i32_w]
                            rfl
                           refine pure_ (i := 13) (N := some 88) (v := ?_) (a' := ?_) #[true, true, true, true, true, true, true, true, true, true, true, true, true, true, true, true, true, false, false] rfl rfl (any_of HT_.out (by kernel_rfl)) (fun _ _ _ h => h) (Or.inl ⟨by rfl, ?_⟩) ?_ ?_
                           rotate_left
                           ·intro w'
                            go_simp
                            with_reducible rfl
                           rotate_left
                           ·simp only [Act.put, List.setIfInBounds_toArray, List.set_cons_zero, List.set_cons_succ, i64_w, i32_w]
                            rfl
                           refine pure_ (i := 17) (N := some 92) (v := ?_) (a' := ?_) #[true, true, true, true, true, true, true, true, true, true, true, true, true, true, true, true, true, true, false] rfl rfl (any_of HT_.out (by kernel_rfl)) (fun _ _ _ h => h) (Or.inl ⟨by rfl, ?_⟩) ?_ ?_
                           rotate_left
                           ·intro w'
                            go_simp
                            with_reducible rfl
                           rotate_left
                           ·simp only [Act.put, List.setIfInBounds_toArray, List.set_cons_zero, List.set_cons_succ, i64_w, i32_w]
                            rfl
                           refine pure_ (i := 18) (N := some 93) (v := ?_) (a' := ?_) #[true, true, true, true, true, true, true, true, true, true, true, true, true, true, true, true, true, true, true] rfl rfl (any_of HT_.out (by kernel_rfl)) (fun _ _ _ h => h) (Or.inl ⟨by rfl, ?_⟩) ?_ ?_
                           rotate_left
                           ·intro w'
                            go_simp
                            with_reducible rfl
                           rotate_left
                           ·simp only [Act.put, List.setIfInBounds_toArray, List.set_cons_zero, List.set_cons_succ, i64_w, i32_w]
                            rfl
                           refine done_ (done_of HT_.out (by kernel_rfl)) ?_
                           try go_wp2
                           (try simp only [← hl8_35, ← hl9_35])
                           go_roundg kj35
                           case measure => have := HK1.out; have := HJ35.out; omega
                           case rel => exact ⟨(y277), (x9_35), (y280), (ji55), (by first | rfl | (simp; done) | (simp only [← hji55] <;> (first | rfl | simp)) | (simp [*]; done)), H', ⟨by have := HK1.out; have := HJ35.out; omega⟩, ⟨by (try simp only [hl8_35]); (try simp only [hl9_35]); (with_reducible repeat (first | apply Kd.R_alloc | apply Kd.R_drewN | apply Kd.R_drew)); exact HO_7.out⟩, ⟨by (try simp only [hl8_35]); (try simp only [hl9_35]); (with_reducible repeat (first | apply Kd.R_alloc | apply Kd.R_drewN | apply Kd.R_drew)); exact HO_8.out⟩, ⟨by (try simp only [hl8_35]); (try simp only [hl9_35]); (with_reducible repeat (first | apply Kd.R_alloc | apply Kd.R_drewN | apply Kd.R_drew)); exact HO_9.out⟩, ⟨by (try simp only [hl8_35]); (try simp only [hl9_35]); (with_reducible repeat (first | apply Kd.R_alloc | apply Kd.R_drewN | apply Kd.R_drew)); exact HO_10.out⟩, ⟨by repeat (first | (with_reducible first | exact HB.out | apply below_alloc | apply pw_below_drewN | apply below_drew1) | exact HB.out)⟩⟩
                          ·rw [if_neg c60] at H
                           have c60b0 : ((Int.tmod t284 a1) == (Int.tmod t275 a1)) = false := beq_eq_false_iff_ne.mpr c60
                           have c60b1 : ((Int.tmod t284 a1) != (Int.tmod t275 a1)) = true := bne_iff_ne.mpr c60
                           obtain ⟨y286, hy286⟩ : ∃ y_ : List Int, y_ = (y280.set (x11_1 : Int).toNat (((rd y280 x11_1) + 1) % 4294967296)) := ⟨_, rfl⟩
                           replace H : (shacklelaw07_second.l0 kj35 l0 a1 a2 y262 y277 x9_35 y286 ji55) = some r := by first | (rw [hy286]; with_reducible exact H) | (have H2_ := (Option.bind_some _ _).symm.trans H; rw [hy286]; with_reducible exact H2_) | (have H2_ := (Option.bind_some _ _).symm.trans H; with_reducible exact H2_) | with_reducible exact H | (rw [hy286]; exact H) | exact H
                           have Ny286 := Aside0.mk hy286
                           clear hy286
                           have H' := Aside0.mk H
                           clear H
                           have p47 : 0 ≤ (x11_1 : Int) := of_decide_eq_true (by assumption)
                           have q47 : (x11_1 : Int) < ((x10_1.length : Int) : Int) := of_decide_eq_true (by assumption)
                           obtain ⟨go47, co47, eo47, gb47, gl47, cl47, HG47⟩ := Kd.R_form HO_10.out (by omega)
                           (first | cases eo47 | (injection eo47 with ea_ en_ ec_; (first | subst ea_ | (injection ea_ with ea_; subst ea_)); subst ec_; clear en_))
                           have GB47 := Aside0.mk gb47
                           have GG47 := Aside0.mk HG47
                           clear gb47 gl47 HG47
                           obtain ⟨hx47_0, hf47_0⟩ := Kd.R_celln 0 HO_10.out (x11_1 : Int) p47 q47
                           replace p47 := eq_true p47
                           replace q47 := eq_true q47
                           have HP65 := Kd.R_putg HO_10.out (x11_1 : Int) ((((Int.tdiv t275 2) % 4294967296) * 2) % 4294967296)
                           try go_wp2_with (first | ((with_reducible refine gate_store (t := 26) (p := 74) rfl ?_); refine store_event (t := 26) (p := 74) (v := ?vo_w66) (w1 := (wc.setCell ⟨go47, (x11_1 : Int).toNat, none⟩ (.int .u32 ((((Int.tdiv t275 2) % 4294967296) * 2) % 4294967296)))) ?hg ?ho ?hn ?hr ?_; (case ho => rfl); (case hg => rfl); (case hn => rfl); (case hr => first | (go_simp; done) | (go_simp; rfl)); intro w66 hw; have hg : wc.grownBy w66 (some go47) := (by rw [hw]; exact HP65.2); have hp_ : Kd.R (Kd.int .u32) 26 w66 w.heap.size (fun k_ => some k_ ≠ (v263 : Value).ownBlock ∧ some k_ ≠ (.slice (some ad278) x9_35.length co40 : Value).ownBlock) (.slice (some ⟨go47, 0, none⟩) x10_1.length co47) y280 := (by rw [hw, Ny280.out]; exact HP65.1); clear HP65; have n0_ := Aside0.mk (Kd.R_after (v := (.slice (some ⟨go47, 0, none⟩) x10_1.length co47)) (v1 := (.slice (some ⟨go47, 0, none⟩) x10_1.length co47)) (ok := (fun k_ => some k_ ≠ (.slice (some ad278) x9_35.length co40 : Value).ownBlock)) (by (with_reducible repeat (first | apply Kd.R_alloc | apply Kd.R_drewN | apply Kd.R_drew)); exact HO_7.out) hg (.inl rfl)); have n1_ := Aside0.mk (Kd.R_over' (v := (.slice (some ⟨go47, 0, none⟩) x10_1.length co47)) (by (with_reducible repeat (first | apply Kd.R_alloc | apply Kd.R_drewN | apply Kd.R_drew)); exact HO_8.out) (Kd.R_typed HO_10.out) (by decide) hg); have n2_ := Aside0.mk (Kd.R_after (v := (.slice (some ⟨go47, 0, none⟩) x10_1.length co47)) (v1 := (.slice (some ⟨go47, 0, none⟩) x10_1.length co47)) (ok := (fun k_ => some k_ ≠ (v263 : Value).ownBlock)) (by (with_reducible repeat (first | apply Kd.R_alloc | apply Kd.R_drewN | apply Kd.R_drew)); exact HO_9.out) hg (.inl rfl)); have n3_ := Aside0.mk (hp_); have n4_ := Aside0.mk ((by rw [hw]; exact below_set (HB.out) GB47.out : Below w.heap.size w w66)); clear HO_7; clear HO_8; clear HO_9; clear HO_10; clear HB; have HO_7 := n0_; have HO_8 := n1_; have HO_9 := n2_; have HO_10 := n3_; have HB := n4_; clear n0_ n1_ n2_ n3_ n4_; clear hg hw hp_))
                           have n0_ := Aside0.mk (Kd.R_drew HO_7.out)
                           have n1_ := Aside0.mk (Kd.R_drew HO_8.out)
                           have n2_ := Aside0.mk (Kd.R_drew HO_9.out)
                           have n3_ := Aside0.mk (Kd.R_drew HO_10.out)
                           have n4_ := Aside0.mk (below_drew1 HB.out)
                           clear HO_7
                           clear HO_8
                           clear HO_9
                           clear HO_10
                           clear HB
                           have HO_7 := n0_
                           have HO_8 := n1_
                           have HO_9 := n2_
                           have HO_10 := n3_
                           have HB := n4_
                           clear n0_ n1_ n2_ n3_ n4_
                           have p283 : 0 ≤ ((ji55) : Int) := of_decide_eq_true (by assumption)
                           have q283 : (ji55) < (l0.length : Int) := of_decide_eq_true (by assumption)
                           obtain ⟨ad283, e283, hx283_0⟩ := Kd.at_string HR0.out (ji55) p283 q283
                           have hw283_0 := hx283_0
                           obtain rfl : ad274 = ad283 := (by injection e283)
                           replace hx283_0 := (HB.out.cell (World.block_lt_of_cell? w _ hx283_0)).trans hx283_0
                           replace p283 := eq_true p283
                           replace q283 := eq_true q283
                           refine start_ (n := 19) (S := fun w' => w'.cell? (ad274.add ((ji55)).toNat) = some (.string (rdOf ByteArray.empty l0 (ji55)))) (ds := []) #[false, false, false, false, false, false, false, false, false, false, false, false, false, false, false, false, false, false, false] (by kernel_rfl) rfl rfl (((HB.out.cell (World.block_lt_of_cell? w _ hw283_0)).trans hw283_0)) (fun hHeld => ?_); refine with_tabW shacklelaw07_second.tab13 shacklelaw07_second.bits13 (fun HT_ HW_ => ?_)
                           generalize w66.drew = w67 at HO_7 HO_8 HO_9 HO_10 HB hx283_0 hHeld ⊢
                           refine pure_ (i := 0) (N := some 75) (v := ?_) (a' := ?_) #[true, false, false, false, false, false, false, false, false, false, false, false, false, false, false, false, false, false, false] rfl rfl (any_of HT_.out (by kernel_rfl)) (fun _ _ _ h => h) (Or.inl ⟨by rfl, ?_⟩) ?_ ?_
                           rotate_left
                           ·intro w'
                            go_simp
                            with_reducible rfl
                           rotate_left
                           ·simp only [Act.put, List.setIfInBounds_toArray, List.set_cons_zero, List.set_cons_succ, i64_w, i32_w]
                            rfl
                           refine pure_ (i := 1) (N := some 76) (v := ?_) (a' := ?_) #[true, true, false, false, false, false, false, false, false, false, false, false, false, false, false, false, false, false, false] rfl rfl (any_of HT_.out (by kernel_rfl)) (fun _ _ _ h => h) (Or.inl ⟨by rfl, ?_⟩) ?_ ?_
                           rotate_left
                           ·intro w'
                            go_simp
                            with_reducible rfl
                           rotate_left
                           ·simp only [Act.put, List.setIfInBounds_toArray, List.set_cons_zero, List.set_cons_succ, i64_w, i32_w]
                            rfl
                           refine pure_ (i := 2) (N := some 77) (v := ?_) (a' := ?_) #[true, true, true, false, false, false, false, false, false, false, false, false, false, false, false, false, false, false, false] rfl rfl (any_of HT_.out (by kernel_rfl)) (fun _ _ _ h => h) (Or.inl ⟨by rfl, ?_⟩) ?_ ?_
                           rotate_left
                           ·intro w'
                            go_simp
                            with_reducible rfl
                           rotate_left
                           ·simp only [Act.put, List.setIfInBounds_toArray, List.set_cons_zero, List.set_cons_succ, i64_w, i32_w]
                            rfl
                           refine pure_ (i := 3) (N := some 78) (v := ?_) (a' := ?_) #[true, true, true, true, false, false, false, false, false, false, false, false, false, false, false, false, false, false, false] rfl rfl (any_of HT_.out (by kernel_rfl)) (fun _ _ _ h => h) (Or.inl ⟨by rfl, ?_⟩) ?_ ?_
                           rotate_left
                           ·intro w'
                            go_simp
                            with_reducible rfl
                           rotate_left
                           ·simp only [Act.put, List.setIfInBounds_toArray, List.set_cons_zero, List.set_cons_succ, i64_w, i32_w]
                            rfl
                           refine pure_ (i := 4) (N := some 79) (v := ?_) (a' := ?_) #[true, true, true, true, true, false, false, false, false, false, false, false, false, false, false, false, false, false, false] rfl rfl (any_of HT_.out (by kernel_rfl)) (fun _ _ _ h => h) (Or.inl ⟨by rfl, ?_⟩) ?_ ?_
                           rotate_left
                           ·intro w'
                            go_simp
                            with_reducible rfl
                           rotate_left
                           ·simp only [Act.put, List.setIfInBounds_toArray, List.set_cons_zero, List.set_cons_succ, i64_w, i32_w]
                            rfl
                           refine pure_ (i := 5) (N := some 80) (v := ?_) (a' := ?_) #[true, true, true, true, true, true, false, false, false, false, false, false, false, false, false, false, false, false, false] rfl rfl (any_of HT_.out (by kernel_rfl)) (fun _ _ _ h => h) (Or.inl ⟨by rfl, ?_⟩) ?_ ?_
                           rotate_left
                           ·intro w'
                            go_simp
                            with_reducible rfl
                           rotate_left
                           ·simp only [Act.put, List.setIfInBounds_toArray, List.set_cons_zero, List.set_cons_succ, i64_w, i32_w]
                            rfl
                           refine pure_ (i := 6) (N := some 81) (v := ?_) (a' := ?_) #[true, true, true, true, true, true, true, false, false, false, false, false, false, false, false, false, false, false, false] rfl rfl (any_of HT_.out (by kernel_rfl)) (fun _ _ _ h => h) (Or.inl ⟨by rfl, ?_⟩) ?_ ?_
                           rotate_left
                           ·intro w'
                            go_simp
                            with_reducible rfl
                           rotate_left
                           ·simp only [Act.put, List.setIfInBounds_toArray, List.set_cons_zero, List.set_cons_succ, i64_w, i32_w]
                            rfl
                           refine pure_ (i := 7) (N := some 82) (v := ?_) (a' := ?_) #[true, true, true, true, true, true, true, true, false, false, false, false, false, false, false, false, false, false, false] rfl rfl (any_of HT_.out (by kernel_rfl)) (fun _ _ _ h => h) (Or.inl ⟨by rfl, ?_⟩) ?_ ?_
                           rotate_left
                           ·intro w'
                            go_simp
                            with_reducible rfl
                           rotate_left
                           ·simp only [Act.put, List.setIfInBounds_toArray, List.set_cons_zero, List.set_cons_succ, i64_w, i32_w]
                            rfl
                           refine pure_ (i := 8) (N := some 83) (v := ?_) (a' := ?_) #[true, true, true, true, true, true, true, true, true, false, false, false, false, false, false, false, false, false, false] rfl rfl (any_of HT_.out (by kernel_rfl)) (fun _ _ _ h => h) (Or.inl ⟨by rfl, ?_⟩) ?_ ?_
                           rotate_left
                           ·intro w'
                            go_simp
                            with_reducible rfl
                           rotate_left
                           ·simp only [Act.put, List.setIfInBounds_toArray, List.set_cons_zero, List.set_cons_succ, i64_w, i32_w]
                            rfl
                           refine pure_ (i := 9) (N := some 84) (v := ?_) (a' := ?_) #[true, true, true, true, true, true, true, true, true, true, false, false, false, false, false, false, false, false, false] rfl rfl (any_of HT_.out (by kernel_rfl)) (fun _ _ _ h => h) (Or.inl ⟨by rfl, ?_⟩) ?_ ?_
                           rotate_left
                           ·intro w'
                            go_simp
                            with_reducible rfl
                           rotate_left
                           ·simp only [Act.put, List.setIfInBounds_toArray, List.set_cons_zero, List.set_cons_succ, i64_w, i32_w]
                            rfl
                           refine pure_ (i := 12) (N := some 87) (v := ?_) (a' := ?_) #[true, true, true, true, true, true, true, true, true, true, false, false, true, false, false, false, false, false, false] rfl rfl (any_of HT_.out (by kernel_rfl)) (fun _ _ _ h => h) (Or.inl ⟨by rfl, ?_⟩) ?_ ?_
                           rotate_left
                           ·intro w'
                            go_simp
                            with_reducible rfl
                           rotate_left
                           ·simp only [Act.put, List.setIfInBounds_toArray, List.set_cons_zero, List.set_cons_succ, i64_w, i32_w]
                            rfl
                           refine pure_ (i := 14) (N := some 89) (v := ?_) (a' := ?_) #[true, true, true, true, true, true, true, true, true, true, false, false, true, false, true, false, false, false, false] rfl rfl (any_of HT_.out (by kernel_rfl)) (fun _ _ _ h => h) (Or.inl ⟨by rfl, ?_⟩) ?_ ?_
                           rotate_left
                           ·intro w'
                            go_simp
                            with_reducible rfl
                           rotate_left
                           ·simp only [Act.put, List.setIfInBounds_toArray, List.set_cons_zero, List.set_cons_succ, i64_w, i32_w]
                            rfl
                           refine pure_ (i := 15) (N := some 90) (v := ?_) (a' := ?_) #[true, true, true, true, true, true, true, true, true, true, false, false, true, false, true, true, false, false, false] rfl rfl (any_of HT_.out (by kernel_rfl)) (fun _ _ _ h => h) (Or.inl ⟨by rfl, ?_⟩) ?_ ?_
                           rotate_left
                           ·intro w'
                            go_simp
                            with_reducible rfl
                           rotate_left
                           ·simp only [Act.put, List.setIfInBounds_toArray, List.set_cons_zero, List.set_cons_succ, i64_w, i32_w]
                            rfl
                           refine pure_ (i := 16) (N := some 91) (v := ?_) (a' := ?_) #[true, true, true, true, true, true, true, true, true, true, false, false, true, false, true, true, true, false, false] rfl rfl (any_of HT_.out (by kernel_rfl)) (fun _ _ _ h => h) (Or.inl ⟨by rfl, ?_⟩) ?_ ?_
                           rotate_left
                           ·intro w'
                            go_simp
                            with_reducible rfl
                           rotate_left
                           ·simp only [Act.put, List.setIfInBounds_toArray, List.set_cons_zero, List.set_cons_succ, i64_w, i32_w]
                            rfl
                           refine take_ (i := 10) (N := some 85) (v := ?_) (a' := ?_) #[true, true, true, true, true, true, true, true, true, true, true, false, true, false, true, true, true, false, false] rfl rfl (take_ofW HT_.out HW_.out (by kernel_rfl)) (fun _ _ _ h => h) (Or.inl ⟨by rfl, ?_⟩) hHeld ?_ ?_
                           rotate_left
                           ·intro w' s0
                            go_simp
                            with_reducible rfl
                           rotate_left
                           ·simp only [Act.put, List.setIfInBounds_toArray, List.set_cons_zero, List.set_cons_succ, i64_w, i32_w]
                            rfl
                           refine one_ (i := 11) (N := some 86) #[true, true, true, true, true, true, true, true, true, true, true, true, true, false, true, true, true, false, false] rfl rfl (one_of HT_.out (by kernel_rfl)) (by decide) (fun K hK => ?_)
                           refine goes_ Try.func15 (by kernel_rfl) rfl #[.string (rdOf ByteArray.empty l0 (ji55))] (by rfl) rfl rfl (by (try simp only [List.map_toArray, List.map_cons, List.map_nil]); first | done | (simp only [hji55]; rfl) | rfl | (simp only [List.length_drop, List.length_take]; rfl)) ?_
                           with_reducible refine (hash_Gnu.calls kj35 (rdOf ByteArray.empty l0 (ji55)) t284 _ A58.out).mono ?_
                           rintro e w' ⟨rfl, ⟨nd, rfl⟩⟩
                           refine ⟨_, rfl, ?_⟩
                           refine hK.out _ _ (((HB.out.cell (World.block_lt_of_cell? w _ hw283_0)).trans hw283_0)) (fun hHeld => ?_)
                           clear hK K
                           refine norm_ (a' := ?_) ?_ ?_
                           rotate_left
                           ·show Act.put _ (some 86) _ = _
                            simp only [Act.put, List.setIfInBounds_toArray, List.set_cons_zero, List.set_cons_succ, i64_w, i32_w]
                            rfl
                           refine pure_ (i := 13) (N := some 88) (v := ?_) (a' := ?_) #[true, true, true, true, true, true, true, true, true, true, true, true, true, true, true, true, true, false, false] rfl rfl (any_of HT_.out (by kernel_rfl)) (fun _ _ _ h => h) (Or.inl ⟨by rfl, ?_⟩) ?_ ?_
                           rotate_left
                           ·intro w'
                            go_simp
                            with_reducible rfl
                           rotate_left
                           ·simp only [Act.put, List.setIfInBounds_toArray, List.set_cons_zero, List.set_cons_succ, i64_w, i32_w]
                            rfl
                           refine pure_ (i := 17) (N := some 92) (v := ?_) (a' := ?_) #[true, true, true, true, true, true, true, true, true, true, true, true, true, true, true, true, true, true, false] rfl rfl (any_of HT_.out (by kernel_rfl)) (fun _ _ _ h => h) (Or.inl ⟨by rfl, ?_⟩) ?_ ?_
                           rotate_left
                           ·intro w'
                            go_simp
                            with_reducible rfl
                           rotate_left
                           ·simp only [Act.put, List.setIfInBounds_toArray, List.set_cons_zero, List.set_cons_succ, i64_w, i32_w]
                            rfl
                           refine pure_ (i := 18) (N := some 93) (v := ?_) (a' := ?_) #[true, true, true, true, true, true, true, true, true, true, true, true, true, true, true, true, true, true, true] rfl rfl (any_of HT_.out (by kernel_rfl)) (fun _ _ _ h => h) (Or.inl ⟨by rfl, ?_⟩) ?_ ?_
                           rotate_left
                           ·intro w'
                            go_simp
                            with_reducible rfl
                           rotate_left
                           ·simp only [Act.put, List.setIfInBounds_toArray, List.set_cons_zero, List.set_cons_succ, i64_w, i32_w]
                            rfl
                           refine done_ (done_of HT_.out (by kernel_rfl)) ?_
                           have n7_ := Aside0.mk (Kd.R_drewN HO_7.out nd)
                           have n8_ := Aside0.mk (Kd.R_drewN HO_8.out nd)
                           have n9_ := Aside0.mk (Kd.R_drewN HO_9.out nd)
                           have n10_ := Aside0.mk (Kd.R_drewN HO_10.out nd)
                           have nB_ := Aside0.mk (pw_below_drewN HB.out nd)
                           clear HO_7 HO_8 HO_9 HO_10 HB
                           generalize w67.drewN nd = w67 at n7_ n8_ n9_ n10_ nB_ ⊢
                           have HO_7 := n7_
                           have HO_8 := n8_
                           have HO_9 := n9_
                           have HO_10 := n10_
                           have HB := nB_
                           clear n7_ n8_ n9_ n10_ nB_
                           have p285 : 0 ≤ (x11_1 : Int) := of_decide_eq_true (by assumption)
                           have q285 : x11_1 < (y280.length : Int) := (by have h_ : (x11_1 : Int) < ((x10_1.length : Int) : Int) := of_decide_eq_true (by assumption); first | (have e_ := (Kd.R_reads' HO_10.out).1; omega) | simpa only [Ny280.out, List.length_set] using h_)
                           have ql285 : ((x11_1 : Int) < ((x10_1.length : Int) : Int)) = True := eq_true (of_decide_eq_true (by assumption))
                           obtain ⟨ad285, e285, hx285_0⟩ := Kd.at_int (Kd.R_reads' HO_10.out).2.2 x11_1 p285 q285
                           obtain rfl : (⟨go47, 0, none⟩ : Addr) = ad285 := (by injection e285)
                           (first | simp only [add_plain] at hx285_0 | simp only [add_at] at hx285_0 | simp only [Addr.add, Nat.zero_add] at hx285_0 | skip)
                           replace p285 := eq_true p285
                           replace q285 := eq_true q285
                           have p64 : 0 ≤ (x11_1 : Int) := of_decide_eq_true (by assumption)
                           have q64 : (x11_1 : Int) < ((x10_1.length : Int) : Int) := of_decide_eq_true (by assumption)
                           obtain ⟨hx64_0, hf64_0⟩ := Kd.R_celln 0 HO_10.out (x11_1 : Int) p64 q64
                           replace p64 := eq_true p64
                           replace q64 := eq_true q64
                           obtain ⟨hy68_, hz68_⟩ := Kd.R_celln 0 HO_10.out (x11_1 : Int) (of_decide_eq_true (by assumption)) (of_decide_eq_true (by assumption))
                           have HP68 := Kd.R_putg HO_10.out (x11_1 : Int) (((rd y280 x11_1) + 1) % 4294967296)
                           try go_wp2_with (first | ((with_reducible refine gate_store (t := 26) (p := 99) rfl ?_); refine store_event (t := 26) (p := 99) (v := ?vo_w69) (w1 := (w67.setCell ⟨go47, (x11_1 : Int).toNat, none⟩ (.int .u32 (((rd y280 x11_1) + 1) % 4294967296)))) ?hg ?ho ?hn ?hr ?_; (case ho => rfl); (case hg => rfl); (case hn => rfl); (case hr => first | (go_simp; done) | (go_simp; rfl)); intro w69 hw; have hg : w67.grownBy w69 (some go47) := (by rw [hw]; exact HP68.2); have hp_ : Kd.R (Kd.int .u32) 26 w69 w.heap.size (fun k_ => some k_ ≠ (v263 : Value).ownBlock ∧ some k_ ≠ (.slice (some ad278) x9_35.length co40 : Value).ownBlock) (.slice (some ⟨go47, 0, none⟩) x10_1.length co47) y286 := (by rw [hw, Ny286.out]; exact HP68.1); clear HP68; have n0_ := Aside0.mk (Kd.R_after (v := (.slice (some ⟨go47, 0, none⟩) x10_1.length co47)) (v1 := (.slice (some ⟨go47, 0, none⟩) x10_1.length co47)) (ok := (fun k_ => some k_ ≠ (.slice (some ad278) x9_35.length co40 : Value).ownBlock)) (by (with_reducible repeat (first | apply Kd.R_alloc | apply Kd.R_drewN | apply Kd.R_drew)); exact HO_7.out) hg (.inl rfl)); have n1_ := Aside0.mk (Kd.R_over' (v := (.slice (some ⟨go47, 0, none⟩) x10_1.length co47)) (by (with_reducible repeat (first | apply Kd.R_alloc | apply Kd.R_drewN | apply Kd.R_drew)); exact HO_8.out) (Kd.R_typed HO_10.out) (by decide) hg); have n2_ := Aside0.mk (Kd.R_after (v := (.slice (some ⟨go47, 0, none⟩) x10_1.length co47)) (v1 := (.slice (some ⟨go47, 0, none⟩) x10_1.length co47)) (ok := (fun k_ => some k_ ≠ (v263 : Value).ownBlock)) (by (with_reducible repeat (first | apply Kd.R_alloc | apply Kd.R_drewN | apply Kd.R_drew)); exact HO_9.out) hg (.inl rfl)); have n3_ := Aside0.mk (hp_); have n4_ := Aside0.mk ((by rw [hw]; exact below_set (HB.out) GB47.out : Below w.heap.size w w69)); clear HO_7; clear HO_8; clear HO_9; clear HO_10; clear HB; have HO_7 := n0_; have HO_8 := n1_; have HO_9 := n2_; have HO_10 := n3_; have HB := n4_; clear n0_ n1_ n2_ n3_ n4_; clear hg hw hp_))
                           (try simp only [← hl8_35, ← hl9_35])
                           go_roundg kj35
                           case measure => have := HK1.out; have := HJ35.out; omega
                           case rel => exact ⟨(y277), (x9_35), (y286), (ji55), (by first | rfl | (simp; done) | (simp only [← hji55] <;> (first | rfl | simp)) | (simp [*]; done)), H', ⟨by have := HK1.out; have := HJ35.out; omega⟩, ⟨by (try simp only [hl8_35]); (try simp only [hl9_35]); (with_reducible repeat (first | apply Kd.R_alloc | apply Kd.R_drewN | apply Kd.R_drew)); exact HO_7.out⟩, ⟨by (try simp only [hl8_35]); (try simp only [hl9_35]); (with_reducible repeat (first | apply Kd.R_alloc | apply Kd.R_drewN | apply Kd.R_drew)); exact HO_8.out⟩, ⟨by (try simp only [hl8_35]); (try simp only [hl9_35]); (with_reducible repeat (first | apply Kd.R_alloc | apply Kd.R_drewN | apply Kd.R_drew)); exact HO_9.out⟩, ⟨by (try simp only [hl8_35]); (try simp only [hl9_35]); (with_reducible repeat (first | apply Kd.R_alloc | apply Kd.R_drewN | apply Kd.R_drew)); exact HO_10.out⟩, ⟨by repeat (first | (with_reducible first | exact HB.out | apply below_alloc | apply pw_below_drewN | apply below_drew1) | exact HB.out)⟩⟩
                        ·rw [if_neg c57] at H
                         exact absurd H (by simp)
                       ·rw [if_neg c56] at H
                        exact absurd H (by simp)
                     ·rw [if_neg c46] at H
                      exact absurd H (by simp)
                    ·rw [if_neg c45] at H
                     exact absurd H (by simp)
                 ·rw [if_neg c35] at H
                  exact absurd H (by simp)
                ·rw [if_neg c34] at H
                 exact absurd H (by simp)
              ·rw [if_neg c29] at H
               exact absurd H (by simp)
             ·rw [if_neg c26] at H
              exact absurd H (by simp)
            ·rw [if_neg c24] at H
             exact absurd H (by simp)
           ·rw [if_neg c22] at H
            exact absurd H (by simp)
          ·rw [if_neg c21] at H
           exact absurd H (by simp)
         ·rw [if_neg c18] at H
          exact absurd H (by simp)
        ·rw [if_neg c17] at H
         have c17b0 : decide (x11_1 < (l0.length : Int)) = false := decide_eq_false c17
         clear c17
         have H' := Aside0.mk H
         clear H
         go_wp2
         go_loopg [7, 13] k1 (fun kq v7 v13 w' => ∃ (x7_2 : List Int) (x13_2 : Int), v13 = .int .i64 x13_2 ∧ Aside0 (shacklelaw07_second.l1 kq x7_2 x8_1 x9_1 x10_1 x13_2 = some r) ∧ Aside0 (kq ≤ k1) ∧ Aside0 (Kd.R (Kd.int .u32) 26 w' w.heap.size (fun k_ => some k_ ≠ (v269 : Value).ownBlock ∧ some k_ ≠ (v272 : Value).ownBlock) v7 x7_2) ∧ Aside0 (Kd.R (Kd.int .u64) 27 w' w.heap.size (fun _ => True) v266 x8_1) ∧ Aside0 (Kd.R (Kd.int .u32) 26 w' w.heap.size (fun k_ => some k_ ≠ (v7 : Value).ownBlock ∧ some k_ ≠ (v272 : Value).ownBlock) v269 x9_1) ∧ Aside0 (Kd.R (Kd.int .u32) 26 w' w.heap.size (fun k_ => some k_ ≠ (v7 : Value).ownBlock ∧ some k_ ≠ (v269 : Value).ownBlock) v272 x10_1) ∧ Aside0 (Below w.heap.size w w'))
         case atStart => exact ⟨(y262), (0), (by first | rfl | (simp; done) | (simp [*]; done)), H', ⟨Nat.le_refl _⟩, ⟨by (with_reducible repeat (first | apply Kd.R_alloc | apply Kd.R_drewN | apply Kd.R_drew)); exact HO_7.out⟩, ⟨by (with_reducible repeat (first | apply Kd.R_alloc | apply Kd.R_drewN | apply Kd.R_drew)); exact HO_8.out⟩, ⟨by (with_reducible repeat (first | apply Kd.R_alloc | apply Kd.R_drewN | apply Kd.R_drew)); exact HO_9.out⟩, ⟨by (with_reducible repeat (first | apply Kd.R_alloc | apply Kd.R_drewN | apply Kd.R_drew)); exact HO_10.out⟩, ⟨by repeat (first | (with_reducible first | exact HB.out | apply below_alloc | apply pw_below_drewN | apply below_drew1) | exact HB.out)⟩⟩
         case round =>
          clear H'
          try clear c1
          try clear c2
          try clear p2
          try clear q2
          try clear hx2
          try clear c3
          try clear c4
          try clear p4
          try clear q4
          try clear hx4
          try clear hf4
          try clear c5
          try clear c6
          try clear p6
          try clear q6
          try clear hx6
          try clear hf6
          try clear c15
          try clear c17
          try clear c17b0
          try clear c18
          try clear c21
          try clear c22
          try clear c24
          try clear c26
          try clear p28
          try clear q28
          try clear hx28
          try clear c29
          try clear c34
          try clear c35
          try clear c45
          try clear c46
          try clear p47
          try clear q47
          try clear hx47
          try clear hf47
          try clear c48
          try clear c48b0
          try clear c48b1
          try clear p49
          try clear q49
          try clear hx49
          try clear hf49
          try clear c56
          try clear c56b0
          try clear c57
          try clear c57b0
          try clear c59
          try clear c59b0
          try clear c59b1
          try clear c60
          try clear c60b0
          try clear c60b1
          try clear p64
          try clear q64
          try clear hx64
          try clear hf64
          try clear hx281_0
          try clear hx283_0
          try clear hx285_0
          try clear hx47_0
          try clear hx49_0
          try clear hx64_0
          try clear p281
          try clear p283
          try clear p285
          try clear p47
          try clear p49
          try clear p64
          try clear q281
          try clear q283
          try clear q285
          try clear q47
          try clear q49
          try clear q64
          obtain ⟨x7_2, x13_2, rfl, HA, HK2, HO_7, HO_8, HO_9, HO_10, HB⟩ := hrel
          cases gk with
          | zero => exact absurd HA.out (by simp [shacklelaw07_second.l1])
          | succ k2 =>
           have H := HA.out
           clear HA
           simp only [shacklelaw07_second.l1] at H
           by_cases c70 : x13_2 < 4
           ·rw [if_pos c70] at H
            have c70b0 : decide (x13_2 < 4) = true := decide_eq_true c70
            clear c70
            by_cases c71 : 0 ≤ x13_2
            ·rw [if_pos c71] at H
             have c71b0 : decide (0 ≤ x13_2) = true := decide_eq_true c71
             clear c71
             by_cases c72 : x13_2 < (x8_1.length : Int)
             ·rw [if_pos c72] at H
              have c72b0 : decide (x13_2 < (x8_1.length : Int)) = true := decide_eq_true c72
              clear c72
              obtain ⟨y289, hy289⟩ : ∃ y_ : List Int, y_ = (([(Int.tmod (rd x8_1 x13_2) 4294967296) % 4294967296, (IntKind.u64.wrap (Int.tdiv (rd x8_1 x13_2) 4294967296)) % 4294967296] : List Int)) := ⟨_, rfl⟩
              replace H : (if x7_2.length + y289.length < 35184372088832 then (shacklelaw07_second.l1 k2 (x7_2 ++ y289) x8_1 x9_1 x10_1 (wrap64 (x13_2 + 1))) else (none)) = some r := by first | (rw [hy289]; with_reducible exact H) | (have H2_ := (Option.bind_some _ _).symm.trans H; rw [hy289]; with_reducible exact H2_) | (have H2_ := (Option.bind_some _ _).symm.trans H; with_reducible exact H2_) | with_reducible exact H | (rw [hy289]; exact H) | exact H
              have Ny289 := Aside0.mk hy289
              clear hy289
              by_cases c73 : x7_2.length + y289.length < 35184372088832
              ·rw [if_pos c73] at H
               have LMc73 := Aside0.mk c73
               clear c73
               obtain ⟨y292, hy292⟩ : ∃ y_ : List Int, y_ = (x7_2 ++ y289) := ⟨_, rfl⟩
               replace H : (shacklelaw07_second.l1 k2 y292 x8_1 x9_1 x10_1 (wrap64 (x13_2 + 1))) = some r := by first | (rw [hy292]; with_reducible exact H) | (have H2_ := (Option.bind_some _ _).symm.trans H; rw [hy292]; with_reducible exact H2_) | (have H2_ := (Option.bind_some _ _).symm.trans H; with_reducible exact H2_) | with_reducible exact H | (rw [hy292]; exact H) | exact H
               have Ny292 := Aside0.mk hy292
               clear hy292
               have H' := Aside0.mk H
               clear H
               try go_wp2
               have n0_ := Aside0.mk (Kd.R_drew HO_7.out)
               have n1_ := Aside0.mk (Kd.R_drew HO_8.out)
               have n2_ := Aside0.mk (Kd.R_drew HO_9.out)
               have n3_ := Aside0.mk (Kd.R_drew HO_10.out)
               have n4_ := Aside0.mk (below_drew1 HB.out)
               clear HO_7
               clear HO_8
               clear HO_9
               clear HO_10
               clear HB
               have HO_7 := n0_
               have HO_8 := n1_
               have HO_9 := n2_
               have HO_10 := n3_
               have HB := n4_
               clear n0_ n1_ n2_ n3_ n4_
               obtain ⟨Ao75, co75, eo75⟩ := Kd.R_slice HO_8.out
               (first | subst eo75 | (injection eo75 with f1_ f2_ f3_; have f4_ := f1_.symm; have f5_ := f3_.symm; clear f1_ f2_ f3_; subst f4_; subst f5_))
               have p287 : 0 ≤ (x13_2 : Int) := of_decide_eq_true (by assumption)
               have q287 : x13_2 < (x8_1.length : Int) := of_decide_eq_true (by assumption)
               obtain ⟨ad287, e287, hx287_0⟩ := Kd.at_int (Kd.R_reads' HO_8.out).2.2 x13_2 p287 q287
               cases e287
               replace p287 := eq_true p287
               replace q287 := eq_true q287
               have p288 : 0 ≤ (x13_2 : Int) := of_decide_eq_true (by assumption)
               have q288 : x13_2 < (x8_1.length : Int) := of_decide_eq_true (by assumption)
               obtain ⟨ad288, e288, hx288_0⟩ := Kd.at_int (Kd.R_reads' HO_8.out).2.2 x13_2 p288 q288
               obtain rfl : ad287 = ad288 := (by injection e288)
               replace p288 := eq_true p288
               replace q288 := eq_true q288
               refine start_ (n := 16) (S := fun w' => w'.cell? (ad287.add (x13_2).toNat) = some (.int .u64 (rd x8_1 x13_2)) ∧ w'.cell? (ad287.add (x13_2).toNat) = some (.int .u64 (rd x8_1 x13_2))) (ds := [14]) #[false, false, false, false, false, false, false, false, false, false, false, false, false, false, false, false] (by kernel_rfl) rfl rfl ⟨hx287_0, hx288_0⟩ (fun hHeld => ?_); refine with_tabW shacklelaw07_second.tab18 shacklelaw07_second.bits18 (fun HT_ HW_ => ?_)
               generalize wr.drew = w74 at HO_7 HO_8 HO_9 HO_10 HB hx287_0 hx288_0 hHeld ⊢
               refine pure_ (i := 0) (N := some 104) (v := ?_) (a' := ?_) #[true, false, false, false, false, false, false, false, false, false, false, false, false, false, false, false] rfl rfl (any_of HT_.out (by kernel_rfl)) (fun _ _ _ h => h) (Or.inl ⟨by rfl, ?_⟩) ?_ ?_
               rotate_left
               ·intro w'
                go_simp
                with_reducible rfl
               rotate_left
               ·simp only [Act.put, List.setIfInBounds_toArray, List.set_cons_zero, List.set_cons_succ, i64_w, i32_w]
                rfl
               refine pure_ (i := 1) (N := some 105) (v := ?_) (a' := ?_) #[true, true, false, false, false, false, false, false, false, false, false, false, false, false, false, false] rfl rfl (any_of HT_.out (by kernel_rfl)) (fun _ _ _ h => h) (Or.inl ⟨by rfl, ?_⟩) ?_ ?_
               rotate_left
               ·intro w'
                go_simp
                with_reducible rfl
               rotate_left
               ·simp only [Act.put, List.setIfInBounds_toArray, List.set_cons_zero, List.set_cons_succ, i64_w, i32_w]
                rfl
               refine pure_ (i := 2) (N := some 106) (v := ?_) (a' := ?_) #[true, true, true, false, false, false, false, false, false, false, false, false, false, false, false, false] rfl rfl (any_of HT_.out (by kernel_rfl)) (fun _ _ _ h => h) (Or.inl ⟨by rfl, ?_⟩) ?_ ?_
               rotate_left
               ·intro w'
                go_simp
                with_reducible rfl
               rotate_left
               ·simp only [Act.put, List.setIfInBounds_toArray, List.set_cons_zero, List.set_cons_succ, i64_w, i32_w]
                rfl
               refine pure_ (i := 3) (N := some 107) (v := ?_) (a' := ?_) #[true, true, true, true, false, false, false, false, false, false, false, false, false, false, false, false] rfl rfl (any_of HT_.out (by kernel_rfl)) (fun _ _ _ h => h) (Or.inl ⟨by rfl, ?_⟩) ?_ ?_
               rotate_left
               ·intro w'
                go_simp
                with_reducible rfl
               rotate_left
               ·simp only [Act.put, List.setIfInBounds_toArray, List.set_cons_zero, List.set_cons_succ, i64_w, i32_w]
                rfl
               refine pure_ (i := 7) (N := some 111) (v := ?_) (a' := ?_) #[true, true, true, true, false, false, false, true, false, false, false, false, false, false, false, false] rfl rfl (any_of HT_.out (by kernel_rfl)) (fun _ _ _ h => h) (Or.inl ⟨by rfl, ?_⟩) ?_ ?_
               rotate_left
               ·intro w'
                go_simp
                with_reducible rfl
               rotate_left
               ·simp only [Act.put, List.setIfInBounds_toArray, List.set_cons_zero, List.set_cons_succ, i64_w, i32_w]
                rfl
               refine pure_ (i := 8) (N := some 112) (v := ?_) (a' := ?_) #[true, true, true, true, false, false, false, true, true, false, false, false, false, false, false, false] rfl rfl (any_of HT_.out (by kernel_rfl)) (fun _ _ _ h => h) (Or.inl ⟨by rfl, ?_⟩) ?_ ?_
               rotate_left
               ·intro w'
                go_simp
                with_reducible rfl
               rotate_left
               ·simp only [Act.put, List.setIfInBounds_toArray, List.set_cons_zero, List.set_cons_succ, i64_w, i32_w]
                rfl
               refine pure_ (i := 9) (N := some 113) (v := ?_) (a' := ?_) #[true, true, true, true, false, false, false, true, true, true, false, false, false, false, false, false] rfl rfl (any_of HT_.out (by kernel_rfl)) (fun _ _ _ h => h) (Or.inl ⟨by rfl, ?_⟩) ?_ ?_
               rotate_left
               ·intro w'
                go_simp
                with_reducible rfl
               rotate_left
               ·simp only [Act.put, List.setIfInBounds_toArray, List.set_cons_zero, List.set_cons_succ, i64_w, i32_w]
                rfl
               refine take_ (i := 4) (N := some 108) (v := ?_) (a' := ?_) #[true, true, true, true, true, false, false, true, true, true, false, false, false, false, false, false] rfl rfl (take_ofW HT_.out HW_.out (by kernel_rfl)) (fun _ _ _ h => h) (Or.inl ⟨by rfl, ?_⟩) hHeld ?_ ?_
               rotate_left
               ·rintro w' ⟨s0, s1⟩
                go_simp
                with_reducible rfl
               rotate_left
               ·simp only [Act.put, List.setIfInBounds_toArray, List.set_cons_zero, List.set_cons_succ, i64_w, i32_w]
                rfl
               refine pure_ (i := 5) (N := some 109) (v := ?_) (a' := ?_) #[true, true, true, true, true, true, false, true, true, true, false, false, false, false, false, false] rfl rfl (any_of HT_.out (by kernel_rfl)) (fun _ _ _ h => h) (Or.inl ⟨by rfl, ?_⟩) ?_ ?_
               rotate_left
               ·intro w'
                go_simp
                with_reducible rfl
               rotate_left
               ·simp only [Act.put, List.setIfInBounds_toArray, List.set_cons_zero, List.set_cons_succ, i64_w, i32_w]
                rfl
               refine pure_ (i := 6) (N := some 110) (v := ?_) (a' := ?_) #[true, true, true, true, true, true, true, true, true, true, false, false, false, false, false, false] rfl rfl (any_of HT_.out (by kernel_rfl)) (fun _ _ _ h => h) (Or.inl ⟨by rfl, ?_⟩) ?_ ?_
               rotate_left
               ·intro w'
                go_simp
                with_reducible rfl
               rotate_left
               ·simp only [Act.put, List.setIfInBounds_toArray, List.set_cons_zero, List.set_cons_succ, i64_w, i32_w]
                rfl
               refine take_ (i := 10) (N := some 114) (v := ?_) (a' := ?_) #[true, true, true, true, true, true, true, true, true, true, true, false, false, false, false, false] rfl rfl (take_ofW HT_.out HW_.out (by kernel_rfl)) (fun _ _ _ h => h) (Or.inl ⟨by rfl, ?_⟩) hHeld ?_ ?_
               rotate_left
               ·rintro w' ⟨s0, s1⟩
                go_simp
                with_reducible rfl
               rotate_left
               ·simp only [Act.put, List.setIfInBounds_toArray, List.set_cons_zero, List.set_cons_succ, i64_w, i32_w]
                rfl
               refine pure_ (i := 11) (N := some 115) (v := ?_) (a' := ?_) #[true, true, true, true, true, true, true, true, true, true, true, true, false, false, false, false] rfl rfl (any_of HT_.out (by kernel_rfl)) (fun _ _ _ h => h) (Or.inl ⟨by rfl, ?_⟩) ?_ ?_
               rotate_left
               ·intro w'
                go_simp
                with_reducible rfl
               rotate_left
               ·simp only [Act.put, List.setIfInBounds_toArray, List.set_cons_zero, List.set_cons_succ, i64_w, i32_w]
                rfl
               refine pure_ (i := 12) (N := some 116) (v := ?_) (a' := ?_) #[true, true, true, true, true, true, true, true, true, true, true, true, true, false, false, false] rfl rfl (any_of HT_.out (by kernel_rfl)) (fun _ _ _ h => h) (Or.inl ⟨by rfl, ?_⟩) ?_ ?_
               rotate_left
               ·intro w'
                go_simp
                with_reducible rfl
               rotate_left
               ·simp only [Act.put, List.setIfInBounds_toArray, List.set_cons_zero, List.set_cons_succ, i64_w, i32_w]
                rfl
               refine one_ (i := 13) (N := some 117) #[true, true, true, true, true, true, true, true, true, true, true, true, true, true, false, false] rfl rfl (one_of HT_.out (by kernel_rfl)) (by decide) (fun K hK => ?_)
               refine Kd.R_lit_step (Kd.int .u32) _ 26 ?hg (N := 117) ?hd (xs := ([(Int.tmod (rd x8_1 x13_2) 4294967296) % 4294967296, (IntKind.u64.wrap (Int.tdiv (rd x8_1 x13_2) 4294967296)) % 4294967296] : List Int)) (inner := [.int .u32 ((Int.tmod (rd x8_1 x13_2) 4294967296) % 4294967296), .int .u32 ((IntKind.u64.wrap (Int.tdiv (rd x8_1 x13_2) 4294967296)) % 4294967296)]) (ok := fun _ => True) (okp := fun _ => True) ?hr ?hp (fun _ hk => hk) trivial (Below.refl _ _) (Nat.le_refl _) (by simp) ?_; (case hd => rfl); (case hg => rfl); (case hr => first | (go_simp; done) | (go_simp; rfl)); (case hp => exact (Reps.one (show Kd.M (Kd.int .u32) _ _ _ ((Int.tmod (rd x8_1 x13_2) 4294967296) % 4294967296) [.int .u32 ((Int.tmod (rd x8_1 x13_2) 4294967296) % 4294967296)] from rfl) (Reps.one (show Kd.M (Kd.int .u32) _ _ _ ((IntKind.u64.wrap (Int.tdiv (rd x8_1 x13_2) 4294967296)) % 4294967296) [.int .u32 ((IntKind.u64.wrap (Int.tdiv (rd x8_1 x13_2) 4294967296)) % 4294967296)] from rfl) (Reps.none _ _))))
               intro v290 w76 ho77 hb hg_ hnew_
               have HS0_ := (hb.cell (World.block_lt_of_cell? _ _ (hHeld.1))).trans (hHeld.1)
               have HS1_ := (hb.cell (World.block_lt_of_cell? _ _ (hHeld.2))).trans (hHeld.2)
               clear hg_ hnew_
               (first | rw [← Ny289.out] at ho77 | (simp only [Int.reduceToNat] at ho77; rw [← Ny289.out] at ho77))
               have n0_ := Aside0.mk (Kd.R_elder' (by (with_reducible repeat (first | apply Kd.R_alloc | apply Kd.R_drewN | apply Kd.R_drew)); exact HO_7.out) (Kd.R_base ho77) hb)
               have n1_ := Aside0.mk (Kd.R_below (by (with_reducible repeat (first | apply Kd.R_alloc | apply Kd.R_drewN | apply Kd.R_drew)); exact HO_8.out) hb)
               have n2_ := Aside0.mk (Kd.R_elder' (by (with_reducible repeat (first | apply Kd.R_alloc | apply Kd.R_drewN | apply Kd.R_drew)); exact HO_9.out) (Kd.R_base ho77) hb)
               have n3_ := Aside0.mk (Kd.R_elder' (by (with_reducible repeat (first | apply Kd.R_alloc | apply Kd.R_drewN | apply Kd.R_drew)); exact HO_10.out) (Kd.R_base ho77) hb)
               have n4_ := Aside0.mk (Kd.R_lower (Kd.R_new' (Kd.R_new' (Kd.R_new' ho77 (Kd.R_lt (by (with_reducible repeat (first | apply Kd.R_alloc | apply Kd.R_drewN | apply Kd.R_drew)); exact HO_7.out))) (Kd.R_lt (by (with_reducible repeat (first | apply Kd.R_alloc | apply Kd.R_drewN | apply Kd.R_drew)); exact HO_9.out))) (Kd.R_lt (by (with_reducible repeat (first | apply Kd.R_alloc | apply Kd.R_drewN | apply Kd.R_drew)); exact HO_10.out))) (below_size (by repeat (first | (with_reducible first | exact HB.out | apply below_alloc | apply pw_below_drewN | apply below_drew1) | exact HB.out))))
               have n5_ := Aside0.mk (below_step (by repeat (first | (with_reducible first | exact HB.out | apply below_alloc | apply pw_below_drewN | apply below_drew1) | exact HB.out)) hb)
               clear HO_7
               clear HO_8
               clear HO_9
               clear HO_10
               clear HB
               have HO_7 := n0_
               have HO_8 := n1_
               have HO_9 := n2_
               have HO_10 := n3_
               have HO291 := n4_
               have HB := n5_
               clear n0_ n1_ n2_ n3_ n4_ n5_
               clear hb ho77
               obtain ⟨Ao79, co79, eo79⟩ := Kd.R_slice HO291.out
               (first | subst eo79 | (injection eo79 with f1_ f2_ f3_; have f4_ := f1_.symm; have f5_ := f3_.symm; clear f1_ f2_ f3_; subst f4_; subst f5_))
               refine hK.out _ _ ⟨HS0_, HS1_⟩ (fun hHeld => ?_)
               clear hK K
               refine norm_ (a' := ?_) ?_ ?_
               rotate_left
               ·show Act.put _ (some 117) _ = _
                simp only [Act.put, List.setIfInBounds_toArray, List.set_cons_zero, List.set_cons_succ, i64_w, i32_w]
                rfl
               refine last_ (i := 14) (N := some 118) #[true, true, true, true, true, true, true, true, true, true, true, true, true, true, true, false] rfl rfl (one_of HT_.out (by kernel_rfl)) (by decide) (fun K hK => ?_)
               refine Kd.R_append_rows_step (Kd.int .u32) (w0 := w) w.heap.size (by rfl) (.tmp 104) (.tmp 117) 83 26 (.int .u32 0) 4 rfl Try.underlying83 info26 rfl (by decide) (by omega) u7 x7_2 y289 _ _ _ (fun k_ => some k_ ≠ (v269 : Value).ownBlock ∧ some k_ ≠ (v272 : Value).ownBlock ∧ some k_ ≠ (.slice Ao79 y289.length co79 : Value).ownBlock) (fun _ => False) rfl rfl ?aO ?aR (fun _ _ h => h) (fun _ h => h.elim) ?aF ?aB ?aS ?aL ?_
               (case aR => repeat (first | exact (Kd.R_reads' HO291.out).2.2 | (with_reducible refine Kd.C_alloc ?_ _) | (with_reducible refine Kd.C_drewN ?_ _) | (with_reducible refine Kd.C_drew ?_)))
               (case aB => exact (by repeat (first | (with_reducible first | exact HB.out | apply below_alloc | apply pw_below_drewN | apply below_drew1) | exact HB.out)))
               (case aF => exact (fun k_ hk => ⟨Kd.fresh' (Kd.R_lt (by (with_reducible repeat (first | apply Kd.R_alloc | apply Kd.R_drewN | apply Kd.R_drew)); exact HO_9.out)) k_ hk, Kd.fresh' (Kd.R_lt (by (with_reducible repeat (first | apply Kd.R_alloc | apply Kd.R_drewN | apply Kd.R_drew)); exact HO_10.out)) k_ hk, Kd.fresh' (Kd.R_lt (by (with_reducible repeat (first | apply Kd.R_alloc | apply Kd.R_drewN | apply Kd.R_drew)); exact HO291.out)) k_ hk⟩))
               (case aO => exact (by (with_reducible repeat (first | apply Kd.R_alloc | apply Kd.R_drewN | apply Kd.R_drew)); exact Kd.R_mono HO_7.out (fun _ hk => ⟨hk.1.1, ⟨hk.1.2, hk.2⟩⟩)))
               (case aS => exact (below_size (by repeat (first | (with_reducible first | exact HB.out | apply below_alloc | apply pw_below_drewN | apply below_drew1) | exact HB.out))))
               (case aL => have := LMc73.out; omega)
               intro v293 w78 ho hb hg hat
               rw [← Ny292.out] at ho
               have n0_ := Aside0.mk (Kd.R_over' (by (with_reducible repeat (first | apply Kd.R_alloc | apply Kd.R_drewN | apply Kd.R_drew)); exact HO_8.out) (Kd.R_typed (by (with_reducible repeat (first | apply Kd.R_alloc | apply Kd.R_drewN | apply Kd.R_drew)); exact HO_7.out)) (by decide) hg)
               have n1_ := Aside0.mk (Kd.R_after (ok := (fun k_ => some k_ ≠ (v272 : Value).ownBlock ∧ some k_ ≠ (.slice Ao79 y289.length co79 : Value).ownBlock)) (by (with_reducible repeat (first | apply Kd.R_alloc | apply Kd.R_drewN | apply Kd.R_drew)); exact Kd.R_mono HO_9.out (fun _ hk => ⟨⟨hk.1.2, hk.2⟩, hk.1.1⟩)) hg hat)
               have n2_ := Aside0.mk (Kd.R_after (ok := (fun k_ => some k_ ≠ (v269 : Value).ownBlock ∧ some k_ ≠ (.slice Ao79 y289.length co79 : Value).ownBlock)) (by (with_reducible repeat (first | apply Kd.R_alloc | apply Kd.R_drewN | apply Kd.R_drew)); exact Kd.R_mono HO_10.out (fun _ hk => ⟨⟨hk.1.2, hk.2⟩, hk.1.1⟩)) hg hat)
               have n3_ := Aside0.mk (Kd.R_after (ok := (fun k_ => some k_ ≠ (v269 : Value).ownBlock ∧ some k_ ≠ (v272 : Value).ownBlock)) (by (with_reducible repeat (first | apply Kd.R_alloc | apply Kd.R_drewN | apply Kd.R_drew)); exact Kd.R_mono HO291.out (fun _ hk => ⟨⟨hk.1.2, hk.2⟩, hk.1.1.2⟩)) hg hat)
               have n4_ := Aside0.mk (hb)
               have n5_ := Aside0.mk (ho)
               clear HO_8
               clear HO_9
               clear HO_10
               clear HO291
               clear HB
               clear HO_7
               have HO_8 := n0_
               have HO_9 := n1_
               have HO_10 := n2_
               have HO291 := n3_
               have HB := n4_
               have HO294 := n5_
               clear n0_ n1_ n2_ n3_ n4_ n5_
               clear ho hb hg hat
               refine hK.out _ _ ?_
               clear hK K
               refine norm_ (a' := ?_) ?_ ?_
               rotate_left
               ·show Act.put _ (some 118) _ = _
                simp only [Act.put, List.setIfInBounds_toArray, List.set_cons_zero, List.set_cons_succ, i64_w, i32_w]
                rfl
               refine pure_ (i := 15) (N := some 7) (v := ?_) (a' := ?_) #[true, true, true, true, true, true, true, true, true, true, true, true, true, true, true, true] rfl rfl (any_of HT_.out (by kernel_rfl)) (fun _ _ _ h => h) (Or.inl ⟨by rfl, ?_⟩) ?_ ?_
               rotate_left
               ·intro w'
                go_simp
                with_reducible rfl
               rotate_left
               ·simp only [Act.put, List.setIfInBounds_toArray, List.set_cons_zero, List.set_cons_succ, i64_w, i32_w]
                rfl
               refine done_ (done_of HT_.out (by kernel_rfl)) ?_
               try go_wp2
               go_roundg k2
               case measure => have := HK1.out; have := HK2.out; omega
               case rel => exact ⟨(y292), (wrap64 (x13_2 + 1)), (by first | rfl | (simp; done) | (simp [*]; done)), H', ⟨by have := HK1.out; have := HK2.out; omega⟩, ⟨by (with_reducible repeat (first | apply Kd.R_alloc | apply Kd.R_drewN | apply Kd.R_drew)); exact Kd.R_mono HO294.out (fun _ hk => ⟨hk.1, hk.2.1⟩)⟩, ⟨by (with_reducible repeat (first | apply Kd.R_alloc | apply Kd.R_drewN | apply Kd.R_drew)); exact HO_8.out⟩, ⟨by (with_reducible repeat (first | apply Kd.R_alloc | apply Kd.R_drewN | apply Kd.R_drew)); exact Kd.R_mono HO_9.out (fun _ hk => ⟨hk.2, hk.1.1⟩)⟩, ⟨by (with_reducible repeat (first | apply Kd.R_alloc | apply Kd.R_drewN | apply Kd.R_drew)); exact Kd.R_mono HO_10.out (fun _ hk => ⟨hk.2, hk.1.1⟩)⟩, ⟨by repeat (first | (with_reducible first | exact HB.out | apply below_alloc | apply pw_below_drewN | apply below_drew1) | exact HB.out)⟩⟩
              ·rw [if_neg c73] at H
               exact absurd H (by simp)
             ·rw [if_neg c72] at H
              exact absurd H (by simp)
            ·rw [if_neg c71] at H
             exact absurd H (by simp)
           ·rw [if_neg c70] at H
            have c70b0 : decide (x13_2 < 4) = false := decide_eq_false c70
            clear c70
            by_cases c80 : x7_2.length + x9_1.length < 35184372088832
            ·rw [if_pos c80] at H
             have LMc80 := Aside0.mk c80
             clear c80
             obtain ⟨y295, hy295⟩ : ∃ y_ : List Int, y_ = (x7_2 ++ x9_1) := ⟨_, rfl⟩
             replace H : (if 1 ≤ (x10_1.length : Int) then ((some (x10_1.drop 1 : List Int)).bind fun y298 => (if y295.length + y298.length < 35184372088832 then ((shacklelaw07_four.f k2 (y295 ++ y298)).bind fun t305 => (some t305)) else (none))) else (none)) = some r := by first | (rw [hy295]; with_reducible exact H) | (have H2_ := (Option.bind_some _ _).symm.trans H; rw [hy295]; with_reducible exact H2_) | (have H2_ := (Option.bind_some _ _).symm.trans H; with_reducible exact H2_) | with_reducible exact H | (rw [hy295]; exact H) | exact H
             have Ny295 := Aside0.mk hy295
             clear hy295
             by_cases c81 : 1 ≤ (x10_1.length : Int)
             ·rw [if_pos c81] at H
              have c81b0 := eq_true c81
              have c81b1 : decide (1 ≤ (x10_1.length : Int)) = true := decide_eq_true c81
              clear c81
              obtain ⟨y298, hy298⟩ : ∃ y_ : List Int, y_ = (x10_1.drop 1) := ⟨_, rfl⟩
              replace H : (if y295.length + y298.length < 35184372088832 then ((shacklelaw07_four.f k2 (y295 ++ y298)).bind fun t305 => (some t305)) else (none)) = some r := by first | (rw [hy298]; with_reducible exact H) | (have H2_ := (Option.bind_some _ _).symm.trans H; rw [hy298]; with_reducible exact H2_) | (have H2_ := (Option.bind_some _ _).symm.trans H; with_reducible exact H2_) | with_reducible exact H | (rw [hy298]; exact H) | exact H
              have Ny298 := Aside0.mk hy298
              clear hy298
              by_cases c82 : y295.length + y298.length < 35184372088832
              ·rw [if_pos c82] at H
               have LMc82 := Aside0.mk c82
               clear c82
               obtain ⟨y302, hy302⟩ : ∃ y_ : List Int, y_ = (y295 ++ y298) := ⟨_, rfl⟩
               replace H : ((shacklelaw07_four.f k2 y302).bind fun t305 => (some t305)) = some r := by first | (rw [hy302]; with_reducible exact H) | (have H2_ := (Option.bind_some _ _).symm.trans H; rw [hy302]; with_reducible exact H2_) | (have H2_ := (Option.bind_some _ _).symm.trans H; with_reducible exact H2_) | with_reducible exact H | (rw [hy302]; exact H) | exact H
               have Ny302 := Aside0.mk hy302
               clear hy302
               replace H := Option.bind_eq_some_iff.mp H
               obtain ⟨t305, A830, H⟩ := H
               replace H : (some t305) = some r := H
               have A83 := Aside0.mk A830
               clear A830
               obtain rfl := Option.some.inj H
               obtain ⟨Ao85, co85, eo85⟩ := Kd.R_slice HO_9.out
               subst eo85
               go_wp2_with (first | ((with_reducible refine gate_builtin (b := .append) (xs := #[.tmp 119, .tmp 120]) rfl ?_); at_builtin; refine Kd.R_append_rows (Kd.int .u32) (w0 := w) w.heap.size rfl (.tmp 119) (.tmp 120) 83 26 (.int .u32 0) 4 rfl Try.underlying83 info26 rfl (by decide) (by omega) u7 x7_2 x9_1 _ _ _ (fun k_ => some k_ ≠ (.slice Ao85 x9_1.length co85 : Value).ownBlock ∧ some k_ ≠ (v272 : Value).ownBlock) (fun _ => False) rfl rfl ?aO ?aR (fun _ _ h => h) (fun _ h => h.elim) ?aF ?aB ?aS ?aL ?_; (case aR => repeat (first | exact (Kd.R_reads' HO_9.out).2.2 | (with_reducible refine Kd.C_alloc ?_ _) | (with_reducible refine Kd.C_drewN ?_ _) | (with_reducible refine Kd.C_drew ?_))); (case aB => exact (by repeat (first | (with_reducible first | exact HB.out | apply below_alloc | apply pw_below_drewN | apply below_drew1) | exact HB.out))); (case aF => exact (fun k_ hk => ⟨Kd.fresh' (Kd.R_lt (by (with_reducible repeat (first | apply Kd.R_alloc | apply Kd.R_drewN | apply Kd.R_drew)); exact HO_9.out)) k_ hk, Kd.fresh' (Kd.R_lt (by (with_reducible repeat (first | apply Kd.R_alloc | apply Kd.R_drewN | apply Kd.R_drew)); exact HO_10.out)) k_ hk⟩)); (case aO => exact (by (with_reducible repeat (first | apply Kd.R_alloc | apply Kd.R_drewN | apply Kd.R_drew)); exact HO_7.out)); (case aS => exact (below_size (by repeat (first | (with_reducible first | exact HB.out | apply below_alloc | apply pw_below_drewN | apply below_drew1) | exact HB.out)))); (case aL => have := LMc80.out; omega); intro v296 w84 ho hb hg hat; rw [← Ny295.out] at ho; have n0_ := Aside0.mk (Kd.R_over' (by (with_reducible repeat (first | apply Kd.R_alloc | apply Kd.R_drewN | apply Kd.R_drew)); exact HO_8.out) (Kd.R_typed (by (with_reducible repeat (first | apply Kd.R_alloc | apply Kd.R_drewN | apply Kd.R_drew)); exact HO_7.out)) (by decide) hg); have n1_ := Aside0.mk (Kd.R_after (ok := (fun k_ => some k_ ≠ (v272 : Value).ownBlock)) (by (with_reducible repeat (first | apply Kd.R_alloc | apply Kd.R_drewN | apply Kd.R_drew)); exact Kd.R_mono HO_9.out (fun _ hk => ⟨hk.2, hk.1⟩)) hg hat); have n2_ := Aside0.mk (Kd.R_after (ok := (fun k_ => some k_ ≠ (.slice Ao85 x9_1.length co85 : Value).ownBlock)) (by (with_reducible repeat (first | apply Kd.R_alloc | apply Kd.R_drewN | apply Kd.R_drew)); exact Kd.R_mono HO_10.out (fun _ hk => ⟨hk.2, hk.1⟩)) hg hat); have n3_ := Aside0.mk (hb); have n4_ := Aside0.mk (ho); clear HO_8; clear HO_9; clear HO_10; clear HB; clear HO_7; have HO_8 := n0_; have HO_9 := n1_; have HO_10 := n2_; have HB := n3_; have HO297 := n4_; clear n0_ n1_ n2_ n3_ n4_; clear ho hb hg hat; obtain ⟨Ao87, co87, eo87⟩ := Kd.R_slice HO_10.out; subst eo87; have q86 : (1 : Int) ≤ ((x10_1.length : Int) : Int) := of_decide_eq_true (by assumption); obtain ⟨i086, hi086, _, hsz86, _⟩ := info_parts info26; have hroom86 : x10_1.length ≤ co87 := (Kd.R_reads' HO_10.out).2.1; have hC86 : Kd.C (Kd.int .u32) _ Ao87 x10_1.length x10_1 := (Kd.R_reads' HO_10.out).2.2; have hcut86 := cut_from (P := Try.prog) 83 26 .i64 Try.underlying83 hi086 1 hsz86 Ao87 x10_1.length co87 1 (by omega) q86; have hr86 := Kd.C_drop (m := (1 : Int).toNat) (c := co87) hC86 (by omega) hroom86; obtain ⟨A86, hA86⟩ : ∃ A1, A1 = (if co87 = (1 : Int).toNat then Ao87 else (Ao87 : Option Addr).map (·.add ((1 : Int).toNat * 1))) := ⟨_, rfl⟩; obtain ⟨c86, hc86⟩ : ∃ c1, c1 = co87 - (1 : Int).toNat := ⟨_, rfl⟩; have hy86 : y298.length = x10_1.length - (1 : Int).toNat := (by rw [Ny298.out, List.length_drop] <;> omega); rw [show (x10_1).drop (1 : Int).toNat = y298 from Ny298.out.symm] at hr86; replace hr86 : Kd.C (Kd.int .u32) _ A86 y298.length y298 := (by rw [hA86]; exact hr86); rw [← hy86, ← hA86, ← hc86] at hcut86; have HR301 := Aside0.mk hr86; have HC301 := Aside0.mk (show y298.length ≤ c86 from by rw [hy86, hc86]; exact Nat.sub_le_sub_right hroom86 _); clear hr86 hC86 hroom86 hi086 hsz86 hc86; have KY86 := Aside0.mk hy86; have KA86 := Aside0.mk hA86; clear hy86 hA86; have KL86 := Aside0.mk (show 1 ≤ x10_1.length from by omega); replace q86 := eq_true q86) | ((with_reducible refine gate_builtin (b := .append) (xs := #[.tmp 122, .tmp 124]) rfl ?_); at_builtin; refine Kd.R_append_rows (Kd.int .u32) (w0 := w) w.heap.size rfl (.tmp 122) (.tmp 124) 83 26 (.int .u32 0) 4 rfl Try.underlying83 info26 rfl (by decide) (by omega) v296 y295 y298 _ _ _ (fun k_ => some k_ ≠ (.slice Ao85 x9_1.length co85 : Value).ownBlock ∧ some k_ ≠ (.slice Ao87 x10_1.length co87 : Value).ownBlock) (fun _ => False) rfl rfl ?aO ?aR (fun _ _ h => h) (fun _ h => h.elim) ?aF ?aB ?aS ?aL ?_; (case aR => repeat (first | exact (by repeat (first | (with_reducible exact HR301.out) | (with_reducible refine Kd.C_alloc ?_ _) | (with_reducible refine Kd.C_drewN ?_ _) | (with_reducible refine Kd.C_drew ?_) | exact HR301.out)) | (with_reducible refine Kd.C_alloc ?_ _) | (with_reducible refine Kd.C_drewN ?_ _) | (with_reducible refine Kd.C_drew ?_))); (case aB => exact (by repeat (first | (with_reducible first | exact HB.out | apply below_alloc | apply pw_below_drewN | apply below_drew1) | exact HB.out))); (case aF => exact (fun k_ hk => ⟨Kd.fresh' (Kd.R_lt (by (with_reducible repeat (first | apply Kd.R_alloc | apply Kd.R_drewN | apply Kd.R_drew)); exact HO_9.out)) k_ hk, Kd.fresh' (Kd.R_lt (by (with_reducible repeat (first | apply Kd.R_alloc | apply Kd.R_drewN | apply Kd.R_drew)); exact HO_10.out)) k_ hk⟩)); (case aO => exact (by (with_reducible repeat (first | apply Kd.R_alloc | apply Kd.R_drewN | apply Kd.R_drew)); exact HO297.out)); (case aS => exact (below_size (by repeat (first | (with_reducible first | exact HB.out | apply below_alloc | apply pw_below_drewN | apply below_drew1) | exact HB.out)))); (case aL => have := LMc82.out; omega); intro v303 w88 ho hb hg hat; rw [← Ny302.out] at ho; have n0_ := Aside0.mk (Kd.R_over' (by (with_reducible repeat (first | apply Kd.R_alloc | apply Kd.R_drewN | apply Kd.R_drew)); exact HO_8.out) (Kd.R_typed (by (with_reducible repeat (first | apply Kd.R_alloc | apply Kd.R_drewN | apply Kd.R_drew)); exact HO297.out)) (by decide) hg); have n1_ := Aside0.mk (Kd.R_after (ok := (fun k_ => some k_ ≠ (.slice Ao87 x10_1.length co87 : Value).ownBlock)) (by (with_reducible repeat (first | apply Kd.R_alloc | apply Kd.R_drewN | apply Kd.R_drew)); exact HO_9.out) hg hat); have n2_ := Aside0.mk (Kd.R_after (ok := (fun k_ => some k_ ≠ (.slice Ao85 x9_1.length co85 : Value).ownBlock)) (by (with_reducible repeat (first | apply Kd.R_alloc | apply Kd.R_drewN | apply Kd.R_drew)); exact HO_10.out) hg hat); have n3_ := Aside0.mk (hb); have n4_ := Aside0.mk ((show Kd.C (Kd.int .u32) w88 A86 y298.length y298 from by rw [Ny298.out, KA86.out]; exact Kd.C_drop (m := 1) (c := co87) ((Kd.R_reads' (Kd.R_after (ok := (fun k_ => some k_ ≠ (.slice Ao85 x9_1.length co85 : Value).ownBlock)) (by (with_reducible repeat (first | apply Kd.R_alloc | apply Kd.R_drewN | apply Kd.R_drew)); exact HO_10.out) hg hat)).2.2) KL86.out ((Kd.R_reads' (Kd.R_after (ok := (fun k_ => some k_ ≠ (.slice Ao85 x9_1.length co85 : Value).ownBlock)) (by (with_reducible repeat (first | apply Kd.R_alloc | apply Kd.R_drewN | apply Kd.R_drew)); exact HO_10.out) hg hat)).2.1))); have n5_ := Aside0.mk (ho); clear HO_8; clear HO_9; clear HO_10; clear HB; clear HR301; clear HO297; have HO_8 := n0_; have HO_9 := n1_; have HO_10 := n2_; have HB := n3_; have HR301 := n4_; have HO304 := n5_; clear n0_ n1_ n2_ n3_ n4_ n5_; clear ho hb hg hat; obtain ⟨Ao89, co89, eo89⟩ := Kd.R_slice HO304.out; subst eo89) | ((with_reducible refine gate_callee (f := 29) rfl ?_); refine goesL_ (some 126) rfl rfl Try.func29 (by kernel_rfl) rfl #[.slice Ao89 y302.length co89] rfl (by (try simp only [List.map_toArray, List.map_cons, List.map_nil]); first | done | rfl | (simp only [List.length_drop, List.length_take]; rfl)) ?_; (with_reducible refine (shacklelaw07_four.calls k2 _ _ y302 t305 _ ?side1 ?side2 A83.out).mono ?_); (case side1 => repeat (first | exact (Kd.R_reads' HO304.out).2.2 | (with_reducible refine Kd.C_alloc ?_ _) | (with_reducible refine Kd.C_drewN ?_ _) | (with_reducible refine Kd.C_drew ?_))); (case side2 => exact (Kd.R_reads' HO304.out).2.1); rintro e w90 ⟨v306, rfl, ho0, hb⟩; refine ⟨_, rfl, ?_⟩; have n0_ := Aside0.mk (Kd.R_below (by (with_reducible repeat (first | apply Kd.R_alloc | apply Kd.R_drewN | apply Kd.R_drew)); exact HO_8.out) hb); have n1_ := Aside0.mk (Kd.R_below (by (with_reducible repeat (first | apply Kd.R_alloc | apply Kd.R_drewN | apply Kd.R_drew)); exact HO_9.out) hb); have n2_ := Aside0.mk (Kd.R_below (by (with_reducible repeat (first | apply Kd.R_alloc | apply Kd.R_drewN | apply Kd.R_drew)); exact HO_10.out) hb); have n3_ := Aside0.mk (Kd.R_below (by (with_reducible repeat (first | apply Kd.R_alloc | apply Kd.R_drewN | apply Kd.R_drew)); exact HO304.out) hb); have n4_ := Aside0.mk (Kd.R_lower ho0 (below_size (by repeat (first | (with_reducible first | exact HB.out | apply below_alloc | apply pw_below_drewN | apply below_drew1) | exact HB.out)))); have n5_ := Aside0.mk (Kd.C_below (by repeat (first | (with_reducible exact HR301.out) | (with_reducible refine Kd.C_alloc ?_ _) | (with_reducible refine Kd.C_drewN ?_ _) | (with_reducible refine Kd.C_drew ?_) | exact HR301.out)) hb); have n6_ := Aside0.mk (below_step (by repeat (first | (with_reducible first | exact HB.out | apply below_alloc | apply pw_below_drewN | apply below_drew1) | exact HB.out)) hb); clear HO_8; clear HO_9; clear HO_10; clear HO304; clear HR301; clear HB; have HO_8 := n0_; have HO_9 := n1_; have HO_10 := n2_; have HO304 := n3_; have HO307 := n4_; have HR301 := n5_; have HB := n6_; clear n0_ n1_ n2_ n3_ n4_ n5_ n6_; (try clear hb); (try clear hb2); (try clear hk); (try clear hi); (try clear ho0)))
               go_ret
               exact ⟨_, by first | rfl | (simp [errW_none, errW_some] <;> rfl) | (simp [*, errW_none, errW_some] <;> rfl), by (with_reducible repeat (first | apply Kd.R_alloc | apply Kd.R_drewN | apply Kd.R_drew)); exact HO307.out, by repeat (first | (with_reducible first | exact HB.out | apply below_alloc | apply pw_below_drewN | apply below_drew1) | exact HB.out)⟩
              ·rw [if_neg c82] at H
               exact absurd H (by simp)
             ·rw [if_neg c81] at H
              exact absurd H (by simp)
            ·rw [if_neg c80] at H
             exact absurd H (by simp)
     ·rw [if_neg c8] at H
      exact absurd H (by simp)
    ·rw [if_neg c7] at H
     exact absurd H (by simp)
   ·rw [if_neg c6] at H
    exact absurd H (by simp)
  ·rw [if_neg c5] at H
   exact absurd H (by simp)
 ·rw [if_neg c4] at H
  exact absurd H (by simp)

end Go.Proofs.Ythopdoamajjojaa.QHashB
