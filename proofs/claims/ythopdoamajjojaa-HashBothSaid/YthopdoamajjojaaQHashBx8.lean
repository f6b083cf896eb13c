-- Laid by wip/hook.py (this session's own program) out of the translation; with contracts that were written by hand.
import Derived.Test.YthopdoamajjojaaQHashBx0
import Derived.Test.YthopdoamajjojaaQHashBx1
import Derived.Test.YthopdoamajjojaaQHashBx4
import Derived.Test.YthopdoamajjojaaQHashBx6
import Derived.Test.YthopdoamajjojaaQHashBx7
namespace Go.Proofs.Ythopdoamajjojaa.QHashB
open Go.RowKit Go.Proofs.YthopdoamajjojaaW.PrintWords Go.Proofs.YthopdoamajjojaaW.PrintLast Go.Proofs.YthopdoamajjojaaW.PrintMore
attribute [local go_sem] max2_int min2_int max_two min_two max_three min_three max_four min_four   -- for this text's walks alone
set_option linter.unusedVariables false
set_option linter.unusedSimpArgs false

/-! ### shacklelaw07_HashBoth: function 4 -/
mutual
def shacklelaw07_HashBoth.l0 : Nat → List ByteArray → ByteArray → Bool → Int → Int → List ByteArray → Int → Option (Bool)
 | 0, _, _, _, _, _, _, _ => none
 | k + 1, x0, x3, x9, x10, x11, x12, x13 => if x13 < x10 then (shacklelaw07_HashBoth.l1 k x0 x3 x9 x10 x11 x12 x13 0) else (if (x12.length : Int) = (wrap64 ((x0.length : Int) + 1)) then ((shacklelaw07_second.f k x12 x10 x11).bind fun t318 => (if 0 ≤ (x12.length : Int) then (if ((x12.length : Int) : Int).toNat ≤ 4398046511104 then (shacklelaw07_HashBoth.l2 k x3 x9 x12 t318 (List.replicate ((x12.length : Int) : Int).toNat z39) ([] : List Int) 0 0 0 (([(⟨1, 0, 0, 256, IntKind.u64.wrap ((t318.length : Int)), 0, 0⟩ : S29)] : List (S29)))) else (none)) else (none))) else (none))
def shacklelaw07_HashBoth.l1 : Nat → List ByteArray → ByteArray → Bool → Int → Int → List ByteArray → Int → Int → Option (Bool)
 | 0, _, _, _, _, _, _, _, _ => none
 | k + 1, x0, x3, x9, x10, x11, x12, x13, x14 => if x14 < (x0.length : Int) then (if 0 ≤ x14 then ((hash_Gnu.f k (rdOf ByteArray.empty x0 x14)).bind fun t313 => (if x10 = 0 then (none) else (if (Int.tmod t313 x10) = x13 then (if x12.length < 8796093022208 then (shacklelaw07_HashBoth.l1 k x0 x3 x9 x10 x11 (x12 ++ [rdOf ByteArray.empty x0 x14]) x13 (wrap64 (x14 + 1))) else (none)) else (shacklelaw07_HashBoth.l1 k x0 x3 x9 x10 x11 x12 x13 (wrap64 (x14 + 1)))))) else (none)) else (shacklelaw07_HashBoth.l0 k x0 x3 x9 x10 x11 x12 ((x13 + 1) % 4294967296))
def shacklelaw07_HashBoth.l2 : Nat → ByteArray → Bool → List ByteArray → List Int → List (S39) → List Int → Int → Int → Int → List (S29) → Option (Bool)
 | 0, _, _, _, _, _, _, _, _, _, _ => none
 | k + 1, x3, x9, x12, x15, x18, x19, x20, x325000, x325001, x325002 => if x20 < (x12.length : Int) then (if 0 ≤ x20 then (if x20 < (x18.length : Int) then ((some (x18.set (x20 : Int).toNat (⟨rdOf ByteArray.empty x12 x20, (rd_T39 x18 x20).f1, (rd_T39 x18 x20).f2, (rd_T39 x18 x20).f3, (rd_T39 x18 x20).f4, (rd_T39 x18 x20).f5, (rd_T39 x18 x20).f6⟩ : S39) : List (S39))).bind fun y330 => (if x20 > 0 then (if (rdOf ByteArray.empty x12 x20).toList = x3.toList then (if x19.length < 17592186044416 then (shacklelaw07_HashBoth.l2 k x3 x9 x12 x15 y330 (x19 ++ [x20]) (wrap64 (x20 + 1)) x325000 x325001 x325002) else (none)) else (shacklelaw07_HashBoth.l2 k x3 x9 x12 x15 y330 x19 (wrap64 (x20 + 1)) x325000 x325001 x325002)) else (shacklelaw07_HashBoth.l2 k x3 x9 x12 x15 y330 x19 (wrap64 (x20 + 1)) x325000 x325001 x325002))) else (none)) else (none)) else ((hash_Count.f k x15 x325000 x325001 x325002 ([] : List Int) 0 0 0 0 0 0 0 0 0 0 0 0 0 false false false 0 0 0 0 0 0 0 0 256 0 0 0 0 0 0 false false false false false).bind fun bt335 => ((hash_Look.f k x15 x325000 x325001 x325002 ([] : List Int) 0 0 0 0 0 0 0 0 0 0 0 0 0 false false false 0 0 0 0 0 0 0 0 256 0 0 0 0 0 0 false false false false false x18 x3).bind fun bt337 => ((shackleref07_Same.f k bt337.1 x19).bind fun t341 => (if x9 = true then (if bt335.2.isNone = true then (if bt337.2.isNone = true then (if bt335.1 = (x12.length : Int) then (some t341) else (none)) else (none)) else (none)) else (none)))))
end
def shacklelaw07_HashBoth.f (k : Nat) (l0 : List ByteArray) (a1 : Int) (a2 : Int) (a3 : ByteArray) : Option (Bool) := (shacklelaw07_up.f k).bind fun t308 => (if (l0.length : Int) > 200 then (some t308) else (shacklelaw07_HashBoth.l0 k l0 a3 t308 ((wrap64 (1 + (Int.tmod (wrap64 ((Int.tmod a1 16) + 16)) 16))) % 4294967296) ((Int.tmod (wrap64 ((Int.tmod a2 32) + 32)) 32) % 4294967296) (([(⟨#[]⟩ : ByteArray)] : List ByteArray)) 0))
theorem shacklelaw07_HashBoth.mono_l : ∀ k, (∀ y0 y1 y2 y3 y4 y5 y6, LeO (shacklelaw07_HashBoth.l0 k y0 y1 y2 y3 y4 y5 y6) (shacklelaw07_HashBoth.l0 (k + 1) y0 y1 y2 y3 y4 y5 y6)) ∧ (∀ y0 y1 y2 y3 y4 y5 y6 y7, LeO (shacklelaw07_HashBoth.l1 k y0 y1 y2 y3 y4 y5 y6 y7) (shacklelaw07_HashBoth.l1 (k + 1) y0 y1 y2 y3 y4 y5 y6 y7)) ∧ (∀ y0 y1 y2 y3 y4 y5 y6 y7 y8 y9, LeO (shacklelaw07_HashBoth.l2 k y0 y1 y2 y3 y4 y5 y6 y7 y8 y9) (shacklelaw07_HashBoth.l2 (k + 1) y0 y1 y2 y3 y4 y5 y6 y7 y8 y9))
 | 0 => ⟨fun _ _ _ _ _ _ _ r h => by simp [shacklelaw07_HashBoth.l0] at h, fun _ _ _ _ _ _ _ _ r h => by simp [shacklelaw07_HashBoth.l1] at h, fun _ _ _ _ _ _ _ _ _ _ r h => by simp [shacklelaw07_HashBoth.l2] at h⟩
 | k + 1 => by
  obtain ⟨ih0, ih1, ih2⟩ := shacklelaw07_HashBoth.mono_l k
  refine ⟨?_, ?_, ?_⟩
  ·intro y0 y1 y2 y3 y4 y5 y6
   unfold shacklelaw07_HashBoth.l0
   repeat' first
   | (with_reducible exact ih0 _ _ _ _ _ _ _)
   | (with_reducible exact ih1 _ _ _ _ _ _ _ _)
   | (with_reducible exact ih2 _ _ _ _ _ _ _ _ _ _)
   | (with_reducible exact hash_Count.mono _ _ _ _ _ _ _ _ _ _ _ _ _ _ _ _ _ _ _ _ _ _ _ _ _ _ _ _ _ _ _ _ _ _ _ _ _ _ _ _ _ _)
   | (with_reducible exact hash_Gnu.mono _ _)
   | (with_reducible exact hash_Look.mono _ _ _ _ _ _ _ _ _ _ _ _ _ _ _ _ _ _ _ _ _ _ _ _ _ _ _ _ _ _ _ _ _ _ _ _ _ _ _ _ _ _ _ _)
   | (with_reducible exact shacklelaw07_second.mono _ _ _ _)
   | (with_reducible exact shacklelaw07_up.mono _)
   | (with_reducible exact shackleref07_Same.mono _ _ _)
   | (with_reducible exact LeO.refl _)
   | (with_reducible exact LeO.none _)
   | (with_reducible refine LeO.ite ?_ ?_)
   | (with_reducible refine LeO.bind ?_ (fun _ => ?_))
   | exact ih0 _ _ _ _ _ _ _
   | exact ih1 _ _ _ _ _ _ _ _
   | exact ih2 _ _ _ _ _ _ _ _ _ _
   | exact hash_Count.mono _ _ _ _ _ _ _ _ _ _ _ _ _ _ _ _ _ _ _ _ _ _ _ _ _ _ _ _ _ _ _ _ _ _ _ _ _ _ _ _ _ _
   | exact hash_Gnu.mono _ _
   | exact hash_Look.mono _ _ _ _ _ _ _ _ _ _ _ _ _ _ _ _ _ _ _ _ _ _ _ _ _ _ _ _ _ _ _ _ _ _ _ _ _ _ _ _ _ _ _ _
   | exact shacklelaw07_second.mono _ _ _ _
   | exact shacklelaw07_up.mono _
   | exact shackleref07_Same.mono _ _ _
   | exact LeO.none _
   | refine LeO.ite ?_ ?_
   | refine LeO.bind ?_ (fun _ => ?_)
  ·intro y0 y1 y2 y3 y4 y5 y6 y7
   unfold shacklelaw07_HashBoth.l1
   repeat' first
   | (with_reducible exact ih0 _ _ _ _ _ _ _)
   | (with_reducible exact ih1 _ _ _ _ _ _ _ _)
   | (with_reducible exact ih2 _ _ _ _ _ _ _ _ _ _)
   | (with_reducible exact hash_Count.mono _ _ _ _ _ _ _ _ _ _ _ _ _ _ _ _ _ _ _ _ _ _ _ _ _ _ _ _ _ _ _ _ _ _ _ _ _ _ _ _ _ _)
   | (with_reducible exact hash_Gnu.mono _ _)
   | (with_reducible exact hash_Look.mono _ _ _ _ _ _ _ _ _ _ _ _ _ _ _ _ _ _ _ _ _ _ _ _ _ _ _ _ _ _ _ _ _ _ _ _ _ _ _ _ _ _ _ _)
   | (with_reducible exact shacklelaw07_second.mono _ _ _ _)
   | (with_reducible exact shacklelaw07_up.mono _)
   | (with_reducible exact shackleref07_Same.mono _ _ _)
   | (with_reducible exact LeO.refl _)
   | (with_reducible exact LeO.none _)
   | (with_reducible refine LeO.ite ?_ ?_)
   | (with_reducible refine LeO.bind ?_ (fun _ => ?_))
   | exact ih0 _ _ _ _ _ _ _
   | exact ih1 _ _ _ _ _ _ _ _
   | exact ih2 _ _ _ _ _ _ _ _ _ _
   | exact hash_Count.mono _ _ _ _ _ _ _ _ _ _ _ _ _ _ _ _ _ _ _ _ _ _ _ _ _ _ _ _ _ _ _ _ _ _ _ _ _ _ _ _ _ _
   | exact hash_Gnu.mono _ _
   | exact hash_Look.mono _ _ _ _ _ _ _ _ _ _ _ _ _ _ _ _ _ _ _ _ _ _ _ _ _ _ _ _ _ _ _ _ _ _ _ _ _ _ _ _ _ _ _ _
   | exact shacklelaw07_second.mono _ _ _ _
   | exact shacklelaw07_up.mono _
   | exact shackleref07_Same.mono _ _ _
   | exact LeO.none _
   | refine LeO.ite ?_ ?_
   | refine LeO.bind ?_ (fun _ => ?_)
  ·intro y0 y1 y2 y3 y4 y5 y6 y7 y8 y9
   unfold shacklelaw07_HashBoth.l2
   repeat' first
   | (with_reducible exact ih0 _ _ _ _ _ _ _)
   | (with_reducible exact ih1 _ _ _ _ _ _ _ _)
   | (with_reducible exact ih2 _ _ _ _ _ _ _ _ _ _)
   | (with_reducible exact hash_Count.mono _ _ _ _ _ _ _ _ _ _ _ _ _ _ _ _ _ _ _ _ _ _ _ _ _ _ _ _ _ _ _ _ _ _ _ _ _ _ _ _ _ _)
   | (with_reducible exact hash_Gnu.mono _ _)
   | (with_reducible exact hash_Look.mono _ _ _ _ _ _ _ _ _ _ _ _ _ _ _ _ _ _ _ _ _ _ _ _ _ _ _ _ _ _ _ _ _ _ _ _ _ _ _ _ _ _ _ _)
   | (with_reducible exact shacklelaw07_second.mono _ _ _ _)
   | (with_reducible exact shacklelaw07_up.mono _)
   | (with_reducible exact shackleref07_Same.mono _ _ _)
   | (with_reducible exact LeO.refl _)
   | (with_reducible exact LeO.none _)
   | (with_reducible refine LeO.ite ?_ ?_)
   | (with_reducible refine LeO.bind ?_ (fun _ => ?_))
   | exact ih0 _ _ _ _ _ _ _
   | exact ih1 _ _ _ _ _ _ _ _
   | exact ih2 _ _ _ _ _ _ _ _ _ _
   | exact hash_Count.mono _ _ _ _ _ _ _ _ _ _ _ _ _ _ _ _ _ _ _ _ _ _ _ _ _ _ _ _ _ _ _ _ _ _ _ _ _ _ _ _ _ _
   | exact hash_Gnu.mono _ _
   | exact hash_Look.mono _ _ _ _ _ _ _ _ _ _ _ _ _ _ _ _ _ _ _ _ _ _ _ _ _ _ _ _ _ _ _ _ _ _ _ _ _ _ _ _ _ _ _ _
   | exact shacklelaw07_second.mono _ _ _ _
   | exact shacklelaw07_up.mono _
   | exact shackleref07_Same.mono _ _ _
   | exact LeO.none _
   | refine LeO.ite ?_ ?_
   | refine LeO.bind ?_ (fun _ => ?_)
theorem shacklelaw07_HashBoth.mono : ∀ a0 a1 a2 a3 k, LeO (shacklelaw07_HashBoth.f k a0 a1 a2 a3) (shacklelaw07_HashBoth.f (k + 1) a0 a1 a2 a3) := by
 intro a0 a1 a2 a3 k
 obtain ⟨ih0, ih1, ih2⟩ := shacklelaw07_HashBoth.mono_l k
 unfold shacklelaw07_HashBoth.f
 repeat' first
   | (with_reducible exact ih0 _ _ _ _ _ _ _)
   | (with_reducible exact ih1 _ _ _ _ _ _ _ _)
   | (with_reducible exact ih2 _ _ _ _ _ _ _ _ _ _)
   | (with_reducible exact hash_Count.mono _ _ _ _ _ _ _ _ _ _ _ _ _ _ _ _ _ _ _ _ _ _ _ _ _ _ _ _ _ _ _ _ _ _ _ _ _ _ _ _ _ _)
   | (with_reducible exact hash_Gnu.mono _ _)
   | (with_reducible exact hash_Look.mono _ _ _ _ _ _ _ _ _ _ _ _ _ _ _ _ _ _ _ _ _ _ _ _ _ _ _ _ _ _ _ _ _ _ _ _ _ _ _ _ _ _ _ _)
   | (with_reducible exact shacklelaw07_second.mono _ _ _ _)
   | (with_reducible exact shacklelaw07_up.mono _)
   | (with_reducible exact shackleref07_Same.mono _ _ _)
   | (with_reducible exact LeO.refl _)
   | (with_reducible exact LeO.none _)
   | (with_reducible refine LeO.ite ?_ ?_)
   | (with_reducible refine LeO.bind ?_ (fun _ => ?_))
   | exact ih0 _ _ _ _ _ _ _
   | exact ih1 _ _ _ _ _ _ _ _
   | exact ih2 _ _ _ _ _ _ _ _ _ _
   | exact hash_Count.mono _ _ _ _ _ _ _ _ _ _ _ _ _ _ _ _ _ _ _ _ _ _ _ _ _ _ _ _ _ _ _ _ _ _ _ _ _ _ _ _ _ _
   | exact hash_Gnu.mono _ _
   | exact hash_Look.mono _ _ _ _ _ _ _ _ _ _ _ _ _ _ _ _ _ _ _ _ _ _ _ _ _ _ _ _ _ _ _ _ _ _ _ _ _ _ _ _ _ _ _ _
   | exact shacklelaw07_second.mono _ _ _ _
   | exact shacklelaw07_up.mono _
   | exact shackleref07_Same.mono _ _ _
   | exact LeO.none _
   | refine LeO.ite ?_ ?_
   | refine LeO.bind ?_ (fun _ => ?_)
set_option maxHeartbeats 8000000 in
set_option maxRecDepth 100000 in
theorem shacklelaw07_HashBoth.calls (k : Nat) (A0 : Option Addr) (c0 : Nat) (l0 : List ByteArray) (a1 : Int) (a2 : Int) (a3 : ByteArray) (r : Bool) (w : World) (hr0 : Kd.C Kd.string w A0 l0.length l0) (hc0 : l0.length ≤ c0) (h : shacklelaw07_HashBoth.f k l0 a1 a2 a3 = some r) :
  Calls Try.prog 4 #[.slice A0 l0.length c0, .int .i64 a1, .int .i64 a2, .string a3] w fun e w' => e = .returned (.bool r) ∧ Below w.heap.size w w' := by
 have hu29 := Try.underlying29
 have hu32 := Try.underlying32
 have hu35 := Try.underlying35
 have hu41 := Try.underlying41
 have hu97 := Try.underlying97
 have HR0 := Aside0.mk hr0
 have HC0 := Aside0.mk hc0
 clear hr0 hc0
 have HB := Aside0.mk (Below.refl w.heap.size w)
 have H : ((shacklelaw07_up.f k).bind fun t308 => (if (l0.length : Int) > 200 then (some t308) else (shacklelaw07_HashBoth.l0 k l0 a3 t308 ((wrap64 (1 + (Int.tmod (wrap64 ((Int.tmod a1 16) + 16)) 16))) % 4294967296) ((Int.tmod (wrap64 ((Int.tmod a2 32) + 32)) 32) % 4294967296) (([(⟨#[]⟩ : ByteArray)] : List ByteArray)) 0))) = some r := h
 clear h
 replace H := Option.bind_eq_some_iff.mp H
 obtain ⟨t308, A50, H⟩ := H
 replace H : (if (l0.length : Int) > 200 then (some t308) else (shacklelaw07_HashBoth.l0 k l0 a3 t308 ((wrap64 (1 + (Int.tmod (wrap64 ((Int.tmod a1 16) + 16)) 16))) % 4294967296) ((Int.tmod (wrap64 ((Int.tmod a2 32) + 32)) 32) % 4294967296) (([(⟨#[]⟩ : ByteArray)] : List ByteArray)) 0)) = some r := H
 have A5 := Aside0.mk A50
 clear A50
 by_cases c6 : (l0.length : Int) > 200
 ·rw [if_pos c6] at H
  have c6b0 : decide (200 < (l0.length : Int)) = true := decide_eq_true c6
  have c6b1 : decide (200 < l0.length) = true := decide_eq_true (by omega)
  clear c6
  obtain rfl := Option.some.inj H
  go_enter Try.func4, Try.ntmps4
  go_wp2_with (first | ((with_reducible refine gate_ (.load 35 (.tmp 17)) rfl ?_); refine wpList_load_row rfl 35 (.tmp 17) rfl gb325 rfl 35 _ (0, 0) _ (by (with_reducible repeat (first | refine blk_drewN ?_ _ | refine blk_drew ?_ | refine blk_alloc ?_ _)); exact BK325.out) Try.underlying35 rfl (by kernel_rfl) ?_) | ((with_reducible refine gate_callee (f := 10) rfl ?_); refine goesL_ (some 26) rfl rfl Try.func10 (by kernel_rfl) rfl #[] rfl (by (try simp only [List.map_toArray, List.map_cons, List.map_nil]); first | done | rfl | (simp only [List.length_drop, List.length_take]; rfl)) ?_; (with_reducible refine (shacklelaw07_up.calls k  t308 _ A5.out).mono ?_); rintro e w' ⟨rfl, ⟨nd, rfl⟩⟩; refine ⟨_, rfl, ?_⟩))
  go_ret
  exact ⟨by first | rfl | (simp [errW_none, errW_some] <;> rfl) | (simp [*, errW_none, errW_some] <;> rfl), by repeat (first | (with_reducible first | exact HB.out | apply below_alloc | apply pw_below_drewN | apply below_drew1) | exact HB.out)⟩
 ·rw [if_neg c6] at H
  have c6b0 : decide (200 < (l0.length : Int)) = false := decide_eq_false c6
  have c6b1 : decide (200 < l0.length) = false := decide_eq_false (by omega)
  clear c6
  obtain ⟨y309, hy309⟩ : ∃ y_ : List ByteArray, y_ = (([(⟨#[]⟩ : ByteArray)] : List ByteArray)) := ⟨_, rfl⟩
  replace H : (shacklelaw07_HashBoth.l0 k l0 a3 t308 ((wrap64 (1 + (Int.tmod (wrap64 ((Int.tmod a1 16) + 16)) 16))) % 4294967296) ((Int.tmod (wrap64 ((Int.tmod a2 32) + 32)) 32) % 4294967296) y309 0) = some r := by first | (rw [hy309]; with_reducible exact H) | (have H2_ := (Option.bind_some _ _).symm.trans H; rw [hy309]; with_reducible exact H2_) | (have H2_ := (Option.bind_some _ _).symm.trans H; with_reducible exact H2_) | with_reducible exact H | (rw [hy309]; exact H) | exact H
  have Ny309 := Aside0.mk hy309
  clear hy309
  have H' := Aside0.mk H
  clear H
  go_enter Try.func4, Try.ntmps4
  go_wp2_with (first | ((with_reducible refine gate_ (.load 35 (.tmp 17)) rfl ?_); refine wpList_load_row rfl 35 (.tmp 17) rfl gb325 rfl 35 _ (0, 0) _ (by (with_reducible repeat (first | refine blk_drewN ?_ _ | refine blk_drew ?_ | refine blk_alloc ?_ _)); exact BK325.out) Try.underlying35 rfl (by kernel_rfl) ?_) | ((with_reducible refine gate_callee (f := 10) rfl ?_); refine goesL_ (some 26) rfl rfl Try.func10 (by kernel_rfl) rfl #[] rfl (by (try simp only [List.map_toArray, List.map_cons, List.map_nil]); first | done | rfl | (simp only [List.length_drop, List.length_take]; rfl)) ?_; (with_reducible refine (shacklelaw07_up.calls k  t308 _ A5.out).mono ?_); rintro e w' ⟨rfl, ⟨nd, rfl⟩⟩; refine ⟨_, rfl, ?_⟩) | ((with_reducible refine gate_dst (N := 42) rfl ?_); (try (refine gate_guard (by rfl) ?_; dsimp only)); refine Kd.R_lit Kd.string _ 9 ?hg (N := 42) ?hd (xs := ([(⟨#[]⟩ : ByteArray)] : List ByteArray)) (inner := [.string (⟨#[]⟩ : ByteArray)]) (ok := fun _ => True) (okp := fun _ => True) ?hr ?hp (fun _ hk => hk) trivial (Below.refl _ _) (Nat.le_refl _) (by simp) ?_; (case hd => rfl); (case hg => rfl); (case hr => first | (go_simp; done) | (go_simp; rfl)); (case hp => exact (Reps.one (show Kd.M Kd.string _ _ _ (⟨#[]⟩ : ByteArray) [.string (⟨#[]⟩ : ByteArray)] from rfl) (Reps.none _ _))); intro v310 w7 ho8 hb hg_ hnew_; clear hg_ hnew_; (first | rw [← Ny309.out] at ho8 | (simp only [Int.reduceToNat] at ho8; rw [← Ny309.out] at ho8)); have n0_ := Aside0.mk (Kd.R_lower ho8 (below_size (by repeat (first | (with_reducible first | exact HB.out | apply below_alloc | apply pw_below_drewN | apply below_drew1) | exact HB.out)))); have n1_ := Aside0.mk (below_step (by repeat (first | (with_reducible first | exact HB.out | apply below_alloc | apply pw_below_drewN | apply below_drew1) | exact HB.out)) hb); clear HB; have HO311 := n0_; have HB := n1_; clear n0_ n1_; clear hb ho8))
  go_loopg [12, 13] k (fun kq v12 v13 w' => ∃ (x12_1 : List ByteArray) (x13_1 : Int), v13 = .int .u32 x13_1 ∧ Aside0 (shacklelaw07_HashBoth.l0 kq l0 a3 t308 ((wrap64 (1 + (Int.tmod (wrap64 ((Int.tmod a1 16) + 16)) 16))) % 4294967296) ((Int.tmod (wrap64 ((Int.tmod a2 32) + 32)) 32) % 4294967296) x12_1 x13_1 = some r) ∧ Aside0 (kq ≤ k) ∧ Aside0 (Kd.R Kd.string 9 w' w.heap.size (fun _ => True) v12 x12_1) ∧ Aside0 (Below w.heap.size w w'))
  case atStart => exact ⟨(y309), (0), (by first | rfl | (simp; done) | (simp [*]; done)), H', ⟨Nat.le_refl _⟩, ⟨by (with_reducible repeat (first | apply Kd.R_alloc | apply Kd.R_drewN | apply Kd.R_drew)); exact HO311.out⟩, ⟨by repeat (first | (with_reducible first | exact HB.out | apply below_alloc | apply pw_below_drewN | apply below_drew1) | exact HB.out)⟩⟩
  case round =>
   clear H'
   try clear c1
   try clear p2
   try clear c4
   try clear c6
   try clear c6b0
   try clear c6b1
   try clear p6
   obtain ⟨x12_1, x13_1, rfl, HA, HK1, HO_12, HB⟩ := hrel
   cases gk with
   | zero => exact absurd HA.out (by simp [shacklelaw07_HashBoth.l0])
   | succ k1 =>
    have H := HA.out
    clear HA
    simp only [shacklelaw07_HashBoth.l0] at H
    by_cases c9 : x13_1 < ((wrap64 (1 + (Int.tmod (wrap64 ((Int.tmod a1 16) + 16)) 16))) % 4294967296)
    ·rw [if_pos c9] at H
     have c9b0 : decide (x13_1 < ((wrap64 (1 + (Int.tmod (wrap64 ((Int.tmod a1 16) + 16)) 16))) % 4294967296)) = true := decide_eq_true c9
     have c9b0w : decide (x13_1 < (IntKind.u32.wrap ((wrap64 (1 + (Int.tmod (wrap64 ((Int.tmod a1 16) + 16)) 16)))))) = true := by simp only [IntKind.wrap_u32]; exact c9b0
     clear c9
     have H' := Aside0.mk H
     clear H
     go_wp2
     go_loopg [12, 14] k1 (fun kq v12 v14 w' => ∃ (x12_2 : List ByteArray) (x14_2 : Int), v14 = .int .i64 x14_2 ∧ Aside0 (shacklelaw07_HashBoth.l1 kq l0 a3 t308 ((wrap64 (1 + (Int.tmod (wrap64 ((Int.tmod a1 16) + 16)) 16))) % 4294967296) ((Int.tmod (wrap64 ((Int.tmod a2 32) + 32)) 32) % 4294967296) x12_2 x13_1 x14_2 = some r) ∧ Aside0 (kq ≤ k1) ∧ Aside0 (Kd.R Kd.string 9 w' w.heap.size (fun _ => True) v12 x12_2) ∧ Aside0 (Below w.heap.size w w'))
     case atStart => exact ⟨(x12_1), (0), (by first | rfl | (simp; done) | (simp [*]; done)), H', ⟨Nat.le_refl _⟩, ⟨by (with_reducible repeat (first | apply Kd.R_alloc | apply Kd.R_drewN | apply Kd.R_drew)); exact HO_12.out⟩, ⟨by repeat (first | (with_reducible first | exact HB.out | apply below_alloc | apply pw_below_drewN | apply below_drew1) | exact HB.out)⟩⟩
     case round =>
      clear H'
      try clear c1
      try clear p2
      try clear c4
      try clear c6
      try clear c6b0
      try clear c6b1
      try clear p6
      try clear c9
      try clear c9b0
      try clear p2
      try clear p6
      obtain ⟨x12_2, x14_2, rfl, HA, HK2, HO_12, HB⟩ := hrel
      cases gk with
      | zero => exact absurd HA.out (by simp [shacklelaw07_HashBoth.l1])
      | succ k2 =>
       have H := HA.out
       clear HA
       simp only [shacklelaw07_HashBoth.l1] at H
       by_cases c10 : x14_2 < (l0.length : Int)
       ·rw [if_pos c10] at H
        have c10b0 : decide (x14_2 < (l0.length : Int)) = true := decide_eq_true c10
        clear c10
        by_cases c11 : 0 ≤ x14_2
        ·rw [if_pos c11] at H
         have c11b0 : decide (0 ≤ x14_2) = true := decide_eq_true c11
         clear c11
         replace H := Option.bind_eq_some_iff.mp H
         obtain ⟨t313, A120, H⟩ := H
         replace H : (if ((wrap64 (1 + (Int.tmod (wrap64 ((Int.tmod a1 16) + 16)) 16))) % 4294967296) = 0 then (none) else (if (Int.tmod t313 ((wrap64 (1 + (Int.tmod (wrap64 ((Int.tmod a1 16) + 16)) 16))) % 4294967296)) = x13_1 then (if x12_2.length < 8796093022208 then (shacklelaw07_HashBoth.l1 k2 l0 a3 t308 ((wrap64 (1 + (Int.tmod (wrap64 ((Int.tmod a1 16) + 16)) 16))) % 4294967296) ((Int.tmod (wrap64 ((Int.tmod a2 32) + 32)) 32) % 4294967296) (x12_2 ++ [rdOf ByteArray.empty l0 x14_2]) x13_1 (wrap64 (x14_2 + 1))) else (none)) else (shacklelaw07_HashBoth.l1 k2 l0 a3 t308 ((wrap64 (1 + (Int.tmod (wrap64 ((Int.tmod a1 16) + 16)) 16))) % 4294967296) ((Int.tmod (wrap64 ((Int.tmod a2 32) + 32)) 32) % 4294967296) x12_2 x13_1 (wrap64 (x14_2 + 1))))) = some r := H
         have A12 := Aside0.mk A120
         clear A120
         by_cases c13 : ((wrap64 (1 + (Int.tmod (wrap64 ((Int.tmod a1 16) + 16)) 16))) % 4294967296) = 0
         ·rw [if_pos c13] at H
          exact absurd H (by simp)
         ·rw [if_neg c13] at H
          have c13b0 : (((wrap64 (1 + (Int.tmod (wrap64 ((Int.tmod a1 16) + 16)) 16))) % 4294967296) == 0) = false := beq_eq_false_iff_ne.mpr c13
          have c13b0w : ((IntKind.u32.wrap ((wrap64 (1 + (Int.tmod (wrap64 ((Int.tmod a1 16) + 16)) 16))))) == 0) = false := by simp only [IntKind.wrap_u32]; exact c13b0
          have c13bp : ¬ (IntKind.u32.wrap ((wrap64 (1 + (Int.tmod (wrap64 ((Int.tmod a1 16) + 16)) 16))))) = 0 := by simp only [IntKind.wrap_u32]; exact c13
          have c13b1 : (((wrap64 (1 + (Int.tmod (wrap64 ((Int.tmod a1 16) + 16)) 16))) % 4294967296) != 0) = true := bne_iff_ne.mpr c13
          have c13b1w : ((IntKind.u32.wrap ((wrap64 (1 + (Int.tmod (wrap64 ((Int.tmod a1 16) + 16)) 16))))) != 0) = true := by simp only [IntKind.wrap_u32]; exact c13b1
          by_cases c14 : (Int.tmod t313 ((wrap64 (1 + (Int.tmod (wrap64 ((Int.tmod a1 16) + 16)) 16))) % 4294967296)) = x13_1
          ·rw [if_pos c14] at H
           have c14b0 : ((Int.tmod t313 ((wrap64 (1 + (Int.tmod (wrap64 ((Int.tmod a1 16) + 16)) 16))) % 4294967296)) == x13_1) = true := beq_iff_eq.mpr c14
           have c14b0w : ((Int.tmod t313 (IntKind.u32.wrap ((wrap64 (1 + (Int.tmod (wrap64 ((Int.tmod a1 16) + 16)) 16)))))) == x13_1) = true := by simp only [IntKind.wrap_u32]; exact c14b0
           have c14b1 : ((Int.tmod t313 ((wrap64 (1 + (Int.tmod (wrap64 ((Int.tmod a1 16) + 16)) 16))) % 4294967296)) != x13_1) = false := bne_eq_false_iff_eq.mpr c14
           have c14b1w : ((Int.tmod t313 (IntKind.u32.wrap ((wrap64 (1 + (Int.tmod (wrap64 ((Int.tmod a1 16) + 16)) 16)))))) != x13_1) = false := by simp only [IntKind.wrap_u32]; exact c14b1
           clear c14
           by_cases c15 : x12_2.length < 8796093022208
           ·rw [if_pos c15] at H
            have LMc15 := Aside0.mk c15
            clear c15
            obtain ⟨y315, hy315⟩ : ∃ y_ : List ByteArray, y_ = (x12_2 ++ [rdOf ByteArray.empty l0 x14_2]) := ⟨_, rfl⟩
            replace H : (shacklelaw07_HashBoth.l1 k2 l0 a3 t308 ((wrap64 (1 + (Int.tmod (wrap64 ((Int.tmod a1 16) + 16)) 16))) % 4294967296) ((Int.tmod (wrap64 ((Int.tmod a2 32) + 32)) 32) % 4294967296) y315 x13_1 (wrap64 (x14_2 + 1))) = some r := by first | (rw [hy315]; with_reducible exact H) | (have H2_ := (Option.bind_some _ _).symm.trans H; rw [hy315]; with_reducible exact H2_) | (have H2_ := (Option.bind_some _ _).symm.trans H; with_reducible exact H2_) | with_reducible exact H | (rw [hy315]; exact H) | exact H
            have Ny315 := Aside0.mk hy315
            clear hy315
            have H' := Aside0.mk H
            clear H
            have p312 : 0 ≤ (x14_2 : Int) := of_decide_eq_true (by assumption)
            have q312 : x14_2 < (l0.length : Int) := of_decide_eq_true (by assumption)
            obtain ⟨ad312, e312, hx312_0⟩ := Kd.at_string HR0.out x14_2 p312 q312
            cases e312
            replace hx312_0 := (HB.out.cell (World.block_lt_of_cell? w _ hx312_0)).trans hx312_0
            replace p312 := eq_true p312
            replace q312 := eq_true q312
            go_wp2_with (first | ((with_reducible refine gate_ (.load 35 (.tmp 17)) rfl ?_); refine wpList_load_row rfl 35 (.tmp 17) rfl gb325 rfl 35 _ (0, 0) _ (by (with_reducible repeat (first | refine blk_drewN ?_ _ | refine blk_drew ?_ | refine blk_alloc ?_ _)); exact BK325.out) Try.underlying35 rfl (by kernel_rfl) ?_) | ((with_reducible refine gate_callee (f := 15) rfl ?_); refine goesL_ (some 58) rfl rfl Try.func15 (by kernel_rfl) rfl #[.string (rdOf ByteArray.empty l0 x14_2)] rfl (by (try simp only [List.map_toArray, List.map_cons, List.map_nil]); first | done | rfl | (simp only [List.length_drop, List.length_take]; rfl)) ?_; (with_reducible refine (hash_Gnu.calls k2 (rdOf ByteArray.empty l0 x14_2) t313 _ A12.out).mono ?_); rintro e w' ⟨rfl, ⟨nd, rfl⟩⟩; refine ⟨_, rfl, ?_⟩; have p314 : 0 ≤ (x14_2 : Int) := of_decide_eq_true (by assumption); have q314 : x14_2 < (l0.length : Int) := of_decide_eq_true (by assumption); obtain ⟨ad314, e314, hx314_0⟩ := Kd.at_string HR0.out x14_2 p314 q314; obtain rfl : ad312 = ad314 := (by injection e314); replace hx314_0 := (HB.out.cell (World.block_lt_of_cell? w _ hx314_0)).trans hx314_0; replace p314 := eq_true p314; replace q314 := eq_true q314) | ((with_reducible refine gate_builtin (b := .append) (xs := #[.tmp 63, .tmp 68]) rfl ?_); (try (refine gate_guard (by rfl) ?_; dsimp only)); at_builtin; refine Kd.R_append Kd.string (w0 := w) w.heap.size rfl (.tmp 63) (.tmp 68) 22 9 (.string ⟨#[]⟩) 16 rfl Try.underlying22 info9 rfl (by decide) (by omega) u12 x12_2 (rdOf ByteArray.empty l0 x14_2) [.string (rdOf ByteArray.empty l0 x14_2)] (fun _ => True) (fun _ => False) rfl rfl ?aP (fun _ hk => hk.elim) ?aF ?aO ?aB ?aS ?aL ?_; (case aP => exact rfl); (case aB => exact (by repeat (first | (with_reducible first | exact HB.out | apply below_alloc | apply pw_below_drewN | apply below_drew1) | exact HB.out))); (case aF => exact (fun _ _ => trivial)); (case aO => exact (by (with_reducible repeat (first | apply Kd.R_alloc | apply Kd.R_drewN | apply Kd.R_drew)); exact HO_12.out)); (case aS => exact (below_size (by repeat (first | (with_reducible first | exact HB.out | apply below_alloc | apply pw_below_drewN | apply below_drew1) | exact HB.out)))); (case aL => have := LMc15.out; omega); intro v316 w16 ho hb hg hat; rw [← Ny315.out] at ho; have n0_ := Aside0.mk (hb); have n1_ := Aside0.mk (ho); clear HB; clear HO_12; have HB := n0_; have HO317 := n1_; clear n0_ n1_; clear ho hb hg hat))
            go_roundg k2
            case measure => have := HK1.out; have := HK2.out; omega
            case rel => exact ⟨(y315), (wrap64 (x14_2 + 1)), (by first | rfl | (simp; done) | (simp [*]; done)), H', ⟨by have := HK1.out; have := HK2.out; omega⟩, ⟨by (with_reducible repeat (first | apply Kd.R_alloc | apply Kd.R_drewN | apply Kd.R_drew)); exact HO317.out⟩, ⟨by repeat (first | (with_reducible first | exact HB.out | apply below_alloc | apply pw_below_drewN | apply below_drew1) | exact HB.out)⟩⟩
           ·rw [if_neg c15] at H
            exact absurd H (by simp)
          ·rw [if_neg c14] at H
           have c14b0 : ((Int.tmod t313 ((wrap64 (1 + (Int.tmod (wrap64 ((Int.tmod a1 16) + 16)) 16))) % 4294967296)) == x13_1) = false := beq_eq_false_iff_ne.mpr c14
           have c14b0w : ((Int.tmod t313 (IntKind.u32.wrap ((wrap64 (1 + (Int.tmod (wrap64 ((Int.tmod a1 16) + 16)) 16)))))) == x13_1) = false := by simp only [IntKind.wrap_u32]; exact c14b0
           have c14b1 : ((Int.tmod t313 ((wrap64 (1 + (Int.tmod (wrap64 ((Int.tmod a1 16) + 16)) 16))) % 4294967296)) != x13_1) = true := bne_iff_ne.mpr c14
           have c14b1w : ((Int.tmod t313 (IntKind.u32.wrap ((wrap64 (1 + (Int.tmod (wrap64 ((Int.tmod a1 16) + 16)) 16)))))) != x13_1) = true := by simp only [IntKind.wrap_u32]; exact c14b1
           have H' := Aside0.mk H
           clear H
           have p312 : 0 ≤ (x14_2 : Int) := of_decide_eq_true (by assumption)
           have q312 : x14_2 < (l0.length : Int) := of_decide_eq_true (by assumption)
           obtain ⟨ad312, e312, hx312_0⟩ := Kd.at_string HR0.out x14_2 p312 q312
           cases e312
           replace hx312_0 := (HB.out.cell (World.block_lt_of_cell? w _ hx312_0)).trans hx312_0
           replace p312 := eq_true p312
           replace q312 := eq_true q312
           go_wp2_with (first | ((with_reducible refine gate_ (.load 35 (.tmp 17)) rfl ?_); refine wpList_load_row rfl 35 (.tmp 17) rfl gb325 rfl 35 _ (0, 0) _ (by (with_reducible repeat (first | refine blk_drewN ?_ _ | refine blk_drew ?_ | refine blk_alloc ?_ _)); exact BK325.out) Try.underlying35 rfl (by kernel_rfl) ?_) | ((with_reducible refine gate_callee (f := 15) rfl ?_); refine goesL_ (some 58) rfl rfl Try.func15 (by kernel_rfl) rfl #[.string (rdOf ByteArray.empty l0 x14_2)] rfl (by (try simp only [List.map_toArray, List.map_cons, List.map_nil]); first | done | rfl | (simp only [List.length_drop, List.length_take]; rfl)) ?_; (with_reducible refine (hash_Gnu.calls k2 (rdOf ByteArray.empty l0 x14_2) t313 _ A12.out).mono ?_); rintro e w' ⟨rfl, ⟨nd, rfl⟩⟩; refine ⟨_, rfl, ?_⟩))
           go_roundg k2
           case measure => have := HK1.out; have := HK2.out; omega
           case rel => exact ⟨(x12_2), (wrap64 (x14_2 + 1)), (by first | rfl | (simp; done) | (simp [*]; done)), H', ⟨by have := HK1.out; have := HK2.out; omega⟩, ⟨by (with_reducible repeat (first | apply Kd.R_alloc | apply Kd.R_drewN | apply Kd.R_drew)); exact HO_12.out⟩, ⟨by repeat (first | (with_reducible first | exact HB.out | apply below_alloc | apply pw_below_drewN | apply below_drew1) | exact HB.out)⟩⟩
        ·rw [if_neg c11] at H
         exact absurd H (by simp)
       ·rw [if_neg c10] at H
        have c10b0 : decide (x14_2 < (l0.length : Int)) = false := decide_eq_false c10
        clear c10
        have H' := Aside0.mk H
        clear H
        go_wp2
        go_roundg k2
        case measure => have := HK1.out; have := HK2.out; omega
        case rel => exact ⟨(x12_2), ((x13_1 + 1) % 4294967296), (by first | rfl | (simp; done) | (simp [*]; done)), H', ⟨by have := HK1.out; have := HK2.out; omega⟩, ⟨by (with_reducible repeat (first | apply Kd.R_alloc | apply Kd.R_drewN | apply Kd.R_drew)); exact HO_12.out⟩, ⟨by repeat (first | (with_reducible first | exact HB.out | apply below_alloc | apply pw_below_drewN | apply below_drew1) | exact HB.out)⟩⟩
    ·rw [if_neg c9] at H
     have c9b0 : decide (x13_1 < ((wrap64 (1 + (Int.tmod (wrap64 ((Int.tmod a1 16) + 16)) 16))) % 4294967296)) = false := decide_eq_false c9
     have c9b0w : decide (x13_1 < (IntKind.u32.wrap ((wrap64 (1 + (Int.tmod (wrap64 ((Int.tmod a1 16) + 16)) 16)))))) = false := by simp only [IntKind.wrap_u32]; exact c9b0
     clear c9
     by_cases c17 : (x12_1.length : Int) = (wrap64 ((l0.length : Int) + 1))
     ·rw [if_pos c17] at H
      have c17b0 : ((x12_1.length : Int) == (wrap64 ((l0.length : Int) + 1))) = true := beq_iff_eq.mpr c17
      have c17b1 : ((x12_1.length : Int) != (wrap64 ((l0.length : Int) + 1))) = false := bne_eq_false_iff_eq.mpr c17
      clear c17
      replace H := Option.bind_eq_some_iff.mp H
      obtain ⟨t318, A180, H⟩ := H
      replace H : (if 0 ≤ (x12_1.length : Int) then (if ((x12_1.length : Int) : Int).toNat ≤ 4398046511104 then (shacklelaw07_HashBoth.l2 k1 a3 t308 x12_1 t318 (List.replicate ((x12_1.length : Int) : Int).toNat z39) ([] : List Int) 0 0 0 (([(⟨1, 0, 0, 256, IntKind.u64.wrap ((t318.length : Int)), 0, 0⟩ : S29)] : List (S29)))) else (none)) else (none)) = some r := H
      have A18 := Aside0.mk A180
      clear A180
      obtain ⟨y321, hy321⟩ : ∃ y_ : List (S29), y_ = (([(⟨1, 0, 0, 256, IntKind.u64.wrap ((t318.length : Int)), 0, 0⟩ : S29)] : List (S29))) := ⟨_, rfl⟩
      replace H : (if 0 ≤ (x12_1.length : Int) then (if ((x12_1.length : Int) : Int).toNat ≤ 4398046511104 then (shacklelaw07_HashBoth.l2 k1 a3 t308 x12_1 t318 (List.replicate ((x12_1.length : Int) : Int).toNat z39) ([] : List Int) 0 0 0 y321) else (none)) else (none)) = some r := by first | (rw [hy321]; with_reducible exact H) | (have H2_ := (Option.bind_some _ _).symm.trans H; rw [hy321]; with_reducible exact H2_) | (have H2_ := (Option.bind_some _ _).symm.trans H; with_reducible exact H2_) | with_reducible exact H | (rw [hy321]; exact H) | exact H
      have Ny321 := Aside0.mk hy321
      clear hy321
      by_cases c19 : 0 ≤ (x12_1.length : Int)
      ·rw [if_pos c19] at H
       have c19b0 := eq_true c19
       have c19b1 : decide (0 ≤ (x12_1.length : Int)) = true := decide_eq_true c19
       clear c19
       by_cases c20 : ((x12_1.length : Int) : Int).toNat ≤ 4398046511104
       ·rw [if_pos c20] at H
        have c20b0 := eq_true c20
        have c20b1 : decide (((x12_1.length : Int) : Int).toNat ≤ 4398046511104) = true := decide_eq_true c20
        clear c20
        obtain ⟨y326, hy326⟩ : ∃ y_ : List (S39), y_ = (List.replicate ((x12_1.length : Int) : Int).toNat z39) := ⟨_, rfl⟩
        replace H : (shacklelaw07_HashBoth.l2 k1 a3 t308 x12_1 t318 y326 ([] : List Int) 0 0 0 y321) = some r := by first | (rw [hy326]; with_reducible exact H) | (have H2_ := (Option.bind_some _ _).symm.trans H; rw [hy326]; with_reducible exact H2_) | (have H2_ := (Option.bind_some _ _).symm.trans H; with_reducible exact H2_) | with_reducible exact H | (rw [hy326]; exact H) | exact H
        have Ny326 := Aside0.mk hy326
        clear hy326
        have H' := Aside0.mk H
        clear H
        obtain ⟨Ao21, co21, eo21⟩ := Kd.R_slice HO_12.out
        subst eo21
        go_wp2_with (first | ((with_reducible refine wpList_buildAt (t := 35) #[(25, .const (.int .u64 256))] #[.slice none 0 0, .int .u64 0, .int .u64 0, .int .u64 0, .int .u64 0, .int .u64 0, .int .u64 0, .int .u64 0, .int .u64 0, .int .u64 0, .int .u64 0, .int .u64 0, .int .u64 0, .int .u64 0, .bool false, .bool false, .bool false, .int .u64 0, .int .u64 0, .int .u64 0, .int .u64 0, .int .u64 0, .int .u64 0, .int .u64 0, .int .u64 0, .int .u64 256, .int .u64 0, .int .u64 0, .int .u64 0, .int .u64 0, .int .u64 0, .int .u64 0, .bool false, .bool false, .bool false, .bool false, .bool false] ?_ ?_); (as_aux_lemma => kernel_rfl)) | ((with_reducible refine gate_ (.load 35 (.tmp 17)) rfl ?_); refine wpList_load_row rfl 35 (.tmp 17) rfl gb325 rfl 35 _ (0, 0) _ (by (with_reducible repeat (first | refine blk_drewN ?_ _ | refine blk_drew ?_ | refine blk_alloc ?_ _)); exact BK325.out) Try.underlying35 rfl (by kernel_rfl) ?_) | ((with_reducible refine gate_callee (f := 16) rfl ?_); refine goesL_ (some 79) rfl rfl Try.func16 (by kernel_rfl) rfl #[.slice Ao21 x12_1.length co21, .int .u32 ((wrap64 (1 + (Int.tmod (wrap64 ((Int.tmod a1 16) + 16)) 16))) % 4294967296), .int .u32 ((Int.tmod (wrap64 ((Int.tmod a2 32) + 32)) 32) % 4294967296)] rfl (by (try simp only [List.map_toArray, List.map_cons, List.map_nil]); first | done | rfl | (simp only [List.length_drop, List.length_take]; rfl)) ?_; (with_reducible refine (shacklelaw07_second.calls k1 _ _ x12_1 ((wrap64 (1 + (Int.tmod (wrap64 ((Int.tmod a1 16) + 16)) 16))) % 4294967296) ((Int.tmod (wrap64 ((Int.tmod a2 32) + 32)) 32) % 4294967296) t318 _ ?side1 ?side2 A18.out).mono ?_); (case side1 => repeat (first | exact (Kd.R_reads' HO_12.out).2.2 | (with_reducible refine Kd.C_alloc ?_ _) | (with_reducible refine Kd.C_drewN ?_ _) | (with_reducible refine Kd.C_drew ?_))); (case side2 => exact (Kd.R_reads' HO_12.out).2.1); rintro e w22 ⟨v319, rfl, ho0, hb⟩; refine ⟨_, rfl, ?_⟩; have n0_ := Aside0.mk (Kd.R_below (by (with_reducible repeat (first | apply Kd.R_alloc | apply Kd.R_drewN | apply Kd.R_drew)); exact HO_12.out) hb); have n1_ := Aside0.mk (Kd.R_lower ho0 (below_size (by repeat (first | (with_reducible first | exact HB.out | apply below_alloc | apply pw_below_drewN | apply below_drew1) | exact HB.out)))); have n2_ := Aside0.mk (below_step (by repeat (first | (with_reducible first | exact HB.out | apply below_alloc | apply pw_below_drewN | apply below_drew1) | exact HB.out)) hb); clear HO_12; clear HB; have HO_12 := n0_; have HO320 := n1_; have HB := n2_; clear n0_ n1_ n2_; (try clear hb); (try clear hb2); (try clear hk); (try clear hi); (try clear ho0); obtain ⟨Ao23, co23, eo23⟩ := Kd.R_slice HO320.out; subst eo23) | ((with_reducible refine gate_dst (N := 84) rfl ?_); (try (refine gate_guard (by rfl) ?_; dsimp only)); refine Kd.R_lit k29 _ 29 ?hg (N := 84) ?hd (xs := ([(⟨1, 0, 0, 256, IntKind.u64.wrap ((t318.length : Int)), 0, 0⟩ : S29)] : List (S29))) (inner := [.int .u32 1, .int .u32 0, .int .u64 0, .int .u64 256, .int .u64 (IntKind.u64.wrap ((t318.length : Int))), .int .u64 0, .int .u64 0]) (ok := fun _ => True) (okp := fun _ => True) ?hr ?hp (fun _ hk => hk) trivial (Below.refl _ _) (Nat.le_refl _) (by simp) ?_; (case hd => rfl); (case hg => rfl); (case hr => first | (go_simp; done) | (go_simp; rfl)); (case hp => exact (Reps.c7 (show Kd.M k29 _ _ _ (⟨1, 0, 0, 256, IntKind.u64.wrap ((t318.length : Int)), 0, 0⟩ : S29) [.int .u32 1, .int .u32 0, .int .u64 0, .int .u64 256, .int .u64 (IntKind.u64.wrap ((t318.length : Int))), .int .u64 0, .int .u64 0] from (k29_mkM _ _ _ (⟨1, 0, 0, 256, IntKind.u64.wrap ((t318.length : Int)), 0, 0⟩ : S29) )) (Reps.none _ _))); intro v322 w24 ho25 hb hg_ hnew_; clear hg_ hnew_; (first | rw [← Ny321.out] at ho25 | (simp only [Int.reduceToNat] at ho25; rw [← Ny321.out] at ho25)); have n0_ := Aside0.mk (Kd.R_below (by (with_reducible repeat (first | apply Kd.R_alloc | apply Kd.R_drewN | apply Kd.R_drew)); exact HO_12.out) hb); have n1_ := Aside0.mk (Kd.R_below (by (with_reducible repeat (first | apply Kd.R_alloc | apply Kd.R_drewN | apply Kd.R_drew)); exact HO320.out) hb); have n2_ := Aside0.mk (Kd.R_lower ho25 (below_size (by repeat (first | (with_reducible first | exact HB.out | apply below_alloc | apply pw_below_drewN | apply below_drew1) | exact HB.out)))); have n3_ := Aside0.mk (below_step (by repeat (first | (with_reducible first | exact HB.out | apply below_alloc | apply pw_below_drewN | apply below_drew1) | exact HB.out)) hb); clear HO_12; clear HO320; clear HB; have HO_12 := n0_; have HO320 := n1_; have HO323 := n2_; have HB := n3_; clear n0_ n1_ n2_ n3_; clear hb ho25; obtain ⟨Ao26, co26, eo26⟩ := Kd.R_slice HO323.out; subst eo26) | ((with_reducible refine gate_dst (N := 16) rfl ?_); (try (refine gate_guard (by rfl) ?_; dsimp only)); refine box_event ?hg (N := 16) ?hd (cs := #[.int .i64 0, .int .u64 0, .slice none 0 0]) (t := 32) ?hr ?_; (case hd => rfl); (case hg => rfl); (case hr => first | (go_simp; done) | (go_simp; rfl)); intro gb324 hg w27 hbox hb; have n0_ := Aside0.mk (Kd.R_below (by (with_reducible repeat (first | apply Kd.R_alloc | apply Kd.R_drewN | apply Kd.R_drew)); exact HO_12.out) hb); have n1_ := Aside0.mk (Kd.R_below (by (with_reducible repeat (first | apply Kd.R_alloc | apply Kd.R_drewN | apply Kd.R_drew)); exact HO320.out) hb); have n2_ := Aside0.mk (Kd.R_below (by (with_reducible repeat (first | apply Kd.R_alloc | apply Kd.R_drewN | apply Kd.R_drew)); exact HO323.out) hb); have n3_ := Aside0.mk (below_step (by repeat (first | (with_reducible first | exact HB.out | apply below_alloc | apply pw_below_drewN | apply below_drew1) | exact HB.out)) hb); have n4_ := Aside0.mk (hbox); have n5_ := Aside0.mk ((by rw [hg]; exact (below_size (by repeat (first | (with_reducible first | exact HB.out | apply below_alloc | apply pw_below_drewN | apply below_drew1) | exact HB.out))) : w.heap.size ≤ gb324)); have n6_ := Aside0.mk ((by rw [hg]; exact (below_size (by repeat (first | (with_reducible first | exact HB.out | apply below_alloc | apply pw_below_drewN | apply below_drew1) | exact HB.out))) : w.heap.size ≤ gb324)); clear HO_12; clear HO320; clear HO323; clear HB; have HO_12 := n0_; have HO320 := n1_; have HO323 := n2_; have HB := n3_; have BK324 := n4_; have GW324 := n5_; have GE324 := n6_; clear n0_ n1_ n2_ n3_ n4_ n5_ n6_; clear hb hbox hg; have hcz28_0 : w27.cell? ⟨gb324, 0, none⟩ = some (.int .i64 0) := (blk_cell BK324.out 0).trans rfl; have hcz28_1 : w27.cell? ⟨gb324, 1, none⟩ = some (.int .u64 0) := (blk_cell BK324.out 1).trans rfl; have hcz28_2 : w27.cell? ⟨gb324, 2, none⟩ = some (.slice none 0 0) := (blk_cell BK324.out 2).trans rfl; have hfz28_0 := blk_frozen BK324.out 0; have hfz28_1 := blk_frozen BK324.out 1; have hfz28_2 := blk_frozen BK324.out 2) | ((with_reducible refine gate_dst (N := 17) rfl ?_); (try (refine gate_guard (by rfl) ?_; dsimp only)); refine box_event2 ?hg (N := 17) ?hd (cs := #[.slice none 0 0, .int .u64 0, .int .u64 0, .int .u64 0, .int .u64 0, .int .u64 0, .int .u64 0, .int .u64 0, .int .u64 0, .int .u64 0, .int .u64 0, .int .u64 0, .int .u64 0, .int .u64 0, .bool false, .bool false, .bool false, .int .u64 0, .int .u64 0, .int .u64 0, .int .u64 0, .int .u64 0, .int .u64 0, .int .u64 0, .int .u64 0, .int .u64 256, .int .u64 0, .int .u64 0, .int .u64 0, .int .u64 0, .int .u64 0, .int .u64 0, .bool false, .bool false, .bool false, .bool false, .bool false]) (t := 35) (zs := ?zs) ?hr rfl rfl rfl (fun _ => rfl) (fun _ => rfl) (by kernel_rfl) ?hz (by first | kernel_rfl | rfl) ?_; (case hd => rfl); (case hg => rfl); (case hr => first | (go_simp; done) | (go_simp; rfl)); (case hz => rfl); intro gb325 hg w29 hbox hb; have n0_ := Aside0.mk (Kd.R_below (by (with_reducible repeat (first | apply Kd.R_alloc | apply Kd.R_drewN | apply Kd.R_drew)); exact (Kd.R_mono (Kd.R_far (p := ⟨gb324, 2, none⟩) (Kd.R_far (p := ⟨gb324, 1, none⟩) (Kd.R_far (p := ⟨gb324, 0, none⟩) (Kd.R_types HO_12.out BK324.out (by decide)) (fun _ hk => hk.2) (.int .i64 0)) (fun _ hk => hk.2) (.int .u64 0)) (fun _ hk => hk.2) (.slice Ao26 y321.length co26)) (fun _ h_ => h_.1))) hb); have n1_ := Aside0.mk (Kd.R_below (by (with_reducible repeat (first | apply Kd.R_alloc | apply Kd.R_drewN | apply Kd.R_drew)); exact (Kd.R_mono (Kd.R_far (p := ⟨gb324, 2, none⟩) (Kd.R_far (p := ⟨gb324, 1, none⟩) (Kd.R_far (p := ⟨gb324, 0, none⟩) (Kd.R_types HO320.out BK324.out (by decide)) (fun _ hk => hk.2) (.int .i64 0)) (fun _ hk => hk.2) (.int .u64 0)) (fun _ hk => hk.2) (.slice Ao26 y321.length co26)) (fun _ h_ => h_.1))) hb); have n2_ := Aside0.mk (Kd.R_below (by (with_reducible repeat (first | apply Kd.R_alloc | apply Kd.R_drewN | apply Kd.R_drew)); exact (Kd.R_mono (Kd.R_far (p := ⟨gb324, 2, none⟩) (Kd.R_far (p := ⟨gb324, 1, none⟩) (Kd.R_far (p := ⟨gb324, 0, none⟩) (Kd.R_types HO323.out BK324.out (by decide)) (fun _ hk => hk.2) (.int .i64 0)) (fun _ hk => hk.2) (.int .u64 0)) (fun _ hk => hk.2) (.slice Ao26 y321.length co26)) (fun _ h_ => h_.1))) hb); have n3_ := Aside0.mk (blk_below (g := gb324) (o := .cells #[.int .i64 0, .int .u64 0, .slice Ao26 y321.length co26] 32 (0, 0)) (by (with_reducible repeat (first | refine blk_drewN ?_ _ | refine blk_drew ?_ | refine blk_alloc ?_ _)); refine blk_put (cs := #[.int .i64 0, .int .u64 0, .slice none 0 0]) ?_ 2 _ rfl; (with_reducible repeat (first | refine blk_drewN ?_ _ | refine blk_drew ?_ | refine blk_alloc ?_ _)); refine blk_put (cs := #[.int .i64 0, .int .u64 0, .slice none 0 0]) ?_ 1 _ rfl; (with_reducible repeat (first | refine blk_drewN ?_ _ | refine blk_drew ?_ | refine blk_alloc ?_ _)); refine blk_put (cs := #[.int .i64 0, .int .u64 0, .slice none 0 0]) ?_ 0 _ rfl; (with_reducible repeat (first | refine blk_drewN ?_ _ | refine blk_drew ?_ | refine blk_alloc ?_ _)); exact BK324.out) hb); have n4_ := Aside0.mk (below_step (by repeat (first | (with_reducible first | exact HB.out | apply below_alloc | apply pw_below_drewN | apply below_drew1 | refine below_set ?_ GE324.out) | exact HB.out)) hb); have n5_ := Aside0.mk (hbox); have n6_ := Aside0.mk ((by rw [hg]; exact (below_size (by repeat (first | (with_reducible first | exact HB.out | apply below_alloc | apply pw_below_drewN | apply below_drew1 | refine below_set ?_ GE324.out) | exact HB.out))) : w.heap.size ≤ gb325)); have n7_ := Aside0.mk ((by rw [hg]; exact (below_size (by repeat (first | (with_reducible first | exact HB.out | apply below_alloc | apply pw_below_drewN | apply below_drew1 | refine below_set ?_ GE324.out) | exact HB.out))) : w.heap.size ≤ gb325)); have n8_ := Aside0.mk ((by rw [hg]; exact Nat.ne_of_lt (blk_lt (g := gb324) (o := .cells #[.int .i64 0, .int .u64 0, .slice Ao26 y321.length co26] 32 (0, 0)) (by (with_reducible repeat (first | refine blk_drewN ?_ _ | refine blk_drew ?_ | refine blk_alloc ?_ _)); refine blk_put (cs := #[.int .i64 0, .int .u64 0, .slice none 0 0]) ?_ 2 _ rfl; (with_reducible repeat (first | refine blk_drewN ?_ _ | refine blk_drew ?_ | refine blk_alloc ?_ _)); refine blk_put (cs := #[.int .i64 0, .int .u64 0, .slice none 0 0]) ?_ 1 _ rfl; (with_reducible repeat (first | refine blk_drewN ?_ _ | refine blk_drew ?_ | refine blk_alloc ?_ _)); refine blk_put (cs := #[.int .i64 0, .int .u64 0, .slice none 0 0]) ?_ 0 _ rfl; (with_reducible repeat (first | refine blk_drewN ?_ _ | refine blk_drew ?_ | refine blk_alloc ?_ _)); exact BK324.out)) : gb324 ≠ gb325)); have n9_ := Aside0.mk ((by rw [hg]; exact Nat.ne_of_gt (blk_lt (g := gb324) (o := .cells #[.int .i64 0, .int .u64 0, .slice Ao26 y321.length co26] 32 (0, 0)) (by (with_reducible repeat (first | refine blk_drewN ?_ _ | refine blk_drew ?_ | refine blk_alloc ?_ _)); refine blk_put (cs := #[.int .i64 0, .int .u64 0, .slice none 0 0]) ?_ 2 _ rfl; (with_reducible repeat (first | refine blk_drewN ?_ _ | refine blk_drew ?_ | refine blk_alloc ?_ _)); refine blk_put (cs := #[.int .i64 0, .int .u64 0, .slice none 0 0]) ?_ 1 _ rfl; (with_reducible repeat (first | refine blk_drewN ?_ _ | refine blk_drew ?_ | refine blk_alloc ?_ _)); refine blk_put (cs := #[.int .i64 0, .int .u64 0, .slice none 0 0]) ?_ 0 _ rfl; (with_reducible repeat (first | refine blk_drewN ?_ _ | refine blk_drew ?_ | refine blk_alloc ?_ _)); exact BK324.out)) : gb325 ≠ gb324)); clear HO_12; clear HO320; clear HO323; clear BK324; clear HB; have HO_12 := n0_; have HO320 := n1_; have HO323 := n2_; have BK324 := n3_; have HB := n4_; have BK325 := n5_; have GW325 := n6_; have GE325 := n7_; have NB324_325 := n8_; have NB325_324 := n9_; clear n0_ n1_ n2_ n3_ n4_ n5_ n6_ n7_ n8_ n9_; clear hb hbox hg) | ((with_reducible refine gate_dst (N := 89) rfl ?_); (try (refine gate_guard (by rfl) ?_; dsimp only)); refine Kd.R_make k39 _ 39 rfl (N := 89) rfl 36 _ _ rfl (x12_1.length : Int) rfl rfl Try.underlying36 (.agg #[(.string ⟨#[]⟩), (.int .i64 0), (.int .i64 0), (.int .i64 0), (.int .i64 0), (.int .u64 0), (.int .u64 0)]) 64 info39 rfl (by decide) (by omega) z39 (ok := fun _ => True) (okp := fun _ => True) (k39_mkM _ _ _ z39 ) (fun _ hk => hk) trivial (of_decide_eq_true (by assumption)) (Nat.le_trans (Nat.mul_le_mul_right _ (of_decide_eq_true (by assumption) : (x12_1.length : Int).toNat ≤ 4398046511104)) (by omega)) (Below.refl _ _) (Nat.le_refl _) ?_; intro v327 w30 ho31 hb hg_ hnew_; clear hg_ hnew_; (first | rw [← Ny326.out] at ho31 | (simp only [Int.reduceToNat] at ho31; rw [← Ny326.out] at ho31)); have n0_ := Aside0.mk (Kd.R_below (by (with_reducible repeat (first | apply Kd.R_alloc | apply Kd.R_drewN | apply Kd.R_drew)); exact HO_12.out) hb); have n1_ := Aside0.mk (Kd.R_below (by (with_reducible repeat (first | apply Kd.R_alloc | apply Kd.R_drewN | apply Kd.R_drew)); exact HO320.out) hb); have n2_ := Aside0.mk (Kd.R_below (by (with_reducible repeat (first | apply Kd.R_alloc | apply Kd.R_drewN | apply Kd.R_drew)); exact HO323.out) hb); have n3_ := Aside0.mk (Kd.R_lower ho31 (below_size (by repeat (first | (with_reducible first | exact HB.out | apply below_alloc | apply pw_below_drewN | apply below_drew1 | refine below_set ?_ GE324.out | refine below_set ?_ GE325.out) | exact HB.out)))); have n4_ := Aside0.mk (blk_below (g := gb324) (o := .cells #[.int .i64 0, .int .u64 0, .slice Ao26 y321.length co26] 32 (0, 0)) (by (with_reducible repeat (first | refine blk_drewN ?_ _ | refine blk_drew ?_ | refine blk_alloc ?_ _)); exact BK324.out) hb); have n5_ := Aside0.mk (blk_below (g := gb325) (o := .cells #[.slice none 0 0, .int .u64 0, .int .u64 0, .int .u64 0, .int .u64 0, .int .u64 0, .int .u64 0, .int .u64 0, .int .u64 0, .int .u64 0, .int .u64 0, .int .u64 0, .int .u64 0, .int .u64 0, .bool false, .bool false, .bool false, .int .u64 0, .int .u64 0, .int .u64 0, .int .u64 0, .int .u64 0, .int .u64 0, .int .u64 0, .int .u64 0, .int .u64 256, .int .u64 0, .int .u64 0, .int .u64 0, .int .u64 0, .int .u64 0, .int .u64 0, .bool false, .bool false, .bool false, .bool false, .bool false] 35 (0, 0)) (by (with_reducible repeat (first | refine blk_drewN ?_ _ | refine blk_drew ?_ | refine blk_alloc ?_ _)); exact BK325.out) hb); have n6_ := Aside0.mk (below_step (by repeat (first | (with_reducible first | exact HB.out | apply below_alloc | apply pw_below_drewN | apply below_drew1 | refine below_set ?_ GE324.out | refine below_set ?_ GE325.out) | exact HB.out)) hb); clear HO_12; clear HO320; clear HO323; clear BK324; clear BK325; clear HB; have HO_12 := n0_; have HO320 := n1_; have HO323 := n2_; have HO328 := n3_; have BK324 := n4_; have BK325 := n5_; have HB := n6_; clear n0_ n1_ n2_ n3_ n4_ n5_ n6_; clear hb ho31))
        go_loopg [19, 20] k1 (fun kq v19 v20 w' => ∃ (x18_2 : List (S39)) (x19_2 : List Int) (x20_2 : Int), v20 = .int .i64 x20_2 ∧ Aside0 (shacklelaw07_HashBoth.l2 kq a3 t308 x12_1 t318 x18_2 x19_2 x20_2 0 0 y321 = some r) ∧ Aside0 (kq ≤ k1) ∧ Aside0 (Kd.R Kd.string 9 w' w.heap.size (fun _ => True) (.slice Ao21 x12_1.length co21) x12_1) ∧ Aside0 (Kd.R (Kd.int .u8) 5 w' w.heap.size (fun _ => True) (.slice Ao23 t318.length co23) t318) ∧ Aside0 (Kd.R k39 39 w' w.heap.size (fun _ => True) v327 x18_2) ∧ Aside0 (Kd.R (Kd.int .i64) 3 w' w.heap.size (fun _ => True) v19 x19_2) ∧ Aside0 (Kd.R k29 29 w' w.heap.size (fun _ => True) (.slice Ao26 y321.length co26) y321) ∧ Aside0 (w'.heap[gb324]? = some (.cells #[.int .i64 0, .int .u64 0, (.slice Ao26 y321.length co26)] 32 (0, 0))) ∧ Aside0 (w'.heap[gb325]? = some (.cells #[(.slice none 0 0), .int .u64 0, .int .u64 0, .int .u64 0, .int .u64 0, .int .u64 0, .int .u64 0, .int .u64 0, .int .u64 0, .int .u64 0, .int .u64 0, .int .u64 0, .int .u64 0, .int .u64 0, .bool false, .bool false, .bool false, .int .u64 0, .int .u64 0, .int .u64 0, .int .u64 0, .int .u64 0, .int .u64 0, .int .u64 0, .int .u64 0, .int .u64 256, .int .u64 0, .int .u64 0, .int .u64 0, .int .u64 0, .int .u64 0, .int .u64 0, .bool false, .bool false, .bool false, .bool false, .bool false] 35 (0, 0))) ∧ Aside0 (Below w.heap.size w w'))
        case atStart => exact ⟨(y326), (([] : List Int)), (0), (by first | rfl | (simp; done) | (simp [*]; done)), H', ⟨Nat.le_refl _⟩, ⟨by (with_reducible repeat (first | apply Kd.R_alloc | apply Kd.R_drewN | apply Kd.R_drew)); exact HO_12.out⟩, ⟨by (with_reducible repeat (first | apply Kd.R_alloc | apply Kd.R_drewN | apply Kd.R_drew)); exact HO320.out⟩, ⟨by (with_reducible repeat (first | apply Kd.R_alloc | apply Kd.R_drewN | apply Kd.R_drew)); exact HO328.out⟩, ⟨by first | exact Kd.R_nil _ _ _ _ _ | exact Kd.N_nil _ _ _ _ _ | exact Kd.V_nil _ _ _ _ _ | exact Kd.Q_nil _ _ _ _ _ | exact Kd.S_nil _ _ _ _ _⟩, ⟨by (with_reducible repeat (first | apply Kd.R_alloc | apply Kd.R_drewN | apply Kd.R_drew)); exact HO323.out⟩, ⟨by (with_reducible repeat (first | refine blk_drewN ?_ _ | refine blk_drew ?_ | refine blk_alloc ?_ _)); exact BK324.out⟩, ⟨by (with_reducible repeat (first | refine blk_drewN ?_ _ | refine blk_drew ?_ | refine blk_alloc ?_ _)); exact BK325.out⟩, ⟨by repeat (first | (with_reducible first | exact HB.out | apply below_alloc | apply pw_below_drewN | apply below_drew1 | refine below_set ?_ GE324.out | refine below_set ?_ GE325.out) | exact HB.out)⟩⟩
        case round =>
         clear H'
         try clear c1
         try clear c2
         try clear p2
         try clear p3
         try clear q3
         try clear hx3
         try clear c4
         try clear c6
         try clear c6b0
         try clear c6b1
         try clear p6
         try clear c7
         try clear c9
         try clear c9b0
         try clear c10
         try clear c10b0
         try clear c11
         try clear c11b0
         try clear c13
         try clear c13b0
         try clear c13b1
         try clear c14
         try clear c14b0
         try clear c14b1
         try clear c15
         try clear c16
         try clear c17
         try clear c17b0
         try clear c17b1
         try clear c19
         try clear c19b0
         try clear c19b1
         try clear c20
         try clear c20b0
         try clear c20b1
         try clear p31
         try clear q31
         try clear hx31
         try clear hcz28_0
         try clear hcz28_1
         try clear hcz28_2
         try clear hfz28_0
         try clear hfz28_1
         try clear hfz28_2
         try clear hx312_0
         try clear hx314_0
         try clear p2
         try clear p312
         try clear p314
         try clear p6
         try clear q312
         try clear q314
         obtain ⟨x18_2, x19_2, x20_2, rfl, HA, HK2, HO_12, HO_15, HO_18, HO_19, HO_325002, BK324, BK325, HB⟩ := hrel
         cases gk with
         | zero => exact absurd HA.out (by simp [shacklelaw07_HashBoth.l2])
         | succ k2 =>
          have H := HA.out
          clear HA
          simp only [shacklelaw07_HashBoth.l2] at H
          by_cases c32 : x20_2 < (x12_1.length : Int)
          ·rw [if_pos c32] at H
           have c32b0 : decide (x20_2 < (x12_1.length : Int)) = true := decide_eq_true c32
           clear c32
           by_cases c33 : 0 ≤ x20_2
           ·rw [if_pos c33] at H
            have c33b0 : decide (0 ≤ x20_2) = true := decide_eq_true c33
            clear c33
            by_cases c34 : x20_2 < (x18_2.length : Int)
            ·rw [if_pos c34] at H
             have c34b0 : decide (x20_2 < (x18_2.length : Int)) = true := decide_eq_true c34
             clear c34
             obtain ⟨y330, hy330⟩ : ∃ y_ : List (S39), y_ = (x18_2.set (x20_2 : Int).toNat (⟨rdOf ByteArray.empty x12_1 x20_2, (rd_T39 x18_2 x20_2).f1, (rd_T39 x18_2 x20_2).f2, (rd_T39 x18_2 x20_2).f3, (rd_T39 x18_2 x20_2).f4, (rd_T39 x18_2 x20_2).f5, (rd_T39 x18_2 x20_2).f6⟩ : S39)) := ⟨_, rfl⟩
             replace H : (if x20_2 > 0 then (if (rdOf ByteArray.empty x12_1 x20_2).toList = a3.toList then (if x19_2.length < 17592186044416 then (shacklelaw07_HashBoth.l2 k2 a3 t308 x12_1 t318 y330 (x19_2 ++ [x20_2]) (wrap64 (x20_2 + 1)) 0 0 y321) else (none)) else (shacklelaw07_HashBoth.l2 k2 a3 t308 x12_1 t318 y330 x19_2 (wrap64 (x20_2 + 1)) 0 0 y321)) else (shacklelaw07_HashBoth.l2 k2 a3 t308 x12_1 t318 y330 x19_2 (wrap64 (x20_2 + 1)) 0 0 y321)) = some r := by first | (rw [hy330]; with_reducible exact H) | (have H2_ := (Option.bind_some _ _).symm.trans H; rw [hy330]; with_reducible exact H2_) | (have H2_ := (Option.bind_some _ _).symm.trans H; with_reducible exact H2_) | with_reducible exact H | (rw [hy330]; exact H) | exact H
             have Ny330 := Aside0.mk hy330
             clear hy330
             by_cases c36 : x20_2 > 0
             ·rw [if_pos c36] at H
              have c36b0 : decide (0 < x20_2) = true := decide_eq_true c36
              clear c36
              by_cases c37 : (rdOf ByteArray.empty x12_1 x20_2).toList = a3.toList
              ·rw [if_pos c37] at H
               have c37b0 : ((rdOf ByteArray.empty x12_1 x20_2).toList == a3.toList) = true := beq_iff_eq.mpr c37
               have c37b1 : ((rdOf ByteArray.empty x12_1 x20_2).toList != a3.toList) = false := bne_eq_false_iff_eq.mpr c37
               clear c37
               by_cases c38 : x19_2.length < 17592186044416
               ·rw [if_pos c38] at H
                have LMc38 := Aside0.mk c38
                clear c38
                obtain ⟨y332, hy332⟩ : ∃ y_ : List Int, y_ = (x19_2 ++ [x20_2]) := ⟨_, rfl⟩
                replace H : (shacklelaw07_HashBoth.l2 k2 a3 t308 x12_1 t318 y330 y332 (wrap64 (x20_2 + 1)) 0 0 y321) = some r := by first | (rw [hy332]; with_reducible exact H) | (have H2_ := (Option.bind_some _ _).symm.trans H; rw [hy332]; with_reducible exact H2_) | (have H2_ := (Option.bind_some _ _).symm.trans H; with_reducible exact H2_) | with_reducible exact H | (rw [hy332]; exact H) | exact H
                have Ny332 := Aside0.mk hy332
                clear hy332
                have H' := Aside0.mk H
                clear H
                have p329 : 0 ≤ (x20_2 : Int) := of_decide_eq_true (by assumption)
                have q329 : x20_2 < (x12_1.length : Int) := of_decide_eq_true (by assumption)
                obtain ⟨ad329, e329, hx329_0⟩ := Kd.at_string (Kd.R_reads' HO_12.out).2.2 x20_2 p329 q329
                cases e329
                replace p329 := eq_true p329
                replace q329 := eq_true q329
                have p35 : 0 ≤ (x20_2 : Int) := of_decide_eq_true (by assumption)
                have q35 : (x20_2 : Int) < ((x18_2.length : Int) : Int) := of_decide_eq_true (by assumption)
                obtain ⟨go35, co35, eo35, gb35, gl35, cl35, HG35⟩ := Kd.R_form HO_18.out (by omega)
                (first | cases eo35 | (injection eo35 with ea_ en_ ec_; (first | subst ea_ | (injection ea_ with ea_; subst ea_)); subst ec_; clear en_))
                have GB35 := Aside0.mk gb35
                have GG35 := Aside0.mk HG35
                clear gb35 gl35 HG35
                obtain ⟨ce35, hcl35, hM35, hcc35, hfr35⟩ := Kd.R_elem HO_18.out z39 (x20_2 : Int) p35 q35
                obtain rfl := k39_openM hM35
                have hx35_0 : wr.cell? ⟨go35, (x20_2 : Int).toNat * 7, none⟩ = some (.string ((rd_T39 x18_2 x20_2).f0)) := hcc35 0 _ rfl
                have hx35_1 : wr.cell? ⟨go35, (x20_2 : Int).toNat * 7 + 1, none⟩ = some (.int .i64 ((rd_T39 x18_2 x20_2).f1)) := hcc35 1 _ rfl
                have hx35_2 : wr.cell? ⟨go35, (x20_2 : Int).toNat * 7 + 2, none⟩ = some (.int .i64 ((rd_T39 x18_2 x20_2).f2)) := hcc35 2 _ rfl
                have hx35_3 : wr.cell? ⟨go35, (x20_2 : Int).toNat * 7 + 3, none⟩ = some (.int .i64 ((rd_T39 x18_2 x20_2).f3)) := hcc35 3 _ rfl
                have hx35_4 : wr.cell? ⟨go35, (x20_2 : Int).toNat * 7 + 4, none⟩ = some (.int .i64 ((rd_T39 x18_2 x20_2).f4)) := hcc35 4 _ rfl
                have hx35_5 : wr.cell? ⟨go35, (x20_2 : Int).toNat * 7 + 5, none⟩ = some (.int .u64 ((rd_T39 x18_2 x20_2).f5)) := hcc35 5 _ rfl
                have hx35_6 : wr.cell? ⟨go35, (x20_2 : Int).toNat * 7 + 6, none⟩ = some (.int .u64 ((rd_T39 x18_2 x20_2).f6)) := hcc35 6 _ rfl
                have hf35_0 : wr.frozen? ⟨go35, (x20_2 : Int).toNat * 7, none⟩ = false := hfr35 0
                have hf35_1 : wr.frozen? ⟨go35, (x20_2 : Int).toNat * 7 + 1, none⟩ = false := hfr35 1
                have hf35_2 : wr.frozen? ⟨go35, (x20_2 : Int).toNat * 7 + 2, none⟩ = false := hfr35 2
                have hf35_3 : wr.frozen? ⟨go35, (x20_2 : Int).toNat * 7 + 3, none⟩ = false := hfr35 3
                have hf35_4 : wr.frozen? ⟨go35, (x20_2 : Int).toNat * 7 + 4, none⟩ = false := hfr35 4
                have hf35_5 : wr.frozen? ⟨go35, (x20_2 : Int).toNat * 7 + 5, none⟩ = false := hfr35 5
                have hf35_6 : wr.frozen? ⟨go35, (x20_2 : Int).toNat * 7 + 6, none⟩ = false := hfr35 6
                clear hcl35 hcc35 hfr35 hM35
                replace p35 := eq_true p35
                replace q35 := eq_true q35
                have HX39 := Aside0.mk (show Kd.R k39 39 wr w.heap.size (fun _ => True) (.slice (some ⟨go35, 0, none⟩) x18_2.length co35) x18_2 from (by (with_reducible repeat (first | apply Kd.R_alloc | apply Kd.R_drewN | apply Kd.R_drew)); exact HO_18.out))
                obtain ⟨ce39, hcl39, hM39, hcc39, hfr39⟩ := Kd.R_elem HX39.out z39 (x20_2 : Int) (of_decide_eq_true (by assumption)) (by have h_ : (x20_2 : Int) < ((x18_2.length : Int) : Int) := of_decide_eq_true (by assumption); first | exact h_ | (have e_ := (Kd.R_reads' HO_18.out).1; omega) | simpa using h_)
                obtain rfl := k39_openM hM39
                have HP39 := Kd.R_seg HX39.out (x20_2 : Int) (of_decide_eq_true (by assumption)) (by have h_ : (x20_2 : Int) < ((x18_2.length : Int) : Int) := of_decide_eq_true (by assumption); first | exact h_ | (have e_ := (Kd.R_reads' HO_18.out).1; omega) | simpa using h_) (seg := [.string (rdOf ByteArray.empty x12_1 x20_2)]) (j := 0) hcl39 hcc39 (show 1 ≤ 7 from by decide) (x' := (⟨rdOf ByteArray.empty x12_1 x20_2, (rd_T39 x18_2 x20_2).f1, (rd_T39 x18_2 x20_2).f2, (rd_T39 x18_2 x20_2).f3, (rd_T39 x18_2 x20_2).f4, (rd_T39 x18_2 x20_2).f5, (rd_T39 x18_2 x20_2).f6⟩ : S39)) (k39_mkM _ _ _ (⟨rdOf ByteArray.empty x12_1 x20_2, (rd_T39 x18_2 x20_2).f1, (rd_T39 x18_2 x20_2).f2, (rd_T39 x18_2 x20_2).f3, (rd_T39 x18_2 x20_2).f4, (rd_T39 x18_2 x20_2).f5, (rd_T39 x18_2 x20_2).f6⟩ : S39) ) (fun _ hk => hk)
                have hx39_0 := hcc39 0 _ rfl
                (try simp only [show (k39).sz = 7 from rfl, Nat.mul_one, Nat.add_zero] at hx39_0)
                have hf39_0 := hfr39 0
                (try simp only [show (k39).sz = 7 from rfl, Nat.mul_one, Nat.add_zero] at hf39_0)
                clear hcl39 hcc39 hfr39 hM39
                go_wp2_with (first | ((with_reducible refine gate_ (.load 35 (.tmp 17)) rfl ?_); refine wpList_load_row rfl 35 (.tmp 17) rfl gb325 rfl 35 _ (0, 0) _ (by (with_reducible repeat (first | refine blk_drewN ?_ _ | refine blk_drew ?_ | refine blk_alloc ?_ _)); exact BK325.out) Try.underlying35 rfl (by kernel_rfl) ?_) | ((with_reducible refine gate_store (t := 9) (p := 103) rfl ?_); refine store_event (t := 9) (p := 103) (v := ?vo_w40) (w1 := (wr.setCell ⟨go35, (x20_2 : Int).toNat * 7, none⟩ (.string (rdOf ByteArray.empty x12_1 x20_2)))) ?hg ?ho ?hn ?hr ?_; (case ho => rfl); (case hg => rfl); (case hn => rfl); (case hr => first | (go_simp; done) | (go_simp; rfl)); intro w40 hw; have hg : wr.grownBy w40 (some go35) := (by rw [hw]; exact HP39.2); have hp_ : Kd.R k39 39 w40 w.heap.size (fun _ => True) (.slice (some ⟨go35, 0, none⟩) x18_2.length co35) y330 := (by rw [hw, Ny330.out]; exact HP39.1); clear HP39; have n0_ := Aside0.mk (Kd.R_over' (v := (.slice (some ⟨go35, 0, none⟩) x18_2.length co35)) (by (with_reducible repeat (first | apply Kd.R_alloc | apply Kd.R_drewN | apply Kd.R_drew)); exact HO_12.out) (Kd.R_typed HO_18.out) (by decide) hg); have n1_ := Aside0.mk (Kd.R_over' (v := (.slice (some ⟨go35, 0, none⟩) x18_2.length co35)) (by (with_reducible repeat (first | apply Kd.R_alloc | apply Kd.R_drewN | apply Kd.R_drew)); exact HO_15.out) (Kd.R_typed HO_18.out) (by decide) hg); have n2_ := Aside0.mk (hp_); have n3_ := Aside0.mk (Kd.R_over' (v := (.slice (some ⟨go35, 0, none⟩) x18_2.length co35)) (by (with_reducible repeat (first | apply Kd.R_alloc | apply Kd.R_drewN | apply Kd.R_drew)); exact HO_19.out) (Kd.R_typed HO_18.out) (by decide) hg); have n4_ := Aside0.mk (Kd.R_over' (v := (.slice (some ⟨go35, 0, none⟩) x18_2.length co35)) (by (with_reducible repeat (first | apply Kd.R_alloc | apply Kd.R_drewN | apply Kd.R_drew)); exact HO_325002.out) (Kd.R_typed HO_18.out) (by decide) hg); have n5_ := Aside0.mk (blk_grown (g := gb324) (o := .cells #[.int .i64 0, .int .u64 0, .slice Ao26 y321.length co26] 32 (0, 0)) (by (with_reducible repeat (first | refine blk_drewN ?_ _ | refine blk_drew ?_ | refine blk_alloc ?_ _)); exact BK324.out) hg (Kd.R_ne HO_18.out BK324.out (by decide))); have n6_ := Aside0.mk (blk_grown (g := gb325) (o := .cells #[.slice none 0 0, .int .u64 0, .int .u64 0, .int .u64 0, .int .u64 0, .int .u64 0, .int .u64 0, .int .u64 0, .int .u64 0, .int .u64 0, .int .u64 0, .int .u64 0, .int .u64 0, .int .u64 0, .bool false, .bool false, .bool false, .int .u64 0, .int .u64 0, .int .u64 0, .int .u64 0, .int .u64 0, .int .u64 0, .int .u64 0, .int .u64 0, .int .u64 256, .int .u64 0, .int .u64 0, .int .u64 0, .int .u64 0, .int .u64 0, .int .u64 0, .bool false, .bool false, .bool false, .bool false, .bool false] 35 (0, 0)) (by (with_reducible repeat (first | refine blk_drewN ?_ _ | refine blk_drew ?_ | refine blk_alloc ?_ _)); exact BK325.out) hg (Kd.R_ne HO_18.out BK325.out (by decide))); have n7_ := Aside0.mk ((by rw [hw]; exact below_set (HB.out) GB35.out : Below w.heap.size w w40)); clear HO_12; clear HO_15; clear HO_18; clear HO_19; clear HO_325002; clear BK324; clear BK325; clear HB; have HO_12 := n0_; have HO_15 := n1_; have HO_18 := n2_; have HO_19 := n3_; have HO_325002 := n4_; have BK324 := n5_; have BK325 := n6_; have HB := n7_; clear n0_ n1_ n2_ n3_ n4_ n5_ n6_ n7_; clear hg hw hp_; have p331 : 0 ≤ (x20_2 : Int) := of_decide_eq_true (by assumption); have q331 : x20_2 < (x12_1.length : Int) := of_decide_eq_true (by assumption); obtain ⟨ad331, e331, hx331_0⟩ := Kd.at_string (Kd.R_reads' HO_12.out).2.2 x20_2 p331 q331; obtain rfl : ad329 = ad331 := (by injection e331); replace p331 := eq_true p331; replace q331 := eq_true q331) | ((with_reducible refine gate_builtin (b := .append) (xs := #[.tmp 114, .tmp 116]) rfl ?_); (try (refine gate_guard (by rfl) ?_; dsimp only)); at_builtin; refine Kd.R_append (Kd.int .i64) (w0 := w) w.heap.size rfl (.tmp 114) (.tmp 116) 37 3 (.int .i64 0) 8 rfl Try.underlying37 info3 rfl (by decide) (by omega) u19 x19_2 x20_2 [.int .i64 x20_2] (fun _ => True) (fun _ => False) rfl rfl ?aP (fun _ hk => hk.elim) ?aF ?aO ?aB ?aS ?aL ?_; (case aP => exact rfl); (case aB => exact (by repeat (first | (with_reducible first | exact HB.out | apply below_alloc | apply pw_below_drewN | apply below_drew1 | refine below_set ?_ GE324.out | refine below_set ?_ GE325.out) | exact HB.out))); (case aF => exact (fun _ _ => trivial)); (case aO => exact (by (with_reducible repeat (first | apply Kd.R_alloc | apply Kd.R_drewN | apply Kd.R_drew)); exact HO_19.out)); (case aS => exact (below_size (by repeat (first | (with_reducible first | exact HB.out | apply below_alloc | apply pw_below_drewN | apply below_drew1 | refine below_set ?_ GE324.out | refine below_set ?_ GE325.out) | exact HB.out)))); (case aL => have := LMc38.out; omega); intro v333 w41 ho hb hg hat; rw [← Ny332.out] at ho; have n0_ := Aside0.mk (Kd.R_over' (by (with_reducible repeat (first | apply Kd.R_alloc | apply Kd.R_drewN | apply Kd.R_drew)); exact HO_12.out) (Kd.R_typed (by (with_reducible repeat (first | apply Kd.R_alloc | apply Kd.R_drewN | apply Kd.R_drew)); exact HO_19.out)) (by decide) hg); have n1_ := Aside0.mk (Kd.R_over' (by (with_reducible repeat (first | apply Kd.R_alloc | apply Kd.R_drewN | apply Kd.R_drew)); exact HO_15.out) (Kd.R_typed (by (with_reducible repeat (first | apply Kd.R_alloc | apply Kd.R_drewN | apply Kd.R_drew)); exact HO_19.out)) (by decide) hg); have n2_ := Aside0.mk (Kd.R_over' (by (with_reducible repeat (first | apply Kd.R_alloc | apply Kd.R_drewN | apply Kd.R_drew)); exact HO_18.out) (Kd.R_typed (by (with_reducible repeat (first | apply Kd.R_alloc | apply Kd.R_drewN | apply Kd.R_drew)); exact HO_19.out)) (by decide) hg); have n3_ := Aside0.mk (Kd.R_over' (by (with_reducible repeat (first | apply Kd.R_alloc | apply Kd.R_drewN | apply Kd.R_drew)); exact HO_325002.out) (Kd.R_typed (by (with_reducible repeat (first | apply Kd.R_alloc | apply Kd.R_drewN | apply Kd.R_drew)); exact HO_19.out)) (by decide) hg); have n4_ := Aside0.mk (blk_grown (g := gb324) (o := .cells #[.int .i64 0, .int .u64 0, .slice Ao26 y321.length co26] 32 (0, 0)) (by (with_reducible repeat (first | refine blk_drewN ?_ _ | refine blk_drew ?_ | refine blk_alloc ?_ _)); exact BK324.out) hg (Kd.R_ne HO_19.out BK324.out (by decide))); have n5_ := Aside0.mk (blk_grown (g := gb325) (o := .cells #[.slice none 0 0, .int .u64 0, .int .u64 0, .int .u64 0, .int .u64 0, .int .u64 0, .int .u64 0, .int .u64 0, .int .u64 0, .int .u64 0, .int .u64 0, .int .u64 0, .int .u64 0, .int .u64 0, .bool false, .bool false, .bool false, .int .u64 0, .int .u64 0, .int .u64 0, .int .u64 0, .int .u64 0, .int .u64 0, .int .u64 0, .int .u64 0, .int .u64 256, .int .u64 0, .int .u64 0, .int .u64 0, .int .u64 0, .int .u64 0, .int .u64 0, .bool false, .bool false, .bool false, .bool false, .bool false] 35 (0, 0)) (by (with_reducible repeat (first | refine blk_drewN ?_ _ | refine blk_drew ?_ | refine blk_alloc ?_ _)); exact BK325.out) hg (Kd.R_ne HO_19.out BK325.out (by decide))); have n6_ := Aside0.mk (hb); have n7_ := Aside0.mk (ho); clear HO_12; clear HO_15; clear HO_18; clear HO_325002; clear BK324; clear BK325; clear HB; clear HO_19; have HO_12 := n0_; have HO_15 := n1_; have HO_18 := n2_; have HO_325002 := n3_; have BK324 := n4_; have BK325 := n5_; have HB := n6_; have HO334 := n7_; clear n0_ n1_ n2_ n3_ n4_ n5_ n6_ n7_; clear ho hb hg hat))
                go_roundg k2
                case measure => have := HK1.out; have := HK2.out; omega
                case rel => exact ⟨(y330), (y332), (wrap64 (x20_2 + 1)), (by first | rfl | (simp; done) | (simp [*]; done)), H', ⟨by have := HK1.out; have := HK2.out; omega⟩, ⟨by (with_reducible repeat (first | apply Kd.R_alloc | apply Kd.R_drewN | apply Kd.R_drew)); exact HO_12.out⟩, ⟨by (with_reducible repeat (first | apply Kd.R_alloc | apply Kd.R_drewN | apply Kd.R_drew)); exact HO_15.out⟩, ⟨by (with_reducible repeat (first | apply Kd.R_alloc | apply Kd.R_drewN | apply Kd.R_drew)); exact HO_18.out⟩, ⟨by (with_reducible repeat (first | apply Kd.R_alloc | apply Kd.R_drewN | apply Kd.R_drew)); exact HO334.out⟩, ⟨by (with_reducible repeat (first | apply Kd.R_alloc | apply Kd.R_drewN | apply Kd.R_drew)); exact HO_325002.out⟩, ⟨by (with_reducible repeat (first | refine blk_drewN ?_ _ | refine blk_drew ?_ | refine blk_alloc ?_ _)); exact BK324.out⟩, ⟨by (with_reducible repeat (first | refine blk_drewN ?_ _ | refine blk_drew ?_ | refine blk_alloc ?_ _)); exact BK325.out⟩, ⟨by repeat (first | (with_reducible first | exact HB.out | apply below_alloc | apply pw_below_drewN | apply below_drew1 | refine below_set ?_ GE324.out | refine below_set ?_ GE325.out) | exact HB.out)⟩⟩
               ·rw [if_neg c38] at H
                exact absurd H (by simp)
              ·rw [if_neg c37] at H
               have c37b0 : ((rdOf ByteArray.empty x12_1 x20_2).toList == a3.toList) = false := beq_eq_false_iff_ne.mpr c37
               have c37b1 : ((rdOf ByteArray.empty x12_1 x20_2).toList != a3.toList) = true := bne_iff_ne.mpr c37
               have H' := Aside0.mk H
               clear H
               have p329 : 0 ≤ (x20_2 : Int) := of_decide_eq_true (by assumption)
               have q329 : x20_2 < (x12_1.length : Int) := of_decide_eq_true (by assumption)
               obtain ⟨ad329, e329, hx329_0⟩ := Kd.at_string (Kd.R_reads' HO_12.out).2.2 x20_2 p329 q329
               cases e329
               replace p329 := eq_true p329
               replace q329 := eq_true q329
               have p35 : 0 ≤ (x20_2 : Int) := of_decide_eq_true (by assumption)
               have q35 : (x20_2 : Int) < ((x18_2.length : Int) : Int) := of_decide_eq_true (by assumption)
               obtain ⟨go35, co35, eo35, gb35, gl35, cl35, HG35⟩ := Kd.R_form HO_18.out (by omega)
               (first | cases eo35 | (injection eo35 with ea_ en_ ec_; (first | subst ea_ | (injection ea_ with ea_; subst ea_)); subst ec_; clear en_))
               have GB35 := Aside0.mk gb35
               have GG35 := Aside0.mk HG35
               clear gb35 gl35 HG35
               obtain ⟨ce35, hcl35, hM35, hcc35, hfr35⟩ := Kd.R_elem HO_18.out z39 (x20_2 : Int) p35 q35
               obtain rfl := k39_openM hM35
               have hx35_0 : wr.cell? ⟨go35, (x20_2 : Int).toNat * 7, none⟩ = some (.string ((rd_T39 x18_2 x20_2).f0)) := hcc35 0 _ rfl
               have hx35_1 : wr.cell? ⟨go35, (x20_2 : Int).toNat * 7 + 1, none⟩ = some (.int .i64 ((rd_T39 x18_2 x20_2).f1)) := hcc35 1 _ rfl
               have hx35_2 : wr.cell? ⟨go35, (x20_2 : Int).toNat * 7 + 2, none⟩ = some (.int .i64 ((rd_T39 x18_2 x20_2).f2)) := hcc35 2 _ rfl
               have hx35_3 : wr.cell? ⟨go35, (x20_2 : Int).toNat * 7 + 3, none⟩ = some (.int .i64 ((rd_T39 x18_2 x20_2).f3)) := hcc35 3 _ rfl
               have hx35_4 : wr.cell? ⟨go35, (x20_2 : Int).toNat * 7 + 4, none⟩ = some (.int .i64 ((rd_T39 x18_2 x20_2).f4)) := hcc35 4 _ rfl
               have hx35_5 : wr.cell? ⟨go35, (x20_2 : Int).toNat * 7 + 5, none⟩ = some (.int .u64 ((rd_T39 x18_2 x20_2).f5)) := hcc35 5 _ rfl
               have hx35_6 : wr.cell? ⟨go35, (x20_2 : Int).toNat * 7 + 6, none⟩ = some (.int .u64 ((rd_T39 x18_2 x20_2).f6)) := hcc35 6 _ rfl
               have hf35_0 : wr.frozen? ⟨go35, (x20_2 : Int).toNat * 7, none⟩ = false := hfr35 0
               have hf35_1 : wr.frozen? ⟨go35, (x20_2 : Int).toNat * 7 + 1, none⟩ = false := hfr35 1
               have hf35_2 : wr.frozen? ⟨go35, (x20_2 : Int).toNat * 7 + 2, none⟩ = false := hfr35 2
               have hf35_3 : wr.frozen? ⟨go35, (x20_2 : Int).toNat * 7 + 3, none⟩ = false := hfr35 3
               have hf35_4 : wr.frozen? ⟨go35, (x20_2 : Int).toNat * 7 + 4, none⟩ = false := hfr35 4
               have hf35_5 : wr.frozen? ⟨go35, (x20_2 : Int).toNat * 7 + 5, none⟩ = false := hfr35 5
               have hf35_6 : wr.frozen? ⟨go35, (x20_2 : Int).toNat * 7 + 6, none⟩ = false := hfr35 6
               clear hcl35 hcc35 hfr35 hM35
               replace p35 := eq_true p35
               replace q35 := eq_true q35
               have HX42 := Aside0.mk (show Kd.R k39 39 wr w.heap.size (fun _ => True) (.slice (some ⟨go35, 0, none⟩) x18_2.length co35) x18_2 from (by (with_reducible repeat (first | apply Kd.R_alloc | apply Kd.R_drewN | apply Kd.R_drew)); exact HO_18.out))
               obtain ⟨ce42, hcl42, hM42, hcc42, hfr42⟩ := Kd.R_elem HX42.out z39 (x20_2 : Int) (of_decide_eq_true (by assumption)) (by have h_ : (x20_2 : Int) < ((x18_2.length : Int) : Int) := of_decide_eq_true (by assumption); first | exact h_ | (have e_ := (Kd.R_reads' HO_18.out).1; omega) | simpa using h_)
               obtain rfl := k39_openM hM42
               have HP42 := Kd.R_seg HX42.out (x20_2 : Int) (of_decide_eq_true (by assumption)) (by have h_ : (x20_2 : Int) < ((x18_2.length : Int) : Int) := of_decide_eq_true (by assumption); first | exact h_ | (have e_ := (Kd.R_reads' HO_18.out).1; omega) | simpa using h_) (seg := [.string (rdOf ByteArray.empty x12_1 x20_2)]) (j := 0) hcl42 hcc42 (show 1 ≤ 7 from by decide) (x' := (⟨rdOf ByteArray.empty x12_1 x20_2, (rd_T39 x18_2 x20_2).f1, (rd_T39 x18_2 x20_2).f2, (rd_T39 x18_2 x20_2).f3, (rd_T39 x18_2 x20_2).f4, (rd_T39 x18_2 x20_2).f5, (rd_T39 x18_2 x20_2).f6⟩ : S39)) (k39_mkM _ _ _ (⟨rdOf ByteArray.empty x12_1 x20_2, (rd_T39 x18_2 x20_2).f1, (rd_T39 x18_2 x20_2).f2, (rd_T39 x18_2 x20_2).f3, (rd_T39 x18_2 x20_2).f4, (rd_T39 x18_2 x20_2).f5, (rd_T39 x18_2 x20_2).f6⟩ : S39) ) (fun _ hk => hk)
               have hx42_0 := hcc42 0 _ rfl
               (try simp only [show (k39).sz = 7 from rfl, Nat.mul_one, Nat.add_zero] at hx42_0)
               have hf42_0 := hfr42 0
               (try simp only [show (k39).sz = 7 from rfl, Nat.mul_one, Nat.add_zero] at hf42_0)
               clear hcl42 hcc42 hfr42 hM42
               go_wp2_with (first | ((with_reducible refine gate_ (.load 35 (.tmp 17)) rfl ?_); refine wpList_load_row rfl 35 (.tmp 17) rfl gb325 rfl 35 _ (0, 0) _ (by (with_reducible repeat (first | refine blk_drewN ?_ _ | refine blk_drew ?_ | refine blk_alloc ?_ _)); exact BK325.out) Try.underlying35 rfl (by kernel_rfl) ?_) | ((with_reducible refine gate_store (t := 9) (p := 103) rfl ?_); refine store_event (t := 9) (p := 103) (v := ?vo_w43) (w1 := (wr.setCell ⟨go35, (x20_2 : Int).toNat * 7, none⟩ (.string (rdOf ByteArray.empty x12_1 x20_2)))) ?hg ?ho ?hn ?hr ?_; (case ho => rfl); (case hg => rfl); (case hn => rfl); (case hr => first | (go_simp; done) | (go_simp; rfl)); intro w43 hw; have hg : wr.grownBy w43 (some go35) := (by rw [hw]; exact HP42.2); have hp_ : Kd.R k39 39 w43 w.heap.size (fun _ => True) (.slice (some ⟨go35, 0, none⟩) x18_2.length co35) y330 := (by rw [hw, Ny330.out]; exact HP42.1); clear HP42; have n0_ := Aside0.mk (Kd.R_over' (v := (.slice (some ⟨go35, 0, none⟩) x18_2.length co35)) (by (with_reducible repeat (first | apply Kd.R_alloc | apply Kd.R_drewN | apply Kd.R_drew)); exact HO_12.out) (Kd.R_typed HO_18.out) (by decide) hg); have n1_ := Aside0.mk (Kd.R_over' (v := (.slice (some ⟨go35, 0, none⟩) x18_2.length co35)) (by (with_reducible repeat (first | apply Kd.R_alloc | apply Kd.R_drewN | apply Kd.R_drew)); exact HO_15.out) (Kd.R_typed HO_18.out) (by decide) hg); have n2_ := Aside0.mk (hp_); have n3_ := Aside0.mk (Kd.R_over' (v := (.slice (some ⟨go35, 0, none⟩) x18_2.length co35)) (by (with_reducible repeat (first | apply Kd.R_alloc | apply Kd.R_drewN | apply Kd.R_drew)); exact HO_19.out) (Kd.R_typed HO_18.out) (by decide) hg); have n4_ := Aside0.mk (Kd.R_over' (v := (.slice (some ⟨go35, 0, none⟩) x18_2.length co35)) (by (with_reducible repeat (first | apply Kd.R_alloc | apply Kd.R_drewN | apply Kd.R_drew)); exact HO_325002.out) (Kd.R_typed HO_18.out) (by decide) hg); have n5_ := Aside0.mk (blk_grown (g := gb324) (o := .cells #[.int .i64 0, .int .u64 0, .slice Ao26 y321.length co26] 32 (0, 0)) (by (with_reducible repeat (first | refine blk_drewN ?_ _ | refine blk_drew ?_ | refine blk_alloc ?_ _)); exact BK324.out) hg (Kd.R_ne HO_18.out BK324.out (by decide))); have n6_ := Aside0.mk (blk_grown (g := gb325) (o := .cells #[.slice none 0 0, .int .u64 0, .int .u64 0, .int .u64 0, .int .u64 0, .int .u64 0, .int .u64 0, .int .u64 0, .int .u64 0, .int .u64 0, .int .u64 0, .int .u64 0, .int .u64 0, .int .u64 0, .bool false, .bool false, .bool false, .int .u64 0, .int .u64 0, .int .u64 0, .int .u64 0, .int .u64 0, .int .u64 0, .int .u64 0, .int .u64 0, .int .u64 256, .int .u64 0, .int .u64 0, .int .u64 0, .int .u64 0, .int .u64 0, .int .u64 0, .bool false, .bool false, .bool false, .bool false, .bool false] 35 (0, 0)) (by (with_reducible repeat (first | refine blk_drewN ?_ _ | refine blk_drew ?_ | refine blk_alloc ?_ _)); exact BK325.out) hg (Kd.R_ne HO_18.out BK325.out (by decide))); have n7_ := Aside0.mk ((by rw [hw]; exact below_set (HB.out) GB35.out : Below w.heap.size w w43)); clear HO_12; clear HO_15; clear HO_18; clear HO_19; clear HO_325002; clear BK324; clear BK325; clear HB; have HO_12 := n0_; have HO_15 := n1_; have HO_18 := n2_; have HO_19 := n3_; have HO_325002 := n4_; have BK324 := n5_; have BK325 := n6_; have HB := n7_; clear n0_ n1_ n2_ n3_ n4_ n5_ n6_ n7_; clear hg hw hp_; have p331 : 0 ≤ (x20_2 : Int) := of_decide_eq_true (by assumption); have q331 : x20_2 < (x12_1.length : Int) := of_decide_eq_true (by assumption); obtain ⟨ad331, e331, hx331_0⟩ := Kd.at_string (Kd.R_reads' HO_12.out).2.2 x20_2 p331 q331; obtain rfl : ad329 = ad331 := (by injection e331); replace p331 := eq_true p331; replace q331 := eq_true q331))
               go_roundg k2
               case measure => have := HK1.out; have := HK2.out; omega
               case rel => exact ⟨(y330), (x19_2), (wrap64 (x20_2 + 1)), (by first | rfl | (simp; done) | (simp [*]; done)), H', ⟨by have := HK1.out; have := HK2.out; omega⟩, ⟨by (with_reducible repeat (first | apply Kd.R_alloc | apply Kd.R_drewN | apply Kd.R_drew)); exact HO_12.out⟩, ⟨by (with_reducible repeat (first | apply Kd.R_alloc | apply Kd.R_drewN | apply Kd.R_drew)); exact HO_15.out⟩, ⟨by (with_reducible repeat (first | apply Kd.R_alloc | apply Kd.R_drewN | apply Kd.R_drew)); exact HO_18.out⟩, ⟨by (with_reducible repeat (first | apply Kd.R_alloc | apply Kd.R_drewN | apply Kd.R_drew)); exact HO_19.out⟩, ⟨by (with_reducible repeat (first | apply Kd.R_alloc | apply Kd.R_drewN | apply Kd.R_drew)); exact HO_325002.out⟩, ⟨by (with_reducible repeat (first | refine blk_drewN ?_ _ | refine blk_drew ?_ | refine blk_alloc ?_ _)); exact BK324.out⟩, ⟨by (with_reducible repeat (first | refine blk_drewN ?_ _ | refine blk_drew ?_ | refine blk_alloc ?_ _)); exact BK325.out⟩, ⟨by repeat (first | (with_reducible first | exact HB.out | apply below_alloc | apply pw_below_drewN | apply below_drew1 | refine below_set ?_ GE324.out | refine below_set ?_ GE325.out) | exact HB.out)⟩⟩
             ·rw [if_neg c36] at H
              have c36b0 : decide (0 < x20_2) = false := decide_eq_false c36
              clear c36
              have H' := Aside0.mk H
              clear H
              have p329 : 0 ≤ (x20_2 : Int) := of_decide_eq_true (by assumption)
              have q329 : x20_2 < (x12_1.length : Int) := of_decide_eq_true (by assumption)
              obtain ⟨ad329, e329, hx329_0⟩ := Kd.at_string (Kd.R_reads' HO_12.out).2.2 x20_2 p329 q329
              cases e329
              replace p329 := eq_true p329
              replace q329 := eq_true q329
              have p35 : 0 ≤ (x20_2 : Int) := of_decide_eq_true (by assumption)
              have q35 : (x20_2 : Int) < ((x18_2.length : Int) : Int) := of_decide_eq_true (by assumption)
              obtain ⟨go35, co35, eo35, gb35, gl35, cl35, HG35⟩ := Kd.R_form HO_18.out (by omega)
              (first | cases eo35 | (injection eo35 with ea_ en_ ec_; (first | subst ea_ | (injection ea_ with ea_; subst ea_)); subst ec_; clear en_))
              have GB35 := Aside0.mk gb35
              have GG35 := Aside0.mk HG35
              clear gb35 gl35 HG35
              obtain ⟨ce35, hcl35, hM35, hcc35, hfr35⟩ := Kd.R_elem HO_18.out z39 (x20_2 : Int) p35 q35
              obtain rfl := k39_openM hM35
              have hx35_0 : wr.cell? ⟨go35, (x20_2 : Int).toNat * 7, none⟩ = some (.string ((rd_T39 x18_2 x20_2).f0)) := hcc35 0 _ rfl
              have hx35_1 : wr.cell? ⟨go35, (x20_2 : Int).toNat * 7 + 1, none⟩ = some (.int .i64 ((rd_T39 x18_2 x20_2).f1)) := hcc35 1 _ rfl
              have hx35_2 : wr.cell? ⟨go35, (x20_2 : Int).toNat * 7 + 2, none⟩ = some (.int .i64 ((rd_T39 x18_2 x20_2).f2)) := hcc35 2 _ rfl
              have hx35_3 : wr.cell? ⟨go35, (x20_2 : Int).toNat * 7 + 3, none⟩ = some (.int .i64 ((rd_T39 x18_2 x20_2).f3)) := hcc35 3 _ rfl
              have hx35_4 : wr.cell? ⟨go35, (x20_2 : Int).toNat * 7 + 4, none⟩ = some (.int .i64 ((rd_T39 x18_2 x20_2).f4)) := hcc35 4 _ rfl
              have hx35_5 : wr.cell? ⟨go35, (x20_2 : Int).toNat * 7 + 5, none⟩ = some (.int .u64 ((rd_T39 x18_2 x20_2).f5)) := hcc35 5 _ rfl
              have hx35_6 : wr.cell? ⟨go35, (x20_2 : Int).toNat * 7 + 6, none⟩ = some (.int .u64 ((rd_T39 x18_2 x20_2).f6)) := hcc35 6 _ rfl
              have hf35_0 : wr.frozen? ⟨go35, (x20_2 : Int).toNat * 7, none⟩ = false := hfr35 0
              have hf35_1 : wr.frozen? ⟨go35, (x20_2 : Int).toNat * 7 + 1, none⟩ = false := hfr35 1
              have hf35_2 : wr.frozen? ⟨go35, (x20_2 : Int).toNat * 7 + 2, none⟩ = false := hfr35 2
              have hf35_3 : wr.frozen? ⟨go35, (x20_2 : Int).toNat * 7 + 3, none⟩ = false := hfr35 3
              have hf35_4 : wr.frozen? ⟨go35, (x20_2 : Int).toNat * 7 + 4, none⟩ = false := hfr35 4
              have hf35_5 : wr.frozen? ⟨go35, (x20_2 : Int).toNat * 7 + 5, none⟩ = false := hfr35 5
              have hf35_6 : wr.frozen? ⟨go35, (x20_2 : Int).toNat * 7 + 6, none⟩ = false := hfr35 6
              clear hcl35 hcc35 hfr35 hM35
              replace p35 := eq_true p35
              replace q35 := eq_true q35
              have HX44 := Aside0.mk (show Kd.R k39 39 wr w.heap.size (fun _ => True) (.slice (some ⟨go35, 0, none⟩) x18_2.length co35) x18_2 from (by (with_reducible repeat (first | apply Kd.R_alloc | apply Kd.R_drewN | apply Kd.R_drew)); exact HO_18.out))
              obtain ⟨ce44, hcl44, hM44, hcc44, hfr44⟩ := Kd.R_elem HX44.out z39 (x20_2 : Int) (of_decide_eq_true (by assumption)) (by have h_ : (x20_2 : Int) < ((x18_2.length : Int) : Int) := of_decide_eq_true (by assumption); first | exact h_ | (have e_ := (Kd.R_reads' HO_18.out).1; omega) | simpa using h_)
              obtain rfl := k39_openM hM44
              have HP44 := Kd.R_seg HX44.out (x20_2 : Int) (of_decide_eq_true (by assumption)) (by have h_ : (x20_2 : Int) < ((x18_2.length : Int) : Int) := of_decide_eq_true (by assumption); first | exact h_ | (have e_ := (Kd.R_reads' HO_18.out).1; omega) | simpa using h_) (seg := [.string (rdOf ByteArray.empty x12_1 x20_2)]) (j := 0) hcl44 hcc44 (show 1 ≤ 7 from by decide) (x' := (⟨rdOf ByteArray.empty x12_1 x20_2, (rd_T39 x18_2 x20_2).f1, (rd_T39 x18_2 x20_2).f2, (rd_T39 x18_2 x20_2).f3, (rd_T39 x18_2 x20_2).f4, (rd_T39 x18_2 x20_2).f5, (rd_T39 x18_2 x20_2).f6⟩ : S39)) (k39_mkM _ _ _ (⟨rdOf ByteArray.empty x12_1 x20_2, (rd_T39 x18_2 x20_2).f1, (rd_T39 x18_2 x20_2).f2, (rd_T39 x18_2 x20_2).f3, (rd_T39 x18_2 x20_2).f4, (rd_T39 x18_2 x20_2).f5, (rd_T39 x18_2 x20_2).f6⟩ : S39) ) (fun _ hk => hk)
              have hx44_0 := hcc44 0 _ rfl
              (try simp only [show (k39).sz = 7 from rfl, Nat.mul_one, Nat.add_zero] at hx44_0)
              have hf44_0 := hfr44 0
              (try simp only [show (k39).sz = 7 from rfl, Nat.mul_one, Nat.add_zero] at hf44_0)
              clear hcl44 hcc44 hfr44 hM44
              go_wp2_with (first | ((with_reducible refine gate_ (.load 35 (.tmp 17)) rfl ?_); refine wpList_load_row rfl 35 (.tmp 17) rfl gb325 rfl 35 _ (0, 0) _ (by (with_reducible repeat (first | refine blk_drewN ?_ _ | refine blk_drew ?_ | refine blk_alloc ?_ _)); exact BK325.out) Try.underlying35 rfl (by kernel_rfl) ?_) | ((with_reducible refine gate_store (t := 9) (p := 103) rfl ?_); refine store_event (t := 9) (p := 103) (v := ?vo_w45) (w1 := (wr.setCell ⟨go35, (x20_2 : Int).toNat * 7, none⟩ (.string (rdOf ByteArray.empty x12_1 x20_2)))) ?hg ?ho ?hn ?hr ?_; (case ho => rfl); (case hg => rfl); (case hn => rfl); (case hr => first | (go_simp; done) | (go_simp; rfl)); intro w45 hw; have hg : wr.grownBy w45 (some go35) := (by rw [hw]; exact HP44.2); have hp_ : Kd.R k39 39 w45 w.heap.size (fun _ => True) (.slice (some ⟨go35, 0, none⟩) x18_2.length co35) y330 := (by rw [hw, Ny330.out]; exact HP44.1); clear HP44; have n0_ := Aside0.mk (Kd.R_over' (v := (.slice (some ⟨go35, 0, none⟩) x18_2.length co35)) (by (with_reducible repeat (first | apply Kd.R_alloc | apply Kd.R_drewN | apply Kd.R_drew)); exact HO_12.out) (Kd.R_typed HO_18.out) (by decide) hg); have n1_ := Aside0.mk (Kd.R_over' (v := (.slice (some ⟨go35, 0, none⟩) x18_2.length co35)) (by (with_reducible repeat (first | apply Kd.R_alloc | apply Kd.R_drewN | apply Kd.R_drew)); exact HO_15.out) (Kd.R_typed HO_18.out) (by decide) hg); have n2_ := Aside0.mk (hp_); have n3_ := Aside0.mk (Kd.R_over' (v := (.slice (some ⟨go35, 0, none⟩) x18_2.length co35)) (by (with_reducible repeat (first | apply Kd.R_alloc | apply Kd.R_drewN | apply Kd.R_drew)); exact HO_19.out) (Kd.R_typed HO_18.out) (by decide) hg); have n4_ := Aside0.mk (Kd.R_over' (v := (.slice (some ⟨go35, 0, none⟩) x18_2.length co35)) (by (with_reducible repeat (first | apply Kd.R_alloc | apply Kd.R_drewN | apply Kd.R_drew)); exact HO_325002.out) (Kd.R_typed HO_18.out) (by decide) hg); have n5_ := Aside0.mk (blk_grown (g := gb324) (o := .cells #[.int .i64 0, .int .u64 0, .slice Ao26 y321.length co26] 32 (0, 0)) (by (with_reducible repeat (first | refine blk_drewN ?_ _ | refine blk_drew ?_ | refine blk_alloc ?_ _)); exact BK324.out) hg (Kd.R_ne HO_18.out BK324.out (by decide))); have n6_ := Aside0.mk (blk_grown (g := gb325) (o := .cells #[.slice none 0 0, .int .u64 0, .int .u64 0, .int .u64 0, .int .u64 0, .int .u64 0, .int .u64 0, .int .u64 0, .int .u64 0, .int .u64 0, .int .u64 0, .int .u64 0, .int .u64 0, .int .u64 0, .bool false, .bool false, .bool false, .int .u64 0, .int .u64 0, .int .u64 0, .int .u64 0, .int .u64 0, .int .u64 0, .int .u64 0, .int .u64 0, .int .u64 256, .int .u64 0, .int .u64 0, .int .u64 0, .int .u64 0, .int .u64 0, .int .u64 0, .bool false, .bool false, .bool false, .bool false, .bool false] 35 (0, 0)) (by (with_reducible repeat (first | refine blk_drewN ?_ _ | refine blk_drew ?_ | refine blk_alloc ?_ _)); exact BK325.out) hg (Kd.R_ne HO_18.out BK325.out (by decide))); have n7_ := Aside0.mk ((by rw [hw]; exact below_set (HB.out) GB35.out : Below w.heap.size w w45)); clear HO_12; clear HO_15; clear HO_18; clear HO_19; clear HO_325002; clear BK324; clear BK325; clear HB; have HO_12 := n0_; have HO_15 := n1_; have HO_18 := n2_; have HO_19 := n3_; have HO_325002 := n4_; have BK324 := n5_; have BK325 := n6_; have HB := n7_; clear n0_ n1_ n2_ n3_ n4_ n5_ n6_ n7_; clear hg hw hp_))
              go_roundg k2
              case measure => have := HK1.out; have := HK2.out; omega
              case rel => exact ⟨(y330), (x19_2), (wrap64 (x20_2 + 1)), (by first | rfl | (simp; done) | (simp [*]; done)), H', ⟨by have := HK1.out; have := HK2.out; omega⟩, ⟨by (with_reducible repeat (first | apply Kd.R_alloc | apply Kd.R_drewN | apply Kd.R_drew)); exact HO_12.out⟩, ⟨by (with_reducible repeat (first | apply Kd.R_alloc | apply Kd.R_drewN | apply Kd.R_drew)); exact HO_15.out⟩, ⟨by (with_reducible repeat (first | apply Kd.R_alloc | apply Kd.R_drewN | apply Kd.R_drew)); exact HO_18.out⟩, ⟨by (with_reducible repeat (first | apply Kd.R_alloc | apply Kd.R_drewN | apply Kd.R_drew)); exact HO_19.out⟩, ⟨by (with_reducible repeat (first | apply Kd.R_alloc | apply Kd.R_drewN | apply Kd.R_drew)); exact HO_325002.out⟩, ⟨by (with_reducible repeat (first | refine blk_drewN ?_ _ | refine blk_drew ?_ | refine blk_alloc ?_ _)); exact BK324.out⟩, ⟨by (with_reducible repeat (first | refine blk_drewN ?_ _ | refine blk_drew ?_ | refine blk_alloc ?_ _)); exact BK325.out⟩, ⟨by repeat (first | (with_reducible first | exact HB.out | apply below_alloc | apply pw_below_drewN | apply below_drew1 | refine below_set ?_ GE324.out | refine below_set ?_ GE325.out) | exact HB.out)⟩⟩
            ·rw [if_neg c34] at H
             exact absurd H (by simp)
           ·rw [if_neg c33] at H
            exact absurd H (by simp)
          ·rw [if_neg c32] at H
           have c32b0 : decide (x20_2 < (x12_1.length : Int)) = false := decide_eq_false c32
           clear c32
           replace H := Option.bind_eq_some_iff.mp H
           obtain ⟨⟨t335, t336⟩, A460, H⟩ := H
           replace H : ((hash_Look.f k2 t318 0 0 y321 ([] : List Int) 0 0 0 0 0 0 0 0 0 0 0 0 0 false false false 0 0 0 0 0 0 0 0 256 0 0 0 0 0 0 false false false false false x18_2 a3).bind fun bt337 => ((shackleref07_Same.f k2 bt337.1 x19_2).bind fun t341 => (if t308 = true then (if t336.isNone = true then (if bt337.2.isNone = true then (if t335 = (x12_1.length : Int) then (some t341) else (none)) else (none)) else (none)) else (none)))) = some r := H
           have A46 := Aside0.mk A460
           clear A460
           replace H := Option.bind_eq_some_iff.mp H
           obtain ⟨⟨t337, t340⟩, A470, H⟩ := H
           replace H : ((shackleref07_Same.f k2 t337 x19_2).bind fun t341 => (if t308 = true then (if t336.isNone = true then (if t340.isNone = true then (if t335 = (x12_1.length : Int) then (some t341) else (none)) else (none)) else (none)) else (none))) = some r := H
           have A47 := Aside0.mk A470
           clear A470
           replace H := Option.bind_eq_some_iff.mp H
           obtain ⟨t341, A480, H⟩ := H
           replace H : (if t308 = true then (if t336.isNone = true then (if t340.isNone = true then (if t335 = (x12_1.length : Int) then (some t341) else (none)) else (none)) else (none)) else (none)) = some r := H
           have A48 := Aside0.mk A480
           clear A480
           by_cases c49 : t308 = true
           ·subst c49
            have H1 : (if t336.isNone = true then (if t340.isNone = true then (if t335 = (x12_1.length : Int) then (some t341) else (none)) else (none)) else (none)) = some r := by rw [if_pos rfl] at H; exact H
            clear H
            have H := H1
            clear H1
            rcases t336 with _ | q342
            ·have H1 : (if t340.isNone = true then (if t335 = (x12_1.length : Int) then (some t341) else (none)) else (none)) = some r := by rw [if_pos (show (none : Option Int).isNone = true by rfl)] at H; exact H
             clear H
             have H := H1
             clear H1
             try simp only [errW_none, errW_some]
             rcases t340 with _ | q343
             ·have H1 : (if t335 = (x12_1.length : Int) then (some t341) else (none)) = some r := by rw [if_pos (show (none : Option Int).isNone = true by rfl)] at H; exact H
              clear H
              have H := H1
              clear H1
              try simp only [errW_none, errW_some]
              by_cases c50 : t335 = (x12_1.length : Int)
              ·rw [if_pos c50] at H
               have c50b0 : (t335 == (x12_1.length : Int)) = true := beq_iff_eq.mpr c50
               have c50b1 : (t335 != (x12_1.length : Int)) = false := bne_eq_false_iff_eq.mpr c50
               clear c50
               obtain rfl := Option.some.inj H
               have hnb51 := NB324_325.out
               have hnc51 := NB325_324.out
               have hcz52_0 : wr.cell? ⟨gb324, 0, none⟩ = some (.int .i64 0) := (blk_cell BK324.out 0).trans rfl
               have hcz52_1 : wr.cell? ⟨gb324, 1, none⟩ = some (.int .u64 0) := (blk_cell BK324.out 1).trans rfl
               have hcz52_2 : wr.cell? ⟨gb324, 2, none⟩ = some (.slice Ao26 y321.length co26) := (blk_cell BK324.out 2).trans rfl
               have hfz52_0 := blk_frozen BK324.out 0
               have hfz52_1 := blk_frozen BK324.out 1
               have hfz52_2 := blk_frozen BK324.out 2
               have hcz53_0 : wr.cell? ⟨gb325, 0, none⟩ = some (.slice none 0 0) := (blk_cell BK325.out 0).trans rfl
               have hcz53_1 : wr.cell? ⟨gb325, 1, none⟩ = some (.int .u64 0) := (blk_cell BK325.out 1).trans rfl
               have hcz53_2 : wr.cell? ⟨gb325, 2, none⟩ = some (.int .u64 0) := (blk_cell BK325.out 2).trans rfl
               have hcz53_3 : wr.cell? ⟨gb325, 3, none⟩ = some (.int .u64 0) := (blk_cell BK325.out 3).trans rfl
               have hcz53_4 : wr.cell? ⟨gb325, 4, none⟩ = some (.int .u64 0) := (blk_cell BK325.out 4).trans rfl
               have hcz53_5 : wr.cell? ⟨gb325, 5, none⟩ = some (.int .u64 0) := (blk_cell BK325.out 5).trans rfl
               have hcz53_6 : wr.cell? ⟨gb325, 6, none⟩ = some (.int .u64 0) := (blk_cell BK325.out 6).trans rfl
               have hcz53_7 : wr.cell? ⟨gb325, 7, none⟩ = some (.int .u64 0) := (blk_cell BK325.out 7).trans rfl
               have hcz53_8 : wr.cell? ⟨gb325, 8, none⟩ = some (.int .u64 0) := (blk_cell BK325.out 8).trans rfl
               have hcz53_9 : wr.cell? ⟨gb325, 9, none⟩ = some (.int .u64 0) := (blk_cell BK325.out 9).trans rfl
               have hcz53_10 : wr.cell? ⟨gb325, 10, none⟩ = some (.int .u64 0) := (blk_cell BK325.out 10).trans rfl
               have hcz53_11 : wr.cell? ⟨gb325, 11, none⟩ = some (.int .u64 0) := (blk_cell BK325.out 11).trans rfl
               have hcz53_12 : wr.cell? ⟨gb325, 12, none⟩ = some (.int .u64 0) := (blk_cell BK325.out 12).trans rfl
               have hcz53_13 : wr.cell? ⟨gb325, 13, none⟩ = some (.int .u64 0) := (blk_cell BK325.out 13).trans rfl
               have hcz53_14 : wr.cell? ⟨gb325, 14, none⟩ = some (.bool false) := (blk_cell BK325.out 14).trans rfl
               have hcz53_15 : wr.cell? ⟨gb325, 15, none⟩ = some (.bool false) := (blk_cell BK325.out 15).trans rfl
               have hcz53_16 : wr.cell? ⟨gb325, 16, none⟩ = some (.bool false) := (blk_cell BK325.out 16).trans rfl
               have hcz53_17 : wr.cell? ⟨gb325, 17, none⟩ = some (.int .u64 0) := (blk_cell BK325.out 17).trans rfl
               have hcz53_18 : wr.cell? ⟨gb325, 18, none⟩ = some (.int .u64 0) := (blk_cell BK325.out 18).trans rfl
               have hcz53_19 : wr.cell? ⟨gb325, 19, none⟩ = some (.int .u64 0) := (blk_cell BK325.out 19).trans rfl
               have hcz53_20 : wr.cell? ⟨gb325, 20, none⟩ = some (.int .u64 0) := (blk_cell BK325.out 20).trans rfl
               have hcz53_21 : wr.cell? ⟨gb325, 21, none⟩ = some (.int .u64 0) := (blk_cell BK325.out 21).trans rfl
               have hcz53_22 : wr.cell? ⟨gb325, 22, none⟩ = some (.int .u64 0) := (blk_cell BK325.out 22).trans rfl
               have hcz53_23 : wr.cell? ⟨gb325, 23, none⟩ = some (.int .u64 0) := (blk_cell BK325.out 23).trans rfl
               have hcz53_24 : wr.cell? ⟨gb325, 24, none⟩ = some (.int .u64 0) := (blk_cell BK325.out 24).trans rfl
               have hcz53_25 : wr.cell? ⟨gb325, 25, none⟩ = some (.int .u64 256) := (blk_cell BK325.out 25).trans rfl
               have hcz53_26 : wr.cell? ⟨gb325, 26, none⟩ = some (.int .u64 0) := (blk_cell BK325.out 26).trans rfl
               have hcz53_27 : wr.cell? ⟨gb325, 27, none⟩ = some (.int .u64 0) := (blk_cell BK325.out 27).trans rfl
               have hcz53_28 : wr.cell? ⟨gb325, 28, none⟩ = some (.int .u64 0) := (blk_cell BK325.out 28).trans rfl
               have hcz53_29 : wr.cell? ⟨gb325, 29, none⟩ = some (.int .u64 0) := (blk_cell BK325.out 29).trans rfl
               have hcz53_30 : wr.cell? ⟨gb325, 30, none⟩ = some (.int .u64 0) := (blk_cell BK325.out 30).trans rfl
               have hcz53_31 : wr.cell? ⟨gb325, 31, none⟩ = some (.int .u64 0) := (blk_cell BK325.out 31).trans rfl
               have hcz53_32 : wr.cell? ⟨gb325, 32, none⟩ = some (.bool false) := (blk_cell BK325.out 32).trans rfl
               have hcz53_33 : wr.cell? ⟨gb325, 33, none⟩ = some (.bool false) := (blk_cell BK325.out 33).trans rfl
               have hcz53_34 : wr.cell? ⟨gb325, 34, none⟩ = some (.bool false) := (blk_cell BK325.out 34).trans rfl
               have hcz53_35 : wr.cell? ⟨gb325, 35, none⟩ = some (.bool false) := (blk_cell BK325.out 35).trans rfl
               have hcz53_36 : wr.cell? ⟨gb325, 36, none⟩ = some (.bool false) := (blk_cell BK325.out 36).trans rfl
               have hfz53_0 := blk_frozen BK325.out 0
               have hfz53_1 := blk_frozen BK325.out 1
               have hfz53_2 := blk_frozen BK325.out 2
               have hfz53_3 := blk_frozen BK325.out 3
               have hfz53_4 := blk_frozen BK325.out 4
               have hfz53_5 := blk_frozen BK325.out 5
               have hfz53_6 := blk_frozen BK325.out 6
               have hfz53_7 := blk_frozen BK325.out 7
               have hfz53_8 := blk_frozen BK325.out 8
               have hfz53_9 := blk_frozen BK325.out 9
               have hfz53_10 := blk_frozen BK325.out 10
               have hfz53_11 := blk_frozen BK325.out 11
               have hfz53_12 := blk_frozen BK325.out 12
               have hfz53_13 := blk_frozen BK325.out 13
               have hfz53_14 := blk_frozen BK325.out 14
               have hfz53_15 := blk_frozen BK325.out 15
               have hfz53_16 := blk_frozen BK325.out 16
               have hfz53_17 := blk_frozen BK325.out 17
               have hfz53_18 := blk_frozen BK325.out 18
               have hfz53_19 := blk_frozen BK325.out 19
               have hfz53_20 := blk_frozen BK325.out 20
               have hfz53_21 := blk_frozen BK325.out 21
               have hfz53_22 := blk_frozen BK325.out 22
               have hfz53_23 := blk_frozen BK325.out 23
               have hfz53_24 := blk_frozen BK325.out 24
               have hfz53_25 := blk_frozen BK325.out 25
               have hfz53_26 := blk_frozen BK325.out 26
               have hfz53_27 := blk_frozen BK325.out 27
               have hfz53_28 := blk_frozen BK325.out 28
               have hfz53_29 := blk_frozen BK325.out 29
               have hfz53_30 := blk_frozen BK325.out 30
               have hfz53_31 := blk_frozen BK325.out 31
               have hfz53_32 := blk_frozen BK325.out 32
               have hfz53_33 := blk_frozen BK325.out 33
               have hfz53_34 := blk_frozen BK325.out 34
               have hfz53_35 := blk_frozen BK325.out 35
               have hfz53_36 := blk_frozen BK325.out 36
               go_wp2_with (first | ((with_reducible refine gate_ (.load 35 (.tmp 17)) rfl ?_); refine wpList_load_row rfl 35 (.tmp 17) rfl gb325 rfl 35 _ (0, 0) _ (by (with_reducible repeat (first | refine blk_drewN ?_ _ | refine blk_drew ?_ | refine blk_alloc ?_ _)); exact BK325.out) Try.underlying35 rfl (by kernel_rfl) ?_) | ((with_reducible refine gate_callee (f := 12) rfl ?_); refine goesL_ (some 122) rfl rfl Try.func12 (by kernel_rfl) rfl #[.slice Ao23 t318.length co23, .agg #[.int .i64 0, .int .u64 0, .slice Ao26 y321.length co26], .agg #[.slice none 0 0, .int .u64 0, .int .u64 0, .int .u64 0, .int .u64 0, .int .u64 0, .int .u64 0, .int .u64 0, .int .u64 0, .int .u64 0, .int .u64 0, .int .u64 0, .int .u64 0, .int .u64 0, .bool false, .bool false, .bool false, .int .u64 0, .int .u64 0, .int .u64 0, .int .u64 0, .int .u64 0, .int .u64 0, .int .u64 0, .int .u64 0, .int .u64 256, .int .u64 0, .int .u64 0, .int .u64 0, .int .u64 0, .int .u64 0, .int .u64 0, .bool false, .bool false, .bool false, .bool false, .bool false]] rfl (by (try simp only [List.map_toArray, List.map_cons, List.map_nil]); first | done | rfl | (simp only [List.length_drop, List.length_take]; rfl)) ?_; (refine (hash_Count.calls k2 _ _ t318 0 0 _ _ y321 _ _ ([] : List Int) 0 0 0 0 0 0 0 0 0 0 0 0 0 false false false 0 0 0 0 0 0 0 0 256 0 0 0 0 0 0 false false false false false t335 none _ ?side1 ?side2 ?side3 ?side4 ?side5 ?side6 A46.out).mono ?_); (case side1 => repeat (first | exact (Kd.R_reads' HO_15.out).2.2 | (with_reducible refine Kd.C_alloc ?_ _) | (with_reducible refine Kd.C_drewN ?_ _) | (with_reducible refine Kd.C_drew ?_))); (case side2 => exact (Kd.R_reads' HO_15.out).2.1); (case side3 => repeat (first | exact (Kd.R_reads' HO_325002.out).2.2 | (with_reducible refine Kd.C_alloc ?_ _) | (with_reducible refine Kd.C_drewN ?_ _) | (with_reducible refine Kd.C_drew ?_))); (case side4 => exact (Kd.R_reads' HO_325002.out).2.1); (case side5 => exact Kd.C_nil _ _); (case side6 => exact Nat.le_refl _); rintro e w54 ⟨rfl, hb⟩; refine ⟨_, rfl, ?_⟩; have n0_ := Aside0.mk (Kd.R_below (by (with_reducible repeat (first | apply Kd.R_alloc | apply Kd.R_drewN | apply Kd.R_drew)); exact HO_12.out) hb); have n1_ := Aside0.mk (Kd.R_below (by (with_reducible repeat (first | apply Kd.R_alloc | apply Kd.R_drewN | apply Kd.R_drew)); exact HO_15.out) hb); have n2_ := Aside0.mk (Kd.R_below (by (with_reducible repeat (first | apply Kd.R_alloc | apply Kd.R_drewN | apply Kd.R_drew)); exact HO_18.out) hb); have n3_ := Aside0.mk (Kd.R_below (by (with_reducible repeat (first | apply Kd.R_alloc | apply Kd.R_drewN | apply Kd.R_drew)); exact HO_19.out) hb); have n4_ := Aside0.mk (Kd.R_below (by (with_reducible repeat (first | apply Kd.R_alloc | apply Kd.R_drewN | apply Kd.R_drew)); exact HO_325002.out) hb); have n5_ := Aside0.mk (blk_below (g := gb324) (o := .cells #[.int .i64 0, .int .u64 0, .slice Ao26 y321.length co26] 32 (0, 0)) (by (with_reducible repeat (first | refine blk_drewN ?_ _ | refine blk_drew ?_ | refine blk_alloc ?_ _)); exact BK324.out) hb); have n6_ := Aside0.mk (blk_below (g := gb325) (o := .cells #[.slice none 0 0, .int .u64 0, .int .u64 0, .int .u64 0, .int .u64 0, .int .u64 0, .int .u64 0, .int .u64 0, .int .u64 0, .int .u64 0, .int .u64 0, .int .u64 0, .int .u64 0, .int .u64 0, .bool false, .bool false, .bool false, .int .u64 0, .int .u64 0, .int .u64 0, .int .u64 0, .int .u64 0, .int .u64 0, .int .u64 0, .int .u64 0, .int .u64 256, .int .u64 0, .int .u64 0, .int .u64 0, .int .u64 0, .int .u64 0, .int .u64 0, .bool false, .bool false, .bool false, .bool false, .bool false] 35 (0, 0)) (by (with_reducible repeat (first | refine blk_drewN ?_ _ | refine blk_drew ?_ | refine blk_alloc ?_ _)); exact BK325.out) hb); have n7_ := Aside0.mk (below_step (by repeat (first | (with_reducible first | exact HB.out | apply below_alloc | apply pw_below_drewN | apply below_drew1 | refine below_set ?_ GE324.out | refine below_set ?_ GE325.out) | exact HB.out)) hb); clear HO_12; clear HO_15; clear HO_18; clear HO_19; clear HO_325002; clear BK324; clear BK325; clear HB; have HO_12 := n0_; have HO_15 := n1_; have HO_18 := n2_; have HO_19 := n3_; have HO_325002 := n4_; have BK324 := n5_; have BK325 := n6_; have HB := n7_; clear n0_ n1_ n2_ n3_ n4_ n5_ n6_ n7_; (try clear hb); (try clear hb2); (try clear hk); (try clear hi); (try simp only [errW_none, errW_some]); have hcz55_0 : w54.cell? ⟨gb324, 0, none⟩ = some (.int .i64 0) := (blk_cell BK324.out 0).trans rfl; have hcz55_1 : w54.cell? ⟨gb324, 1, none⟩ = some (.int .u64 0) := (blk_cell BK324.out 1).trans rfl; have hcz55_2 : w54.cell? ⟨gb324, 2, none⟩ = some (.slice Ao26 y321.length co26) := (blk_cell BK324.out 2).trans rfl; have hfz55_0 := blk_frozen BK324.out 0; have hfz55_1 := blk_frozen BK324.out 1; have hfz55_2 := blk_frozen BK324.out 2; have hcz56_0 : w54.cell? ⟨gb325, 0, none⟩ = some (.slice none 0 0) := (blk_cell BK325.out 0).trans rfl; have hcz56_1 : w54.cell? ⟨gb325, 1, none⟩ = some (.int .u64 0) := (blk_cell BK325.out 1).trans rfl; have hcz56_2 : w54.cell? ⟨gb325, 2, none⟩ = some (.int .u64 0) := (blk_cell BK325.out 2).trans rfl; have hcz56_3 : w54.cell? ⟨gb325, 3, none⟩ = some (.int .u64 0) := (blk_cell BK325.out 3).trans rfl; have hcz56_4 : w54.cell? ⟨gb325, 4, none⟩ = some (.int .u64 0) := (blk_cell BK325.out 4).trans rfl; have hcz56_5 : w54.cell? ⟨gb325, 5, none⟩ = some (.int .u64 0) := (blk_cell BK325.out 5).trans rfl; have hcz56_6 : w54.cell? ⟨gb325, 6, none⟩ = some (.int .u64 0) := (blk_cell BK325.out 6).trans rfl; have hcz56_7 : w54.cell? ⟨gb325, 7, none⟩ = some (.int .u64 0) := (blk_cell BK325.out 7).trans rfl; have hcz56_8 : w54.cell? ⟨gb325, 8, none⟩ = some (.int .u64 0) := (blk_cell BK325.out 8).trans rfl; have hcz56_9 : w54.cell? ⟨gb325, 9, none⟩ = some (.int .u64 0) := (blk_cell BK325.out 9).trans rfl; have hcz56_10 : w54.cell? ⟨gb325, 10, none⟩ = some (.int .u64 0) := (blk_cell BK325.out 10).trans rfl; have hcz56_11 : w54.cell? ⟨gb325, 11, none⟩ = some (.int .u64 0) := (blk_cell BK325.out 11).trans rfl; have hcz56_12 : w54.cell? ⟨gb325, 12, none⟩ = some (.int .u64 0) := (blk_cell BK325.out 12).trans rfl; have hcz56_13 : w54.cell? ⟨gb325, 13, none⟩ = some (.int .u64 0) := (blk_cell BK325.out 13).trans rfl; have hcz56_14 : w54.cell? ⟨gb325, 14, none⟩ = some (.bool false) := (blk_cell BK325.out 14).trans rfl; have hcz56_15 : w54.cell? ⟨gb325, 15, none⟩ = some (.bool false) := (blk_cell BK325.out 15).trans rfl; have hcz56_16 : w54.cell? ⟨gb325, 16, none⟩ = some (.bool false) := (blk_cell BK325.out 16).trans rfl; have hcz56_17 : w54.cell? ⟨gb325, 17, none⟩ = some (.int .u64 0) := (blk_cell BK325.out 17).trans rfl; have hcz56_18 : w54.cell? ⟨gb325, 18, none⟩ = some (.int .u64 0) := (blk_cell BK325.out 18).trans rfl; have hcz56_19 : w54.cell? ⟨gb325, 19, none⟩ = some (.int .u64 0) := (blk_cell BK325.out 19).trans rfl; have hcz56_20 : w54.cell? ⟨gb325, 20, none⟩ = some (.int .u64 0) := (blk_cell BK325.out 20).trans rfl; have hcz56_21 : w54.cell? ⟨gb325, 21, none⟩ = some (.int .u64 0) := (blk_cell BK325.out 21).trans rfl; have hcz56_22 : w54.cell? ⟨gb325, 22, none⟩ = some (.int .u64 0) := (blk_cell BK325.out 22).trans rfl; have hcz56_23 : w54.cell? ⟨gb325, 23, none⟩ = some (.int .u64 0) := (blk_cell BK325.out 23).trans rfl; have hcz56_24 : w54.cell? ⟨gb325, 24, none⟩ = some (.int .u64 0) := (blk_cell BK325.out 24).trans rfl; have hcz56_25 : w54.cell? ⟨gb325, 25, none⟩ = some (.int .u64 256) := (blk_cell BK325.out 25).trans rfl; have hcz56_26 : w54.cell? ⟨gb325, 26, none⟩ = some (.int .u64 0) := (blk_cell BK325.out 26).trans rfl; have hcz56_27 : w54.cell? ⟨gb325, 27, none⟩ = some (.int .u64 0) := (blk_cell BK325.out 27).trans rfl; have hcz56_28 : w54.cell? ⟨gb325, 28, none⟩ = some (.int .u64 0) := (blk_cell BK325.out 28).trans rfl; have hcz56_29 : w54.cell? ⟨gb325, 29, none⟩ = some (.int .u64 0) := (blk_cell BK325.out 29).trans rfl; have hcz56_30 : w54.cell? ⟨gb325, 30, none⟩ = some (.int .u64 0) := (blk_cell BK325.out 30).trans rfl; have hcz56_31 : w54.cell? ⟨gb325, 31, none⟩ = some (.int .u64 0) := (blk_cell BK325.out 31).trans rfl; have hcz56_32 : w54.cell? ⟨gb325, 32, none⟩ = some (.bool false) := (blk_cell BK325.out 32).trans rfl; have hcz56_33 : w54.cell? ⟨gb325, 33, none⟩ = some (.bool false) := (blk_cell BK325.out 33).trans rfl; have hcz56_34 : w54.cell? ⟨gb325, 34, none⟩ = some (.bool false) := (blk_cell BK325.out 34).trans rfl; have hcz56_35 : w54.cell? ⟨gb325, 35, none⟩ = some (.bool false) := (blk_cell BK325.out 35).trans rfl; have hcz56_36 : w54.cell? ⟨gb325, 36, none⟩ = some (.bool false) := (blk_cell BK325.out 36).trans rfl; have hfz56_0 := blk_frozen BK325.out 0; have hfz56_1 := blk_frozen BK325.out 1; have hfz56_2 := blk_frozen BK325.out 2; have hfz56_3 := blk_frozen BK325.out 3; have hfz56_4 := blk_frozen BK325.out 4; have hfz56_5 := blk_frozen BK325.out 5; have hfz56_6 := blk_frozen BK325.out 6; have hfz56_7 := blk_frozen BK325.out 7; have hfz56_8 := blk_frozen BK325.out 8; have hfz56_9 := blk_frozen BK325.out 9; have hfz56_10 := blk_frozen BK325.out 10; have hfz56_11 := blk_frozen BK325.out 11; have hfz56_12 := blk_frozen BK325.out 12; have hfz56_13 := blk_frozen BK325.out 13; have hfz56_14 := blk_frozen BK325.out 14; have hfz56_15 := blk_frozen BK325.out 15; have hfz56_16 := blk_frozen BK325.out 16; have hfz56_17 := blk_frozen BK325.out 17; have hfz56_18 := blk_frozen BK325.out 18; have hfz56_19 := blk_frozen BK325.out 19; have hfz56_20 := blk_frozen BK325.out 20; have hfz56_21 := blk_frozen BK325.out 21; have hfz56_22 := blk_frozen BK325.out 22; have hfz56_23 := blk_frozen BK325.out 23; have hfz56_24 := blk_frozen BK325.out 24; have hfz56_25 := blk_frozen BK325.out 25; have hfz56_26 := blk_frozen BK325.out 26; have hfz56_27 := blk_frozen BK325.out 27; have hfz56_28 := blk_frozen BK325.out 28; have hfz56_29 := blk_frozen BK325.out 29; have hfz56_30 := blk_frozen BK325.out 30; have hfz56_31 := blk_frozen BK325.out 31; have hfz56_32 := blk_frozen BK325.out 32; have hfz56_33 := blk_frozen BK325.out 33; have hfz56_34 := blk_frozen BK325.out 34; have hfz56_35 := blk_frozen BK325.out 35; have hfz56_36 := blk_frozen BK325.out 36; obtain ⟨Ao57, co57, eo57⟩ := Kd.R_slice HO_18.out; subst eo57) | ((with_reducible refine gate_callee (f := 13) rfl ?_); refine goesL_ (some 131) rfl rfl Try.func13 (by kernel_rfl) rfl #[.slice Ao23 t318.length co23, .agg #[.int .i64 0, .int .u64 0, .slice Ao26 y321.length co26], .agg #[.slice none 0 0, .int .u64 0, .int .u64 0, .int .u64 0, .int .u64 0, .int .u64 0, .int .u64 0, .int .u64 0, .int .u64 0, .int .u64 0, .int .u64 0, .int .u64 0, .int .u64 0, .int .u64 0, .bool false, .bool false, .bool false, .int .u64 0, .int .u64 0, .int .u64 0, .int .u64 0, .int .u64 0, .int .u64 0, .int .u64 0, .int .u64 0, .int .u64 256, .int .u64 0, .int .u64 0, .int .u64 0, .int .u64 0, .int .u64 0, .int .u64 0, .bool false, .bool false, .bool false, .bool false, .bool false], .slice Ao57 x18_2.length co57, .string a3] rfl (by (try simp only [List.map_toArray, List.map_cons, List.map_nil]); first | done | rfl | (simp only [List.length_drop, List.length_take]; rfl)) ?_; (refine (hash_Look.calls k2 _ _ t318 0 0 _ _ y321 _ _ ([] : List Int) 0 0 0 0 0 0 0 0 0 0 0 0 0 false false false 0 0 0 0 0 0 0 0 256 0 0 0 0 0 0 false false false false false _ _ x18_2 a3 t337 none _ ?side1 ?side2 ?side3 ?side4 ?side5 ?side6 ?side7 ?side8 A47.out).mono ?_); (case side1 => repeat (first | exact (Kd.R_reads' HO_15.out).2.2 | (with_reducible refine Kd.C_alloc ?_ _) | (with_reducible refine Kd.C_drewN ?_ _) | (with_reducible refine Kd.C_drew ?_))); (case side2 => exact (Kd.R_reads' HO_15.out).2.1); (case side3 => repeat (first | exact (Kd.R_reads' HO_325002.out).2.2 | (with_reducible refine Kd.C_alloc ?_ _) | (with_reducible refine Kd.C_drewN ?_ _) | (with_reducible refine Kd.C_drew ?_))); (case side4 => exact (Kd.R_reads' HO_325002.out).2.1); (case side5 => exact Kd.C_nil _ _); (case side6 => exact Nat.le_refl _); (case side7 => repeat (first | exact (Kd.R_reads' HO_18.out).2.2 | (with_reducible refine Kd.C_alloc ?_ _) | (with_reducible refine Kd.C_drewN ?_ _) | (with_reducible refine Kd.C_drew ?_))); (case side8 => exact (Kd.R_reads' HO_18.out).2.1); rintro e w58 ⟨v338, rfl, ho0, hb⟩; refine ⟨_, rfl, ?_⟩; have n0_ := Aside0.mk (Kd.R_below (by (with_reducible repeat (first | apply Kd.R_alloc | apply Kd.R_drewN | apply Kd.R_drew)); exact HO_12.out) hb); have n1_ := Aside0.mk (Kd.R_below (by (with_reducible repeat (first | apply Kd.R_alloc | apply Kd.R_drewN | apply Kd.R_drew)); exact HO_15.out) hb); have n2_ := Aside0.mk (Kd.R_below (by (with_reducible repeat (first | apply Kd.R_alloc | apply Kd.R_drewN | apply Kd.R_drew)); exact HO_18.out) hb); have n3_ := Aside0.mk (Kd.R_elder' (by (with_reducible repeat (first | apply Kd.R_alloc | apply Kd.R_drewN | apply Kd.R_drew)); exact HO_19.out) (Kd.R_base ho0) hb); have n4_ := Aside0.mk (Kd.R_below (by (with_reducible repeat (first | apply Kd.R_alloc | apply Kd.R_drewN | apply Kd.R_drew)); exact HO_325002.out) hb); have n5_ := Aside0.mk (Kd.R_lower (Kd.R_new' ho0 (Kd.R_lt (by (with_reducible repeat (first | apply Kd.R_alloc | apply Kd.R_drewN | apply Kd.R_drew)); exact HO_19.out))) (below_size (by repeat (first | (with_reducible first | exact HB.out | apply below_alloc | apply pw_below_drewN | apply below_drew1 | refine below_set ?_ GE324.out | refine below_set ?_ GE325.out) | exact HB.out)))); have n6_ := Aside0.mk (blk_below (g := gb324) (o := .cells #[.int .i64 0, .int .u64 0, .slice Ao26 y321.length co26] 32 (0, 0)) (by (with_reducible repeat (first | refine blk_drewN ?_ _ | refine blk_drew ?_ | refine blk_alloc ?_ _)); exact BK324.out) hb); have n7_ := Aside0.mk (blk_below (g := gb325) (o := .cells #[.slice none 0 0, .int .u64 0, .int .u64 0, .int .u64 0, .int .u64 0, .int .u64 0, .int .u64 0, .int .u64 0, .int .u64 0, .int .u64 0, .int .u64 0, .int .u64 0, .int .u64 0, .int .u64 0, .bool false, .bool false, .bool false, .int .u64 0, .int .u64 0, .int .u64 0, .int .u64 0, .int .u64 0, .int .u64 0, .int .u64 0, .int .u64 0, .int .u64 256, .int .u64 0, .int .u64 0, .int .u64 0, .int .u64 0, .int .u64 0, .int .u64 0, .bool false, .bool false, .bool false, .bool false, .bool false] 35 (0, 0)) (by (with_reducible repeat (first | refine blk_drewN ?_ _ | refine blk_drew ?_ | refine blk_alloc ?_ _)); exact BK325.out) hb); have n8_ := Aside0.mk (below_step (by repeat (first | (with_reducible first | exact HB.out | apply below_alloc | apply pw_below_drewN | apply below_drew1 | refine below_set ?_ GE324.out | refine below_set ?_ GE325.out) | exact HB.out)) hb); clear HO_12; clear HO_15; clear HO_18; clear HO_19; clear HO_325002; clear BK324; clear BK325; clear HB; have HO_12 := n0_; have HO_15 := n1_; have HO_18 := n2_; have HO_19 := n3_; have HO_325002 := n4_; have HO339 := n5_; have BK324 := n6_; have BK325 := n7_; have HB := n8_; clear n0_ n1_ n2_ n3_ n4_ n5_ n6_ n7_ n8_; (try clear hb); (try clear hb2); (try clear hk); (try clear hi); (try clear ho0); (try simp only [errW_none, errW_some]); obtain ⟨Ao59, co59, eo59⟩ := Kd.R_slice HO339.out; subst eo59; obtain ⟨Ao60, co60, eo60⟩ := Kd.R_slice HO_19.out; subst eo60) | ((with_reducible refine gate_callee (f := 14) rfl ?_); refine goesL_ (some 136) rfl rfl Try.func14 (by kernel_rfl) rfl #[.slice Ao59 t337.length co59, .slice Ao60 x19_2.length co60] rfl (by (try simp only [List.map_toArray, List.map_cons, List.map_nil]); first | done | rfl | (simp only [List.length_drop, List.length_take]; rfl)) ?_; (with_reducible refine (shackleref07_Same.calls k2 _ _ t337 _ _ x19_2 t341 _ ?side1 ?side2 ?side3 ?side4 A48.out).mono ?_); (case side1 => repeat (first | exact (Kd.R_reads' HO339.out).2.2 | (with_reducible refine Kd.C_alloc ?_ _) | (with_reducible refine Kd.C_drewN ?_ _) | (with_reducible refine Kd.C_drew ?_))); (case side2 => exact (Kd.R_reads' HO339.out).2.1); (case side3 => repeat (first | exact (Kd.R_reads' HO_19.out).2.2 | (with_reducible refine Kd.C_alloc ?_ _) | (with_reducible refine Kd.C_drewN ?_ _) | (with_reducible refine Kd.C_drew ?_))); (case side4 => exact (Kd.R_reads' HO_19.out).2.1); rintro e w' ⟨rfl, ⟨nd, rfl⟩⟩; refine ⟨_, rfl, ?_⟩))
               go_ret
               exact ⟨by first | rfl | (simp [errW_none, errW_some] <;> rfl) | (simp [*, errW_none, errW_some] <;> rfl), by repeat (first | (with_reducible first | exact HB.out | apply below_alloc | apply pw_below_drewN | apply below_drew1 | refine below_set ?_ GE324.out | refine below_set ?_ GE325.out) | exact HB.out)⟩
              ·rw [if_neg c50] at H
               exact absurd H (by simp)
             ·have H1 : (none) = some r := by rw [if_neg (show ¬ (some q343).isNone = true by simp)] at H; exact H
              clear H
              have H := H1
              clear H1
              try simp only [errW_none, errW_some]
              exact absurd H (by simp)
            ·have H1 : (none) = some r := by rw [if_neg (show ¬ (some q342).isNone = true by simp)] at H; exact H
             clear H
             have H := H1
             clear H1
             try simp only [errW_none, errW_some]
             exact absurd H (by simp)
           ·replace c49 := Bool.eq_false_iff.mpr c49
            subst c49
            have H1 : (none) = some r := by rw [if_neg (show ¬ (false = true) by decide)] at H; exact H
            clear H
            have H := H1
            clear H1
            exact absurd H (by simp)
       ·rw [if_neg c20] at H
        exact absurd H (by simp)
      ·rw [if_neg c19] at H
       exact absurd H (by simp)
     ·rw [if_neg c17] at H
      exact absurd H (by simp)

end Go.Proofs.Ythopdoamajjojaa.QHashB
