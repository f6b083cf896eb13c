-- Laid by wip/hook.py (this session's own program) out of the translation; with contracts that were written by hand.
import Derived.Test.YthopdoamajjojaaQHashFx0
import Derived.Test.YthopdoamajjojaaQHashFx1
import Derived.Test.YthopdoamajjojaaQHashFx5
namespace Go.Proofs.Ythopdoamajjojaa.QHashF
open Go.RowKit Go.Proofs.YthopdoamajjojaaW.PrintWords Go.Proofs.YthopdoamajjojaaW.PrintLast Go.Proofs.YthopdoamajjojaaW.PrintMore
attribute [local go_sem] max2_int min2_int max_two min_two max_three min_three max_four min_four   -- for this text's walks alone
set_option linter.unusedVariables false
set_option linter.unusedSimpArgs false

/-! ### shacklelaw07_HashFinds: function 3 -/
def shacklelaw07_HashFinds.l0 : Nat → ByteArray → Bool → List ByteArray → List Int → List (S39) → List Int → Int → Int → Int → List (S29) → Option (Bool)
 | 0, _, _, _, _, _, _, _, _, _, _ => none
 | k + 1, x2, x7, x9, x10, x13, x14, x15, x239000, x239001, x239002 => if x15 < (x9.length : Int) then (if 0 ≤ x15 then (if x15 < (x13.length : Int) then ((some (x13.set (x15 : Int).toNat (⟨rdOf ByteArray.empty x9 x15, (rd_T39 x13 x15).f1, (rd_T39 x13 x15).f2, (rd_T39 x13 x15).f3, (rd_T39 x13 x15).f4, (rd_T39 x13 x15).f5, (rd_T39 x13 x15).f6⟩ : S39) : List (S39))).bind fun y244 => (if x15 > 0 then (if (rdOf ByteArray.empty x9 x15).toList = x2.toList then (if x14.length < 17592186044416 then (shacklelaw07_HashFinds.l0 k x2 x7 x9 x10 y244 (x14 ++ [x15]) (wrap64 (x15 + 1)) x239000 x239001 x239002) else (none)) else (shacklelaw07_HashFinds.l0 k x2 x7 x9 x10 y244 x14 (wrap64 (x15 + 1)) x239000 x239001 x239002)) else (shacklelaw07_HashFinds.l0 k x2 x7 x9 x10 y244 x14 (wrap64 (x15 + 1)) x239000 x239001 x239002))) else (none)) else (none)) else ((hash_Count.f k x10 x239000 x239001 x239002 ([] : List Int) 0 0 256 0 0 0 0 0 0 0 0 0 0 false false false 0 0 0 0 0 0 0 0 0 0 0 0 0 0 0 false false false false false).bind fun bt249 => ((hash_Look.f k x10 x239000 x239001 x239002 ([] : List Int) 0 0 256 0 0 0 0 0 0 0 0 0 0 false false false 0 0 0 0 0 0 0 0 0 0 0 0 0 0 0 false false false false false x13 x2).bind fun bt251 => ((shackleref07_Same.f k bt251.1 x14).bind fun t255 => (if x7 = true then (if bt249.2.isNone = true then (if bt251.2.isNone = true then (if bt249.1 = (x9.length : Int) then (some t255) else (none)) else (none)) else (none)) else (none)))))
def shacklelaw07_HashFinds.f (k : Nat) (l0 : List ByteArray) (a1 : Int) (a2 : ByteArray) : Option (Bool) := (shacklelaw07_up.f k).bind fun t225 => (if (l0.length : Int) > 1000 then (some t225) else ((some (([(⟨#[]⟩ : ByteArray)] : List ByteArray) : List ByteArray)).bind fun y226 => (if y226.length + l0.length < 8796093022208 then ((some (y226 ++ l0 : List ByteArray)).bind fun y229 => ((shacklelaw07_first.f k y229 ((wrap64 (1 + (Int.tmod (wrap64 ((Int.tmod a1 64) + 64)) 64))) % 4294967296)).bind fun t232 => (if 0 ≤ (y229.length : Int) then (if ((y229.length : Int) : Int).toNat ≤ 4398046511104 then (shacklelaw07_HashFinds.l0 k a2 t225 y229 t232 (List.replicate ((y229.length : Int) : Int).toNat z39) ([] : List Int) 0 0 0 (([(⟨1, 0, 0, 256, IntKind.u64.wrap ((t232.length : Int)), 0, 0⟩ : S29)] : List (S29)))) else (none)) else (none)))) else (none))))
theorem shacklelaw07_HashFinds.mono_l : ∀ k, (∀ y0 y1 y2 y3 y4 y5 y6 y7 y8 y9, LeO (shacklelaw07_HashFinds.l0 k y0 y1 y2 y3 y4 y5 y6 y7 y8 y9) (shacklelaw07_HashFinds.l0 (k + 1) y0 y1 y2 y3 y4 y5 y6 y7 y8 y9))
 | 0 => fun _ _ _ _ _ _ _ _ _ _ r h => by simp [shacklelaw07_HashFinds.l0] at h
 | k + 1 => by
  have ih0 := shacklelaw07_HashFinds.mono_l k
  ·intro y0 y1 y2 y3 y4 y5 y6 y7 y8 y9
   unfold shacklelaw07_HashFinds.l0
   repeat' first
   | (with_reducible exact ih0 _ _ _ _ _ _ _ _ _ _)
   | (with_reducible exact hash_Count.mono _ _ _ _ _ _ _ _ _ _ _ _ _ _ _ _ _ _ _ _ _ _ _ _ _ _ _ _ _ _ _ _ _ _ _ _ _ _ _ _ _ _)
   | (with_reducible exact hash_Look.mono _ _ _ _ _ _ _ _ _ _ _ _ _ _ _ _ _ _ _ _ _ _ _ _ _ _ _ _ _ _ _ _ _ _ _ _ _ _ _ _ _ _ _ _)
   | (with_reducible exact shacklelaw07_first.mono _ _ _)
   | (with_reducible exact shacklelaw07_up.mono _)
   | (with_reducible exact shackleref07_Same.mono _ _ _)
   | (with_reducible exact LeO.refl _)
   | (with_reducible exact LeO.none _)
   | (with_reducible refine LeO.ite ?_ ?_)
   | (with_reducible refine LeO.bind ?_ (fun _ => ?_))
   | exact ih0 _ _ _ _ _ _ _ _ _ _
   | exact hash_Count.mono _ _ _ _ _ _ _ _ _ _ _ _ _ _ _ _ _ _ _ _ _ _ _ _ _ _ _ _ _ _ _ _ _ _ _ _ _ _ _ _ _ _
   | exact hash_Look.mono _ _ _ _ _ _ _ _ _ _ _ _ _ _ _ _ _ _ _ _ _ _ _ _ _ _ _ _ _ _ _ _ _ _ _ _ _ _ _ _ _ _ _ _
   | exact shacklelaw07_first.mono _ _ _
   | exact shacklelaw07_up.mono _
   | exact shackleref07_Same.mono _ _ _
   | exact LeO.none _
   | refine LeO.ite ?_ ?_
   | refine LeO.bind ?_ (fun _ => ?_)
theorem shacklelaw07_HashFinds.mono : ∀ a0 a1 a2 k, LeO (shacklelaw07_HashFinds.f k a0 a1 a2) (shacklelaw07_HashFinds.f (k + 1) a0 a1 a2) := by
 intro a0 a1 a2 k
 have ih0 := shacklelaw07_HashFinds.mono_l k
 unfold shacklelaw07_HashFinds.f
 repeat' first
   | (with_reducible exact ih0 _ _ _ _ _ _ _ _ _ _)
   | (with_reducible exact hash_Count.mono _ _ _ _ _ _ _ _ _ _ _ _ _ _ _ _ _ _ _ _ _ _ _ _ _ _ _ _ _ _ _ _ _ _ _ _ _ _ _ _ _ _)
   | (with_reducible exact hash_Look.mono _ _ _ _ _ _ _ _ _ _ _ _ _ _ _ _ _ _ _ _ _ _ _ _ _ _ _ _ _ _ _ _ _ _ _ _ _ _ _ _ _ _ _ _)
   | (with_reducible exact shacklelaw07_first.mono _ _ _)
   | (with_reducible exact shacklelaw07_up.mono _)
   | (with_reducible exact shackleref07_Same.mono _ _ _)
   | (with_reducible exact LeO.refl _)
   | (with_reducible exact LeO.none _)
   | (with_reducible refine LeO.ite ?_ ?_)
   | (with_reducible refine LeO.bind ?_ (fun _ => ?_))
   | exact ih0 _ _ _ _ _ _ _ _ _ _
   | exact hash_Count.mono _ _ _ _ _ _ _ _ _ _ _ _ _ _ _ _ _ _ _ _ _ _ _ _ _ _ _ _ _ _ _ _ _ _ _ _ _ _ _ _ _ _
   | exact hash_Look.mono _ _ _ _ _ _ _ _ _ _ _ _ _ _ _ _ _ _ _ _ _ _ _ _ _ _ _ _ _ _ _ _ _ _ _ _ _ _ _ _ _ _ _ _
   | exact shacklelaw07_first.mono _ _ _
   | exact shacklelaw07_up.mono _
   | exact shackleref07_Same.mono _ _ _
   | exact LeO.none _
   | refine LeO.ite ?_ ?_
   | refine LeO.bind ?_ (fun _ => ?_)
set_option maxHeartbeats 8000000 in
set_option maxRecDepth 100000 in
theorem shacklelaw07_HashFinds.calls (k : Nat) (A0 : Option Addr) (c0 : Nat) (l0 : List ByteArray) (a1 : Int) (a2 : ByteArray) (r : Bool) (w : World) (hr0 : Kd.C Kd.string w A0 l0.length l0) (hc0 : l0.length ≤ c0) (h : shacklelaw07_HashFinds.f k l0 a1 a2 = some r) :
  Calls Try.prog 3 #[.slice A0 l0.length c0, .int .i64 a1, .string a2] w fun e w' => e = .returned (.bool r) ∧ Below w.heap.size w w' := by
 have hu29 := Try.underlying29
 have hu32 := Try.underlying32
 have hu35 := Try.underlying35
 have hu41 := Try.underlying41
 have hu97 := Try.underlying97
 have HR0 := Aside0.mk hr0
 have HC0 := Aside0.mk hc0
 clear hr0 hc0
 have HB := Aside0.mk (Below.refl w.heap.size w)
 have H : ((shacklelaw07_up.f k).bind fun t225 => (if (l0.length : Int) > 1000 then (some t225) else ((some (([(⟨#[]⟩ : ByteArray)] : List ByteArray) : List ByteArray)).bind fun y226 => (if y226.length + l0.length < 8796093022208 then ((some (y226 ++ l0 : List ByteArray)).bind fun y229 => ((shacklelaw07_first.f k y229 ((wrap64 (1 + (Int.tmod (wrap64 ((Int.tmod a1 64) + 64)) 64))) % 4294967296)).bind fun t232 => (if 0 ≤ (y229.length : Int) then (if ((y229.length : Int) : Int).toNat ≤ 4398046511104 then (shacklelaw07_HashFinds.l0 k a2 t225 y229 t232 (List.replicate ((y229.length : Int) : Int).toNat z39) ([] : List Int) 0 0 0 (([(⟨1, 0, 0, 256, IntKind.u64.wrap ((t232.length : Int)), 0, 0⟩ : S29)] : List (S29)))) else (none)) else (none)))) else (none))))) = some r := h
 clear h
 replace H := Option.bind_eq_some_iff.mp H
 obtain ⟨t225, A40, H⟩ := H
 replace H : (if (l0.length : Int) > 1000 then (some t225) else ((some (([(⟨#[]⟩ : ByteArray)] : List ByteArray) : List ByteArray)).bind fun y226 => (if y226.length + l0.length < 8796093022208 then ((some (y226 ++ l0 : List ByteArray)).bind fun y229 => ((shacklelaw07_first.f k y229 ((wrap64 (1 + (Int.tmod (wrap64 ((Int.tmod a1 64) + 64)) 64))) % 4294967296)).bind fun t232 => (if 0 ≤ (y229.length : Int) then (if ((y229.length : Int) : Int).toNat ≤ 4398046511104 then (shacklelaw07_HashFinds.l0 k a2 t225 y229 t232 (List.replicate ((y229.length : Int) : Int).toNat z39) ([] : List Int) 0 0 0 (([(⟨1, 0, 0, 256, IntKind.u64.wrap ((t232.length : Int)), 0, 0⟩ : S29)] : List (S29)))) else (none)) else (none)))) else (none)))) = some r := H
 have A4 := Aside0.mk A40
 clear A40
 by_cases c5 : (l0.length : Int) > 1000
 ·rw [if_pos c5] at H
  have c5b0 : decide (1000 < (l0.length : Int)) = true := decide_eq_true c5
  have c5b1 : decide (1000 < l0.length) = true := decide_eq_true (by omega)
  clear c5
  obtain rfl := Option.some.inj H
  go_enter Try.func3, Try.ntmps3
  go_wp2_with (first | ((with_reducible refine wpList_buildAt (t := 35) #[(3, .const (.int .u64 256))] #[.slice none 0 0, .int .u64 0, .int .u64 0, .int .u64 256, .int .u64 0, .int .u64 0, .int .u64 0, .int .u64 0, .int .u64 0, .int .u64 0, .int .u64 0, .int .u64 0, .int .u64 0, .int .u64 0, .bool false, .bool false, .bool false, .int .u64 0, .int .u64 0, .int .u64 0, .int .u64 0, .int .u64 0, .int .u64 0, .int .u64 0, .int .u64 0, .int .u64 0, .int .u64 0, .int .u64 0, .int .u64 0, .int .u64 0, .int .u64 0, .int .u64 0, .bool false, .bool false, .bool false, .bool false, .bool false] ?_ ?_); (as_aux_lemma => kernel_rfl)) | ((with_reducible refine gate_ (.load 35 (.tmp 12)) rfl ?_); refine wpList_load_row rfl 35 (.tmp 12) rfl gb239 rfl 35 _ (0, 0) _ (by (with_reducible repeat (first | refine blk_drewN ?_ _ | refine blk_drew ?_ | refine blk_alloc ?_ _)); exact BK239.out) Try.underlying35 rfl (by kernel_rfl) ?_) | ((with_reducible refine gate_callee (f := 10) rfl ?_); refine goesL_ (some 21) rfl rfl Try.func10 (by kernel_rfl) rfl #[] rfl (by (try simp only [List.map_toArray, List.map_cons, List.map_nil]); first | done | rfl | (simp only [List.length_drop, List.length_take]; rfl)) ?_; (with_reducible refine (shacklelaw07_up.calls k  t225 _ A4.out).mono ?_); rintro e w' ⟨rfl, ⟨nd, rfl⟩⟩; refine ⟨_, rfl, ?_⟩))
  go_ret
  exact ⟨by first | rfl | (simp [errW_none, errW_some] <;> rfl) | (simp [*, errW_none, errW_some] <;> rfl), by repeat (first | (with_reducible first | exact HB.out | apply below_alloc | apply pw_below_drewN | apply below_drew1) | exact HB.out)⟩
 ·rw [if_neg c5] at H
  have c5b0 : decide (1000 < (l0.length : Int)) = false := decide_eq_false c5
  have c5b1 : decide (1000 < l0.length) = false := decide_eq_false (by omega)
  clear c5
  obtain ⟨y226, hy226⟩ : ∃ y_ : List ByteArray, y_ = (([(⟨#[]⟩ : ByteArray)] : List ByteArray)) := ⟨_, rfl⟩
  replace H : (if y226.length + l0.length < 8796093022208 then ((some (y226 ++ l0 : List ByteArray)).bind fun y229 => ((shacklelaw07_first.f k y229 ((wrap64 (1 + (Int.tmod (wrap64 ((Int.tmod a1 64) + 64)) 64))) % 4294967296)).bind fun t232 => (if 0 ≤ (y229.length : Int) then (if ((y229.length : Int) : Int).toNat ≤ 4398046511104 then (shacklelaw07_HashFinds.l0 k a2 t225 y229 t232 (List.replicate ((y229.length : Int) : Int).toNat z39) ([] : List Int) 0 0 0 (([(⟨1, 0, 0, 256, IntKind.u64.wrap ((t232.length : Int)), 0, 0⟩ : S29)] : List (S29)))) else (none)) else (none)))) else (none)) = some r := by first | (rw [hy226]; with_reducible exact H) | (have H2_ := (Option.bind_some _ _).symm.trans H; rw [hy226]; with_reducible exact H2_) | (have H2_ := (Option.bind_some _ _).symm.trans H; with_reducible exact H2_) | with_reducible exact H | (rw [hy226]; exact H) | exact H
  have Ny226 := Aside0.mk hy226
  clear hy226
  by_cases c6 : y226.length + l0.length < 8796093022208
  ·rw [if_pos c6] at H
   have LMc6 := Aside0.mk c6
   clear c6
   obtain ⟨y229, hy229⟩ : ∃ y_ : List ByteArray, y_ = (y226 ++ l0) := ⟨_, rfl⟩
   replace H : ((shacklelaw07_first.f k y229 ((wrap64 (1 + (Int.tmod (wrap64 ((Int.tmod a1 64) + 64)) 64))) % 4294967296)).bind fun t232 => (if 0 ≤ (y229.length : Int) then (if ((y229.length : Int) : Int).toNat ≤ 4398046511104 then (shacklelaw07_HashFinds.l0 k a2 t225 y229 t232 (List.replicate ((y229.length : Int) : Int).toNat z39) ([] : List Int) 0 0 0 (([(⟨1, 0, 0, 256, IntKind.u64.wrap ((t232.length : Int)), 0, 0⟩ : S29)] : List (S29)))) else (none)) else (none))) = some r := by first | (rw [hy229]; with_reducible exact H) | (have H2_ := (Option.bind_some _ _).symm.trans H; rw [hy229]; with_reducible exact H2_) | (have H2_ := (Option.bind_some _ _).symm.trans H; with_reducible exact H2_) | with_reducible exact H | (rw [hy229]; exact H) | exact H
   have Ny229 := Aside0.mk hy229
   clear hy229
   replace H := Option.bind_eq_some_iff.mp H
   obtain ⟨t232, A70, H⟩ := H
   replace H : (if 0 ≤ (y229.length : Int) then (if ((y229.length : Int) : Int).toNat ≤ 4398046511104 then (shacklelaw07_HashFinds.l0 k a2 t225 y229 t232 (List.replicate ((y229.length : Int) : Int).toNat z39) ([] : List Int) 0 0 0 (([(⟨1, 0, 0, 256, IntKind.u64.wrap ((t232.length : Int)), 0, 0⟩ : S29)] : List (S29)))) else (none)) else (none)) = some r := H
   have A7 := Aside0.mk A70
   clear A70
   obtain ⟨y235, hy235⟩ : ∃ y_ : List (S29), y_ = (([(⟨1, 0, 0, 256, IntKind.u64.wrap ((t232.length : Int)), 0, 0⟩ : S29)] : List (S29))) := ⟨_, rfl⟩
   replace H : (if 0 ≤ (y229.length : Int) then (if ((y229.length : Int) : Int).toNat ≤ 4398046511104 then (shacklelaw07_HashFinds.l0 k a2 t225 y229 t232 (List.replicate ((y229.length : Int) : Int).toNat z39) ([] : List Int) 0 0 0 y235) else (none)) else (none)) = some r := by first | (rw [hy235]; with_reducible exact H) | (have H2_ := (Option.bind_some _ _).symm.trans H; rw [hy235]; with_reducible exact H2_) | (have H2_ := (Option.bind_some _ _).symm.trans H; with_reducible exact H2_) | with_reducible exact H | (rw [hy235]; exact H) | exact H
   have Ny235 := Aside0.mk hy235
   clear hy235
   by_cases c8 : 0 ≤ (y229.length : Int)
   ·rw [if_pos c8] at H
    have c8b0 := eq_true c8
    have c8b1 : decide (0 ≤ (y229.length : Int)) = true := decide_eq_true c8
    clear c8
    by_cases c9 : ((y229.length : Int) : Int).toNat ≤ 4398046511104
    ·rw [if_pos c9] at H
     have c9b0 := eq_true c9
     have c9b1 : decide (((y229.length : Int) : Int).toNat ≤ 4398046511104) = true := decide_eq_true c9
     clear c9
     obtain ⟨y240, hy240⟩ : ∃ y_ : List (S39), y_ = (List.replicate ((y229.length : Int) : Int).toNat z39) := ⟨_, rfl⟩
     replace H : (shacklelaw07_HashFinds.l0 k a2 t225 y229 t232 y240 ([] : List Int) 0 0 0 y235) = some r := by first | (rw [hy240]; with_reducible exact H) | (have H2_ := (Option.bind_some _ _).symm.trans H; rw [hy240]; with_reducible exact H2_) | (have H2_ := (Option.bind_some _ _).symm.trans H; with_reducible exact H2_) | with_reducible exact H | (rw [hy240]; exact H) | exact H
     have Ny240 := Aside0.mk hy240
     clear hy240
     have H' := Aside0.mk H
     clear H
     go_enter Try.func3, Try.ntmps3
     go_wp2_with (first | ((with_reducible refine wpList_buildAt (t := 35) #[(3, .const (.int .u64 256))] #[.slice none 0 0, .int .u64 0, .int .u64 0, .int .u64 256, .int .u64 0, .int .u64 0, .int .u64 0, .int .u64 0, .int .u64 0, .int .u64 0, .int .u64 0, .int .u64 0, .int .u64 0, .int .u64 0, .bool false, .bool false, .bool false, .int .u64 0, .int .u64 0, .int .u64 0, .int .u64 0, .int .u64 0, .int .u64 0, .int .u64 0, .int .u64 0, .int .u64 0, .int .u64 0, .int .u64 0, .int .u64 0, .int .u64 0, .int .u64 0, .int .u64 0, .bool false, .bool false, .bool false, .bool false, .bool false] ?_ ?_); (as_aux_lemma => kernel_rfl)) | ((with_reducible refine gate_ (.load 35 (.tmp 12)) rfl ?_); refine wpList_load_row rfl 35 (.tmp 12) rfl gb239 rfl 35 _ (0, 0) _ (by (with_reducible repeat (first | refine blk_drewN ?_ _ | refine blk_drew ?_ | refine blk_alloc ?_ _)); exact BK239.out) Try.underlying35 rfl (by kernel_rfl) ?_) | ((with_reducible refine gate_callee (f := 10) rfl ?_); refine goesL_ (some 21) rfl rfl Try.func10 (by kernel_rfl) rfl #[] rfl (by (try simp only [List.map_toArray, List.map_cons, List.map_nil]); first | done | rfl | (simp only [List.length_drop, List.length_take]; rfl)) ?_; (with_reducible refine (shacklelaw07_up.calls k  t225 _ A4.out).mono ?_); rintro e w' ⟨rfl, ⟨nd, rfl⟩⟩; refine ⟨_, rfl, ?_⟩) | ((with_reducible refine gate_dst (N := 31) rfl ?_); (try (refine gate_guard (by rfl) ?_; dsimp only)); refine Kd.R_lit Kd.string _ 9 ?hg (N := 31) ?hd (xs := ([(⟨#[]⟩ : ByteArray)] : List ByteArray)) (inner := [.string (⟨#[]⟩ : ByteArray)]) (ok := fun _ => True) (okp := fun _ => True) ?hr ?hp (fun _ hk => hk) trivial (Below.refl _ _) (Nat.le_refl _) (by simp) ?_; (case hd => rfl); (case hg => rfl); (case hr => first | (go_simp; done) | (go_simp; rfl)); (case hp => exact (Reps.one (show Kd.M Kd.string _ _ _ (⟨#[]⟩ : ByteArray) [.string (⟨#[]⟩ : ByteArray)] from rfl) (Reps.none _ _))); intro v227 w10 ho11 hb hg_ hnew_; clear hg_ hnew_; (first | rw [← Ny226.out] at ho11 | (simp only [Int.reduceToNat] at ho11; rw [← Ny226.out] at ho11)); have n0_ := Aside0.mk (Kd.R_lower ho11 (below_size (by repeat (first | (with_reducible first | exact HB.out | apply below_alloc | apply pw_below_drewN | apply below_drew1) | exact HB.out)))); have n1_ := Aside0.mk (below_step (by repeat (first | (with_reducible first | exact HB.out | apply below_alloc | apply pw_below_drewN | apply below_drew1) | exact HB.out)) hb); clear HB; have HO228 := n0_; have HB := n1_; clear n0_ n1_; clear hb ho11) | ((with_reducible refine gate_builtin (b := .append) (xs := #[.tmp 31, .tmp 32]) rfl ?_); (try (refine gate_guard (by rfl) ?_; dsimp only)); at_builtin; refine Kd.R_append_rows Kd.string (w0 := w) w.heap.size rfl (.tmp 31) (.tmp 32) 22 9 (.string ⟨#[]⟩) 16 rfl Try.underlying22 info9 rfl (by decide) (by omega) v227 y226 l0 _ _ _ (fun _ => True) (fun _ => False) rfl rfl ?aO ?aR (fun _ _ h => h) (fun _ h => h.elim) ?aF ?aB ?aS ?aL ?_; (case aR => repeat (first | exact (Kd.C_below HR0.out HB.out) | (with_reducible refine Kd.C_alloc ?_ _) | (with_reducible refine Kd.C_drewN ?_ _) | (with_reducible refine Kd.C_drew ?_))); (case aB => exact (by repeat (first | (with_reducible first | exact HB.out | apply below_alloc | apply pw_below_drewN | apply below_drew1) | exact HB.out))); (case aF => exact (fun _ _ => trivial)); (case aO => exact (by (with_reducible repeat (first | apply Kd.R_alloc | apply Kd.R_drewN | apply Kd.R_drew)); exact HO228.out)); (case aS => exact (below_size (by repeat (first | (with_reducible first | exact HB.out | apply below_alloc | apply pw_below_drewN | apply below_drew1) | exact HB.out)))); (case aL => have := LMc6.out; omega); intro v230 w12 ho hb hg hat; rw [← Ny229.out] at ho; have n0_ := Aside0.mk (hb); have n1_ := Aside0.mk (ho); clear HB; clear HO228; have HB := n0_; have HO231 := n1_; clear n0_ n1_; clear ho hb hg hat; obtain ⟨Ao13, co13, eo13⟩ := Kd.R_slice HO231.out; subst eo13) | ((with_reducible refine gate_callee (f := 11) rfl ?_); refine goesL_ (some 37) rfl rfl Try.func11 (by kernel_rfl) rfl #[.slice Ao13 y229.length co13, .int .u32 ((wrap64 (1 + (Int.tmod (wrap64 ((Int.tmod a1 64) + 64)) 64))) % 4294967296)] rfl (by (try simp only [List.map_toArray, List.map_cons, List.map_nil]); first | done | rfl | (simp only [List.length_drop, List.length_take]; rfl)) ?_; (with_reducible refine (shacklelaw07_first.calls k _ _ y229 ((wrap64 (1 + (Int.tmod (wrap64 ((Int.tmod a1 64) + 64)) 64))) % 4294967296) t232 _ ?side1 ?side2 A7.out).mono ?_); (case side1 => repeat (first | exact (Kd.R_reads' HO231.out).2.2 | (with_reducible refine Kd.C_alloc ?_ _) | (with_reducible refine Kd.C_drewN ?_ _) | (with_reducible refine Kd.C_drew ?_))); (case side2 => exact (Kd.R_reads' HO231.out).2.1); rintro e w14 ⟨v233, rfl, ho0, hb⟩; refine ⟨_, rfl, ?_⟩; have n0_ := Aside0.mk (Kd.R_below (by (with_reducible repeat (first | apply Kd.R_alloc | apply Kd.R_drewN | apply Kd.R_drew)); exact HO231.out) hb); have n1_ := Aside0.mk (Kd.R_lower ho0 (below_size (by repeat (first | (with_reducible first | exact HB.out | apply below_alloc | apply pw_below_drewN | apply below_drew1) | exact HB.out)))); have n2_ := Aside0.mk (below_step (by repeat (first | (with_reducible first | exact HB.out | apply below_alloc | apply pw_below_drewN | apply below_drew1) | exact HB.out)) hb); clear HO231; clear HB; have HO231 := n0_; have HO234 := n1_; have HB := n2_; clear n0_ n1_ n2_; (try clear hb); (try clear hb2); (try clear hk); (try clear hi); (try clear ho0); obtain ⟨Ao15, co15, eo15⟩ := Kd.R_slice HO234.out; subst eo15) | ((with_reducible refine gate_dst (N := 42) rfl ?_); (try (refine gate_guard (by rfl) ?_; dsimp only)); refine Kd.R_lit k29 _ 29 ?hg (N := 42) ?hd (xs := ([(⟨1, 0, 0, 256, IntKind.u64.wrap ((t232.length : Int)), 0, 0⟩ : S29)] : List (S29))) (inner := [.int .u32 1, .int .u32 0, .int .u64 0, .int .u64 256, .int .u64 (IntKind.u64.wrap ((t232.length : Int))), .int .u64 0, .int .u64 0]) (ok := fun _ => True) (okp := fun _ => True) ?hr ?hp (fun _ hk => hk) trivial (Below.refl _ _) (Nat.le_refl _) (by simp) ?_; (case hd => rfl); (case hg => rfl); (case hr => first | (go_simp; done) | (go_simp; rfl)); (case hp => exact (Reps.c7 (show Kd.M k29 _ _ _ (⟨1, 0, 0, 256, IntKind.u64.wrap ((t232.length : Int)), 0, 0⟩ : S29) [.int .u32 1, .int .u32 0, .int .u64 0, .int .u64 256, .int .u64 (IntKind.u64.wrap ((t232.length : Int))), .int .u64 0, .int .u64 0] from (k29_mkM _ _ _ (⟨1, 0, 0, 256, IntKind.u64.wrap ((t232.length : Int)), 0, 0⟩ : S29) )) (Reps.none _ _))); intro v236 w16 ho17 hb hg_ hnew_; clear hg_ hnew_; (first | rw [← Ny235.out] at ho17 | (simp only [Int.reduceToNat] at ho17; rw [← Ny235.out] at ho17)); have n0_ := Aside0.mk (Kd.R_below (by (with_reducible repeat (first | apply Kd.R_alloc | apply Kd.R_drewN | apply Kd.R_drew)); exact HO231.out) hb); have n1_ := Aside0.mk (Kd.R_below (by (with_reducible repeat (first | apply Kd.R_alloc | apply Kd.R_drewN | apply Kd.R_drew)); exact HO234.out) hb); have n2_ := Aside0.mk (Kd.R_lower ho17 (below_size (by repeat (first | (with_reducible first | exact HB.out | apply below_alloc | apply pw_below_drewN | apply below_drew1) | exact HB.out)))); have n3_ := Aside0.mk (below_step (by repeat (first | (with_reducible first | exact HB.out | apply below_alloc | apply pw_below_drewN | apply below_drew1) | exact HB.out)) hb); clear HO231; clear HO234; clear HB; have HO231 := n0_; have HO234 := n1_; have HO237 := n2_; have HB := n3_; clear n0_ n1_ n2_ n3_; clear hb ho17; obtain ⟨Ao18, co18, eo18⟩ := Kd.R_slice HO237.out; subst eo18) | ((with_reducible refine gate_dst (N := 11) rfl ?_); (try (refine gate_guard (by rfl) ?_; dsimp only)); refine box_event ?hg (N := 11) ?hd (cs := #[.int .i64 0, .int .u64 0, .slice none 0 0]) (t := 32) ?hr ?_; (case hd => rfl); (case hg => rfl); (case hr => first | (go_simp; done) | (go_simp; rfl)); intro gb238 hg w19 hbox hb; have n0_ := Aside0.mk (Kd.R_below (by (with_reducible repeat (first | apply Kd.R_alloc | apply Kd.R_drewN | apply Kd.R_drew)); exact HO231.out) hb); have n1_ := Aside0.mk (Kd.R_below (by (with_reducible repeat (first | apply Kd.R_alloc | apply Kd.R_drewN | apply Kd.R_drew)); exact HO234.out) hb); have n2_ := Aside0.mk (Kd.R_below (by (with_reducible repeat (first | apply Kd.R_alloc | apply Kd.R_drewN | apply Kd.R_drew)); exact HO237.out) hb); have n3_ := Aside0.mk (below_step (by repeat (first | (with_reducible first | exact HB.out | apply below_alloc | apply pw_below_drewN | apply below_drew1) | exact HB.out)) hb); have n4_ := Aside0.mk (hbox); have n5_ := Aside0.mk ((by rw [hg]; exact (below_size (by repeat (first | (with_reducible first | exact HB.out | apply below_alloc | apply pw_below_drewN | apply below_drew1) | exact HB.out))) : w.heap.size ≤ gb238)); have n6_ := Aside0.mk ((by rw [hg]; exact (below_size (by repeat (first | (with_reducible first | exact HB.out | apply below_alloc | apply pw_below_drewN | apply below_drew1) | exact HB.out))) : w.heap.size ≤ gb238)); clear HO231; clear HO234; clear HO237; clear HB; have HO231 := n0_; have HO234 := n1_; have HO237 := n2_; have HB := n3_; have BK238 := n4_; have GW238 := n5_; have GE238 := n6_; clear n0_ n1_ n2_ n3_ n4_ n5_ n6_; clear hb hbox hg; have hcz20_0 : w19.cell? ⟨gb238, 0, none⟩ = some (.int .i64 0) := (blk_cell BK238.out 0).trans rfl; have hcz20_1 : w19.cell? ⟨gb238, 1, none⟩ = some (.int .u64 0) := (blk_cell BK238.out 1).trans rfl; have hcz20_2 : w19.cell? ⟨gb238, 2, none⟩ = some (.slice none 0 0) := (blk_cell BK238.out 2).trans rfl; have hfz20_0 := blk_frozen BK238.out 0; have hfz20_1 := blk_frozen BK238.out 1; have hfz20_2 := blk_frozen BK238.out 2) | ((with_reducible refine gate_dst (N := 12) rfl ?_); (try (refine gate_guard (by rfl) ?_; dsimp only)); refine box_event2 ?hg (N := 12) ?hd (cs := #[.slice none 0 0, .int .u64 0, .int .u64 0, .int .u64 256, .int .u64 0, .int .u64 0, .int .u64 0, .int .u64 0, .int .u64 0, .int .u64 0, .int .u64 0, .int .u64 0, .int .u64 0, .int .u64 0, .bool false, .bool false, .bool false, .int .u64 0, .int .u64 0, .int .u64 0, .int .u64 0, .int .u64 0, .int .u64 0, .int .u64 0, .int .u64 0, .int .u64 0, .int .u64 0, .int .u64 0, .int .u64 0, .int .u64 0, .int .u64 0, .int .u64 0, .bool false, .bool false, .bool false, .bool false, .bool false]) (t := 35) (zs := ?zs) ?hr rfl rfl rfl (fun _ => rfl) (fun _ => rfl) (by kernel_rfl) ?hz (by first | kernel_rfl | rfl) ?_; (case hd => rfl); (case hg => rfl); (case hr => first | (go_simp; done) | (go_simp; rfl)); (case hz => rfl); intro gb239 hg w21 hbox hb; have n0_ := Aside0.mk (Kd.R_below (by (with_reducible repeat (first | apply Kd.R_alloc | apply Kd.R_drewN | apply Kd.R_drew)); exact (Kd.R_mono (Kd.R_far (p := ⟨gb238, 2, none⟩) (Kd.R_far (p := ⟨gb238, 1, none⟩) (Kd.R_far (p := ⟨gb238, 0, none⟩) (Kd.R_types HO231.out BK238.out (by decide)) (fun _ hk => hk.2) (.int .i64 0)) (fun _ hk => hk.2) (.int .u64 0)) (fun _ hk => hk.2) (.slice Ao18 y235.length co18)) (fun _ h_ => h_.1))) hb); have n1_ := Aside0.mk (Kd.R_below (by (with_reducible repeat (first | apply Kd.R_alloc | apply Kd.R_drewN | apply Kd.R_drew)); exact (Kd.R_mono (Kd.R_far (p := ⟨gb238, 2, none⟩) (Kd.R_far (p := ⟨gb238, 1, none⟩) (Kd.R_far (p := ⟨gb238, 0, none⟩) (Kd.R_types HO234.out BK238.out (by decide)) (fun _ hk => hk.2) (.int .i64 0)) (fun _ hk => hk.2) (.int .u64 0)) (fun _ hk => hk.2) (.slice Ao18 y235.length co18)) (fun _ h_ => h_.1))) hb); have n2_ := Aside0.mk (Kd.R_below (by (with_reducible repeat (first | apply Kd.R_alloc | apply Kd.R_drewN | apply Kd.R_drew)); exact (Kd.R_mono (Kd.R_far (p := ⟨gb238, 2, none⟩) (Kd.R_far (p := ⟨gb238, 1, none⟩) (Kd.R_far (p := ⟨gb238, 0, none⟩) (Kd.R_types HO237.out BK238.out (by decide)) (fun _ hk => hk.2) (.int .i64 0)) (fun _ hk => hk.2) (.int .u64 0)) (fun _ hk => hk.2) (.slice Ao18 y235.length co18)) (fun _ h_ => h_.1))) hb); have n3_ := Aside0.mk (blk_below (g := gb238) (o := .cells #[.int .i64 0, .int .u64 0, .slice Ao18 y235.length co18] 32 (0, 0)) (by (with_reducible repeat (first | refine blk_drewN ?_ _ | refine blk_drew ?_ | refine blk_alloc ?_ _)); refine blk_put (cs := #[.int .i64 0, .int .u64 0, .slice none 0 0]) ?_ 2 _ rfl; (with_reducible repeat (first | refine blk_drewN ?_ _ | refine blk_drew ?_ | refine blk_alloc ?_ _)); refine blk_put (cs := #[.int .i64 0, .int .u64 0, .slice none 0 0]) ?_ 1 _ rfl; (with_reducible repeat (first | refine blk_drewN ?_ _ | refine blk_drew ?_ | refine blk_alloc ?_ _)); refine blk_put (cs := #[.int .i64 0, .int .u64 0, .slice none 0 0]) ?_ 0 _ rfl; (with_reducible repeat (first | refine blk_drewN ?_ _ | refine blk_drew ?_ | refine blk_alloc ?_ _)); exact BK238.out) hb); have n4_ := Aside0.mk (below_step (by repeat (first | (with_reducible first | exact HB.out | apply below_alloc | apply pw_below_drewN | apply below_drew1 | refine below_set ?_ GE238.out) | exact HB.out)) hb); have n5_ := Aside0.mk (hbox); have n6_ := Aside0.mk ((by rw [hg]; exact (below_size (by repeat (first | (with_reducible first | exact HB.out | apply below_alloc | apply pw_below_drewN | apply below_drew1 | refine below_set ?_ GE238.out) | exact HB.out))) : w.heap.size ≤ gb239)); have n7_ := Aside0.mk ((by rw [hg]; exact (below_size (by repeat (first | (with_reducible first | exact HB.out | apply below_alloc | apply pw_below_drewN | apply below_drew1 | refine below_set ?_ GE238.out) | exact HB.out))) : w.heap.size ≤ gb239)); have n8_ := Aside0.mk ((by rw [hg]; exact Nat.ne_of_lt (blk_lt (g := gb238) (o := .cells #[.int .i64 0, .int .u64 0, .slice Ao18 y235.length co18] 32 (0, 0)) (by (with_reducible repeat (first | refine blk_drewN ?_ _ | refine blk_drew ?_ | refine blk_alloc ?_ _)); refine blk_put (cs := #[.int .i64 0, .int .u64 0, .slice none 0 0]) ?_ 2 _ rfl; (with_reducible repeat (first | refine blk_drewN ?_ _ | refine blk_drew ?_ | refine blk_alloc ?_ _)); refine blk_put (cs := #[.int .i64 0, .int .u64 0, .slice none 0 0]) ?_ 1 _ rfl; (with_reducible repeat (first | refine blk_drewN ?_ _ | refine blk_drew ?_ | refine blk_alloc ?_ _)); refine blk_put (cs := #[.int .i64 0, .int .u64 0, .slice none 0 0]) ?_ 0 _ rfl; (with_reducible repeat (first | refine blk_drewN ?_ _ | refine blk_drew ?_ | refine blk_alloc ?_ _)); exact BK238.out)) : gb238 ≠ gb239)); have n9_ := Aside0.mk ((by rw [hg]; exact Nat.ne_of_gt (blk_lt (g := gb238) (o := .cells #[.int .i64 0, .int .u64 0, .slice Ao18 y235.length co18] 32 (0, 0)) (by (with_reducible repeat (first | refine blk_drewN ?_ _ | refine blk_drew ?_ | refine blk_alloc ?_ _)); refine blk_put (cs := #[.int .i64 0, .int .u64 0, .slice none 0 0]) ?_ 2 _ rfl; (with_reducible repeat (first | refine blk_drewN ?_ _ | refine blk_drew ?_ | refine blk_alloc ?_ _)); refine blk_put (cs := #[.int .i64 0, .int .u64 0, .slice none 0 0]) ?_ 1 _ rfl; (with_reducible repeat (first | refine blk_drewN ?_ _ | refine blk_drew ?_ | refine blk_alloc ?_ _)); refine blk_put (cs := #[.int .i64 0, .int .u64 0, .slice none 0 0]) ?_ 0 _ rfl; (with_reducible repeat (first | refine blk_drewN ?_ _ | refine blk_drew ?_ | refine blk_alloc ?_ _)); exact BK238.out)) : gb239 ≠ gb238)); clear HO231; clear HO234; clear HO237; clear BK238; clear HB; have HO231 := n0_; have HO234 := n1_; have HO237 := n2_; have BK238 := n3_; have HB := n4_; have BK239 := n5_; have GW239 := n6_; have GE239 := n7_; have NB238_239 := n8_; have NB239_238 := n9_; clear n0_ n1_ n2_ n3_ n4_ n5_ n6_ n7_ n8_ n9_; clear hb hbox hg) | ((with_reducible refine gate_dst (N := 47) rfl ?_); (try (refine gate_guard (by rfl) ?_; dsimp only)); refine Kd.R_make k39 _ 39 rfl (N := 47) rfl 36 _ _ rfl (y229.length : Int) rfl rfl Try.underlying36 (.agg #[(.string ⟨#[]⟩), (.int .i64 0), (.int .i64 0), (.int .i64 0), (.int .i64 0), (.int .u64 0), (.int .u64 0)]) 64 info39 rfl (by decide) (by omega) z39 (ok := fun _ => True) (okp := fun _ => True) (k39_mkM _ _ _ z39 ) (fun _ hk => hk) trivial (of_decide_eq_true (by assumption)) (Nat.le_trans (Nat.mul_le_mul_right _ (of_decide_eq_true (by assumption) : (y229.length : Int).toNat ≤ 4398046511104)) (by omega)) (Below.refl _ _) (Nat.le_refl _) ?_; intro v241 w22 ho23 hb hg_ hnew_; clear hg_ hnew_; (first | rw [← Ny240.out] at ho23 | (simp only [Int.reduceToNat] at ho23; rw [← Ny240.out] at ho23)); have n0_ := Aside0.mk (Kd.R_below (by (with_reducible repeat (first | apply Kd.R_alloc | apply Kd.R_drewN | apply Kd.R_drew)); exact HO231.out) hb); have n1_ := Aside0.mk (Kd.R_below (by (with_reducible repeat (first | apply Kd.R_alloc | apply Kd.R_drewN | apply Kd.R_drew)); exact HO234.out) hb); have n2_ := Aside0.mk (Kd.R_below (by (with_reducible repeat (first | apply Kd.R_alloc | apply Kd.R_drewN | apply Kd.R_drew)); exact HO237.out) hb); have n3_ := Aside0.mk (Kd.R_lower ho23 (below_size (by repeat (first | (with_reducible first | exact HB.out | apply below_alloc | apply pw_below_drewN | apply below_drew1 | refine below_set ?_ GE238.out | refine below_set ?_ GE239.out) | exact HB.out)))); have n4_ := Aside0.mk (blk_below (g := gb238) (o := .cells #[.int .i64 0, .int .u64 0, .slice Ao18 y235.length co18] 32 (0, 0)) (by (with_reducible repeat (first | refine blk_drewN ?_ _ | refine blk_drew ?_ | refine blk_alloc ?_ _)); exact BK238.out) hb); have n5_ := Aside0.mk (blk_below (g := gb239) (o := .cells #[.slice none 0 0, .int .u64 0, .int .u64 0, .int .u64 256, .int .u64 0, .int .u64 0, .int .u64 0, .int .u64 0, .int .u64 0, .int .u64 0, .int .u64 0, .int .u64 0, .int .u64 0, .int .u64 0, .bool false, .bool false, .bool false, .int .u64 0, .int .u64 0, .int .u64 0, .int .u64 0, .int .u64 0, .int .u64 0, .int .u64 0, .int .u64 0, .int .u64 0, .int .u64 0, .int .u64 0, .int .u64 0, .int .u64 0, .int .u64 0, .int .u64 0, .bool false, .bool false, .bool false, .bool false, .bool false] 35 (0, 0)) (by (with_reducible repeat (first | refine blk_drewN ?_ _ | refine blk_drew ?_ | refine blk_alloc ?_ _)); exact BK239.out) hb); have n6_ := Aside0.mk (below_step (by repeat (first | (with_reducible first | exact HB.out | apply below_alloc | apply pw_below_drewN | apply below_drew1 | refine below_set ?_ GE238.out | refine below_set ?_ GE239.out) | exact HB.out)) hb); clear HO231; clear HO234; clear HO237; clear BK238; clear BK239; clear HB; have HO231 := n0_; have HO234 := n1_; have HO237 := n2_; have HO242 := n3_; have BK238 := n4_; have BK239 := n5_; have HB := n6_; clear n0_ n1_ n2_ n3_ n4_ n5_ n6_; clear hb ho23))
     go_loopg [14, 15] k (fun kq v14 v15 w' => ∃ (x13_1 : List (S39)) (x14_1 : List Int) (x15_1 : Int), v15 = .int .i64 x15_1 ∧ Aside0 (shacklelaw07_HashFinds.l0 kq a2 t225 y229 t232 x13_1 x14_1 x15_1 0 0 y235 = some r) ∧ Aside0 (kq ≤ k) ∧ Aside0 (Kd.R Kd.string 9 w' w.heap.size (fun _ => True) (.slice Ao13 y229.length co13) y229) ∧ Aside0 (Kd.R (Kd.int .u8) 5 w' w.heap.size (fun _ => True) (.slice Ao15 t232.length co15) t232) ∧ Aside0 (Kd.R k39 39 w' w.heap.size (fun _ => True) v241 x13_1) ∧ Aside0 (Kd.R (Kd.int .i64) 3 w' w.heap.size (fun _ => True) v14 x14_1) ∧ Aside0 (Kd.R k29 29 w' w.heap.size (fun _ => True) (.slice Ao18 y235.length co18) y235) ∧ Aside0 (w'.heap[gb238]? = some (.cells #[.int .i64 0, .int .u64 0, (.slice Ao18 y235.length co18)] 32 (0, 0))) ∧ Aside0 (w'.heap[gb239]? = some (.cells #[(.slice none 0 0), .int .u64 0, .int .u64 0, .int .u64 256, .int .u64 0, .int .u64 0, .int .u64 0, .int .u64 0, .int .u64 0, .int .u64 0, .int .u64 0, .int .u64 0, .int .u64 0, .int .u64 0, .bool false, .bool false, .bool false, .int .u64 0, .int .u64 0, .int .u64 0, .int .u64 0, .int .u64 0, .int .u64 0, .int .u64 0, .int .u64 0, .int .u64 0, .int .u64 0, .int .u64 0, .int .u64 0, .int .u64 0, .int .u64 0, .int .u64 0, .bool false, .bool false, .bool false, .bool false, .bool false] 35 (0, 0))) ∧ Aside0 (Below w.heap.size w w'))
     case atStart => exact ⟨(y240), (([] : List Int)), (0), (by first | rfl | (simp; done) | (simp [*]; done)), H', ⟨Nat.le_refl _⟩, ⟨by (with_reducible repeat (first | apply Kd.R_alloc | apply Kd.R_drewN | apply Kd.R_drew)); exact HO231.out⟩, ⟨by (with_reducible repeat (first | apply Kd.R_alloc | apply Kd.R_drewN | apply Kd.R_drew)); exact HO234.out⟩, ⟨by (with_reducible repeat (first | apply Kd.R_alloc | apply Kd.R_drewN | apply Kd.R_drew)); exact HO242.out⟩, ⟨by first | exact Kd.R_nil _ _ _ _ _ | exact Kd.N_nil _ _ _ _ _ | exact Kd.V_nil _ _ _ _ _ | exact Kd.Q_nil _ _ _ _ _ | exact Kd.S_nil _ _ _ _ _⟩, ⟨by (with_reducible repeat (first | apply Kd.R_alloc | apply Kd.R_drewN | apply Kd.R_drew)); exact HO237.out⟩, ⟨by (with_reducible repeat (first | refine blk_drewN ?_ _ | refine blk_drew ?_ | refine blk_alloc ?_ _)); exact BK238.out⟩, ⟨by (with_reducible repeat (first | refine blk_drewN ?_ _ | refine blk_drew ?_ | refine blk_alloc ?_ _)); exact BK239.out⟩, ⟨by repeat (first | (with_reducible first | exact HB.out | apply below_alloc | apply pw_below_drewN | apply below_drew1 | refine below_set ?_ GE238.out | refine below_set ?_ GE239.out) | exact HB.out)⟩⟩
     case round =>
      clear H'
      try clear c1
      try clear p2
      try clear c3
      try clear c5
      try clear c5b0
      try clear c5b1
      try clear c6
      try clear p6
      try clear c7
      try clear c8
      try clear c8b0
      try clear c8b1
      try clear c9
      try clear c9b0
      try clear c9b1
      try clear c10
      try clear c11
      try clear hcz20_0
      try clear hcz20_1
      try clear hcz20_2
      try clear hfz20_0
      try clear hfz20_1
      try clear hfz20_2
      obtain ⟨x13_1, x14_1, x15_1, rfl, HA, HK1, HO_9, HO_10, HO_13, HO_14, HO_239002, BK238, BK239, HB⟩ := hrel
      cases gk with
      | zero => exact absurd HA.out (by simp [shacklelaw07_HashFinds.l0])
      | succ k1 =>
       have H := HA.out
       clear HA
       simp only [shacklelaw07_HashFinds.l0] at H
       by_cases c24 : x15_1 < (y229.length : Int)
       ·rw [if_pos c24] at H
        have c24b0 : decide (x15_1 < (y229.length : Int)) = true := decide_eq_true c24
        clear c24
        by_cases c25 : 0 ≤ x15_1
        ·rw [if_pos c25] at H
         have c25b0 : decide (0 ≤ x15_1) = true := decide_eq_true c25
         clear c25
         by_cases c26 : x15_1 < (x13_1.length : Int)
         ·rw [if_pos c26] at H
          have c26b0 : decide (x15_1 < (x13_1.length : Int)) = true := decide_eq_true c26
          clear c26
          obtain ⟨y244, hy244⟩ : ∃ y_ : List (S39), y_ = (x13_1.set (x15_1 : Int).toNat (⟨rdOf ByteArray.empty y229 x15_1, (rd_T39 x13_1 x15_1).f1, (rd_T39 x13_1 x15_1).f2, (rd_T39 x13_1 x15_1).f3, (rd_T39 x13_1 x15_1).f4, (rd_T39 x13_1 x15_1).f5, (rd_T39 x13_1 x15_1).f6⟩ : S39)) := ⟨_, rfl⟩
          replace H : (if x15_1 > 0 then (if (rdOf ByteArray.empty y229 x15_1).toList = a2.toList then (if x14_1.length < 17592186044416 then (shacklelaw07_HashFinds.l0 k1 a2 t225 y229 t232 y244 (x14_1 ++ [x15_1]) (wrap64 (x15_1 + 1)) 0 0 y235) else (none)) else (shacklelaw07_HashFinds.l0 k1 a2 t225 y229 t232 y244 x14_1 (wrap64 (x15_1 + 1)) 0 0 y235)) else (shacklelaw07_HashFinds.l0 k1 a2 t225 y229 t232 y244 x14_1 (wrap64 (x15_1 + 1)) 0 0 y235)) = some r := by first | (rw [hy244]; with_reducible exact H) | (have H2_ := (Option.bind_some _ _).symm.trans H; rw [hy244]; with_reducible exact H2_) | (have H2_ := (Option.bind_some _ _).symm.trans H; with_reducible exact H2_) | with_reducible exact H | (rw [hy244]; exact H) | exact H
          have Ny244 := Aside0.mk hy244
          clear hy244
          by_cases c28 : x15_1 > 0
          ·rw [if_pos c28] at H
           have c28b0 : decide (0 < x15_1) = true := decide_eq_true c28
           clear c28
           by_cases c29 : (rdOf ByteArray.empty y229 x15_1).toList = a2.toList
           ·rw [if_pos c29] at H
            have c29b0 : ((rdOf ByteArray.empty y229 x15_1).toList == a2.toList) = true := beq_iff_eq.mpr c29
            have c29b1 : ((rdOf ByteArray.empty y229 x15_1).toList != a2.toList) = false := bne_eq_false_iff_eq.mpr c29
            clear c29
            by_cases c30 : x14_1.length < 17592186044416
            ·rw [if_pos c30] at H
             have LMc30 := Aside0.mk c30
             clear c30
             obtain ⟨y246, hy246⟩ : ∃ y_ : List Int, y_ = (x14_1 ++ [x15_1]) := ⟨_, rfl⟩
             replace H : (shacklelaw07_HashFinds.l0 k1 a2 t225 y229 t232 y244 y246 (wrap64 (x15_1 + 1)) 0 0 y235) = some r := by first | (rw [hy246]; with_reducible exact H) | (have H2_ := (Option.bind_some _ _).symm.trans H; rw [hy246]; with_reducible exact H2_) | (have H2_ := (Option.bind_some _ _).symm.trans H; with_reducible exact H2_) | with_reducible exact H | (rw [hy246]; exact H) | exact H
             have Ny246 := Aside0.mk hy246
             clear hy246
             have H' := Aside0.mk H
             clear H
             have p243 : 0 ≤ (x15_1 : Int) := of_decide_eq_true (by assumption)
             have q243 : x15_1 < (y229.length : Int) := of_decide_eq_true (by assumption)
             obtain ⟨ad243, e243, hx243_0⟩ := Kd.at_string (Kd.R_reads' HO_9.out).2.2 x15_1 p243 q243
             cases e243
             replace p243 := eq_true p243
             replace q243 := eq_true q243
             have p27 : 0 ≤ (x15_1 : Int) := of_decide_eq_true (by assumption)
             have q27 : (x15_1 : Int) < ((x13_1.length : Int) : Int) := of_decide_eq_true (by assumption)
             obtain ⟨go27, co27, eo27, gb27, gl27, cl27, HG27⟩ := Kd.R_form HO_13.out (by omega)
             (first | cases eo27 | (injection eo27 with ea_ en_ ec_; (first | subst ea_ | (injection ea_ with ea_; subst ea_)); subst ec_; clear en_))
             have GB27 := Aside0.mk gb27
             have GG27 := Aside0.mk HG27
             clear gb27 gl27 HG27
             obtain ⟨ce27, hcl27, hM27, hcc27, hfr27⟩ := Kd.R_elem HO_13.out z39 (x15_1 : Int) p27 q27
             obtain rfl := k39_openM hM27
             have hx27_0 : wr.cell? ⟨go27, (x15_1 : Int).toNat * 7, none⟩ = some (.string ((rd_T39 x13_1 x15_1).f0)) := hcc27 0 _ rfl
             have hx27_1 : wr.cell? ⟨go27, (x15_1 : Int).toNat * 7 + 1, none⟩ = some (.int .i64 ((rd_T39 x13_1 x15_1).f1)) := hcc27 1 _ rfl
             have hx27_2 : wr.cell? ⟨go27, (x15_1 : Int).toNat * 7 + 2, none⟩ = some (.int .i64 ((rd_T39 x13_1 x15_1).f2)) := hcc27 2 _ rfl
             have hx27_3 : wr.cell? ⟨go27, (x15_1 : Int).toNat * 7 + 3, none⟩ = some (.int .i64 ((rd_T39 x13_1 x15_1).f3)) := hcc27 3 _ rfl
             have hx27_4 : wr.cell? ⟨go27, (x15_1 : Int).toNat * 7 + 4, none⟩ = some (.int .i64 ((rd_T39 x13_1 x15_1).f4)) := hcc27 4 _ rfl
             have hx27_5 : wr.cell? ⟨go27, (x15_1 : Int).toNat * 7 + 5, none⟩ = some (.int .u64 ((rd_T39 x13_1 x15_1).f5)) := hcc27 5 _ rfl
             have hx27_6 : wr.cell? ⟨go27, (x15_1 : Int).toNat * 7 + 6, none⟩ = some (.int .u64 ((rd_T39 x13_1 x15_1).f6)) := hcc27 6 _ rfl
             have hf27_0 : wr.frozen? ⟨go27, (x15_1 : Int).toNat * 7, none⟩ = false := hfr27 0
             have hf27_1 : wr.frozen? ⟨go27, (x15_1 : Int).toNat * 7 + 1, none⟩ = false := hfr27 1
             have hf27_2 : wr.frozen? ⟨go27, (x15_1 : Int).toNat * 7 + 2, none⟩ = false := hfr27 2
             have hf27_3 : wr.frozen? ⟨go27, (x15_1 : Int).toNat * 7 + 3, none⟩ = false := hfr27 3
             have hf27_4 : wr.frozen? ⟨go27, (x15_1 : Int).toNat * 7 + 4, none⟩ = false := hfr27 4
             have hf27_5 : wr.frozen? ⟨go27, (x15_1 : Int).toNat * 7 + 5, none⟩ = false := hfr27 5
             have hf27_6 : wr.frozen? ⟨go27, (x15_1 : Int).toNat * 7 + 6, none⟩ = false := hfr27 6
             clear hcl27 hcc27 hfr27 hM27
             replace p27 := eq_true p27
             replace q27 := eq_true q27
             have HX31 := Aside0.mk (show Kd.R k39 39 wr w.heap.size (fun _ => True) (.slice (some ⟨go27, 0, none⟩) x13_1.length co27) x13_1 from (by (with_reducible repeat (first | apply Kd.R_alloc | apply Kd.R_drewN | apply Kd.R_drew)); exact HO_13.out))
             obtain ⟨ce31, hcl31, hM31, hcc31, hfr31⟩ := Kd.R_elem HX31.out z39 (x15_1 : Int) (of_decide_eq_true (by assumption)) (by have h_ : (x15_1 : Int) < ((x13_1.length : Int) : Int) := of_decide_eq_true (by assumption); first | exact h_ | (have e_ := (Kd.R_reads' HO_13.out).1; omega) | simpa using h_)
             obtain rfl := k39_openM hM31
             have HP31 := Kd.R_seg HX31.out (x15_1 : Int) (of_decide_eq_true (by assumption)) (by have h_ : (x15_1 : Int) < ((x13_1.length : Int) : Int) := of_decide_eq_true (by assumption); first | exact h_ | (have e_ := (Kd.R_reads' HO_13.out).1; omega) | simpa using h_) (seg := [.string (rdOf ByteArray.empty y229 x15_1)]) (j := 0) hcl31 hcc31 (show 1 ≤ 7 from by decide) (x' := (⟨rdOf ByteArray.empty y229 x15_1, (rd_T39 x13_1 x15_1).f1, (rd_T39 x13_1 x15_1).f2, (rd_T39 x13_1 x15_1).f3, (rd_T39 x13_1 x15_1).f4, (rd_T39 x13_1 x15_1).f5, (rd_T39 x13_1 x15_1).f6⟩ : S39)) (k39_mkM _ _ _ (⟨rdOf ByteArray.empty y229 x15_1, (rd_T39 x13_1 x15_1).f1, (rd_T39 x13_1 x15_1).f2, (rd_T39 x13_1 x15_1).f3, (rd_T39 x13_1 x15_1).f4, (rd_T39 x13_1 x15_1).f5, (rd_T39 x13_1 x15_1).f6⟩ : S39) ) (fun _ hk => hk)
             have hx31_0 := hcc31 0 _ rfl
             (try simp only [show (k39).sz = 7 from rfl, Nat.mul_one, Nat.add_zero] at hx31_0)
             have hf31_0 := hfr31 0
             (try simp only [show (k39).sz = 7 from rfl, Nat.mul_one, Nat.add_zero] at hf31_0)
             clear hcl31 hcc31 hfr31 hM31
             go_wp2_with (first | ((with_reducible refine wpList_buildAt (t := 35) #[(3, .const (.int .u64 256))] #[.slice none 0 0, .int .u64 0, .int .u64 0, .int .u64 256, .int .u64 0, .int .u64 0, .int .u64 0, .int .u64 0, .int .u64 0, .int .u64 0, .int .u64 0, .int .u64 0, .int .u64 0, .int .u64 0, .bool false, .bool false, .bool false, .int .u64 0, .int .u64 0, .int .u64 0, .int .u64 0, .int .u64 0, .int .u64 0, .int .u64 0, .int .u64 0, .int .u64 0, .int .u64 0, .int .u64 0, .int .u64 0, .int .u64 0, .int .u64 0, .int .u64 0, .bool false, .bool false, .bool false, .bool false, .bool false] ?_ ?_); (as_aux_lemma => kernel_rfl)) | ((with_reducible refine gate_ (.load 35 (.tmp 12)) rfl ?_); refine wpList_load_row rfl 35 (.tmp 12) rfl gb239 rfl 35 _ (0, 0) _ (by (with_reducible repeat (first | refine blk_drewN ?_ _ | refine blk_drew ?_ | refine blk_alloc ?_ _)); exact BK239.out) Try.underlying35 rfl (by kernel_rfl) ?_) | ((with_reducible refine gate_store (t := 9) (p := 61) rfl ?_); refine store_event (t := 9) (p := 61) (v := ?vo_w32) (w1 := (wr.setCell ⟨go27, (x15_1 : Int).toNat * 7, none⟩ (.string (rdOf ByteArray.empty y229 x15_1)))) ?hg ?ho ?hn ?hr ?_; (case ho => rfl); (case hg => rfl); (case hn => rfl); (case hr => first | (go_simp; done) | (go_simp; rfl)); intro w32 hw; have hg : wr.grownBy w32 (some go27) := (by rw [hw]; exact HP31.2); have hp_ : Kd.R k39 39 w32 w.heap.size (fun _ => True) (.slice (some ⟨go27, 0, none⟩) x13_1.length co27) y244 := (by rw [hw, Ny244.out]; exact HP31.1); clear HP31; have n0_ := Aside0.mk (Kd.R_over' (v := (.slice (some ⟨go27, 0, none⟩) x13_1.length co27)) (by (with_reducible repeat (first | apply Kd.R_alloc | apply Kd.R_drewN | apply Kd.R_drew)); exact HO_9.out) (Kd.R_typed HO_13.out) (by decide) hg); have n1_ := Aside0.mk (Kd.R_over' (v := (.slice (some ⟨go27, 0, none⟩) x13_1.length co27)) (by (with_reducible repeat (first | apply Kd.R_alloc | apply Kd.R_drewN | apply Kd.R_drew)); exact HO_10.out) (Kd.R_typed HO_13.out) (by decide) hg); have n2_ := Aside0.mk (hp_); have n3_ := Aside0.mk (Kd.R_over' (v := (.slice (some ⟨go27, 0, none⟩) x13_1.length co27)) (by (with_reducible repeat (first | apply Kd.R_alloc | apply Kd.R_drewN | apply Kd.R_drew)); exact HO_14.out) (Kd.R_typed HO_13.out) (by decide) hg); have n4_ := Aside0.mk (Kd.R_over' (v := (.slice (some ⟨go27, 0, none⟩) x13_1.length co27)) (by (with_reducible repeat (first | apply Kd.R_alloc | apply Kd.R_drewN | apply Kd.R_drew)); exact HO_239002.out) (Kd.R_typed HO_13.out) (by decide) hg); have n5_ := Aside0.mk (blk_grown (g := gb238) (o := .cells #[.int .i64 0, .int .u64 0, .slice Ao18 y235.length co18] 32 (0, 0)) (by (with_reducible repeat (first | refine blk_drewN ?_ _ | refine blk_drew ?_ | refine blk_alloc ?_ _)); exact BK238.out) hg (Kd.R_ne HO_13.out BK238.out (by decide))); have n6_ := Aside0.mk (blk_grown (g := gb239) (o := .cells #[.slice none 0 0, .int .u64 0, .int .u64 0, .int .u64 256, .int .u64 0, .int .u64 0, .int .u64 0, .int .u64 0, .int .u64 0, .int .u64 0, .int .u64 0, .int .u64 0, .int .u64 0, .int .u64 0, .bool false, .bool false, .bool false, .int .u64 0, .int .u64 0, .int .u64 0, .int .u64 0, .int .u64 0, .int .u64 0, .int .u64 0, .int .u64 0, .int .u64 0, .int .u64 0, .int .u64 0, .int .u64 0, .int .u64 0, .int .u64 0, .int .u64 0, .bool false, .bool false, .bool false, .bool false, .bool false] 35 (0, 0)) (by (with_reducible repeat (first | refine blk_drewN ?_ _ | refine blk_drew ?_ | refine blk_alloc ?_ _)); exact BK239.out) hg (Kd.R_ne HO_13.out BK239.out (by decide))); have n7_ := Aside0.mk ((by rw [hw]; exact below_set (HB.out) GB27.out : Below w.heap.size w w32)); clear HO_9; clear HO_10; clear HO_13; clear HO_14; clear HO_239002; clear BK238; clear BK239; clear HB; have HO_9 := n0_; have HO_10 := n1_; have HO_13 := n2_; have HO_14 := n3_; have HO_239002 := n4_; have BK238 := n5_; have BK239 := n6_; have HB := n7_; clear n0_ n1_ n2_ n3_ n4_ n5_ n6_ n7_; clear hg hw hp_; have p245 : 0 ≤ (x15_1 : Int) := of_decide_eq_true (by assumption); have q245 : x15_1 < (y229.length : Int) := of_decide_eq_true (by assumption); obtain ⟨ad245, e245, hx245_0⟩ := Kd.at_string (Kd.R_reads' HO_9.out).2.2 x15_1 p245 q245; obtain rfl : ad243 = ad245 := (by injection e245); replace p245 := eq_true p245; replace q245 := eq_true q245) | ((with_reducible refine gate_builtin (b := .append) (xs := #[.tmp 72, .tmp 74]) rfl ?_); (try (refine gate_guard (by rfl) ?_; dsimp only)); at_builtin; refine Kd.R_append (Kd.int .i64) (w0 := w) w.heap.size rfl (.tmp 72) (.tmp 74) 37 3 (.int .i64 0) 8 rfl Try.underlying37 info3 rfl (by decide) (by omega) u14 x14_1 x15_1 [.int .i64 x15_1] (fun _ => True) (fun _ => False) rfl rfl ?aP (fun _ hk => hk.elim) ?aF ?aO ?aB ?aS ?aL ?_; (case aP => exact rfl); (case aB => exact (by repeat (first | (with_reducible first | exact HB.out | apply below_alloc | apply pw_below_drewN | apply below_drew1 | refine below_set ?_ GE238.out | refine below_set ?_ GE239.out) | exact HB.out))); (case aF => exact (fun _ _ => trivial)); (case aO => exact (by (with_reducible repeat (first | apply Kd.R_alloc | apply Kd.R_drewN | apply Kd.R_drew)); exact HO_14.out)); (case aS => exact (below_size (by repeat (first | (with_reducible first | exact HB.out | apply below_alloc | apply pw_below_drewN | apply below_drew1 | refine below_set ?_ GE238.out | refine below_set ?_ GE239.out) | exact HB.out)))); (case aL => have := LMc30.out; omega); intro v247 w33 ho hb hg hat; rw [← Ny246.out] at ho; have n0_ := Aside0.mk (Kd.R_over' (by (with_reducible repeat (first | apply Kd.R_alloc | apply Kd.R_drewN | apply Kd.R_drew)); exact HO_9.out) (Kd.R_typed (by (with_reducible repeat (first | apply Kd.R_alloc | apply Kd.R_drewN | apply Kd.R_drew)); exact HO_14.out)) (by decide) hg); have n1_ := Aside0.mk (Kd.R_over' (by (with_reducible repeat (first | apply Kd.R_alloc | apply Kd.R_drewN | apply Kd.R_drew)); exact HO_10.out) (Kd.R_typed (by (with_reducible repeat (first | apply Kd.R_alloc | apply Kd.R_drewN | apply Kd.R_drew)); exact HO_14.out)) (by decide) hg); have n2_ := Aside0.mk (Kd.R_over' (by (with_reducible repeat (first | apply Kd.R_alloc | apply Kd.R_drewN | apply Kd.R_drew)); exact HO_13.out) (Kd.R_typed (by (with_reducible repeat (first | apply Kd.R_alloc | apply Kd.R_drewN | apply Kd.R_drew)); exact HO_14.out)) (by decide) hg); have n3_ := Aside0.mk (Kd.R_over' (by (with_reducible repeat (first | apply Kd.R_alloc | apply Kd.R_drewN | apply Kd.R_drew)); exact HO_239002.out) (Kd.R_typed (by (with_reducible repeat (first | apply Kd.R_alloc | apply Kd.R_drewN | apply Kd.R_drew)); exact HO_14.out)) (by decide) hg); have n4_ := Aside0.mk (blk_grown (g := gb238) (o := .cells #[.int .i64 0, .int .u64 0, .slice Ao18 y235.length co18] 32 (0, 0)) (by (with_reducible repeat (first | refine blk_drewN ?_ _ | refine blk_drew ?_ | refine blk_alloc ?_ _)); exact BK238.out) hg (Kd.R_ne HO_14.out BK238.out (by decide))); have n5_ := Aside0.mk (blk_grown (g := gb239) (o := .cells #[.slice none 0 0, .int .u64 0, .int .u64 0, .int .u64 256, .int .u64 0, .int .u64 0, .int .u64 0, .int .u64 0, .int .u64 0, .int .u64 0, .int .u64 0, .int .u64 0, .int .u64 0, .int .u64 0, .bool false, .bool false, .bool false, .int .u64 0, .int .u64 0, .int .u64 0, .int .u64 0, .int .u64 0, .int .u64 0, .int .u64 0, .int .u64 0, .int .u64 0, .int .u64 0, .int .u64 0, .int .u64 0, .int .u64 0, .int .u64 0, .int .u64 0, .bool false, .bool false, .bool false, .bool false, .bool false] 35 (0, 0)) (by (with_reducible repeat (first | refine blk_drewN ?_ _ | refine blk_drew ?_ | refine blk_alloc ?_ _)); exact BK239.out) hg (Kd.R_ne HO_14.out BK239.out (by decide))); have n6_ := Aside0.mk (hb); have n7_ := Aside0.mk (ho); clear HO_9; clear HO_10; clear HO_13; clear HO_239002; clear BK238; clear BK239; clear HB; clear HO_14; have HO_9 := n0_; have HO_10 := n1_; have HO_13 := n2_; have HO_239002 := n3_; have BK238 := n4_; have BK239 := n5_; have HB := n6_; have HO248 := n7_; clear n0_ n1_ n2_ n3_ n4_ n5_ n6_ n7_; clear ho hb hg hat))
             go_roundg k1
             case measure => have := HK1.out; omega
             case rel => exact ⟨(y244), (y246), (wrap64 (x15_1 + 1)), (by first | rfl | (simp; done) | (simp [*]; done)), H', ⟨by have := HK1.out; omega⟩, ⟨by (with_reducible repeat (first | apply Kd.R_alloc | apply Kd.R_drewN | apply Kd.R_drew)); exact HO_9.out⟩, ⟨by (with_reducible repeat (first | apply Kd.R_alloc | apply Kd.R_drewN | apply Kd.R_drew)); exact HO_10.out⟩, ⟨by (with_reducible repeat (first | apply Kd.R_alloc | apply Kd.R_drewN | apply Kd.R_drew)); exact HO_13.out⟩, ⟨by (with_reducible repeat (first | apply Kd.R_alloc | apply Kd.R_drewN | apply Kd.R_drew)); exact HO248.out⟩, ⟨by (with_reducible repeat (first | apply Kd.R_alloc | apply Kd.R_drewN | apply Kd.R_drew)); exact HO_239002.out⟩, ⟨by (with_reducible repeat (first | refine blk_drewN ?_ _ | refine blk_drew ?_ | refine blk_alloc ?_ _)); exact BK238.out⟩, ⟨by (with_reducible repeat (first | refine blk_drewN ?_ _ | refine blk_drew ?_ | refine blk_alloc ?_ _)); exact BK239.out⟩, ⟨by repeat (first | (with_reducible first | exact HB.out | apply below_alloc | apply pw_below_drewN | apply below_drew1 | refine below_set ?_ GE238.out | refine below_set ?_ GE239.out) | exact HB.out)⟩⟩
            ·rw [if_neg c30] at H
             exact absurd H (by simp)
           ·rw [if_neg c29] at H
            have c29b0 : ((rdOf ByteArray.empty y229 x15_1).toList == a2.toList) = false := beq_eq_false_iff_ne.mpr c29
            have c29b1 : ((rdOf ByteArray.empty y229 x15_1).toList != a2.toList) = true := bne_iff_ne.mpr c29
            have H' := Aside0.mk H
            clear H
            have p243 : 0 ≤ (x15_1 : Int) := of_decide_eq_true (by assumption)
            have q243 : x15_1 < (y229.length : Int) := of_decide_eq_true (by assumption)
            obtain ⟨ad243, e243, hx243_0⟩ := Kd.at_string (Kd.R_reads' HO_9.out).2.2 x15_1 p243 q243
            cases e243
            replace p243 := eq_true p243
            replace q243 := eq_true q243
            have p27 : 0 ≤ (x15_1 : Int) := of_decide_eq_true (by assumption)
            have q27 : (x15_1 : Int) < ((x13_1.length : Int) : Int) := of_decide_eq_true (by assumption)
            obtain ⟨go27, co27, eo27, gb27, gl27, cl27, HG27⟩ := Kd.R_form HO_13.out (by omega)
            (first | cases eo27 | (injection eo27 with ea_ en_ ec_; (first | subst ea_ | (injection ea_ with ea_; subst ea_)); subst ec_; clear en_))
            have GB27 := Aside0.mk gb27
            have GG27 := Aside0.mk HG27
            clear gb27 gl27 HG27
            obtain ⟨ce27, hcl27, hM27, hcc27, hfr27⟩ := Kd.R_elem HO_13.out z39 (x15_1 : Int) p27 q27
            obtain rfl := k39_openM hM27
            have hx27_0 : wr.cell? ⟨go27, (x15_1 : Int).toNat * 7, none⟩ = some (.string ((rd_T39 x13_1 x15_1).f0)) := hcc27 0 _ rfl
            have hx27_1 : wr.cell? ⟨go27, (x15_1 : Int).toNat * 7 + 1, none⟩ = some (.int .i64 ((rd_T39 x13_1 x15_1).f1)) := hcc27 1 _ rfl
            have hx27_2 : wr.cell? ⟨go27, (x15_1 : Int).toNat * 7 + 2, none⟩ = some (.int .i64 ((rd_T39 x13_1 x15_1).f2)) := hcc27 2 _ rfl
            have hx27_3 : wr.cell? ⟨go27, (x15_1 : Int).toNat * 7 + 3, none⟩ = some (.int .i64 ((rd_T39 x13_1 x15_1).f3)) := hcc27 3 _ rfl
            have hx27_4 : wr.cell? ⟨go27, (x15_1 : Int).toNat * 7 + 4, none⟩ = some (.int .i64 ((rd_T39 x13_1 x15_1).f4)) := hcc27 4 _ rfl
            have hx27_5 : wr.cell? ⟨go27, (x15_1 : Int).toNat * 7 + 5, none⟩ = some (.int .u64 ((rd_T39 x13_1 x15_1).f5)) := hcc27 5 _ rfl
            have hx27_6 : wr.cell? ⟨go27, (x15_1 : Int).toNat * 7 + 6, none⟩ = some (.int .u64 ((rd_T39 x13_1 x15_1).f6)) := hcc27 6 _ rfl
            have hf27_0 : wr.frozen? ⟨go27, (x15_1 : Int).toNat * 7, none⟩ = false := hfr27 0
            have hf27_1 : wr.frozen? ⟨go27, (x15_1 : Int).toNat * 7 + 1, none⟩ = false := hfr27 1
            have hf27_2 : wr.frozen? ⟨go27, (x15_1 : Int).toNat * 7 + 2, none⟩ = false := hfr27 2
            have hf27_3 : wr.frozen? ⟨go27, (x15_1 : Int).toNat * 7 + 3, none⟩ = false := hfr27 3
            have hf27_4 : wr.frozen? ⟨go27, (x15_1 : Int).toNat * 7 + 4, none⟩ = false := hfr27 4
            have hf27_5 : wr.frozen? ⟨go27, (x15_1 : Int).toNat * 7 + 5, none⟩ = false := hfr27 5
            have hf27_6 : wr.frozen? ⟨go27, (x15_1 : Int).toNat * 7 + 6, none⟩ = false := hfr27 6
            clear hcl27 hcc27 hfr27 hM27
            replace p27 := eq_true p27
            replace q27 := eq_true q27
            have HX34 := Aside0.mk (show Kd.R k39 39 wr w.heap.size (fun _ => True) (.slice (some ⟨go27, 0, none⟩) x13_1.length co27) x13_1 from (by (with_reducible repeat (first | apply Kd.R_alloc | apply Kd.R_drewN | apply Kd.R_drew)); exact HO_13.out))
            obtain ⟨ce34, hcl34, hM34, hcc34, hfr34⟩ := Kd.R_elem HX34.out z39 (x15_1 : Int) (of_decide_eq_true (by assumption)) (by have h_ : (x15_1 : Int) < ((x13_1.length : Int) : Int) := of_decide_eq_true (by assumption); first | exact h_ | (have e_ := (Kd.R_reads' HO_13.out).1; omega) | simpa using h_)
            obtain rfl := k39_openM hM34
            have HP34 := Kd.R_seg HX34.out (x15_1 : Int) (of_decide_eq_true (by assumption)) (by have h_ : (x15_1 : Int) < ((x13_1.length : Int) : Int) := of_decide_eq_true (by assumption); first | exact h_ | (have e_ := (Kd.R_reads' HO_13.out).1; omega) | simpa using h_) (seg := [.string (rdOf ByteArray.empty y229 x15_1)]) (j := 0) hcl34 hcc34 (show 1 ≤ 7 from by decide) (x' := (⟨rdOf ByteArray.empty y229 x15_1, (rd_T39 x13_1 x15_1).f1, (rd_T39 x13_1 x15_1).f2, (rd_T39 x13_1 x15_1).f3, (rd_T39 x13_1 x15_1).f4, (rd_T39 x13_1 x15_1).f5, (rd_T39 x13_1 x15_1).f6⟩ : S39)) (k39_mkM _ _ _ (⟨rdOf ByteArray.empty y229 x15_1, (rd_T39 x13_1 x15_1).f1, (rd_T39 x13_1 x15_1).f2, (rd_T39 x13_1 x15_1).f3, (rd_T39 x13_1 x15_1).f4, (rd_T39 x13_1 x15_1).f5, (rd_T39 x13_1 x15_1).f6⟩ : S39) ) (fun _ hk => hk)
            have hx34_0 := hcc34 0 _ rfl
            (try simp only [show (k39).sz = 7 from rfl, Nat.mul_one, Nat.add_zero] at hx34_0)
            have hf34_0 := hfr34 0
            (try simp only [show (k39).sz = 7 from rfl, Nat.mul_one, Nat.add_zero] at hf34_0)
            clear hcl34 hcc34 hfr34 hM34
            go_wp2_with (first | ((with_reducible refine wpList_buildAt (t := 35) #[(3, .const (.int .u64 256))] #[.slice none 0 0, .int .u64 0, .int .u64 0, .int .u64 256, .int .u64 0, .int .u64 0, .int .u64 0, .int .u64 0, .int .u64 0, .int .u64 0, .int .u64 0, .int .u64 0, .int .u64 0, .int .u64 0, .bool false, .bool false, .bool false, .int .u64 0, .int .u64 0, .int .u64 0, .int .u64 0, .int .u64 0, .int .u64 0, .int .u64 0, .int .u64 0, .int .u64 0, .int .u64 0, .int .u64 0, .int .u64 0, .int .u64 0, .int .u64 0, .int .u64 0, .bool false, .bool false, .bool false, .bool false, .bool false] ?_ ?_); (as_aux_lemma => kernel_rfl)) | ((with_reducible refine gate_ (.load 35 (.tmp 12)) rfl ?_); refine wpList_load_row rfl 35 (.tmp 12) rfl gb239 rfl 35 _ (0, 0) _ (by (with_reducible repeat (first | refine blk_drewN ?_ _ | refine blk_drew ?_ | refine blk_alloc ?_ _)); exact BK239.out) Try.underlying35 rfl (by kernel_rfl) ?_) | ((with_reducible refine gate_store (t := 9) (p := 61) rfl ?_); refine store_event (t := 9) (p := 61) (v := ?vo_w35) (w1 := (wr.setCell ⟨go27, (x15_1 : Int).toNat * 7, none⟩ (.string (rdOf ByteArray.empty y229 x15_1)))) ?hg ?ho ?hn ?hr ?_; (case ho => rfl); (case hg => rfl); (case hn => rfl); (case hr => first | (go_simp; done) | (go_simp; rfl)); intro w35 hw; have hg : wr.grownBy w35 (some go27) := (by rw [hw]; exact HP34.2); have hp_ : Kd.R k39 39 w35 w.heap.size (fun _ => True) (.slice (some ⟨go27, 0, none⟩) x13_1.length co27) y244 := (by rw [hw, Ny244.out]; exact HP34.1); clear HP34; have n0_ := Aside0.mk (Kd.R_over' (v := (.slice (some ⟨go27, 0, none⟩) x13_1.length co27)) (by (with_reducible repeat (first | apply Kd.R_alloc | apply Kd.R_drewN | apply Kd.R_drew)); exact HO_9.out) (Kd.R_typed HO_13.out) (by decide) hg); have n1_ := Aside0.mk (Kd.R_over' (v := (.slice (some ⟨go27, 0, none⟩) x13_1.length co27)) (by (with_reducible repeat (first | apply Kd.R_alloc | apply Kd.R_drewN | apply Kd.R_drew)); exact HO_10.out) (Kd.R_typed HO_13.out) (by decide) hg); have n2_ := Aside0.mk (hp_); have n3_ := Aside0.mk (Kd.R_over' (v := (.slice (some ⟨go27, 0, none⟩) x13_1.length co27)) (by (with_reducible repeat (first | apply Kd.R_alloc | apply Kd.R_drewN | apply Kd.R_drew)); exact HO_14.out) (Kd.R_typed HO_13.out) (by decide) hg); have n4_ := Aside0.mk (Kd.R_over' (v := (.slice (some ⟨go27, 0, none⟩) x13_1.length co27)) (by (with_reducible repeat (first | apply Kd.R_alloc | apply Kd.R_drewN | apply Kd.R_drew)); exact HO_239002.out) (Kd.R_typed HO_13.out) (by decide) hg); have n5_ := Aside0.mk (blk_grown (g := gb238) (o := .cells #[.int .i64 0, .int .u64 0, .slice Ao18 y235.length co18] 32 (0, 0)) (by (with_reducible repeat (first | refine blk_drewN ?_ _ | refine blk_drew ?_ | refine blk_alloc ?_ _)); exact BK238.out) hg (Kd.R_ne HO_13.out BK238.out (by decide))); have n6_ := Aside0.mk (blk_grown (g := gb239) (o := .cells #[.slice none 0 0, .int .u64 0, .int .u64 0, .int .u64 256, .int .u64 0, .int .u64 0, .int .u64 0, .int .u64 0, .int .u64 0, .int .u64 0, .int .u64 0, .int .u64 0, .int .u64 0, .int .u64 0, .bool false, .bool false, .bool false, .int .u64 0, .int .u64 0, .int .u64 0, .int .u64 0, .int .u64 0, .int .u64 0, .int .u64 0, .int .u64 0, .int .u64 0, .int .u64 0, .int .u64 0, .int .u64 0, .int .u64 0, .int .u64 0, .int .u64 0, .bool false, .bool false, .bool false, .bool false, .bool false] 35 (0, 0)) (by (with_reducible repeat (first | refine blk_drewN ?_ _ | refine blk_drew ?_ | refine blk_alloc ?_ _)); exact BK239.out) hg (Kd.R_ne HO_13.out BK239.out (by decide))); have n7_ := Aside0.mk ((by rw [hw]; exact below_set (HB.out) GB27.out : Below w.heap.size w w35)); clear HO_9; clear HO_10; clear HO_13; clear HO_14; clear HO_239002; clear BK238; clear BK239; clear HB; have HO_9 := n0_; have HO_10 := n1_; have HO_13 := n2_; have HO_14 := n3_; have HO_239002 := n4_; have BK238 := n5_; have BK239 := n6_; have HB := n7_; clear n0_ n1_ n2_ n3_ n4_ n5_ n6_ n7_; clear hg hw hp_; have p245 : 0 ≤ (x15_1 : Int) := of_decide_eq_true (by assumption); have q245 : x15_1 < (y229.length : Int) := of_decide_eq_true (by assumption); obtain ⟨ad245, e245, hx245_0⟩ := Kd.at_string (Kd.R_reads' HO_9.out).2.2 x15_1 p245 q245; obtain rfl : ad243 = ad245 := (by injection e245); replace p245 := eq_true p245; replace q245 := eq_true q245))
            go_roundg k1
            case measure => have := HK1.out; omega
            case rel => exact ⟨(y244), (x14_1), (wrap64 (x15_1 + 1)), (by first | rfl | (simp; done) | (simp [*]; done)), H', ⟨by have := HK1.out; omega⟩, ⟨by (with_reducible repeat (first | apply Kd.R_alloc | apply Kd.R_drewN | apply Kd.R_drew)); exact HO_9.out⟩, ⟨by (with_reducible repeat (first | apply Kd.R_alloc | apply Kd.R_drewN | apply Kd.R_drew)); exact HO_10.out⟩, ⟨by (with_reducible repeat (first | apply Kd.R_alloc | apply Kd.R_drewN | apply Kd.R_drew)); exact HO_13.out⟩, ⟨by (with_reducible repeat (first | apply Kd.R_alloc | apply Kd.R_drewN | apply Kd.R_drew)); exact HO_14.out⟩, ⟨by (with_reducible repeat (first | apply Kd.R_alloc | apply Kd.R_drewN | apply Kd.R_drew)); exact HO_239002.out⟩, ⟨by (with_reducible repeat (first | refine blk_drewN ?_ _ | refine blk_drew ?_ | refine blk_alloc ?_ _)); exact BK238.out⟩, ⟨by (with_reducible repeat (first | refine blk_drewN ?_ _ | refine blk_drew ?_ | refine blk_alloc ?_ _)); exact BK239.out⟩, ⟨by repeat (first | (with_reducible first | exact HB.out | apply below_alloc | apply pw_below_drewN | apply below_drew1 | refine below_set ?_ GE238.out | refine below_set ?_ GE239.out) | exact HB.out)⟩⟩
          ·rw [if_neg c28] at H
           have c28b0 : decide (0 < x15_1) = false := decide_eq_false c28
           clear c28
           have H' := Aside0.mk H
           clear H
           have p243 : 0 ≤ (x15_1 : Int) := of_decide_eq_true (by assumption)
           have q243 : x15_1 < (y229.length : Int) := of_decide_eq_true (by assumption)
           obtain ⟨ad243, e243, hx243_0⟩ := Kd.at_string (Kd.R_reads' HO_9.out).2.2 x15_1 p243 q243
           cases e243
           replace p243 := eq_true p243
           replace q243 := eq_true q243
           have p27 : 0 ≤ (x15_1 : Int) := of_decide_eq_true (by assumption)
           have q27 : (x15_1 : Int) < ((x13_1.length : Int) : Int) := of_decide_eq_true (by assumption)
           obtain ⟨go27, co27, eo27, gb27, gl27, cl27, HG27⟩ := Kd.R_form HO_13.out (by omega)
           (first | cases eo27 | (injection eo27 with ea_ en_ ec_; (first | subst ea_ | (injection ea_ with ea_; subst ea_)); subst ec_; clear en_))
           have GB27 := Aside0.mk gb27
           have GG27 := Aside0.mk HG27
           clear gb27 gl27 HG27
           obtain ⟨ce27, hcl27, hM27, hcc27, hfr27⟩ := Kd.R_elem HO_13.out z39 (x15_1 : Int) p27 q27
           obtain rfl := k39_openM hM27
           have hx27_0 : wr.cell? ⟨go27, (x15_1 : Int).toNat * 7, none⟩ = some (.string ((rd_T39 x13_1 x15_1).f0)) := hcc27 0 _ rfl
           have hx27_1 : wr.cell? ⟨go27, (x15_1 : Int).toNat * 7 + 1, none⟩ = some (.int .i64 ((rd_T39 x13_1 x15_1).f1)) := hcc27 1 _ rfl
           have hx27_2 : wr.cell? ⟨go27, (x15_1 : Int).toNat * 7 + 2, none⟩ = some (.int .i64 ((rd_T39 x13_1 x15_1).f2)) := hcc27 2 _ rfl
           have hx27_3 : wr.cell? ⟨go27, (x15_1 : Int).toNat * 7 + 3, none⟩ = some (.int .i64 ((rd_T39 x13_1 x15_1).f3)) := hcc27 3 _ rfl
           have hx27_4 : wr.cell? ⟨go27, (x15_1 : Int).toNat * 7 + 4, none⟩ = some (.int .i64 ((rd_T39 x13_1 x15_1).f4)) := hcc27 4 _ rfl
           have hx27_5 : wr.cell? ⟨go27, (x15_1 : Int).toNat * 7 + 5, none⟩ = some (.int .u64 ((rd_T39 x13_1 x15_1).f5)) := hcc27 5 _ rfl
           have hx27_6 : wr.cell? ⟨go27, (x15_1 : Int).toNat * 7 + 6, none⟩ = some (.int .u64 ((rd_T39 x13_1 x15_1).f6)) := hcc27 6 _ rfl
           have hf27_0 : wr.frozen? ⟨go27, (x15_1 : Int).toNat * 7, none⟩ = false := hfr27 0
           have hf27_1 : wr.frozen? ⟨go27, (x15_1 : Int).toNat * 7 + 1, none⟩ = false := hfr27 1
           have hf27_2 : wr.frozen? ⟨go27, (x15_1 : Int).toNat * 7 + 2, none⟩ = false := hfr27 2
           have hf27_3 : wr.frozen? ⟨go27, (x15_1 : Int).toNat * 7 + 3, none⟩ = false := hfr27 3
           have hf27_4 : wr.frozen? ⟨go27, (x15_1 : Int).toNat * 7 + 4, none⟩ = false := hfr27 4
           have hf27_5 : wr.frozen? ⟨go27, (x15_1 : Int).toNat * 7 + 5, none⟩ = false := hfr27 5
           have hf27_6 : wr.frozen? ⟨go27, (x15_1 : Int).toNat * 7 + 6, none⟩ = false := hfr27 6
           clear hcl27 hcc27 hfr27 hM27
           replace p27 := eq_true p27
           replace q27 := eq_true q27
           have HX36 := Aside0.mk (show Kd.R k39 39 wr w.heap.size (fun _ => True) (.slice (some ⟨go27, 0, none⟩) x13_1.length co27) x13_1 from (by (with_reducible repeat (first | apply Kd.R_alloc | apply Kd.R_drewN | apply Kd.R_drew)); exact HO_13.out))
           obtain ⟨ce36, hcl36, hM36, hcc36, hfr36⟩ := Kd.R_elem HX36.out z39 (x15_1 : Int) (of_decide_eq_true (by assumption)) (by have h_ : (x15_1 : Int) < ((x13_1.length : Int) : Int) := of_decide_eq_true (by assumption); first | exact h_ | (have e_ := (Kd.R_reads' HO_13.out).1; omega) | simpa using h_)
           obtain rfl := k39_openM hM36
           have HP36 := Kd.R_seg HX36.out (x15_1 : Int) (of_decide_eq_true (by assumption)) (by have h_ : (x15_1 : Int) < ((x13_1.length : Int) : Int) := of_decide_eq_true (by assumption); first | exact h_ | (have e_ := (Kd.R_reads' HO_13.out).1; omega) | simpa using h_) (seg := [.string (rdOf ByteArray.empty y229 x15_1)]) (j := 0) hcl36 hcc36 (show 1 ≤ 7 from by decide) (x' := (⟨rdOf ByteArray.empty y229 x15_1, (rd_T39 x13_1 x15_1).f1, (rd_T39 x13_1 x15_1).f2, (rd_T39 x13_1 x15_1).f3, (rd_T39 x13_1 x15_1).f4, (rd_T39 x13_1 x15_1).f5, (rd_T39 x13_1 x15_1).f6⟩ : S39)) (k39_mkM _ _ _ (⟨rdOf ByteArray.empty y229 x15_1, (rd_T39 x13_1 x15_1).f1, (rd_T39 x13_1 x15_1).f2, (rd_T39 x13_1 x15_1).f3, (rd_T39 x13_1 x15_1).f4, (rd_T39 x13_1 x15_1).f5, (rd_T39 x13_1 x15_1).f6⟩ : S39) ) (fun _ hk => hk)
           have hx36_0 := hcc36 0 _ rfl
           (try simp only [show (k39).sz = 7 from rfl, Nat.mul_one, Nat.add_zero] at hx36_0)
           have hf36_0 := hfr36 0
           (try simp only [show (k39).sz = 7 from rfl, Nat.mul_one, Nat.add_zero] at hf36_0)
           clear hcl36 hcc36 hfr36 hM36
           go_wp2_with (first | ((with_reducible refine wpList_buildAt (t := 35) #[(3, .const (.int .u64 256))] #[.slice none 0 0, .int .u64 0, .int .u64 0, .int .u64 256, .int .u64 0, .int .u64 0, .int .u64 0, .int .u64 0, .int .u64 0, .int .u64 0, .int .u64 0, .int .u64 0, .int .u64 0, .int .u64 0, .bool false, .bool false, .bool false, .int .u64 0, .int .u64 0, .int .u64 0, .int .u64 0, .int .u64 0, .int .u64 0, .int .u64 0, .int .u64 0, .int .u64 0, .int .u64 0, .int .u64 0, .int .u64 0, .int .u64 0, .int .u64 0, .int .u64 0, .bool false, .bool false, .bool false, .bool false, .bool false] ?_ ?_); (as_aux_lemma => kernel_rfl)) | ((with_reducible refine gate_ (.load 35 (.tmp 12)) rfl ?_); refine wpList_load_row rfl 35 (.tmp 12) rfl gb239 rfl 35 _ (0, 0) _ (by (with_reducible repeat (first | refine blk_drewN ?_ _ | refine blk_drew ?_ | refine blk_alloc ?_ _)); exact BK239.out) Try.underlying35 rfl (by kernel_rfl) ?_) | ((with_reducible refine gate_store (t := 9) (p := 61) rfl ?_); refine store_event (t := 9) (p := 61) (v := ?vo_w37) (w1 := (wr.setCell ⟨go27, (x15_1 : Int).toNat * 7, none⟩ (.string (rdOf ByteArray.empty y229 x15_1)))) ?hg ?ho ?hn ?hr ?_; (case ho => rfl); (case hg => rfl); (case hn => rfl); (case hr => first | (go_simp; done) | (go_simp; rfl)); intro w37 hw; have hg : wr.grownBy w37 (some go27) := (by rw [hw]; exact HP36.2); have hp_ : Kd.R k39 39 w37 w.heap.size (fun _ => True) (.slice (some ⟨go27, 0, none⟩) x13_1.length co27) y244 := (by rw [hw, Ny244.out]; exact HP36.1); clear HP36; have n0_ := Aside0.mk (Kd.R_over' (v := (.slice (some ⟨go27, 0, none⟩) x13_1.length co27)) (by (with_reducible repeat (first | apply Kd.R_alloc | apply Kd.R_drewN | apply Kd.R_drew)); exact HO_9.out) (Kd.R_typed HO_13.out) (by decide) hg); have n1_ := Aside0.mk (Kd.R_over' (v := (.slice (some ⟨go27, 0, none⟩) x13_1.length co27)) (by (with_reducible repeat (first | apply Kd.R_alloc | apply Kd.R_drewN | apply Kd.R_drew)); exact HO_10.out) (Kd.R_typed HO_13.out) (by decide) hg); have n2_ := Aside0.mk (hp_); have n3_ := Aside0.mk (Kd.R_over' (v := (.slice (some ⟨go27, 0, none⟩) x13_1.length co27)) (by (with_reducible repeat (first | apply Kd.R_alloc | apply Kd.R_drewN | apply Kd.R_drew)); exact HO_14.out) (Kd.R_typed HO_13.out) (by decide) hg); have n4_ := Aside0.mk (Kd.R_over' (v := (.slice (some ⟨go27, 0, none⟩) x13_1.length co27)) (by (with_reducible repeat (first | apply Kd.R_alloc | apply Kd.R_drewN | apply Kd.R_drew)); exact HO_239002.out) (Kd.R_typed HO_13.out) (by decide) hg); have n5_ := Aside0.mk (blk_grown (g := gb238) (o := .cells #[.int .i64 0, .int .u64 0, .slice Ao18 y235.length co18] 32 (0, 0)) (by (with_reducible repeat (first | refine blk_drewN ?_ _ | refine blk_drew ?_ | refine blk_alloc ?_ _)); exact BK238.out) hg (Kd.R_ne HO_13.out BK238.out (by decide))); have n6_ := Aside0.mk (blk_grown (g := gb239) (o := .cells #[.slice none 0 0, .int .u64 0, .int .u64 0, .int .u64 256, .int .u64 0, .int .u64 0, .int .u64 0, .int .u64 0, .int .u64 0, .int .u64 0, .int .u64 0, .int .u64 0, .int .u64 0, .int .u64 0, .bool false, .bool false, .bool false, .int .u64 0, .int .u64 0, .int .u64 0, .int .u64 0, .int .u64 0, .int .u64 0, .int .u64 0, .int .u64 0, .int .u64 0, .int .u64 0, .int .u64 0, .int .u64 0, .int .u64 0, .int .u64 0, .int .u64 0, .bool false, .bool false, .bool false, .bool false, .bool false] 35 (0, 0)) (by (with_reducible repeat (first | refine blk_drewN ?_ _ | refine blk_drew ?_ | refine blk_alloc ?_ _)); exact BK239.out) hg (Kd.R_ne HO_13.out BK239.out (by decide))); have n7_ := Aside0.mk ((by rw [hw]; exact below_set (HB.out) GB27.out : Below w.heap.size w w37)); clear HO_9; clear HO_10; clear HO_13; clear HO_14; clear HO_239002; clear BK238; clear BK239; clear HB; have HO_9 := n0_; have HO_10 := n1_; have HO_13 := n2_; have HO_14 := n3_; have HO_239002 := n4_; have BK238 := n5_; have BK239 := n6_; have HB := n7_; clear n0_ n1_ n2_ n3_ n4_ n5_ n6_ n7_; clear hg hw hp_))
           go_roundg k1
           case measure => have := HK1.out; omega
           case rel => exact ⟨(y244), (x14_1), (wrap64 (x15_1 + 1)), (by first | rfl | (simp; done) | (simp [*]; done)), H', ⟨by have := HK1.out; omega⟩, ⟨by (with_reducible repeat (first | apply Kd.R_alloc | apply Kd.R_drewN | apply Kd.R_drew)); exact HO_9.out⟩, ⟨by (with_reducible repeat (first | apply Kd.R_alloc | apply Kd.R_drewN | apply Kd.R_drew)); exact HO_10.out⟩, ⟨by (with_reducible repeat (first | apply Kd.R_alloc | apply Kd.R_drewN | apply Kd.R_drew)); exact HO_13.out⟩, ⟨by (with_reducible repeat (first | apply Kd.R_alloc | apply Kd.R_drewN | apply Kd.R_drew)); exact HO_14.out⟩, ⟨by (with_reducible repeat (first | apply Kd.R_alloc | apply Kd.R_drewN | apply Kd.R_drew)); exact HO_239002.out⟩, ⟨by (with_reducible repeat (first | refine blk_drewN ?_ _ | refine blk_drew ?_ | refine blk_alloc ?_ _)); exact BK238.out⟩, ⟨by (with_reducible repeat (first | refine blk_drewN ?_ _ | refine blk_drew ?_ | refine blk_alloc ?_ _)); exact BK239.out⟩, ⟨by repeat (first | (with_reducible first | exact HB.out | apply below_alloc | apply pw_below_drewN | apply below_drew1 | refine below_set ?_ GE238.out | refine below_set ?_ GE239.out) | exact HB.out)⟩⟩
         ·rw [if_neg c26] at H
          exact absurd H (by simp)
        ·rw [if_neg c25] at H
         exact absurd H (by simp)
       ·rw [if_neg c24] at H
        have c24b0 : decide (x15_1 < (y229.length : Int)) = false := decide_eq_false c24
        clear c24
        replace H := Option.bind_eq_some_iff.mp H
        obtain ⟨⟨t249, t250⟩, A380, H⟩ := H
        replace H : ((hash_Look.f k1 t232 0 0 y235 ([] : List Int) 0 0 256 0 0 0 0 0 0 0 0 0 0 false false false 0 0 0 0 0 0 0 0 0 0 0 0 0 0 0 false false false false false x13_1 a2).bind fun bt251 => ((shackleref07_Same.f k1 bt251.1 x14_1).bind fun t255 => (if t225 = true then (if t250.isNone = true then (if bt251.2.isNone = true then (if t249 = (y229.length : Int) then (some t255) else (none)) else (none)) else (none)) else (none)))) = some r := H
        have A38 := Aside0.mk A380
        clear A380
        replace H := Option.bind_eq_some_iff.mp H
        obtain ⟨⟨t251, t254⟩, A390, H⟩ := H
        replace H : ((shackleref07_Same.f k1 t251 x14_1).bind fun t255 => (if t225 = true then (if t250.isNone = true then (if t254.isNone = true then (if t249 = (y229.length : Int) then (some t255) else (none)) else (none)) else (none)) else (none))) = some r := H
        have A39 := Aside0.mk A390
        clear A390
        replace H := Option.bind_eq_some_iff.mp H
        obtain ⟨t255, A400, H⟩ := H
        replace H : (if t225 = true then (if t250.isNone = true then (if t254.isNone = true then (if t249 = (y229.length : Int) then (some t255) else (none)) else (none)) else (none)) else (none)) = some r := H
        have A40 := Aside0.mk A400
        clear A400
        by_cases c41 : t225 = true
        ·subst c41
         have H1 : (if t250.isNone = true then (if t254.isNone = true then (if t249 = (y229.length : Int) then (some t255) else (none)) else (none)) else (none)) = some r := by rw [if_pos rfl] at H; exact H
         clear H
         have H := H1
         clear H1
         rcases t250 with _ | q256
         ·have H1 : (if t254.isNone = true then (if t249 = (y229.length : Int) then (some t255) else (none)) else (none)) = some r := by rw [if_pos (show (none : Option Int).isNone = true by rfl)] at H; exact H
          clear H
          have H := H1
          clear H1
          try simp only [errW_none, errW_some]
          rcases t254 with _ | q257
          ·have H1 : (if t249 = (y229.length : Int) then (some t255) else (none)) = some r := by rw [if_pos (show (none : Option Int).isNone = true by rfl)] at H; exact H
           clear H
           have H := H1
           clear H1
           try simp only [errW_none, errW_some]
           by_cases c42 : t249 = (y229.length : Int)
           ·rw [if_pos c42] at H
            have c42b0 : (t249 == (y229.length : Int)) = true := beq_iff_eq.mpr c42
            have c42b1 : (t249 != (y229.length : Int)) = false := bne_eq_false_iff_eq.mpr c42
            clear c42
            obtain rfl := Option.some.inj H
            have hnb43 := NB238_239.out
            have hnc43 := NB239_238.out
            have hcz44_0 : wr.cell? ⟨gb238, 0, none⟩ = some (.int .i64 0) := (blk_cell BK238.out 0).trans rfl
            have hcz44_1 : wr.cell? ⟨gb238, 1, none⟩ = some (.int .u64 0) := (blk_cell BK238.out 1).trans rfl
            have hcz44_2 : wr.cell? ⟨gb238, 2, none⟩ = some (.slice Ao18 y235.length co18) := (blk_cell BK238.out 2).trans rfl
            have hfz44_0 := blk_frozen BK238.out 0
            have hfz44_1 := blk_frozen BK238.out 1
            have hfz44_2 := blk_frozen BK238.out 2
            have hcz45_0 : wr.cell? ⟨gb239, 0, none⟩ = some (.slice none 0 0) := (blk_cell BK239.out 0).trans rfl
            have hcz45_1 : wr.cell? ⟨gb239, 1, none⟩ = some (.int .u64 0) := (blk_cell BK239.out 1).trans rfl
            have hcz45_2 : wr.cell? ⟨gb239, 2, none⟩ = some (.int .u64 0) := (blk_cell BK239.out 2).trans rfl
            have hcz45_3 : wr.cell? ⟨gb239, 3, none⟩ = some (.int .u64 256) := (blk_cell BK239.out 3).trans rfl
            have hcz45_4 : wr.cell? ⟨gb239, 4, none⟩ = some (.int .u64 0) := (blk_cell BK239.out 4).trans rfl
            have hcz45_5 : wr.cell? ⟨gb239, 5, none⟩ = some (.int .u64 0) := (blk_cell BK239.out 5).trans rfl
            have hcz45_6 : wr.cell? ⟨gb239, 6, none⟩ = some (.int .u64 0) := (blk_cell BK239.out 6).trans rfl
            have hcz45_7 : wr.cell? ⟨gb239, 7, none⟩ = some (.int .u64 0) := (blk_cell BK239.out 7).trans rfl
            have hcz45_8 : wr.cell? ⟨gb239, 8, none⟩ = some (.int .u64 0) := (blk_cell BK239.out 8).trans rfl
            have hcz45_9 : wr.cell? ⟨gb239, 9, none⟩ = some (.int .u64 0) := (blk_cell BK239.out 9).trans rfl
            have hcz45_10 : wr.cell? ⟨gb239, 10, none⟩ = some (.int .u64 0) := (blk_cell BK239.out 10).trans rfl
            have hcz45_11 : wr.cell? ⟨gb239, 11, none⟩ = some (.int .u64 0) := (blk_cell BK239.out 11).trans rfl
            have hcz45_12 : wr.cell? ⟨gb239, 12, none⟩ = some (.int .u64 0) := (blk_cell BK239.out 12).trans rfl
            have hcz45_13 : wr.cell? ⟨gb239, 13, none⟩ = some (.int .u64 0) := (blk_cell BK239.out 13).trans rfl
            have hcz45_14 : wr.cell? ⟨gb239, 14, none⟩ = some (.bool false) := (blk_cell BK239.out 14).trans rfl
            have hcz45_15 : wr.cell? ⟨gb239, 15, none⟩ = some (.bool false) := (blk_cell BK239.out 15).trans rfl
            have hcz45_16 : wr.cell? ⟨gb239, 16, none⟩ = some (.bool false) := (blk_cell BK239.out 16).trans rfl
            have hcz45_17 : wr.cell? ⟨gb239, 17, none⟩ = some (.int .u64 0) := (blk_cell BK239.out 17).trans rfl
            have hcz45_18 : wr.cell? ⟨gb239, 18, none⟩ = some (.int .u64 0) := (blk_cell BK239.out 18).trans rfl
            have hcz45_19 : wr.cell? ⟨gb239, 19, none⟩ = some (.int .u64 0) := (blk_cell BK239.out 19).trans rfl
            have hcz45_20 : wr.cell? ⟨gb239, 20, none⟩ = some (.int .u64 0) := (blk_cell BK239.out 20).trans rfl
            have hcz45_21 : wr.cell? ⟨gb239, 21, none⟩ = some (.int .u64 0) := (blk_cell BK239.out 21).trans rfl
            have hcz45_22 : wr.cell? ⟨gb239, 22, none⟩ = some (.int .u64 0) := (blk_cell BK239.out 22).trans rfl
            have hcz45_23 : wr.cell? ⟨gb239, 23, none⟩ = some (.int .u64 0) := (blk_cell BK239.out 23).trans rfl
            have hcz45_24 : wr.cell? ⟨gb239, 24, none⟩ = some (.int .u64 0) := (blk_cell BK239.out 24).trans rfl
            have hcz45_25 : wr.cell? ⟨gb239, 25, none⟩ = some (.int .u64 0) := (blk_cell BK239.out 25).trans rfl
            have hcz45_26 : wr.cell? ⟨gb239, 26, none⟩ = some (.int .u64 0) := (blk_cell BK239.out 26).trans rfl
            have hcz45_27 : wr.cell? ⟨gb239, 27, none⟩ = some (.int .u64 0) := (blk_cell BK239.out 27).trans rfl
            have hcz45_28 : wr.cell? ⟨gb239, 28, none⟩ = some (.int .u64 0) := (blk_cell BK239.out 28).trans rfl
            have hcz45_29 : wr.cell? ⟨gb239, 29, none⟩ = some (.int .u64 0) := (blk_cell BK239.out 29).trans rfl
            have hcz45_30 : wr.cell? ⟨gb239, 30, none⟩ = some (.int .u64 0) := (blk_cell BK239.out 30).trans rfl
            have hcz45_31 : wr.cell? ⟨gb239, 31, none⟩ = some (.int .u64 0) := (blk_cell BK239.out 31).trans rfl
            have hcz45_32 : wr.cell? ⟨gb239, 32, none⟩ = some (.bool false) := (blk_cell BK239.out 32).trans rfl
            have hcz45_33 : wr.cell? ⟨gb239, 33, none⟩ = some (.bool false) := (blk_cell BK239.out 33).trans rfl
            have hcz45_34 : wr.cell? ⟨gb239, 34, none⟩ = some (.bool false) := (blk_cell BK239.out 34).trans rfl
            have hcz45_35 : wr.cell? ⟨gb239, 35, none⟩ = some (.bool false) := (blk_cell BK239.out 35).trans rfl
            have hcz45_36 : wr.cell? ⟨gb239, 36, none⟩ = some (.bool false) := (blk_cell BK239.out 36).trans rfl
            have hfz45_0 := blk_frozen BK239.out 0
            have hfz45_1 := blk_frozen BK239.out 1
            have hfz45_2 := blk_frozen BK239.out 2
            have hfz45_3 := blk_frozen BK239.out 3
            have hfz45_4 := blk_frozen BK239.out 4
            have hfz45_5 := blk_frozen BK239.out 5
            have hfz45_6 := blk_frozen BK239.out 6
            have hfz45_7 := blk_frozen BK239.out 7
            have hfz45_8 := blk_frozen BK239.out 8
            have hfz45_9 := blk_frozen BK239.out 9
            have hfz45_10 := blk_frozen BK239.out 10
            have hfz45_11 := blk_frozen BK239.out 11
            have hfz45_12 := blk_frozen BK239.out 12
            have hfz45_13 := blk_frozen BK239.out 13
            have hfz45_14 := blk_frozen BK239.out 14
            have hfz45_15 := blk_frozen BK239.out 15
            have hfz45_16 := blk_frozen BK239.out 16
            have hfz45_17 := blk_frozen BK239.out 17
            have hfz45_18 := blk_frozen BK239.out 18
            have hfz45_19 := blk_frozen BK239.out 19
            have hfz45_20 := blk_frozen BK239.out 20
            have hfz45_21 := blk_frozen BK239.out 21
            have hfz45_22 := blk_frozen BK239.out 22
            have hfz45_23 := blk_frozen BK239.out 23
            have hfz45_24 := blk_frozen BK239.out 24
            have hfz45_25 := blk_frozen BK239.out 25
            have hfz45_26 := blk_frozen BK239.out 26
            have hfz45_27 := blk_frozen BK239.out 27
            have hfz45_28 := blk_frozen BK239.out 28
            have hfz45_29 := blk_frozen BK239.out 29
            have hfz45_30 := blk_frozen BK239.out 30
            have hfz45_31 := blk_frozen BK239.out 31
            have hfz45_32 := blk_frozen BK239.out 32
            have hfz45_33 := blk_frozen BK239.out 33
            have hfz45_34 := blk_frozen BK239.out 34
            have hfz45_35 := blk_frozen BK239.out 35
            have hfz45_36 := blk_frozen BK239.out 36
            go_wp2_with (first | ((with_reducible refine wpList_buildAt (t := 35) #[(3, .const (.int .u64 256))] #[.slice none 0 0, .int .u64 0, .int .u64 0, .int .u64 256, .int .u64 0, .int .u64 0, .int .u64 0, .int .u64 0, .int .u64 0, .int .u64 0, .int .u64 0, .int .u64 0, .int .u64 0, .int .u64 0, .bool false, .bool false, .bool false, .int .u64 0, .int .u64 0, .int .u64 0, .int .u64 0, .int .u64 0, .int .u64 0, .int .u64 0, .int .u64 0, .int .u64 0, .int .u64 0, .int .u64 0, .int .u64 0, .int .u64 0, .int .u64 0, .int .u64 0, .bool false, .bool false, .bool false, .bool false, .bool false] ?_ ?_); (as_aux_lemma => kernel_rfl)) | ((with_reducible refine gate_ (.load 35 (.tmp 12)) rfl ?_); refine wpList_load_row rfl 35 (.tmp 12) rfl gb239 rfl 35 _ (0, 0) _ (by (with_reducible repeat (first | refine blk_drewN ?_ _ | refine blk_drew ?_ | refine blk_alloc ?_ _)); exact BK239.out) Try.underlying35 rfl (by kernel_rfl) ?_) | ((with_reducible refine gate_callee (f := 12) rfl ?_); refine goesL_ (some 80) rfl rfl Try.func12 (by kernel_rfl) rfl #[.slice Ao15 t232.length co15, .agg #[.int .i64 0, .int .u64 0, .slice Ao18 y235.length co18], .agg #[.slice none 0 0, .int .u64 0, .int .u64 0, .int .u64 256, .int .u64 0, .int .u64 0, .int .u64 0, .int .u64 0, .int .u64 0, .int .u64 0, .int .u64 0, .int .u64 0, .int .u64 0, .int .u64 0, .bool false, .bool false, .bool false, .int .u64 0, .int .u64 0, .int .u64 0, .int .u64 0, .int .u64 0, .int .u64 0, .int .u64 0, .int .u64 0, .int .u64 0, .int .u64 0, .int .u64 0, .int .u64 0, .int .u64 0, .int .u64 0, .int .u64 0, .bool false, .bool false, .bool false, .bool false, .bool false]] rfl (by (try simp only [List.map_toArray, List.map_cons, List.map_nil]); first | done | rfl | (simp only [List.length_drop, List.length_take]; rfl)) ?_; (refine (hash_Count.calls k1 _ _ t232 0 0 _ _ y235 _ _ ([] : List Int) 0 0 256 0 0 0 0 0 0 0 0 0 0 false false false 0 0 0 0 0 0 0 0 0 0 0 0 0 0 0 false false false false false t249 none _ ?side1 ?side2 ?side3 ?side4 ?side5 ?side6 A38.out).mono ?_); (case side1 => repeat (first | exact (Kd.R_reads' HO_10.out).2.2 | (with_reducible refine Kd.C_alloc ?_ _) | (with_reducible refine Kd.C_drewN ?_ _) | (with_reducible refine Kd.C_drew ?_))); (case side2 => exact (Kd.R_reads' HO_10.out).2.1); (case side3 => repeat (first | exact (Kd.R_reads' HO_239002.out).2.2 | (with_reducible refine Kd.C_alloc ?_ _) | (with_reducible refine Kd.C_drewN ?_ _) | (with_reducible refine Kd.C_drew ?_))); (case side4 => exact (Kd.R_reads' HO_239002.out).2.1); (case side5 => exact Kd.C_nil _ _); (case side6 => exact Nat.le_refl _); rintro e w46 ⟨rfl, hb⟩; refine ⟨_, rfl, ?_⟩; have n0_ := Aside0.mk (Kd.R_below (by (with_reducible repeat (first | apply Kd.R_alloc | apply Kd.R_drewN | apply Kd.R_drew)); exact HO_9.out) hb); have n1_ := Aside0.mk (Kd.R_below (by (with_reducible repeat (first | apply Kd.R_alloc | apply Kd.R_drewN | apply Kd.R_drew)); exact HO_10.out) hb); have n2_ := Aside0.mk (Kd.R_below (by (with_reducible repeat (first | apply Kd.R_alloc | apply Kd.R_drewN | apply Kd.R_drew)); exact HO_13.out) hb); have n3_ := Aside0.mk (Kd.R_below (by (with_reducible repeat (first | apply Kd.R_alloc | apply Kd.R_drewN | apply Kd.R_drew)); exact HO_14.out) hb); have n4_ := Aside0.mk (Kd.R_below (by (with_reducible repeat (first | apply Kd.R_alloc | apply Kd.R_drewN | apply Kd.R_drew)); exact HO_239002.out) hb); have n5_ := Aside0.mk (blk_below (g := gb238) (o := .cells #[.int .i64 0, .int .u64 0, .slice Ao18 y235.length co18] 32 (0, 0)) (by (with_reducible repeat (first | refine blk_drewN ?_ _ | refine blk_drew ?_ | refine blk_alloc ?_ _)); exact BK238.out) hb); have n6_ := Aside0.mk (blk_below (g := gb239) (o := .cells #[.slice none 0 0, .int .u64 0, .int .u64 0, .int .u64 256, .int .u64 0, .int .u64 0, .int .u64 0, .int .u64 0, .int .u64 0, .int .u64 0, .int .u64 0, .int .u64 0, .int .u64 0, .int .u64 0, .bool false, .bool false, .bool false, .int .u64 0, .int .u64 0, .int .u64 0, .int .u64 0, .int .u64 0, .int .u64 0, .int .u64 0, .int .u64 0, .int .u64 0, .int .u64 0, .int .u64 0, .int .u64 0, .int .u64 0, .int .u64 0, .int .u64 0, .bool false, .bool false, .bool false, .bool false, .bool false] 35 (0, 0)) (by (with_reducible repeat (first | refine blk_drewN ?_ _ | refine blk_drew ?_ | refine blk_alloc ?_ _)); exact BK239.out) hb); have n7_ := Aside0.mk (below_step (by repeat (first | (with_reducible first | exact HB.out | apply below_alloc | apply pw_below_drewN | apply below_drew1 | refine below_set ?_ GE238.out | refine below_set ?_ GE239.out) | exact HB.out)) hb); clear HO_9; clear HO_10; clear HO_13; clear HO_14; clear HO_239002; clear BK238; clear BK239; clear HB; have HO_9 := n0_; have HO_10 := n1_; have HO_13 := n2_; have HO_14 := n3_; have HO_239002 := n4_; have BK238 := n5_; have BK239 := n6_; have HB := n7_; clear n0_ n1_ n2_ n3_ n4_ n5_ n6_ n7_; (try clear hb); (try clear hb2); (try clear hk); (try clear hi); (try simp only [errW_none, errW_some]); have hcz47_0 : w46.cell? ⟨gb238, 0, none⟩ = some (.int .i64 0) := (blk_cell BK238.out 0).trans rfl; have hcz47_1 : w46.cell? ⟨gb238, 1, none⟩ = some (.int .u64 0) := (blk_cell BK238.out 1).trans rfl; have hcz47_2 : w46.cell? ⟨gb238, 2, none⟩ = some (.slice Ao18 y235.length co18) := (blk_cell BK238.out 2).trans rfl; have hfz47_0 := blk_frozen BK238.out 0; have hfz47_1 := blk_frozen BK238.out 1; have hfz47_2 := blk_frozen BK238.out 2; have hcz48_0 : w46.cell? ⟨gb239, 0, none⟩ = some (.slice none 0 0) := (blk_cell BK239.out 0).trans rfl; have hcz48_1 : w46.cell? ⟨gb239, 1, none⟩ = some (.int .u64 0) := (blk_cell BK239.out 1).trans rfl; have hcz48_2 : w46.cell? ⟨gb239, 2, none⟩ = some (.int .u64 0) := (blk_cell BK239.out 2).trans rfl; have hcz48_3 : w46.cell? ⟨gb239, 3, none⟩ = some (.int .u64 256) := (blk_cell BK239.out 3).trans rfl; have hcz48_4 : w46.cell? ⟨gb239, 4, none⟩ = some (.int .u64 0) := (blk_cell BK239.out 4).trans rfl; have hcz48_5 : w46.cell? ⟨gb239, 5, none⟩ = some (.int .u64 0) := (blk_cell BK239.out 5).trans rfl; have hcz48_6 : w46.cell? ⟨gb239, 6, none⟩ = some (.int .u64 0) := (blk_cell BK239.out 6).trans rfl; have hcz48_7 : w46.cell? ⟨gb239, 7, none⟩ = some (.int .u64 0) := (blk_cell BK239.out 7).trans rfl; have hcz48_8 : w46.cell? ⟨gb239, 8, none⟩ = some (.int .u64 0) := (blk_cell BK239.out 8).trans rfl; have hcz48_9 : w46.cell? ⟨gb239, 9, none⟩ = some (.int .u64 0) := (blk_cell BK239.out 9).trans rfl; have hcz48_10 : w46.cell? ⟨gb239, 10, none⟩ = some (.int .u64 0) := (blk_cell BK239.out 10).trans rfl; have hcz48_11 : w46.cell? ⟨gb239, 11, none⟩ = some (.int .u64 0) := (blk_cell BK239.out 11).trans rfl; have hcz48_12 : w46.cell? ⟨gb239, 12, none⟩ = some (.int .u64 0) := (blk_cell BK239.out 12).trans rfl; have hcz48_13 : w46.cell? ⟨gb239, 13, none⟩ = some (.int .u64 0) := (blk_cell BK239.out 13).trans rfl; have hcz48_14 : w46.cell? ⟨gb239, 14, none⟩ = some (.bool false) := (blk_cell BK239.out 14).trans rfl; have hcz48_15 : w46.cell? ⟨gb239, 15, none⟩ = some (.bool false) := (blk_cell BK239.out 15).trans rfl; have hcz48_16 : w46.cell? ⟨gb239, 16, none⟩ = some (.bool false) := (blk_cell BK239.out 16).trans rfl; have hcz48_17 : w46.cell? ⟨gb239, 17, none⟩ = some (.int .u64 0) := (blk_cell BK239.out 17).trans rfl; have hcz48_18 : w46.cell? ⟨gb239, 18, none⟩ = some (.int .u64 0) := (blk_cell BK239.out 18).trans rfl; have hcz48_19 : w46.cell? ⟨gb239, 19, none⟩ = some (.int .u64 0) := (blk_cell BK239.out 19).trans rfl; have hcz48_20 : w46.cell? ⟨gb239, 20, none⟩ = some (.int .u64 0) := (blk_cell BK239.out 20).trans rfl; have hcz48_21 : w46.cell? ⟨gb239, 21, none⟩ = some (.int .u64 0) := (blk_cell BK239.out 21).trans rfl; have hcz48_22 : w46.cell? ⟨gb239, 22, none⟩ = some (.int .u64 0) := (blk_cell BK239.out 22).trans rfl; have hcz48_23 : w46.cell? ⟨gb239, 23, none⟩ = some (.int .u64 0) := (blk_cell BK239.out 23).trans rfl; have hcz48_24 : w46.cell? ⟨gb239, 24, none⟩ = some (.int .u64 0) := (blk_cell BK239.out 24).trans rfl; have hcz48_25 : w46.cell? ⟨gb239, 25, none⟩ = some (.int .u64 0) := (blk_cell BK239.out 25).trans rfl; have hcz48_26 : w46.cell? ⟨gb239, 26, none⟩ = some (.int .u64 0) := (blk_cell BK239.out 26).trans rfl; have hcz48_27 : w46.cell? ⟨gb239, 27, none⟩ = some (.int .u64 0) := (blk_cell BK239.out 27).trans rfl; have hcz48_28 : w46.cell? ⟨gb239, 28, none⟩ = some (.int .u64 0) := (blk_cell BK239.out 28).trans rfl; have hcz48_29 : w46.cell? ⟨gb239, 29, none⟩ = some (.int .u64 0) := (blk_cell BK239.out 29).trans rfl; have hcz48_30 : w46.cell? ⟨gb239, 30, none⟩ = some (.int .u64 0) := (blk_cell BK239.out 30).trans rfl; have hcz48_31 : w46.cell? ⟨gb239, 31, none⟩ = some (.int .u64 0) := (blk_cell BK239.out 31).trans rfl; have hcz48_32 : w46.cell? ⟨gb239, 32, none⟩ = some (.bool false) := (blk_cell BK239.out 32).trans rfl; have hcz48_33 : w46.cell? ⟨gb239, 33, none⟩ = some (.bool false) := (blk_cell BK239.out 33).trans rfl; have hcz48_34 : w46.cell? ⟨gb239, 34, none⟩ = some (.bool false) := (blk_cell BK239.out 34).trans rfl; have hcz48_35 : w46.cell? ⟨gb239, 35, none⟩ = some (.bool false) := (blk_cell BK239.out 35).trans rfl; have hcz48_36 : w46.cell? ⟨gb239, 36, none⟩ = some (.bool false) := (blk_cell BK239.out 36).trans rfl; have hfz48_0 := blk_frozen BK239.out 0; have hfz48_1 := blk_frozen BK239.out 1; have hfz48_2 := blk_frozen BK239.out 2; have hfz48_3 := blk_frozen BK239.out 3; have hfz48_4 := blk_frozen BK239.out 4; have hfz48_5 := blk_frozen BK239.out 5; have hfz48_6 := blk_frozen BK239.out 6; have hfz48_7 := blk_frozen BK239.out 7; have hfz48_8 := blk_frozen BK239.out 8; have hfz48_9 := blk_frozen BK239.out 9; have hfz48_10 := blk_frozen BK239.out 10; have hfz48_11 := blk_frozen BK239.out 11; have hfz48_12 := blk_frozen BK239.out 12; have hfz48_13 := blk_frozen BK239.out 13; have hfz48_14 := blk_frozen BK239.out 14; have hfz48_15 := blk_frozen BK239.out 15; have hfz48_16 := blk_frozen BK239.out 16; have hfz48_17 := blk_frozen BK239.out 17; have hfz48_18 := blk_frozen BK239.out 18; have hfz48_19 := blk_frozen BK239.out 19; have hfz48_20 := blk_frozen BK239.out 20; have hfz48_21 := blk_frozen BK239.out 21; have hfz48_22 := blk_frozen BK239.out 22; have hfz48_23 := blk_frozen BK239.out 23; have hfz48_24 := blk_frozen BK239.out 24; have hfz48_25 := blk_frozen BK239.out 25; have hfz48_26 := blk_frozen BK239.out 26; have hfz48_27 := blk_frozen BK239.out 27; have hfz48_28 := blk_frozen BK239.out 28; have hfz48_29 := blk_frozen BK239.out 29; have hfz48_30 := blk_frozen BK239.out 30; have hfz48_31 := blk_frozen BK239.out 31; have hfz48_32 := blk_frozen BK239.out 32; have hfz48_33 := blk_frozen BK239.out 33; have hfz48_34 := blk_frozen BK239.out 34; have hfz48_35 := blk_frozen BK239.out 35; have hfz48_36 := blk_frozen BK239.out 36; obtain ⟨Ao49, co49, eo49⟩ := Kd.R_slice HO_13.out; subst eo49) | ((with_reducible refine gate_callee (f := 13) rfl ?_); refine goesL_ (some 89) rfl rfl Try.func13 (by kernel_rfl) rfl #[.slice Ao15 t232.length co15, .agg #[.int .i64 0, .int .u64 0, .slice Ao18 y235.length co18], .agg #[.slice none 0 0, .int .u64 0, .int .u64 0, .int .u64 256, .int .u64 0, .int .u64 0, .int .u64 0, .int .u64 0, .int .u64 0, .int .u64 0, .int .u64 0, .int .u64 0, .int .u64 0, .int .u64 0, .bool false, .bool false, .bool false, .int .u64 0, .int .u64 0, .int .u64 0, .int .u64 0, .int .u64 0, .int .u64 0, .int .u64 0, .int .u64 0, .int .u64 0, .int .u64 0, .int .u64 0, .int .u64 0, .int .u64 0, .int .u64 0, .int .u64 0, .bool false, .bool false, .bool false, .bool false, .bool false], .slice Ao49 x13_1.length co49, .string a2] rfl (by (try simp only [List.map_toArray, List.map_cons, List.map_nil]); first | done | rfl | (simp only [List.length_drop, List.length_take]; rfl)) ?_; (refine (hash_Look.calls k1 _ _ t232 0 0 _ _ y235 _ _ ([] : List Int) 0 0 256 0 0 0 0 0 0 0 0 0 0 false false false 0 0 0 0 0 0 0 0 0 0 0 0 0 0 0 false false false false false _ _ x13_1 a2 t251 none _ ?side1 ?side2 ?side3 ?side4 ?side5 ?side6 ?side7 ?side8 A39.out).mono ?_); (case side1 => repeat (first | exact (Kd.R_reads' HO_10.out).2.2 | (with_reducible refine Kd.C_alloc ?_ _) | (with_reducible refine Kd.C_drewN ?_ _) | (with_reducible refine Kd.C_drew ?_))); (case side2 => exact (Kd.R_reads' HO_10.out).2.1); (case side3 => repeat (first | exact (Kd.R_reads' HO_239002.out).2.2 | (with_reducible refine Kd.C_alloc ?_ _) | (with_reducible refine Kd.C_drewN ?_ _) | (with_reducible refine Kd.C_drew ?_))); (case side4 => exact (Kd.R_reads' HO_239002.out).2.1); (case side5 => exact Kd.C_nil _ _); (case side6 => exact Nat.le_refl _); (case side7 => repeat (first | exact (Kd.R_reads' HO_13.out).2.2 | (with_reducible refine Kd.C_alloc ?_ _) | (with_reducible refine Kd.C_drewN ?_ _) | (with_reducible refine Kd.C_drew ?_))); (case side8 => exact (Kd.R_reads' HO_13.out).2.1); rintro e w50 ⟨v252, rfl, ho0, hb⟩; refine ⟨_, rfl, ?_⟩; have n0_ := Aside0.mk (Kd.R_below (by (with_reducible repeat (first | apply Kd.R_alloc | apply Kd.R_drewN | apply Kd.R_drew)); exact HO_9.out) hb); have n1_ := Aside0.mk (Kd.R_below (by (with_reducible repeat (first | apply Kd.R_alloc | apply Kd.R_drewN | apply Kd.R_drew)); exact HO_10.out) hb); have n2_ := Aside0.mk (Kd.R_below (by (with_reducible repeat (first | apply Kd.R_alloc | apply Kd.R_drewN | apply Kd.R_drew)); exact HO_13.out) hb); have n3_ := Aside0.mk (Kd.R_elder' (by (with_reducible repeat (first | apply Kd.R_alloc | apply Kd.R_drewN | apply Kd.R_drew)); exact HO_14.out) (Kd.R_base ho0) hb); have n4_ := Aside0.mk (Kd.R_below (by (with_reducible repeat (first | apply Kd.R_alloc | apply Kd.R_drewN | apply Kd.R_drew)); exact HO_239002.out) hb); have n5_ := Aside0.mk (Kd.R_lower (Kd.R_new' ho0 (Kd.R_lt (by (with_reducible repeat (first | apply Kd.R_alloc | apply Kd.R_drewN | apply Kd.R_drew)); exact HO_14.out))) (below_size (by repeat (first | (with_reducible first | exact HB.out | apply below_alloc | apply pw_below_drewN | apply below_drew1 | refine below_set ?_ GE238.out | refine below_set ?_ GE239.out) | exact HB.out)))); have n6_ := Aside0.mk (blk_below (g := gb238) (o := .cells #[.int .i64 0, .int .u64 0, .slice Ao18 y235.length co18] 32 (0, 0)) (by (with_reducible repeat (first | refine blk_drewN ?_ _ | refine blk_drew ?_ | refine blk_alloc ?_ _)); exact BK238.out) hb); have n7_ := Aside0.mk (blk_below (g := gb239) (o := .cells #[.slice none 0 0, .int .u64 0, .int .u64 0, .int .u64 256, .int .u64 0, .int .u64 0, .int .u64 0, .int .u64 0, .int .u64 0, .int .u64 0, .int .u64 0, .int .u64 0, .int .u64 0, .int .u64 0, .bool false, .bool false, .bool false, .int .u64 0, .int .u64 0, .int .u64 0, .int .u64 0, .int .u64 0, .int .u64 0, .int .u64 0, .int .u64 0, .int .u64 0, .int .u64 0, .int .u64 0, .int .u64 0, .int .u64 0, .int .u64 0, .int .u64 0, .bool false, .bool false, .bool false, .bool false, .bool false] 35 (0, 0)) (by (with_reducible repeat (first | refine blk_drewN ?_ _ | refine blk_drew ?_ | refine blk_alloc ?_ _)); exact BK239.out) hb); have n8_ := Aside0.mk (below_step (by repeat (first | (with_reducible first | exact HB.out | apply below_alloc | apply pw_below_drewN | apply below_drew1 | refine below_set ?_ GE238.out | refine below_set ?_ GE239.out) | exact HB.out)) hb); clear HO_9; clear HO_10; clear HO_13; clear HO_14; clear HO_239002; clear BK238; clear BK239; clear HB; have HO_9 := n0_; have HO_10 := n1_; have HO_13 := n2_; have HO_14 := n3_; have HO_239002 := n4_; have HO253 := n5_; have BK238 := n6_; have BK239 := n7_; have HB := n8_; clear n0_ n1_ n2_ n3_ n4_ n5_ n6_ n7_ n8_; (try clear hb); (try clear hb2); (try clear hk); (try clear hi); (try clear ho0); (try simp only [errW_none, errW_some]); obtain ⟨Ao51, co51, eo51⟩ := Kd.R_slice HO253.out; subst eo51; obtain ⟨Ao52, co52, eo52⟩ := Kd.R_slice HO_14.out; subst eo52) | ((with_reducible refine gate_callee (f := 14) rfl ?_); refine goesL_ (some 94) rfl rfl Try.func14 (by kernel_rfl) rfl #[.slice Ao51 t251.length co51, .slice Ao52 x14_1.length co52] rfl (by (try simp only [List.map_toArray, List.map_cons, List.map_nil]); first | done | rfl | (simp only [List.length_drop, List.length_take]; rfl)) ?_; (with_reducible refine (shackleref07_Same.calls k1 _ _ t251 _ _ x14_1 t255 _ ?side1 ?side2 ?side3 ?side4 A40.out).mono ?_); (case side1 => repeat (first | exact (Kd.R_reads' HO253.out).2.2 | (with_reducible refine Kd.C_alloc ?_ _) | (with_reducible refine Kd.C_drewN ?_ _) | (with_reducible refine Kd.C_drew ?_))); (case side2 => exact (Kd.R_reads' HO253.out).2.1); (case side3 => repeat (first | exact (Kd.R_reads' HO_14.out).2.2 | (with_reducible refine Kd.C_alloc ?_ _) | (with_reducible refine Kd.C_drewN ?_ _) | (with_reducible refine Kd.C_drew ?_))); (case side4 => exact (Kd.R_reads' HO_14.out).2.1); rintro e w' ⟨rfl, ⟨nd, rfl⟩⟩; refine ⟨_, rfl, ?_⟩))
            go_ret
            exact ⟨by first | rfl | (simp [errW_none, errW_some] <;> rfl) | (simp [*, errW_none, errW_some] <;> rfl), by repeat (first | (with_reducible first | exact HB.out | apply below_alloc | apply pw_below_drewN | apply below_drew1 | refine below_set ?_ GE238.out | refine below_set ?_ GE239.out) | exact HB.out)⟩
           ·rw [if_neg c42] at H
            exact absurd H (by simp)
          ·have H1 : (none) = some r := by rw [if_neg (show ¬ (some q257).isNone = true by simp)] at H; exact H
           clear H
           have H := H1
           clear H1
           try simp only [errW_none, errW_some]
           exact absurd H (by simp)
         ·have H1 : (none) = some r := by rw [if_neg (show ¬ (some q256).isNone = true by simp)] at H; exact H
          clear H
          have H := H1
          clear H1
          try simp only [errW_none, errW_some]
          exact absurd H (by simp)
        ·replace c41 := Bool.eq_false_iff.mpr c41
         subst c41
         have H1 : (none) = some r := by rw [if_neg (show ¬ (false = true) by decide)] at H; exact H
         clear H
         have H := H1
         clear H1
         exact absurd H (by simp)
    ·rw [if_neg c9] at H
     exact absurd H (by simp)
   ·rw [if_neg c8] at H
    exact absurd H (by simp)
  ·rw [if_neg c6] at H
   exact absurd H (by simp)

end Go.Proofs.Ythopdoamajjojaa.QHashF
