-- Laid by wip/hook.py (this session's own program) out of the translation; with contracts that were written by hand.
import Derived.Test.YtlohkhadbkahdaaQSymsx0
import Derived.Test.YtlohkhadbkahdaaQSymsx5
import Derived.Test.YtlohkhadbkahdaaQSymsx7
namespace Go.Proofs.Ytlohkhadbkahdaa.QSyms
open Go.RowKit Go.Proofs.YtlohkhadbkahdaaW.PrintWords Go.Proofs.YtlohkhadbkahdaaW.PrintLast Go.Proofs.YtlohkhadbkahdaaW.PrintMore
attribute [local go_sem] max2_int min2_int max_two min_two max_three min_three max_four min_four   -- for this text's walks alone
set_option linter.unusedVariables false
set_option linter.unusedSimpArgs false

attribute [local go_sem] eqErr_ii neErr_ii eqErr_ni neErr_ni
/-! ### shackleref06_Read: function 37 -/
mutual
def shackleref06_Read.l0 : Nat → Int → List Int → List Int → List (S68) → Int → Option ((List (S68)) × Int)
 | 0, _, _, _, _, _ => none
 | k + 1, x3, x10, x12, x14, x15 => if x15 < x3 then (if 0 ≤ (wrap64 (24 * x15)) then (if (wrap64 (24 * x15)) ≤ (wrap64 ((wrap64 (24 * x15)) + 24)) then (if (wrap64 ((wrap64 (24 * x15)) + 24)) ≤ (x12.length : Int) then (shackleref06_Read.l1 k x3 x10 x12 x14 x15 ((x12.take ((wrap64 ((wrap64 (24 * x15)) + 24)) : Int).toNat).drop ((wrap64 (24 * x15)) : Int).toNat) true 0) else (none)) else (none)) else (none)) else (some (x14, 0))
def shackleref06_Read.l1 : Nat → Int → List Int → List Int → List (S68) → Int → List Int → Bool → Int → Option ((List (S68)) × Int)
 | 0, _, _, _, _, _, _, _, _ => none
 | k + 1, x3, x10, x12, x14, x15, x16, x17, x18 => if x18 < 24 then (if x17 = true then (if 0 ≤ x18 then (if x18 < (x16.length : Int) then (shackleref06_Read.l1 k x3 x10 x12 x14 x15 x16 ((rd x16 x18) == 0) (wrap64 (x18 + 1))) else (none)) else (none)) else (shackleref06_Read.l1 k x3 x10 x12 x14 x15 x16 false (wrap64 (x18 + 1)))) else (if x15 = 0 then (shackleref06_Read.j2 k x3 x10 x12 x14 x15 x16 (!x17)) else (shackleref06_Read.j2 k x3 x10 x12 x14 x15 x16 false))
def shackleref06_Read.j2 : Nat → Int → List Int → List Int → List (S68) → Int → List Int → Bool → Option ((List (S68)) × Int)
 | 0, _, _, _, _, _, _, _ => none
 | k + 1, x3, x10, x12, x14, x15, x16, x82 => if x82 = true then (some (([] : List (S68)), 3)) else (if 4 ≤ (x16.length : Int) then ((shackleref05_Number.f k (x16.take 4)).bind fun t240 => ((shackleref06_Text.f k x10 t240).bind fun bt241 => (if bt241.2 = 0 then (if 4 < (x16.length : Int) then (if (wrap64 (Int.tdiv (wrap64 (rd x16 4)) 16)) > 2 then (shackleref06_Read.j3 k x3 x10 x12 x14 x15 x16 bt241.1 (wrap64 (Int.tdiv (wrap64 (rd x16 4)) 16)) (Int.tmod (wrap64 (rd x16 4)) 16) true) else (if (Int.tmod (wrap64 (rd x16 4)) 16) = 0 then (shackleref06_Read.j3 k x3 x10 x12 x14 x15 x16 bt241.1 (wrap64 (Int.tdiv (wrap64 (rd x16 4)) 16)) (Int.tmod (wrap64 (rd x16 4)) 16) false) else (if (Int.tmod (wrap64 (rd x16 4)) 16) = 1 then (shackleref06_Read.j3 k x3 x10 x12 x14 x15 x16 bt241.1 (wrap64 (Int.tdiv (wrap64 (rd x16 4)) 16)) (Int.tmod (wrap64 (rd x16 4)) 16) false) else (if (Int.tmod (wrap64 (rd x16 4)) 16) = 2 then (shackleref06_Read.j3 k x3 x10 x12 x14 x15 x16 bt241.1 (wrap64 (Int.tdiv (wrap64 (rd x16 4)) 16)) (Int.tmod (wrap64 (rd x16 4)) 16) false) else (if (Int.tmod (wrap64 (rd x16 4)) 16) = 3 then (shackleref06_Read.j3 k x3 x10 x12 x14 x15 x16 bt241.1 (wrap64 (Int.tdiv (wrap64 (rd x16 4)) 16)) (Int.tmod (wrap64 (rd x16 4)) 16) false) else (if (Int.tmod (wrap64 (rd x16 4)) 16) = 4 then (shackleref06_Read.j3 k x3 x10 x12 x14 x15 x16 bt241.1 (wrap64 (Int.tdiv (wrap64 (rd x16 4)) 16)) (Int.tmod (wrap64 (rd x16 4)) 16) false) else (if (Int.tmod (wrap64 (rd x16 4)) 16) = 6 then (shackleref06_Read.j3 k x3 x10 x12 x14 x15 x16 bt241.1 (wrap64 (Int.tdiv (wrap64 (rd x16 4)) 16)) (Int.tmod (wrap64 (rd x16 4)) 16) false) else (shackleref06_Read.j3 k x3 x10 x12 x14 x15 x16 bt241.1 (wrap64 (Int.tdiv (wrap64 (rd x16 4)) 16)) (Int.tmod (wrap64 (rd x16 4)) 16) ((Int.tmod (wrap64 (rd x16 4)) 16) != 10))))))))) else (none)) else (some (([] : List (S68)), bt241.2))))) else (none))
def shackleref06_Read.j3 : Nat → Int → List Int → List Int → List (S68) → Int → List Int → ByteArray → Int → Int → Bool → Option ((List (S68)) × Int)
 | 0, _, _, _, _, _, _, _, _, _, _ => none
 | k + 1, x3, x10, x12, x14, x15, x16, x19, x21, x22, x133 => if x133 = true then (some (([] : List (S68)), 3)) else (if 5 < (x16.length : Int) then (if 6 < (x16.length : Int) then (if 7 < (x16.length : Int) then (if 8 ≤ 16 then (if 16 ≤ (x16.length : Int) then ((shackleref05_Number.f k ((x16.take 16).drop 8)).bind fun t253 => (if 16 ≤ 24 then (if 24 ≤ (x16.length : Int) then ((shackleref05_Number.f k ((x16.take 24).drop 16)).bind fun t259 => (if x14.length < 2199023255552 then (shackleref06_Read.l0 k x3 x10 x12 (x14 ++ [(⟨x19, x21, x22, Int.tmod (wrap64 (rd x16 5)) 4, wrap64 ((wrap64 (rd x16 6)) + (wrap64 (256 * (wrap64 (rd x16 7))))), t253, t259⟩ : S68)]) (wrap64 (x15 + 1))) else (none))) else (none)) else (none))) else (none)) else (none)) else (none)) else (none)) else (none))
end
def shackleref06_Read.f (k : Nat) (l0 : List Int) (a1_0 : Int) (a1_1 : Int) (l1_2 : List (S95)) (l2_0 : List Int) (a2_1 : Int) (a2_2 : Int) (a2_3 : Int) (a2_4 : Int) (a2_5 : Int) (a2_6 : Int) (a2_7 : Int) (a2_8 : Int) (a2_9 : Int) (a2_10 : Int) (a2_11 : Int) (a2_12 : Int) (a2_13 : Int) (a2_14 : Bool) (a2_15 : Bool) (a2_16 : Bool) (a2_17 : Int) (a2_18 : Int) (a2_19 : Int) (a2_20 : Int) (a2_21 : Int) (a2_22 : Int) (a2_23 : Int) (a2_24 : Int) (a2_25 : Int) (a2_26 : Int) (a2_27 : Int) (a2_28 : Int) (a2_29 : Int) (a2_30 : Int) (a2_31 : Int) (a2_32 : Bool) (a2_33 : Bool) (a2_34 : Bool) (a2_35 : Bool) (a2_36 : Bool) (a3 : Int) : Option ((List (S68)) × Int) := if a3 < 0 then (some (([] : List (S68)), 1)) else (if a3 > 4096 then (some (([] : List (S68)), 2)) else ((shackleref06_Strings.f k l0 a1_0 a1_1 l1_2 l2_0 a2_1 a2_2 a2_3 a2_4 a2_5 a2_6 a2_7 a2_8 a2_9 a2_10 a2_11 a2_12 a2_13 a2_14 a2_15 a2_16 a2_17 a2_18 a2_19 a2_20 a2_21 a2_22 a2_23 a2_24 a2_25 a2_26 a2_27 a2_28 a2_29 a2_30 a2_31 a2_32 a2_33 a2_34 a2_35 a2_36).bind fun bt221 => (if bt221.2 = 0 then ((shackleref05_Slice.f k l0 a1_0 a1_1 l1_2 a2_5 (IntKind.u64.wrap (wrap64 (24 * a3)))).bind fun bt225 => (if bt225.2 = 0 then (shackleref06_Read.l0 k a3 bt221.1 bt225.1 ([] : List (S68)) 0) else (some (([] : List (S68)), bt225.2)))) else (some (([] : List (S68)), bt221.2)))))
theorem shackleref06_Read.mono_l : ∀ k, (∀ y0 y1 y2 y3 y4, LeO (shackleref06_Read.l0 k y0 y1 y2 y3 y4) (shackleref06_Read.l0 (k + 1) y0 y1 y2 y3 y4)) ∧ (∀ y0 y1 y2 y3 y4 y5 y6 y7, LeO (shackleref06_Read.l1 k y0 y1 y2 y3 y4 y5 y6 y7) (shackleref06_Read.l1 (k + 1) y0 y1 y2 y3 y4 y5 y6 y7)) ∧ (∀ y0 y1 y2 y3 y4 y5 y6, LeO (shackleref06_Read.j2 k y0 y1 y2 y3 y4 y5 y6) (shackleref06_Read.j2 (k + 1) y0 y1 y2 y3 y4 y5 y6)) ∧ (∀ y0 y1 y2 y3 y4 y5 y6 y7 y8 y9, LeO (shackleref06_Read.j3 k y0 y1 y2 y3 y4 y5 y6 y7 y8 y9) (shackleref06_Read.j3 (k + 1) y0 y1 y2 y3 y4 y5 y6 y7 y8 y9))
 | 0 => ⟨fun _ _ _ _ _ r h => by simp [shackleref06_Read.l0] at h, fun _ _ _ _ _ _ _ _ r h => by simp [shackleref06_Read.l1] at h, fun _ _ _ _ _ _ _ r h => by simp [shackleref06_Read.j2] at h, fun _ _ _ _ _ _ _ _ _ _ r h => by simp [shackleref06_Read.j3] at h⟩
 | k + 1 => by
  obtain ⟨ih0, ih1, ih2, ih3⟩ := shackleref06_Read.mono_l k
  refine ⟨?_, ?_, ?_, ?_⟩
  ·intro y0 y1 y2 y3 y4
   unfold shackleref06_Read.l0
   repeat' first
   | (with_reducible exact ih0 _ _ _ _ _)
   | (with_reducible exact ih1 _ _ _ _ _ _ _ _)
   | (with_reducible exact ih2 _ _ _ _ _ _ _)
   | (with_reducible exact ih3 _ _ _ _ _ _ _ _ _ _)
   | (with_reducible exact shackleref05_Number.mono _ _)
   | (with_reducible exact shackleref05_Slice.mono _ _ _ _ _ _ _)
   | (with_reducible exact shackleref06_Strings.mono _ _ _ _ _ _ _ _ _ _ _ _ _ _ _ _ _ _ _ _ _ _ _ _ _ _ _ _ _ _ _ _ _ _ _ _ _ _ _ _ _ _)
   | (with_reducible exact shackleref06_Text.mono _ _ _)
   | (with_reducible exact LeO.refl _)
   | (with_reducible exact LeO.none _)
   | (with_reducible refine LeO.ite ?_ ?_)
   | (with_reducible refine LeO.bind ?_ (fun _ => ?_))
   | exact ih0 _ _ _ _ _
   | exact ih1 _ _ _ _ _ _ _ _
   | exact ih2 _ _ _ _ _ _ _
   | exact ih3 _ _ _ _ _ _ _ _ _ _
   | exact shackleref05_Number.mono _ _
   | exact shackleref05_Slice.mono _ _ _ _ _ _ _
   | exact shackleref06_Strings.mono _ _ _ _ _ _ _ _ _ _ _ _ _ _ _ _ _ _ _ _ _ _ _ _ _ _ _ _ _ _ _ _ _ _ _ _ _ _ _ _ _ _
   | exact shackleref06_Text.mono _ _ _
   | exact LeO.none _
   | refine LeO.ite ?_ ?_
   | refine LeO.bind ?_ (fun _ => ?_)
  ·intro y0 y1 y2 y3 y4 y5 y6 y7
   unfold shackleref06_Read.l1
   repeat' first
   | (with_reducible exact ih0 _ _ _ _ _)
   | (with_reducible exact ih1 _ _ _ _ _ _ _ _)
   | (with_reducible exact ih2 _ _ _ _ _ _ _)
   | (with_reducible exact ih3 _ _ _ _ _ _ _ _ _ _)
   | (with_reducible exact shackleref05_Number.mono _ _)
   | (with_reducible exact shackleref05_Slice.mono _ _ _ _ _ _ _)
   | (with_reducible exact shackleref06_Strings.mono _ _ _ _ _ _ _ _ _ _ _ _ _ _ _ _ _ _ _ _ _ _ _ _ _ _ _ _ _ _ _ _ _ _ _ _ _ _ _ _ _ _)
   | (with_reducible exact shackleref06_Text.mono _ _ _)
   | (with_reducible exact LeO.refl _)
   | (with_reducible exact LeO.none _)
   | (with_reducible refine LeO.ite ?_ ?_)
   | (with_reducible refine LeO.bind ?_ (fun _ => ?_))
   | exact ih0 _ _ _ _ _
   | exact ih1 _ _ _ _ _ _ _ _
   | exact ih2 _ _ _ _ _ _ _
   | exact ih3 _ _ _ _ _ _ _ _ _ _
   | exact shackleref05_Number.mono _ _
   | exact shackleref05_Slice.mono _ _ _ _ _ _ _
   | exact shackleref06_Strings.mono _ _ _ _ _ _ _ _ _ _ _ _ _ _ _ _ _ _ _ _ _ _ _ _ _ _ _ _ _ _ _ _ _ _ _ _ _ _ _ _ _ _
   | exact shackleref06_Text.mono _ _ _
   | exact LeO.none _
   | refine LeO.ite ?_ ?_
   | refine LeO.bind ?_ (fun _ => ?_)
  ·intro y0 y1 y2 y3 y4 y5 y6
   unfold shackleref06_Read.j2
   repeat' first
   | (with_reducible exact ih0 _ _ _ _ _)
   | (with_reducible exact ih1 _ _ _ _ _ _ _ _)
   | (with_reducible exact ih2 _ _ _ _ _ _ _)
   | (with_reducible exact ih3 _ _ _ _ _ _ _ _ _ _)
   | (with_reducible exact shackleref05_Number.mono _ _)
   | (with_reducible exact shackleref05_Slice.mono _ _ _ _ _ _ _)
   | (with_reducible exact shackleref06_Strings.mono _ _ _ _ _ _ _ _ _ _ _ _ _ _ _ _ _ _ _ _ _ _ _ _ _ _ _ _ _ _ _ _ _ _ _ _ _ _ _ _ _ _)
   | (with_reducible exact shackleref06_Text.mono _ _ _)
   | (with_reducible exact LeO.refl _)
   | (with_reducible exact LeO.none _)
   | (with_reducible refine LeO.ite ?_ ?_)
   | (with_reducible refine LeO.bind ?_ (fun _ => ?_))
   | exact ih0 _ _ _ _ _
   | exact ih1 _ _ _ _ _ _ _ _
   | exact ih2 _ _ _ _ _ _ _
   | exact ih3 _ _ _ _ _ _ _ _ _ _
   | exact shackleref05_Number.mono _ _
   | exact shackleref05_Slice.mono _ _ _ _ _ _ _
   | exact shackleref06_Strings.mono _ _ _ _ _ _ _ _ _ _ _ _ _ _ _ _ _ _ _ _ _ _ _ _ _ _ _ _ _ _ _ _ _ _ _ _ _ _ _ _ _ _
   | exact shackleref06_Text.mono _ _ _
   | exact LeO.none _
   | refine LeO.ite ?_ ?_
   | refine LeO.bind ?_ (fun _ => ?_)
  ·intro y0 y1 y2 y3 y4 y5 y6 y7 y8 y9
   unfold shackleref06_Read.j3
   repeat' first
   | (with_reducible exact ih0 _ _ _ _ _)
   | (with_reducible exact ih1 _ _ _ _ _ _ _ _)
   | (with_reducible exact ih2 _ _ _ _ _ _ _)
   | (with_reducible exact ih3 _ _ _ _ _ _ _ _ _ _)
   | (with_reducible exact shackleref05_Number.mono _ _)
   | (with_reducible exact shackleref05_Slice.mono _ _ _ _ _ _ _)
   | (with_reducible exact shackleref06_Strings.mono _ _ _ _ _ _ _ _ _ _ _ _ _ _ _ _ _ _ _ _ _ _ _ _ _ _ _ _ _ _ _ _ _ _ _ _ _ _ _ _ _ _)
   | (with_reducible exact shackleref06_Text.mono _ _ _)
   | (with_reducible exact LeO.refl _)
   | (with_reducible exact LeO.none _)
   | (with_reducible refine LeO.ite ?_ ?_)
   | (with_reducible refine LeO.bind ?_ (fun _ => ?_))
   | exact ih0 _ _ _ _ _
   | exact ih1 _ _ _ _ _ _ _ _
   | exact ih2 _ _ _ _ _ _ _
   | exact ih3 _ _ _ _ _ _ _ _ _ _
   | exact shackleref05_Number.mono _ _
   | exact shackleref05_Slice.mono _ _ _ _ _ _ _
   | exact shackleref06_Strings.mono _ _ _ _ _ _ _ _ _ _ _ _ _ _ _ _ _ _ _ _ _ _ _ _ _ _ _ _ _ _ _ _ _ _ _ _ _ _ _ _ _ _
   | exact shackleref06_Text.mono _ _ _
   | exact LeO.none _
   | refine LeO.ite ?_ ?_
   | refine LeO.bind ?_ (fun _ => ?_)
theorem shackleref06_Read.mono : ∀ a0 a1 a2 a3 a4 a5 a6 a7 a8 a9 a10 a11 a12 a13 a14 a15 a16 a17 a18 a19 a20 a21 a22 a23 a24 a25 a26 a27 a28 a29 a30 a31 a32 a33 a34 a35 a36 a37 a38 a39 a40 a41 k, LeO (shackleref06_Read.f k a0 a1 a2 a3 a4 a5 a6 a7 a8 a9 a10 a11 a12 a13 a14 a15 a16 a17 a18 a19 a20 a21 a22 a23 a24 a25 a26 a27 a28 a29 a30 a31 a32 a33 a34 a35 a36 a37 a38 a39 a40 a41) (shackleref06_Read.f (k + 1) a0 a1 a2 a3 a4 a5 a6 a7 a8 a9 a10 a11 a12 a13 a14 a15 a16 a17 a18 a19 a20 a21 a22 a23 a24 a25 a26 a27 a28 a29 a30 a31 a32 a33 a34 a35 a36 a37 a38 a39 a40 a41) := by
 intro a0 a1 a2 a3 a4 a5 a6 a7 a8 a9 a10 a11 a12 a13 a14 a15 a16 a17 a18 a19 a20 a21 a22 a23 a24 a25 a26 a27 a28 a29 a30 a31 a32 a33 a34 a35 a36 a37 a38 a39 a40 a41 k
 obtain ⟨ih0, ih1, ih2, ih3⟩ := shackleref06_Read.mono_l k
 unfold shackleref06_Read.f
 repeat' first
   | (with_reducible exact ih0 _ _ _ _ _)
   | (with_reducible exact ih1 _ _ _ _ _ _ _ _)
   | (with_reducible exact ih2 _ _ _ _ _ _ _)
   | (with_reducible exact ih3 _ _ _ _ _ _ _ _ _ _)
   | (with_reducible exact shackleref05_Number.mono _ _)
   | (with_reducible exact shackleref05_Slice.mono _ _ _ _ _ _ _)
   | (with_reducible exact shackleref06_Strings.mono _ _ _ _ _ _ _ _ _ _ _ _ _ _ _ _ _ _ _ _ _ _ _ _ _ _ _ _ _ _ _ _ _ _ _ _ _ _ _ _ _ _)
   | (with_reducible exact shackleref06_Text.mono _ _ _)
   | (with_reducible exact LeO.refl _)
   | (with_reducible exact LeO.none _)
   | (with_reducible refine LeO.ite ?_ ?_)
   | (with_reducible refine LeO.bind ?_ (fun _ => ?_))
   | exact ih0 _ _ _ _ _
   | exact ih1 _ _ _ _ _ _ _ _
   | exact ih2 _ _ _ _ _ _ _
   | exact ih3 _ _ _ _ _ _ _ _ _ _
   | exact shackleref05_Number.mono _ _
   | exact shackleref05_Slice.mono _ _ _ _ _ _ _
   | exact shackleref06_Strings.mono _ _ _ _ _ _ _ _ _ _ _ _ _ _ _ _ _ _ _ _ _ _ _ _ _ _ _ _ _ _ _ _ _ _ _ _ _ _ _ _ _ _
   | exact shackleref06_Text.mono _ _ _
   | exact LeO.none _
   | refine LeO.ite ?_ ?_
   | refine LeO.bind ?_ (fun _ => ?_)
def shackleref06_Read.T30 : Bool × List (List Nat × List Nat) := (true, [([], []), ([], []), ([], []), ([], []), ([], []), ([4], [4]), ([5], [5]), ([6], [6]), ([7], [7]), ([], []), ([9], [9]), ([10], [10]), ([11], [11]), ([], []), ([13], [13]), ([14], [14]), ([15], [15]), ([16], [16]), ([12, 17], [12, 17]), ([], []), ([19], [19]), ([20], [20]), ([], []), ([22], [22]), ([23, 21], [23]), ([1, 2, 3, 8, 18, 21, 24], [1, 2, 3, 8, 18, 21, 24]), ([25], [25]), ([0, 26, 24], [0, 26]), ([27, 27, 0, 1, 2, 3, 4, 5, 6, 7, 8, 9, 10, 11, 12, 13, 14, 15, 16, 17, 18, 19, 20, 21, 22, 23, 24, 25, 26, 27], [0, 27])])
def shackleref06_Read.B30 : List Nat := [0, 0, 0, 0, 0, 16, 48, 112, 240, 0, 512, 1536, 3584, 0, 8192, 24576, 57344, 122880, 261632, 0, 524288, 1572864, 0, 4194304, 16252928, 33554430, 67108862, 134217727, 268435455]
theorem shackleref06_Read.tab30 : rtab .any (opsOf Try.f37 30) = shackleref06_Read.T30 := by kernel_rfl
theorem shackleref06_Read.bits30 : waitsOk shackleref06_Read.T30.2 shackleref06_Read.B30 = true := by kernel_rfl
set_option maxHeartbeats 8000000 in
set_option maxRecDepth 100000 in
theorem shackleref06_Read.calls (k : Nat) (A0 : Option Addr) (c0 : Nat) (l0 : List Int) (a1_0 : Int) (a1_1 : Int) (A1_2 : Option Addr) (c1_2 : Nat) (l1_2 : List (S95)) (A2_0 : Option Addr) (c2_0 : Nat) (l2_0 : List Int) (a2_1 : Int) (a2_2 : Int) (a2_3 : Int) (a2_4 : Int) (a2_5 : Int) (a2_6 : Int) (a2_7 : Int) (a2_8 : Int) (a2_9 : Int) (a2_10 : Int) (a2_11 : Int) (a2_12 : Int) (a2_13 : Int) (a2_14 : Bool) (a2_15 : Bool) (a2_16 : Bool) (a2_17 : Int) (a2_18 : Int) (a2_19 : Int) (a2_20 : Int) (a2_21 : Int) (a2_22 : Int) (a2_23 : Int) (a2_24 : Int) (a2_25 : Int) (a2_26 : Int) (a2_27 : Int) (a2_28 : Int) (a2_29 : Int) (a2_30 : Int) (a2_31 : Int) (a2_32 : Bool) (a2_33 : Bool) (a2_34 : Bool) (a2_35 : Bool) (a2_36 : Bool) (a3 : Int) (r1 : List (S68)) (r2 : Int) (w : World) (hr0 : Kd.C (Kd.int .u8) w A0 l0.length l0) (hc0 : l0.length ≤ c0) (hr1_2 : Kd.C k95 w A1_2 l1_2.length l1_2) (hc1_2 : l1_2.length ≤ c1_2) (hr2_0 : Kd.C (Kd.int .u64) w A2_0 l2_0.length l2_0) (hc2_0 : l2_0.length ≤ c2_0) (h : shackleref06_Read.f k l0 a1_0 a1_1 l1_2 l2_0 a2_1 a2_2 a2_3 a2_4 a2_5 a2_6 a2_7 a2_8 a2_9 a2_10 a2_11 a2_12 a2_13 a2_14 a2_15 a2_16 a2_17 a2_18 a2_19 a2_20 a2_21 a2_22 a2_23 a2_24 a2_25 a2_26 a2_27 a2_28 a2_29 a2_30 a2_31 a2_32 a2_33 a2_34 a2_35 a2_36 a3 = some (r1, r2)) :
  Calls Try.prog 37 #[.slice A0 l0.length c0, .agg #[.int .i64 a1_0, .int .u64 a1_1, .slice A1_2 l1_2.length c1_2], .agg #[.slice A2_0 l2_0.length c2_0, .int .u64 a2_1, .int .u64 a2_2, .int .u64 a2_3, .int .u64 a2_4, .int .u64 a2_5, .int .u64 a2_6, .int .u64 a2_7, .int .u64 a2_8, .int .u64 a2_9, .int .u64 a2_10, .int .u64 a2_11, .int .u64 a2_12, .int .u64 a2_13, .bool a2_14, .bool a2_15, .bool a2_16, .int .u64 a2_17, .int .u64 a2_18, .int .u64 a2_19, .int .u64 a2_20, .int .u64 a2_21, .int .u64 a2_22, .int .u64 a2_23, .int .u64 a2_24, .int .u64 a2_25, .int .u64 a2_26, .int .u64 a2_27, .int .u64 a2_28, .int .u64 a2_29, .int .u64 a2_30, .int .u64 a2_31, .bool a2_32, .bool a2_33, .bool a2_34, .bool a2_35, .bool a2_36], .int .i64 a3] w fun e w' => ∃ v0_ : Value, e = .returned (.tuple #[v0_, .int .i64 r2]) ∧ Kd.R k68 68 w' w.heap.size (fun _ => True) v0_ r1 ∧ Below w.heap.size w w' := by
 have hu53 := Try.underlying53
 have hu55 := Try.underlying55
 have hu68 := Try.underlying68
 have HR0 := Aside0.mk hr0
 have HC0 := Aside0.mk hc0
 clear hr0 hc0
 have HR1_2 := Aside0.mk hr1_2
 have HC1_2 := Aside0.mk hc1_2
 clear hr1_2 hc1_2
 have HR2_0 := Aside0.mk hr2_0
 have HC2_0 := Aside0.mk hc2_0
 clear hr2_0 hc2_0
 have HB := Aside0.mk (Below.refl w.heap.size w)
 have H : (if a3 < 0 then (some (([] : List (S68)), 1)) else (if a3 > 4096 then (some (([] : List (S68)), 2)) else ((shackleref06_Strings.f k l0 a1_0 a1_1 l1_2 l2_0 a2_1 a2_2 a2_3 a2_4 a2_5 a2_6 a2_7 a2_8 a2_9 a2_10 a2_11 a2_12 a2_13 a2_14 a2_15 a2_16 a2_17 a2_18 a2_19 a2_20 a2_21 a2_22 a2_23 a2_24 a2_25 a2_26 a2_27 a2_28 a2_29 a2_30 a2_31 a2_32 a2_33 a2_34 a2_35 a2_36).bind fun bt221 => (if bt221.2 = 0 then ((shackleref05_Slice.f k l0 a1_0 a1_1 l1_2 a2_5 (IntKind.u64.wrap (wrap64 (24 * a3)))).bind fun bt225 => (if bt225.2 = 0 then (shackleref06_Read.l0 k a3 bt221.1 bt225.1 ([] : List (S68)) 0) else (some (([] : List (S68)), bt225.2)))) else (some (([] : List (S68)), bt221.2)))))) = some (r1, r2) := h
 clear h
 have HC5 := Aside0.mk H
 clear H
 go_enter Try.func37, Try.ntmps37
 go_upto_region 1 with (first | ((with_reducible refine gate_ (.load 55 (.tmp 6)) rfl ?_); refine wpList_load_row rfl 55 (.tmp 6) rfl gb220 rfl 55 _ (0, 0) _ (by (with_reducible repeat (first | refine blk_drewN ?_ _ | refine blk_drew ?_ | refine blk_alloc ?_ _)); exact BK220.out) Try.underlying55 rfl (by kernel_rfl) ?_) | ((with_reducible refine gate_dst (N := 5) rfl ?_); refine box_event ?hg (N := 5) ?hd (cs := #[.int .i64 a1_0, .int .u64 a1_1, .slice A1_2 l1_2.length c1_2]) (t := 53) ?hr ?_; (case hd => rfl); (case hg => rfl); (case hr => first | (go_simp; done) | (go_simp; rfl)); intro gb219 hg w6 hbox hb; have n0_ := Aside0.mk (below_step (by repeat (first | (with_reducible first | exact HB.out | apply below_alloc | apply pw_below_drewN | apply below_drew1) | exact HB.out)) hb); have n1_ := Aside0.mk (hbox); have n2_ := Aside0.mk ((by rw [hg]; exact (below_size (by repeat (first | (with_reducible first | exact HB.out | apply below_alloc | apply pw_below_drewN | apply below_drew1) | exact HB.out))) : w.heap.size ≤ gb219)); have n3_ := Aside0.mk ((by rw [hg]; exact (below_size (by repeat (first | (with_reducible first | exact HB.out | apply below_alloc | apply pw_below_drewN | apply below_drew1) | exact HB.out))) : w.heap.size ≤ gb219)); clear HB; have HB := n0_; have BK219 := n1_; have GW219 := n2_; have GE219 := n3_; clear n0_ n1_ n2_ n3_; clear hb hbox hg) | ((with_reducible refine gate_dst (N := 6) rfl ?_); refine box_event ?hg (N := 6) ?hd (cs := #[.slice A2_0 l2_0.length c2_0, .int .u64 a2_1, .int .u64 a2_2, .int .u64 a2_3, .int .u64 a2_4, .int .u64 a2_5, .int .u64 a2_6, .int .u64 a2_7, .int .u64 a2_8, .int .u64 a2_9, .int .u64 a2_10, .int .u64 a2_11, .int .u64 a2_12, .int .u64 a2_13, .bool a2_14, .bool a2_15, .bool a2_16, .int .u64 a2_17, .int .u64 a2_18, .int .u64 a2_19, .int .u64 a2_20, .int .u64 a2_21, .int .u64 a2_22, .int .u64 a2_23, .int .u64 a2_24, .int .u64 a2_25, .int .u64 a2_26, .int .u64 a2_27, .int .u64 a2_28, .int .u64 a2_29, .int .u64 a2_30, .int .u64 a2_31, .bool a2_32, .bool a2_33, .bool a2_34, .bool a2_35, .bool a2_36]) (t := 55) ?hr ?_; (case hd => rfl); (case hg => rfl); (case hr => first | (go_simp; done) | (go_simp; rfl)); intro gb220 hg w7 hbox hb; have n0_ := Aside0.mk (blk_below (g := gb219) (o := .cells #[.int .i64 a1_0, .int .u64 a1_1, .slice A1_2 l1_2.length c1_2] 53 (0, 0)) (by (with_reducible repeat (first | refine blk_drewN ?_ _ | refine blk_drew ?_ | refine blk_alloc ?_ _)); exact BK219.out) hb); have n1_ := Aside0.mk (below_step (by repeat (first | (with_reducible first | exact HB.out | apply below_alloc | apply pw_below_drewN | apply below_drew1 | refine below_set ?_ GE219.out) | exact HB.out)) hb); have n2_ := Aside0.mk (hbox); have n3_ := Aside0.mk ((by rw [hg]; exact (below_size (by repeat (first | (with_reducible first | exact HB.out | apply below_alloc | apply pw_below_drewN | apply below_drew1 | refine below_set ?_ GE219.out) | exact HB.out))) : w.heap.size ≤ gb220)); have n4_ := Aside0.mk ((by rw [hg]; exact (below_size (by repeat (first | (with_reducible first | exact HB.out | apply below_alloc | apply pw_below_drewN | apply below_drew1 | refine below_set ?_ GE219.out) | exact HB.out))) : w.heap.size ≤ gb220)); have n5_ := Aside0.mk ((by rw [hg]; exact Nat.ne_of_lt (blk_lt (g := gb219) (o := .cells #[.int .i64 a1_0, .int .u64 a1_1, .slice A1_2 l1_2.length c1_2] 53 (0, 0)) (by (with_reducible repeat (first | refine blk_drewN ?_ _ | refine blk_drew ?_ | refine blk_alloc ?_ _)); exact BK219.out)) : gb219 ≠ gb220)); have n6_ := Aside0.mk ((by rw [hg]; exact Nat.ne_of_gt (blk_lt (g := gb219) (o := .cells #[.int .i64 a1_0, .int .u64 a1_1, .slice A1_2 l1_2.length c1_2] 53 (0, 0)) (by (with_reducible repeat (first | refine blk_drewN ?_ _ | refine blk_drew ?_ | refine blk_alloc ?_ _)); exact BK219.out)) : gb220 ≠ gb219)); clear BK219; clear HB; have BK219 := n0_; have HB := n1_; have BK220 := n2_; have GW220 := n3_; have GE220 := n4_; have NB219_220 := n5_; have NB220_219 := n6_; clear n0_ n1_ n2_ n3_ n4_ n5_ n6_; clear hb hbox hg))
 (try simp only [Act.put, List.setIfInBounds_toArray, List.set_cons_zero, List.set_cons_succ])
 have H := HC5.out
 clear HC5
 by_cases c8 : a3 < 0
 ·rw [if_pos c8] at H
  have c8b0 : decide (a3 < 0) = true := decide_eq_true c8
  clear c8
  (first | rw [c8b0] | (simp only [i64_w, i32_w]; rw [c8b0]) | skip)
  simp only [Option.some.injEq, Prod.mk.injEq] at H
  obtain ⟨rfl, rfl⟩ := H
  go_wp2
  go_ret2
  exact ⟨_, by first | rfl | (simp [errW_none, errW_some] <;> rfl) | (simp [*, errW_none, errW_some] <;> rfl), by first | exact Kd.R_nil _ _ _ _ _ | exact Kd.N_nil _ _ _ _ _ | exact Kd.V_nil _ _ _ _ _ | exact Kd.Q_nil _ _ _ _ _ | exact Kd.S_nil _ _ _ _ _, by repeat (first | (with_reducible first | exact HB.out | apply below_alloc | apply pw_below_drewN | apply below_drew1 | refine below_set ?_ GE219.out | refine below_set ?_ GE220.out) | exact HB.out)⟩
 ·rw [if_neg c8] at H
  have c8b0 : decide (a3 < 0) = false := decide_eq_false c8
  clear c8
  (first | rw [c8b0] | (simp only [i64_w, i32_w]; rw [c8b0]) | skip)
  by_cases c9 : a3 > 4096
  ·rw [if_pos c9] at H
   have c9b0 : decide (4096 < a3) = true := decide_eq_true c9
   clear c9
   simp only [Option.some.injEq, Prod.mk.injEq] at H
   obtain ⟨rfl, rfl⟩ := H
   go_wp2
   go_ret2
   exact ⟨_, by first | rfl | (simp [errW_none, errW_some] <;> rfl) | (simp [*, errW_none, errW_some] <;> rfl), by first | exact Kd.R_nil _ _ _ _ _ | exact Kd.N_nil _ _ _ _ _ | exact Kd.V_nil _ _ _ _ _ | exact Kd.Q_nil _ _ _ _ _ | exact Kd.S_nil _ _ _ _ _, by repeat (first | (with_reducible first | exact HB.out | apply below_alloc | apply pw_below_drewN | apply below_drew1 | refine below_set ?_ GE219.out | refine below_set ?_ GE220.out) | exact HB.out)⟩
  ·rw [if_neg c9] at H
   have c9b0 : decide (4096 < a3) = false := decide_eq_false c9
   clear c9
   replace H := Option.bind_eq_some_iff.mp H
   obtain ⟨⟨t221, t224⟩, A100, H⟩ := H
   replace H : (if t224 = 0 then ((shackleref05_Slice.f k l0 a1_0 a1_1 l1_2 a2_5 (IntKind.u64.wrap (wrap64 (24 * a3)))).bind fun bt225 => (if bt225.2 = 0 then (shackleref06_Read.l0 k a3 t221 bt225.1 ([] : List (S68)) 0) else (some (([] : List (S68)), bt225.2)))) else (some (([] : List (S68)), t224))) = some (r1, r2) := H
   have A10 := Aside0.mk A100
   clear A100
   have HC11 := Aside0.mk H
   clear H
   have hnb12 := NB219_220.out
   have hnc12 := NB220_219.out
   have hcz13_0 : w7.cell? ⟨gb219, 0, none⟩ = some (.int .i64 a1_0) := (blk_cell BK219.out 0).trans rfl
   have hcz13_1 : w7.cell? ⟨gb219, 1, none⟩ = some (.int .u64 a1_1) := (blk_cell BK219.out 1).trans rfl
   have hcz13_2 : w7.cell? ⟨gb219, 2, none⟩ = some (.slice A1_2 l1_2.length c1_2) := (blk_cell BK219.out 2).trans rfl
   have hfz13_0 := blk_frozen BK219.out 0
   have hfz13_1 := blk_frozen BK219.out 1
   have hfz13_2 := blk_frozen BK219.out 2
   have hcz14_0 : w7.cell? ⟨gb220, 0, none⟩ = some (.slice A2_0 l2_0.length c2_0) := (blk_cell BK220.out 0).trans rfl
   have hcz14_1 : w7.cell? ⟨gb220, 1, none⟩ = some (.int .u64 a2_1) := (blk_cell BK220.out 1).trans rfl
   have hcz14_2 : w7.cell? ⟨gb220, 2, none⟩ = some (.int .u64 a2_2) := (blk_cell BK220.out 2).trans rfl
   have hcz14_3 : w7.cell? ⟨gb220, 3, none⟩ = some (.int .u64 a2_3) := (blk_cell BK220.out 3).trans rfl
   have hcz14_4 : w7.cell? ⟨gb220, 4, none⟩ = some (.int .u64 a2_4) := (blk_cell BK220.out 4).trans rfl
   have hcz14_5 : w7.cell? ⟨gb220, 5, none⟩ = some (.int .u64 a2_5) := (blk_cell BK220.out 5).trans rfl
   have hcz14_6 : w7.cell? ⟨gb220, 6, none⟩ = some (.int .u64 a2_6) := (blk_cell BK220.out 6).trans rfl
   have hcz14_7 : w7.cell? ⟨gb220, 7, none⟩ = some (.int .u64 a2_7) := (blk_cell BK220.out 7).trans rfl
   have hcz14_8 : w7.cell? ⟨gb220, 8, none⟩ = some (.int .u64 a2_8) := (blk_cell BK220.out 8).trans rfl
   have hcz14_9 : w7.cell? ⟨gb220, 9, none⟩ = some (.int .u64 a2_9) := (blk_cell BK220.out 9).trans rfl
   have hcz14_10 : w7.cell? ⟨gb220, 10, none⟩ = some (.int .u64 a2_10) := (blk_cell BK220.out 10).trans rfl
   have hcz14_11 : w7.cell? ⟨gb220, 11, none⟩ = some (.int .u64 a2_11) := (blk_cell BK220.out 11).trans rfl
   have hcz14_12 : w7.cell? ⟨gb220, 12, none⟩ = some (.int .u64 a2_12) := (blk_cell BK220.out 12).trans rfl
   have hcz14_13 : w7.cell? ⟨gb220, 13, none⟩ = some (.int .u64 a2_13) := (blk_cell BK220.out 13).trans rfl
   have hcz14_14 : w7.cell? ⟨gb220, 14, none⟩ = some (.bool a2_14) := (blk_cell BK220.out 14).trans rfl
   have hcz14_15 : w7.cell? ⟨gb220, 15, none⟩ = some (.bool a2_15) := (blk_cell BK220.out 15).trans rfl
   have hcz14_16 : w7.cell? ⟨gb220, 16, none⟩ = some (.bool a2_16) := (blk_cell BK220.out 16).trans rfl
   have hcz14_17 : w7.cell? ⟨gb220, 17, none⟩ = some (.int .u64 a2_17) := (blk_cell BK220.out 17).trans rfl
   have hcz14_18 : w7.cell? ⟨gb220, 18, none⟩ = some (.int .u64 a2_18) := (blk_cell BK220.out 18).trans rfl
   have hcz14_19 : w7.cell? ⟨gb220, 19, none⟩ = some (.int .u64 a2_19) := (blk_cell BK220.out 19).trans rfl
   have hcz14_20 : w7.cell? ⟨gb220, 20, none⟩ = some (.int .u64 a2_20) := (blk_cell BK220.out 20).trans rfl
   have hcz14_21 : w7.cell? ⟨gb220, 21, none⟩ = some (.int .u64 a2_21) := (blk_cell BK220.out 21).trans rfl
   have hcz14_22 : w7.cell? ⟨gb220, 22, none⟩ = some (.int .u64 a2_22) := (blk_cell BK220.out 22).trans rfl
   have hcz14_23 : w7.cell? ⟨gb220, 23, none⟩ = some (.int .u64 a2_23) := (blk_cell BK220.out 23).trans rfl
   have hcz14_24 : w7.cell? ⟨gb220, 24, none⟩ = some (.int .u64 a2_24) := (blk_cell BK220.out 24).trans rfl
   have hcz14_25 : w7.cell? ⟨gb220, 25, none⟩ = some (.int .u64 a2_25) := (blk_cell BK220.out 25).trans rfl
   have hcz14_26 : w7.cell? ⟨gb220, 26, none⟩ = some (.int .u64 a2_26) := (blk_cell BK220.out 26).trans rfl
   have hcz14_27 : w7.cell? ⟨gb220, 27, none⟩ = some (.int .u64 a2_27) := (blk_cell BK220.out 27).trans rfl
   have hcz14_28 : w7.cell? ⟨gb220, 28, none⟩ = some (.int .u64 a2_28) := (blk_cell BK220.out 28).trans rfl
   have hcz14_29 : w7.cell? ⟨gb220, 29, none⟩ = some (.int .u64 a2_29) := (blk_cell BK220.out 29).trans rfl
   have hcz14_30 : w7.cell? ⟨gb220, 30, none⟩ = some (.int .u64 a2_30) := (blk_cell BK220.out 30).trans rfl
   have hcz14_31 : w7.cell? ⟨gb220, 31, none⟩ = some (.int .u64 a2_31) := (blk_cell BK220.out 31).trans rfl
   have hcz14_32 : w7.cell? ⟨gb220, 32, none⟩ = some (.bool a2_32) := (blk_cell BK220.out 32).trans rfl
   have hcz14_33 : w7.cell? ⟨gb220, 33, none⟩ = some (.bool a2_33) := (blk_cell BK220.out 33).trans rfl
   have hcz14_34 : w7.cell? ⟨gb220, 34, none⟩ = some (.bool a2_34) := (blk_cell BK220.out 34).trans rfl
   have hcz14_35 : w7.cell? ⟨gb220, 35, none⟩ = some (.bool a2_35) := (blk_cell BK220.out 35).trans rfl
   have hcz14_36 : w7.cell? ⟨gb220, 36, none⟩ = some (.bool a2_36) := (blk_cell BK220.out 36).trans rfl
   have hfz14_0 := blk_frozen BK220.out 0
   have hfz14_1 := blk_frozen BK220.out 1
   have hfz14_2 := blk_frozen BK220.out 2
   have hfz14_3 := blk_frozen BK220.out 3
   have hfz14_4 := blk_frozen BK220.out 4
   have hfz14_5 := blk_frozen BK220.out 5
   have hfz14_6 := blk_frozen BK220.out 6
   have hfz14_7 := blk_frozen BK220.out 7
   have hfz14_8 := blk_frozen BK220.out 8
   have hfz14_9 := blk_frozen BK220.out 9
   have hfz14_10 := blk_frozen BK220.out 10
   have hfz14_11 := blk_frozen BK220.out 11
   have hfz14_12 := blk_frozen BK220.out 12
   have hfz14_13 := blk_frozen BK220.out 13
   have hfz14_14 := blk_frozen BK220.out 14
   have hfz14_15 := blk_frozen BK220.out 15
   have hfz14_16 := blk_frozen BK220.out 16
   have hfz14_17 := blk_frozen BK220.out 17
   have hfz14_18 := blk_frozen BK220.out 18
   have hfz14_19 := blk_frozen BK220.out 19
   have hfz14_20 := blk_frozen BK220.out 20
   have hfz14_21 := blk_frozen BK220.out 21
   have hfz14_22 := blk_frozen BK220.out 22
   have hfz14_23 := blk_frozen BK220.out 23
   have hfz14_24 := blk_frozen BK220.out 24
   have hfz14_25 := blk_frozen BK220.out 25
   have hfz14_26 := blk_frozen BK220.out 26
   have hfz14_27 := blk_frozen BK220.out 27
   have hfz14_28 := blk_frozen BK220.out 28
   have hfz14_29 := blk_frozen BK220.out 29
   have hfz14_30 := blk_frozen BK220.out 30
   have hfz14_31 := blk_frozen BK220.out 31
   have hfz14_32 := blk_frozen BK220.out 32
   have hfz14_33 := blk_frozen BK220.out 33
   have hfz14_34 := blk_frozen BK220.out 34
   have hfz14_35 := blk_frozen BK220.out 35
   have hfz14_36 := blk_frozen BK220.out 36
   go_upto_region 6 with (first | ((with_reducible refine gate_ (.load 55 (.tmp 6)) rfl ?_); refine wpList_load_row rfl 55 (.tmp 6) rfl gb220 rfl 55 _ (0, 0) _ (by (with_reducible repeat (first | refine blk_drewN ?_ _ | refine blk_drew ?_ | refine blk_alloc ?_ _)); exact BK220.out) Try.underlying55 rfl (by kernel_rfl) ?_) | ((with_reducible refine gate_callee (f := 35) rfl ?_); refine goesL_ (some 33) rfl rfl Try.func35 (by kernel_rfl) rfl #[.slice A0 l0.length c0, .agg #[.int .i64 a1_0, .int .u64 a1_1, .slice A1_2 l1_2.length c1_2], .agg #[.slice A2_0 l2_0.length c2_0, .int .u64 a2_1, .int .u64 a2_2, .int .u64 a2_3, .int .u64 a2_4, .int .u64 a2_5, .int .u64 a2_6, .int .u64 a2_7, .int .u64 a2_8, .int .u64 a2_9, .int .u64 a2_10, .int .u64 a2_11, .int .u64 a2_12, .int .u64 a2_13, .bool a2_14, .bool a2_15, .bool a2_16, .int .u64 a2_17, .int .u64 a2_18, .int .u64 a2_19, .int .u64 a2_20, .int .u64 a2_21, .int .u64 a2_22, .int .u64 a2_23, .int .u64 a2_24, .int .u64 a2_25, .int .u64 a2_26, .int .u64 a2_27, .int .u64 a2_28, .int .u64 a2_29, .int .u64 a2_30, .int .u64 a2_31, .bool a2_32, .bool a2_33, .bool a2_34, .bool a2_35, .bool a2_36]] rfl (by (try simp only [List.map_toArray, List.map_cons, List.map_nil]); first | done | rfl | (simp only [List.length_drop, List.length_take]; rfl)) ?_; (with_reducible refine (shackleref06_Strings.calls k (fun k_ => k_ < w.heap.size) _ _ l0 a1_0 a1_1 _ _ l1_2 _ _ l2_0 a2_1 a2_2 a2_3 a2_4 a2_5 a2_6 a2_7 a2_8 a2_9 a2_10 a2_11 a2_12 a2_13 a2_14 a2_15 a2_16 a2_17 a2_18 a2_19 a2_20 a2_21 a2_22 a2_23 a2_24 a2_25 a2_26 a2_27 a2_28 a2_29 a2_30 a2_31 a2_32 a2_33 a2_34 a2_35 a2_36 t221 t224 _ ?side1 ?side2 ?side3 ?side4 ?side5 A10.out).mono ?_); (case side1 => exact Kd.V_mk HC0.out (Kd.F_below (Kd.C_F (Kd.heap_int .u8) HR0.out) (by repeat (first | (with_reducible first | exact HB.out | apply below_alloc | apply pw_below_drewN | apply below_drew1 | refine below_set ?_ GE219.out | refine below_set ?_ GE220.out) | exact HB.out)))); (case side2 => repeat (first | exact (Kd.C_below HR1_2.out HB.out) | (with_reducible refine Kd.C_alloc ?_ _) | (with_reducible refine Kd.C_drewN ?_ _) | (with_reducible refine Kd.C_drew ?_))); (case side3 => exact HC1_2.out); (case side4 => repeat (first | exact (Kd.C_below HR2_0.out HB.out) | (with_reducible refine Kd.C_alloc ?_ _) | (with_reducible refine Kd.C_drewN ?_ _) | (with_reducible refine Kd.C_drew ?_))); (case side5 => exact HC2_0.out); rintro e w15 ⟨v222, rfl, ho0, hb⟩; refine ⟨_, rfl, ?_⟩; have n0_ := Aside0.mk (Kd.V_lower (Kd.V_mono (ok' := fun k_ => k_ ≠ gb219 ∧ k_ ≠ gb220) ho0 (fun k_ hk_ => ⟨Or.elim hk_ (fun hs_ => fun e_ => Nat.not_le.2 hs_ (by rw [e_]; exact GW219.out)) (fun hn_ => (Kd.freshB (g := gb219) (o := .cells #[.int .i64 a1_0, .int .u64 a1_1, .slice A1_2 l1_2.length c1_2] 53 (0, 0)) (by (with_reducible repeat (first | refine blk_drewN ?_ _ | refine blk_drew ?_ | refine blk_alloc ?_ _)); exact BK219.out) k_ hn_)), Or.elim hk_ (fun hs_ => fun e_ => Nat.not_le.2 hs_ (by rw [e_]; exact GW220.out)) (fun hn_ => (Kd.freshB (g := gb220) (o := .cells #[.slice A2_0 l2_0.length c2_0, .int .u64 a2_1, .int .u64 a2_2, .int .u64 a2_3, .int .u64 a2_4, .int .u64 a2_5, .int .u64 a2_6, .int .u64 a2_7, .int .u64 a2_8, .int .u64 a2_9, .int .u64 a2_10, .int .u64 a2_11, .int .u64 a2_12, .int .u64 a2_13, .bool a2_14, .bool a2_15, .bool a2_16, .int .u64 a2_17, .int .u64 a2_18, .int .u64 a2_19, .int .u64 a2_20, .int .u64 a2_21, .int .u64 a2_22, .int .u64 a2_23, .int .u64 a2_24, .int .u64 a2_25, .int .u64 a2_26, .int .u64 a2_27, .int .u64 a2_28, .int .u64 a2_29, .int .u64 a2_30, .int .u64 a2_31, .bool a2_32, .bool a2_33, .bool a2_34, .bool a2_35, .bool a2_36] 55 (0, 0)) (by (with_reducible repeat (first | refine blk_drewN ?_ _ | refine blk_drew ?_ | refine blk_alloc ?_ _)); exact BK220.out) k_ hn_))⟩)) (below_size (by repeat (first | (with_reducible first | exact HB.out | apply below_alloc | apply pw_below_drewN | apply below_drew1 | refine below_set ?_ GE219.out | refine below_set ?_ GE220.out) | exact HB.out)))); have n1_ := Aside0.mk (blk_below (g := gb219) (o := .cells #[.int .i64 a1_0, .int .u64 a1_1, .slice A1_2 l1_2.length c1_2] 53 (0, 0)) (by (with_reducible repeat (first | refine blk_drewN ?_ _ | refine blk_drew ?_ | refine blk_alloc ?_ _)); exact BK219.out) hb); have n2_ := Aside0.mk (blk_below (g := gb220) (o := .cells #[.slice A2_0 l2_0.length c2_0, .int .u64 a2_1, .int .u64 a2_2, .int .u64 a2_3, .int .u64 a2_4, .int .u64 a2_5, .int .u64 a2_6, .int .u64 a2_7, .int .u64 a2_8, .int .u64 a2_9, .int .u64 a2_10, .int .u64 a2_11, .int .u64 a2_12, .int .u64 a2_13, .bool a2_14, .bool a2_15, .bool a2_16, .int .u64 a2_17, .int .u64 a2_18, .int .u64 a2_19, .int .u64 a2_20, .int .u64 a2_21, .int .u64 a2_22, .int .u64 a2_23, .int .u64 a2_24, .int .u64 a2_25, .int .u64 a2_26, .int .u64 a2_27, .int .u64 a2_28, .int .u64 a2_29, .int .u64 a2_30, .int .u64 a2_31, .bool a2_32, .bool a2_33, .bool a2_34, .bool a2_35, .bool a2_36] 55 (0, 0)) (by (with_reducible repeat (first | refine blk_drewN ?_ _ | refine blk_drew ?_ | refine blk_alloc ?_ _)); exact BK220.out) hb); have n3_ := Aside0.mk (below_step (by repeat (first | (with_reducible first | exact HB.out | apply below_alloc | apply pw_below_drewN | apply below_drew1 | refine below_set ?_ GE219.out | refine below_set ?_ GE220.out) | exact HB.out)) hb); clear BK219; clear BK220; clear HB; have HO223 := n0_; have BK219 := n1_; have BK220 := n2_; have HB := n3_; clear n0_ n1_ n2_ n3_; (try clear hb); (try clear hb2); (try clear hk); (try clear hi); (try clear ho0)))
   (try simp only [Act.put, List.setIfInBounds_toArray, List.set_cons_zero, List.set_cons_succ])
   have H := HC11.out
   clear HC11
   by_cases c16 : t224 = 0
   ·rw [if_pos c16] at H
    have c16b0 : (t224 == 0) = true := beq_iff_eq.mpr c16
    have c16b1 : (t224 != 0) = false := bne_eq_false_iff_eq.mpr c16
    clear c16
    (first | rw [c16b0] | (simp only [i64_w, i32_w]; rw [c16b0]) | skip)
    replace H := Option.bind_eq_some_iff.mp H
    obtain ⟨⟨t225, t228⟩, A170, H⟩ := H
    replace H : (if t228 = 0 then (shackleref06_Read.l0 k a3 t221 t225 ([] : List (S68)) 0) else (some (([] : List (S68)), t228))) = some (r1, r2) := H
    have A17 := Aside0.mk A170
    clear A170
    have HC18 := Aside0.mk H
    clear H
    have hnb19 := NB219_220.out
    have hnc19 := NB220_219.out
    have hcz20_0 : w15.cell? ⟨gb219, 0, none⟩ = some (.int .i64 a1_0) := (blk_cell BK219.out 0).trans rfl
    have hcz20_1 : w15.cell? ⟨gb219, 1, none⟩ = some (.int .u64 a1_1) := (blk_cell BK219.out 1).trans rfl
    have hcz20_2 : w15.cell? ⟨gb219, 2, none⟩ = some (.slice A1_2 l1_2.length c1_2) := (blk_cell BK219.out 2).trans rfl
    have hfz20_0 := blk_frozen BK219.out 0
    have hfz20_1 := blk_frozen BK219.out 1
    have hfz20_2 := blk_frozen BK219.out 2
    have hcz21_0 : w15.cell? ⟨gb220, 0, none⟩ = some (.slice A2_0 l2_0.length c2_0) := (blk_cell BK220.out 0).trans rfl
    have hcz21_1 : w15.cell? ⟨gb220, 1, none⟩ = some (.int .u64 a2_1) := (blk_cell BK220.out 1).trans rfl
    have hcz21_2 : w15.cell? ⟨gb220, 2, none⟩ = some (.int .u64 a2_2) := (blk_cell BK220.out 2).trans rfl
    have hcz21_3 : w15.cell? ⟨gb220, 3, none⟩ = some (.int .u64 a2_3) := (blk_cell BK220.out 3).trans rfl
    have hcz21_4 : w15.cell? ⟨gb220, 4, none⟩ = some (.int .u64 a2_4) := (blk_cell BK220.out 4).trans rfl
    have hcz21_5 : w15.cell? ⟨gb220, 5, none⟩ = some (.int .u64 a2_5) := (blk_cell BK220.out 5).trans rfl
    have hcz21_6 : w15.cell? ⟨gb220, 6, none⟩ = some (.int .u64 a2_6) := (blk_cell BK220.out 6).trans rfl
    have hcz21_7 : w15.cell? ⟨gb220, 7, none⟩ = some (.int .u64 a2_7) := (blk_cell BK220.out 7).trans rfl
    have hcz21_8 : w15.cell? ⟨gb220, 8, none⟩ = some (.int .u64 a2_8) := (blk_cell BK220.out 8).trans rfl
    have hcz21_9 : w15.cell? ⟨gb220, 9, none⟩ = some (.int .u64 a2_9) := (blk_cell BK220.out 9).trans rfl
    have hcz21_10 : w15.cell? ⟨gb220, 10, none⟩ = some (.int .u64 a2_10) := (blk_cell BK220.out 10).trans rfl
    have hcz21_11 : w15.cell? ⟨gb220, 11, none⟩ = some (.int .u64 a2_11) := (blk_cell BK220.out 11).trans rfl
    have hcz21_12 : w15.cell? ⟨gb220, 12, none⟩ = some (.int .u64 a2_12) := (blk_cell BK220.out 12).trans rfl
    have hcz21_13 : w15.cell? ⟨gb220, 13, none⟩ = some (.int .u64 a2_13) := (blk_cell BK220.out 13).trans rfl
    have hcz21_14 : w15.cell? ⟨gb220, 14, none⟩ = some (.bool a2_14) := (blk_cell BK220.out 14).trans rfl
    have hcz21_15 : w15.cell? ⟨gb220, 15, none⟩ = some (.bool a2_15) := (blk_cell BK220.out 15).trans rfl
    have hcz21_16 : w15.cell? ⟨gb220, 16, none⟩ = some (.bool a2_16) := (blk_cell BK220.out 16).trans rfl
    have hcz21_17 : w15.cell? ⟨gb220, 17, none⟩ = some (.int .u64 a2_17) := (blk_cell BK220.out 17).trans rfl
    have hcz21_18 : w15.cell? ⟨gb220, 18, none⟩ = some (.int .u64 a2_18) := (blk_cell BK220.out 18).trans rfl
    have hcz21_19 : w15.cell? ⟨gb220, 19, none⟩ = some (.int .u64 a2_19) := (blk_cell BK220.out 19).trans rfl
    have hcz21_20 : w15.cell? ⟨gb220, 20, none⟩ = some (.int .u64 a2_20) := (blk_cell BK220.out 20).trans rfl
    have hcz21_21 : w15.cell? ⟨gb220, 21, none⟩ = some (.int .u64 a2_21) := (blk_cell BK220.out 21).trans rfl
    have hcz21_22 : w15.cell? ⟨gb220, 22, none⟩ = some (.int .u64 a2_22) := (blk_cell BK220.out 22).trans rfl
    have hcz21_23 : w15.cell? ⟨gb220, 23, none⟩ = some (.int .u64 a2_23) := (blk_cell BK220.out 23).trans rfl
    have hcz21_24 : w15.cell? ⟨gb220, 24, none⟩ = some (.int .u64 a2_24) := (blk_cell BK220.out 24).trans rfl
    have hcz21_25 : w15.cell? ⟨gb220, 25, none⟩ = some (.int .u64 a2_25) := (blk_cell BK220.out 25).trans rfl
    have hcz21_26 : w15.cell? ⟨gb220, 26, none⟩ = some (.int .u64 a2_26) := (blk_cell BK220.out 26).trans rfl
    have hcz21_27 : w15.cell? ⟨gb220, 27, none⟩ = some (.int .u64 a2_27) := (blk_cell BK220.out 27).trans rfl
    have hcz21_28 : w15.cell? ⟨gb220, 28, none⟩ = some (.int .u64 a2_28) := (blk_cell BK220.out 28).trans rfl
    have hcz21_29 : w15.cell? ⟨gb220, 29, none⟩ = some (.int .u64 a2_29) := (blk_cell BK220.out 29).trans rfl
    have hcz21_30 : w15.cell? ⟨gb220, 30, none⟩ = some (.int .u64 a2_30) := (blk_cell BK220.out 30).trans rfl
    have hcz21_31 : w15.cell? ⟨gb220, 31, none⟩ = some (.int .u64 a2_31) := (blk_cell BK220.out 31).trans rfl
    have hcz21_32 : w15.cell? ⟨gb220, 32, none⟩ = some (.bool a2_32) := (blk_cell BK220.out 32).trans rfl
    have hcz21_33 : w15.cell? ⟨gb220, 33, none⟩ = some (.bool a2_33) := (blk_cell BK220.out 33).trans rfl
    have hcz21_34 : w15.cell? ⟨gb220, 34, none⟩ = some (.bool a2_34) := (blk_cell BK220.out 34).trans rfl
    have hcz21_35 : w15.cell? ⟨gb220, 35, none⟩ = some (.bool a2_35) := (blk_cell BK220.out 35).trans rfl
    have hcz21_36 : w15.cell? ⟨gb220, 36, none⟩ = some (.bool a2_36) := (blk_cell BK220.out 36).trans rfl
    have hfz21_0 := blk_frozen BK220.out 0
    have hfz21_1 := blk_frozen BK220.out 1
    have hfz21_2 := blk_frozen BK220.out 2
    have hfz21_3 := blk_frozen BK220.out 3
    have hfz21_4 := blk_frozen BK220.out 4
    have hfz21_5 := blk_frozen BK220.out 5
    have hfz21_6 := blk_frozen BK220.out 6
    have hfz21_7 := blk_frozen BK220.out 7
    have hfz21_8 := blk_frozen BK220.out 8
    have hfz21_9 := blk_frozen BK220.out 9
    have hfz21_10 := blk_frozen BK220.out 10
    have hfz21_11 := blk_frozen BK220.out 11
    have hfz21_12 := blk_frozen BK220.out 12
    have hfz21_13 := blk_frozen BK220.out 13
    have hfz21_14 := blk_frozen BK220.out 14
    have hfz21_15 := blk_frozen BK220.out 15
    have hfz21_16 := blk_frozen BK220.out 16
    have hfz21_17 := blk_frozen BK220.out 17
    have hfz21_18 := blk_frozen BK220.out 18
    have hfz21_19 := blk_frozen BK220.out 19
    have hfz21_20 := blk_frozen BK220.out 20
    have hfz21_21 := blk_frozen BK220.out 21
    have hfz21_22 := blk_frozen BK220.out 22
    have hfz21_23 := blk_frozen BK220.out 23
    have hfz21_24 := blk_frozen BK220.out 24
    have hfz21_25 := blk_frozen BK220.out 25
    have hfz21_26 := blk_frozen BK220.out 26
    have hfz21_27 := blk_frozen BK220.out 27
    have hfz21_28 := blk_frozen BK220.out 28
    have hfz21_29 := blk_frozen BK220.out 29
    have hfz21_30 := blk_frozen BK220.out 30
    have hfz21_31 := blk_frozen BK220.out 31
    have hfz21_32 := blk_frozen BK220.out 32
    have hfz21_33 := blk_frozen BK220.out 33
    have hfz21_34 := blk_frozen BK220.out 34
    have hfz21_35 := blk_frozen BK220.out 35
    have hfz21_36 := blk_frozen BK220.out 36
    go_upto_region 9 with (first | ((with_reducible refine gate_ (.load 55 (.tmp 6)) rfl ?_); refine wpList_load_row rfl 55 (.tmp 6) rfl gb220 rfl 55 _ (0, 0) _ (by (with_reducible repeat (first | refine blk_drewN ?_ _ | refine blk_drew ?_ | refine blk_alloc ?_ _)); exact BK220.out) Try.underlying55 rfl (by kernel_rfl) ?_) | ((with_reducible refine gate_callee (f := 47) rfl ?_); refine goesL_ (some 47) rfl rfl Try.func47 (by kernel_rfl) rfl #[.slice A0 l0.length c0, .agg #[.int .i64 a1_0, .int .u64 a1_1, .slice A1_2 l1_2.length c1_2], .int .u64 a2_5, .int .u64 (IntKind.u64.wrap (wrap64 (24 * a3)))] rfl (by (try simp only [List.map_toArray, List.map_cons, List.map_nil]); first | done | rfl | (simp only [List.length_drop, List.length_take]; rfl)) ?_; (with_reducible refine (shackleref05_Slice.calls k (fun k_ => k_ < w.heap.size) _ _ l0 a1_0 a1_1 _ _ l1_2 a2_5 (IntKind.u64.wrap (wrap64 (24 * a3))) t225 t228 _ ?side1 ?side2 ?side3 A17.out).mono ?_); (case side1 => exact Kd.V_mk HC0.out (Kd.F_below (Kd.C_F (Kd.heap_int .u8) HR0.out) (by repeat (first | (with_reducible first | exact HB.out | apply below_alloc | apply pw_below_drewN | apply below_drew1 | refine below_set ?_ GE219.out | refine below_set ?_ GE220.out) | exact HB.out)))); (case side2 => repeat (first | exact (Kd.C_below HR1_2.out HB.out) | (with_reducible refine Kd.C_alloc ?_ _) | (with_reducible refine Kd.C_drewN ?_ _) | (with_reducible refine Kd.C_drew ?_))); (case side3 => exact HC1_2.out); rintro e w22 ⟨v226, rfl, ho0, hb⟩; refine ⟨_, rfl, ?_⟩; have n0_ := Aside0.mk (Kd.V_below (by (with_reducible repeat (first | apply Kd.V_alloc | apply Kd.V_drewN | apply Kd.V_drew)); exact HO223.out) hb); have n1_ := Aside0.mk (Kd.V_lower (Kd.V_mono (ok' := fun k_ => k_ ≠ gb219 ∧ k_ ≠ gb220) ho0 (fun k_ hk_ => ⟨Or.elim hk_ (fun hs_ => fun e_ => Nat.not_le.2 hs_ (by rw [e_]; exact GW219.out)) (fun hn_ => (Kd.freshB (g := gb219) (o := .cells #[.int .i64 a1_0, .int .u64 a1_1, .slice A1_2 l1_2.length c1_2] 53 (0, 0)) (by (with_reducible repeat (first | refine blk_drewN ?_ _ | refine blk_drew ?_ | refine blk_alloc ?_ _)); exact BK219.out) k_ hn_)), Or.elim hk_ (fun hs_ => fun e_ => Nat.not_le.2 hs_ (by rw [e_]; exact GW220.out)) (fun hn_ => (Kd.freshB (g := gb220) (o := .cells #[.slice A2_0 l2_0.length c2_0, .int .u64 a2_1, .int .u64 a2_2, .int .u64 a2_3, .int .u64 a2_4, .int .u64 a2_5, .int .u64 a2_6, .int .u64 a2_7, .int .u64 a2_8, .int .u64 a2_9, .int .u64 a2_10, .int .u64 a2_11, .int .u64 a2_12, .int .u64 a2_13, .bool a2_14, .bool a2_15, .bool a2_16, .int .u64 a2_17, .int .u64 a2_18, .int .u64 a2_19, .int .u64 a2_20, .int .u64 a2_21, .int .u64 a2_22, .int .u64 a2_23, .int .u64 a2_24, .int .u64 a2_25, .int .u64 a2_26, .int .u64 a2_27, .int .u64 a2_28, .int .u64 a2_29, .int .u64 a2_30, .int .u64 a2_31, .bool a2_32, .bool a2_33, .bool a2_34, .bool a2_35, .bool a2_36] 55 (0, 0)) (by (with_reducible repeat (first | refine blk_drewN ?_ _ | refine blk_drew ?_ | refine blk_alloc ?_ _)); exact BK220.out) k_ hn_))⟩)) (below_size (by repeat (first | (with_reducible first | exact HB.out | apply below_alloc | apply pw_below_drewN | apply below_drew1 | refine below_set ?_ GE219.out | refine below_set ?_ GE220.out) | exact HB.out)))); have n2_ := Aside0.mk (blk_below (g := gb219) (o := .cells #[.int .i64 a1_0, .int .u64 a1_1, .slice A1_2 l1_2.length c1_2] 53 (0, 0)) (by (with_reducible repeat (first | refine blk_drewN ?_ _ | refine blk_drew ?_ | refine blk_alloc ?_ _)); exact BK219.out) hb); have n3_ := Aside0.mk (blk_below (g := gb220) (o := .cells #[.slice A2_0 l2_0.length c2_0, .int .u64 a2_1, .int .u64 a2_2, .int .u64 a2_3, .int .u64 a2_4, .int .u64 a2_5, .int .u64 a2_6, .int .u64 a2_7, .int .u64 a2_8, .int .u64 a2_9, .int .u64 a2_10, .int .u64 a2_11, .int .u64 a2_12, .int .u64 a2_13, .bool a2_14, .bool a2_15, .bool a2_16, .int .u64 a2_17, .int .u64 a2_18, .int .u64 a2_19, .int .u64 a2_20, .int .u64 a2_21, .int .u64 a2_22, .int .u64 a2_23, .int .u64 a2_24, .int .u64 a2_25, .int .u64 a2_26, .int .u64 a2_27, .int .u64 a2_28, .int .u64 a2_29, .int .u64 a2_30, .int .u64 a2_31, .bool a2_32, .bool a2_33, .bool a2_34, .bool a2_35, .bool a2_36] 55 (0, 0)) (by (with_reducible repeat (first | refine blk_drewN ?_ _ | refine blk_drew ?_ | refine blk_alloc ?_ _)); exact BK220.out) hb); have n4_ := Aside0.mk (below_step (by repeat (first | (with_reducible first | exact HB.out | apply below_alloc | apply pw_below_drewN | apply below_drew1 | refine below_set ?_ GE219.out | refine below_set ?_ GE220.out) | exact HB.out)) hb); clear HO223; clear BK219; clear BK220; clear HB; have HO223 := n0_; have HO227 := n1_; have BK219 := n2_; have BK220 := n3_; have HB := n4_; clear n0_ n1_ n2_ n3_ n4_; (try clear hb); (try clear hb2); (try clear hk); (try clear hi); (try clear ho0)))
    (try simp only [Act.put, List.setIfInBounds_toArray, List.set_cons_zero, List.set_cons_succ])
    have H := HC18.out
    clear HC18
    by_cases c23 : t228 = 0
    ·rw [if_pos c23] at H
     have c23b0 : (t228 == 0) = true := beq_iff_eq.mpr c23
     have c23b1 : (t228 != 0) = false := bne_eq_false_iff_eq.mpr c23
     clear c23
     (first | rw [c23b0] | (simp only [i64_w, i32_w]; rw [c23b0]) | skip)
     have H' := Aside0.mk H
     clear H
     go_wp2
     go_loopg [14, 15] k (fun kq v14 v15 w' => ∃ (x14_1 : List (S68)) (x15_1 : Int), v15 = .int .i64 x15_1 ∧ Aside0 (shackleref06_Read.l0 kq a3 t221 t225 x14_1 x15_1 = some (r1, r2)) ∧ Aside0 (kq ≤ k) ∧ Aside0 (Kd.V (Kd.int .u8) 5 w' w.heap.size (fun k_ => some k_ ≠ (v14 : Value).ownBlock ∧ k_ ≠ gb219 ∧ k_ ≠ gb220) v222 t221) ∧ Aside0 (Kd.V (Kd.int .u8) 5 w' w.heap.size (fun k_ => some k_ ≠ (v14 : Value).ownBlock ∧ k_ ≠ gb219 ∧ k_ ≠ gb220) v226 t225) ∧ Aside0 (Kd.R k68 68 w' w.heap.size (fun _ => True) v14 x14_1) ∧ Aside0 (w'.heap[gb219]? = some (.cells #[.int .i64 a1_0, .int .u64 a1_1, (.slice A1_2 l1_2.length c1_2)] 53 (0, 0))) ∧ Aside0 (w'.heap[gb220]? = some (.cells #[(.slice A2_0 l2_0.length c2_0), .int .u64 a2_1, .int .u64 a2_2, .int .u64 a2_3, .int .u64 a2_4, .int .u64 a2_5, .int .u64 a2_6, .int .u64 a2_7, .int .u64 a2_8, .int .u64 a2_9, .int .u64 a2_10, .int .u64 a2_11, .int .u64 a2_12, .int .u64 a2_13, .bool a2_14, .bool a2_15, .bool a2_16, .int .u64 a2_17, .int .u64 a2_18, .int .u64 a2_19, .int .u64 a2_20, .int .u64 a2_21, .int .u64 a2_22, .int .u64 a2_23, .int .u64 a2_24, .int .u64 a2_25, .int .u64 a2_26, .int .u64 a2_27, .int .u64 a2_28, .int .u64 a2_29, .int .u64 a2_30, .int .u64 a2_31, .bool a2_32, .bool a2_33, .bool a2_34, .bool a2_35, .bool a2_36] 55 (0, 0))) ∧ Aside0 (Below w.heap.size w w'))
     case atStart => exact ⟨(([] : List (S68))), (0), (by first | rfl | (simp; done) | (simp [*]; done)), H', ⟨Nat.le_refl _⟩, ⟨by (with_reducible repeat (first | apply Kd.V_alloc | apply Kd.V_drewN | apply Kd.V_drew)); exact Kd.V_mono HO223.out (fun _ hk => ⟨(by simp [Value.ownBlock]), ⟨hk.1, hk.2⟩⟩)⟩, ⟨by (with_reducible repeat (first | apply Kd.V_alloc | apply Kd.V_drewN | apply Kd.V_drew)); exact Kd.V_mono HO227.out (fun _ hk => ⟨(by simp [Value.ownBlock]), ⟨hk.1, hk.2⟩⟩)⟩, ⟨by first | exact Kd.R_nil _ _ _ _ _ | exact Kd.N_nil _ _ _ _ _ | exact Kd.V_nil _ _ _ _ _ | exact Kd.Q_nil _ _ _ _ _ | exact Kd.S_nil _ _ _ _ _⟩, ⟨by (with_reducible repeat (first | refine blk_drewN ?_ _ | refine blk_drew ?_ | refine blk_alloc ?_ _)); exact BK219.out⟩, ⟨by (with_reducible repeat (first | refine blk_drewN ?_ _ | refine blk_drew ?_ | refine blk_alloc ?_ _)); exact BK220.out⟩, ⟨by repeat (first | (with_reducible first | exact HB.out | apply below_alloc | apply pw_below_drewN | apply below_drew1 | refine below_set ?_ GE219.out | refine below_set ?_ GE220.out) | exact HB.out)⟩⟩
     case round =>
      clear H'
      try clear c1
      try clear c2
      try clear p2
      try clear c3
      try clear c4
      try clear p6
      try clear c8
      try clear c8b0
      try clear c9
      try clear c9b0
      try clear c12
      try clear c16
      try clear c16b0
      try clear c16b1
      try clear c19
      try clear c23
      try clear c23b0
      try clear c23b1
      try clear hcz13_0
      try clear hcz13_1
      try clear hcz13_2
      try clear hcz14_0
      try clear hcz14_1
      try clear hcz14_10
      try clear hcz14_11
      try clear hcz14_12
      try clear hcz14_13
      try clear hcz14_14
      try clear hcz14_15
      try clear hcz14_16
      try clear hcz14_17
      try clear hcz14_18
      try clear hcz14_19
      try clear hcz14_2
      try clear hcz14_20
      try clear hcz14_21
      try clear hcz14_22
      try clear hcz14_23
      try clear hcz14_24
      try clear hcz14_25
      try clear hcz14_26
      try clear hcz14_27
      try clear hcz14_28
      try clear hcz14_29
      try clear hcz14_3
      try clear hcz14_30
      try clear hcz14_31
      try clear hcz14_32
      try clear hcz14_33
      try clear hcz14_34
      try clear hcz14_35
      try clear hcz14_36
      try clear hcz14_4
      try clear hcz14_5
      try clear hcz14_6
      try clear hcz14_7
      try clear hcz14_8
      try clear hcz14_9
      try clear hcz20_0
      try clear hcz20_1
      try clear hcz20_2
      try clear hcz21_0
      try clear hcz21_1
      try clear hcz21_10
      try clear hcz21_11
      try clear hcz21_12
      try clear hcz21_13
      try clear hcz21_14
      try clear hcz21_15
      try clear hcz21_16
      try clear hcz21_17
      try clear hcz21_18
      try clear hcz21_19
      try clear hcz21_2
      try clear hcz21_20
      try clear hcz21_21
      try clear hcz21_22
      try clear hcz21_23
      try clear hcz21_24
      try clear hcz21_25
      try clear hcz21_26
      try clear hcz21_27
      try clear hcz21_28
      try clear hcz21_29
      try clear hcz21_3
      try clear hcz21_30
      try clear hcz21_31
      try clear hcz21_32
      try clear hcz21_33
      try clear hcz21_34
      try clear hcz21_35
      try clear hcz21_36
      try clear hcz21_4
      try clear hcz21_5
      try clear hcz21_6
      try clear hcz21_7
      try clear hcz21_8
      try clear hcz21_9
      try clear hfz13_0
      try clear hfz13_1
      try clear hfz13_2
      try clear hfz14_0
      try clear hfz14_1
      try clear hfz14_10
      try clear hfz14_11
      try clear hfz14_12
      try clear hfz14_13
      try clear hfz14_14
      try clear hfz14_15
      try clear hfz14_16
      try clear hfz14_17
      try clear hfz14_18
      try clear hfz14_19
      try clear hfz14_2
      try clear hfz14_20
      try clear hfz14_21
      try clear hfz14_22
      try clear hfz14_23
      try clear hfz14_24
      try clear hfz14_25
      try clear hfz14_26
      try clear hfz14_27
      try clear hfz14_28
      try clear hfz14_29
      try clear hfz14_3
      try clear hfz14_30
      try clear hfz14_31
      try clear hfz14_32
      try clear hfz14_33
      try clear hfz14_34
      try clear hfz14_35
      try clear hfz14_36
      try clear hfz14_4
      try clear hfz14_5
      try clear hfz14_6
      try clear hfz14_7
      try clear hfz14_8
      try clear hfz14_9
      try clear hfz20_0
      try clear hfz20_1
      try clear hfz20_2
      try clear hfz21_0
      try clear hfz21_1
      try clear hfz21_10
      try clear hfz21_11
      try clear hfz21_12
      try clear hfz21_13
      try clear hfz21_14
      try clear hfz21_15
      try clear hfz21_16
      try clear hfz21_17
      try clear hfz21_18
      try clear hfz21_19
      try clear hfz21_2
      try clear hfz21_20
      try clear hfz21_21
      try clear hfz21_22
      try clear hfz21_23
      try clear hfz21_24
      try clear hfz21_25
      try clear hfz21_26
      try clear hfz21_27
      try clear hfz21_28
      try clear hfz21_29
      try clear hfz21_3
      try clear hfz21_30
      try clear hfz21_31
      try clear hfz21_32
      try clear hfz21_33
      try clear hfz21_34
      try clear hfz21_35
      try clear hfz21_36
      try clear hfz21_4
      try clear hfz21_5
      try clear hfz21_6
      try clear hfz21_7
      try clear hfz21_8
      try clear hfz21_9
      obtain ⟨x14_1, x15_1, rfl, HA, HK1, HO_10, HO_12, HO_14, BK219, BK220, HB⟩ := hrel
      cases gk with
      | zero => exact absurd HA.out (by simp [shackleref06_Read.l0])
      | succ k1 =>
       have H := HA.out
       clear HA
       simp only [shackleref06_Read.l0] at H
       by_cases c24 : x15_1 < a3
       ·rw [if_pos c24] at H
        have c24b0 : decide (x15_1 < a3) = true := decide_eq_true c24
        clear c24
        obtain ⟨ji25, hji25⟩ : ∃ j_ : Int, (wrap64 (24 * x15_1)) = j_ := ⟨_, rfl⟩
        replace H : (if 0 ≤ (ji25) then (if (ji25) ≤ (wrap64 ((ji25) + 24)) then (if (wrap64 ((ji25) + 24)) ≤ (t225.length : Int) then (shackleref06_Read.l1 k1 a3 t221 t225 x14_1 x15_1 ((t225.take ((wrap64 ((ji25) + 24)) : Int).toNat).drop ((ji25) : Int).toNat) true 0) else (none)) else (none)) else (none)) = some (r1, r2) := by first | (rw [hji25] at H; exact H) | (simp only [hji25] at H ⊢; exact H)
        have hji25w : (IntKind.i64.wrap (24 * x15_1)) = ji25 := (i64_w _).trans hji25
        by_cases c26 : 0 ≤ (ji25)
        ·rw [if_pos c26] at H
         have c26b0 := eq_true c26
         have c26b1 : decide (0 ≤ (ji25)) = true := decide_eq_true c26
         clear c26
         by_cases c27 : (ji25) ≤ (wrap64 ((ji25) + 24))
         ·rw [if_pos c27] at H
          have c27b0 := eq_true c27
          have c27b1 : decide ((ji25) ≤ (wrap64 ((ji25) + 24))) = true := decide_eq_true c27
          by_cases c28 : (wrap64 ((ji25) + 24)) ≤ (t225.length : Int)
          ·rw [if_pos c28] at H
           have c28b0 := eq_true c28
           have c28b1 : decide ((wrap64 ((ji25) + 24)) ≤ (t225.length : Int)) = true := decide_eq_true c28
           obtain ⟨y229, hy229⟩ : ∃ y_ : List Int, y_ = ((t225.take ((wrap64 ((ji25) + 24)) : Int).toNat).drop ((ji25) : Int).toNat) := ⟨_, rfl⟩
           replace H : (shackleref06_Read.l1 k1 a3 t221 t225 x14_1 x15_1 y229 true 0) = some (r1, r2) := by first | (rw [hy229]; with_reducible exact H) | (have H2_ := (Option.bind_some _ _).symm.trans H; rw [hy229]; with_reducible exact H2_) | (have H2_ := (Option.bind_some _ _).symm.trans H; with_reducible exact H2_) | with_reducible exact H | (rw [hy229]; exact H) | exact H
           have Ny229 := Aside0.mk hy229
           clear hy229
           have H' := Aside0.mk H
           clear H
           obtain ⟨Ao30, co30, eo30⟩ := Kd.V_slice HO_12.out
           subst eo30
           have q29 : ((wrap64 ((ji25) + 24)) : Int) ≤ ((t225.length : Int) : Int) := of_decide_eq_true (by assumption)
           obtain ⟨i029, hi029, _, hsz29, _⟩ := info_parts info5
           have hroom29 : t225.length ≤ co30 := (Kd.V_reads' HO_12.out).2.1
           have hC29 : Kd.F (Kd.int .u8) _ _ Ao30 t225.length t225 := (Kd.V_at (base := w.heap.size) HO_12.out).2.2
           have ql29 : ((ji25) : Int) ≤ ((wrap64 ((ji25) + 24)) : Int) := of_decide_eq_true (by assumption)
           have q029 : (0 : Int) ≤ ((ji25) : Int) := of_decide_eq_true (by assumption)
           have hcut29 := cut_mid (P := Try.prog) 22 5 .i64 .i64 Try.underlying22 hi029 1 hsz29 Ao30 t225.length co30 (ji25) (wrap64 ((ji25) + 24)) q029 ql29 q29 hroom29
           have hr29 := Kd.F_mid (lo := ((ji25) : Int).toNat) (hi := ((wrap64 ((ji25) + 24)) : Int).toNat) (c := co30) hC29 (by omega) (by omega) hroom29
           obtain ⟨A29, hA29⟩ : ∃ A1, A1 = (if co30 = ((ji25) : Int).toNat then Ao30 else (Ao30 : Option Addr).map (·.add (((ji25) : Int).toNat * 1))) := ⟨_, rfl⟩
           obtain ⟨c29, hc29⟩ : ∃ c1, c1 = co30 - ((ji25) : Int).toNat := ⟨_, rfl⟩
           have hy29 : y229.length = ((wrap64 ((ji25) + 24)) : Int).toNat - ((ji25) : Int).toNat := (by rw [Ny229.out, List.length_drop, List.length_take] <;> omega)
           rw [show ((t225).take ((wrap64 ((ji25) + 24)) : Int).toNat).drop ((ji25) : Int).toNat = y229 from Ny229.out.symm] at hr29
           replace hr29 : Kd.F (Kd.int .u8) _ _ A29 y229.length y229 := (by rw [hA29]; exact hr29)
           rw [← hy29, ← hA29, ← hc29] at hcut29
           have HO233 := Aside0.mk (show Kd.V (Kd.int .u8) 5 _ w.heap.size _ (.slice A29 y229.length c29) y229 from Kd.V_mk (by rw [hy29, hc29]; exact Nat.sub_le_sub_right (Nat.le_trans (by omega) hroom29) _) hr29)
           have HC233 := Aside0.mk (show y229.length ≤ c29 from by rw [hy29, hc29]; exact Nat.sub_le_sub_right (Nat.le_trans (by omega) hroom29) _)
           clear hr29 hC29 hroom29 hi029 hsz29 hc29
           have KY29 := Aside0.mk hy29
           have KA29 := Aside0.mk hA29
           clear hy29 hA29
           replace q29 := eq_true q29
           go_wp2
           go_loopg [17, 18] k1 (fun kq v17 v18 w' => ∃ (x17_2 : Bool) (x18_2 : Int), v17 = .bool x17_2 ∧ v18 = .int .i64 x18_2 ∧ Aside0 (shackleref06_Read.l1 kq a3 t221 t225 x14_1 x15_1 y229 x17_2 x18_2 = some (r1, r2)) ∧ Aside0 (kq ≤ k1) ∧ Aside0 (Kd.V (Kd.int .u8) 5 w' w.heap.size (fun k_ => some k_ ≠ (u14 : Value).ownBlock ∧ k_ ≠ gb219 ∧ k_ ≠ gb220) v222 t221) ∧ Aside0 (Kd.V (Kd.int .u8) 5 w' w.heap.size (fun k_ => some k_ ≠ (u14 : Value).ownBlock ∧ k_ ≠ gb219 ∧ k_ ≠ gb220) (.slice Ao30 t225.length co30) t225) ∧ Aside0 (Kd.R k68 68 w' w.heap.size (fun _ => True) u14 x14_1) ∧ Aside0 (Kd.V (Kd.int .u8) 5 w' w.heap.size (fun k_ => some k_ ≠ (u14 : Value).ownBlock ∧ k_ ≠ gb219 ∧ k_ ≠ gb220) (.slice A29 y229.length c29) y229) ∧ Aside0 (w'.heap[gb219]? = some (.cells #[.int .i64 a1_0, .int .u64 a1_1, (.slice A1_2 l1_2.length c1_2)] 53 (0, 0))) ∧ Aside0 (w'.heap[gb220]? = some (.cells #[(.slice A2_0 l2_0.length c2_0), .int .u64 a2_1, .int .u64 a2_2, .int .u64 a2_3, .int .u64 a2_4, .int .u64 a2_5, .int .u64 a2_6, .int .u64 a2_7, .int .u64 a2_8, .int .u64 a2_9, .int .u64 a2_10, .int .u64 a2_11, .int .u64 a2_12, .int .u64 a2_13, .bool a2_14, .bool a2_15, .bool a2_16, .int .u64 a2_17, .int .u64 a2_18, .int .u64 a2_19, .int .u64 a2_20, .int .u64 a2_21, .int .u64 a2_22, .int .u64 a2_23, .int .u64 a2_24, .int .u64 a2_25, .int .u64 a2_26, .int .u64 a2_27, .int .u64 a2_28, .int .u64 a2_29, .int .u64 a2_30, .int .u64 a2_31, .bool a2_32, .bool a2_33, .bool a2_34, .bool a2_35, .bool a2_36] 55 (0, 0))) ∧ Aside0 (Below w.heap.size w w'))
           case atStart => exact ⟨(true), (0), (by first | rfl | (simp; done) | (simp [*]; done)), (by first | rfl | (simp; done) | (simp [*]; done)), H', ⟨Nat.le_refl _⟩, ⟨by (with_reducible repeat (first | apply Kd.V_alloc | apply Kd.V_drewN | apply Kd.V_drew)); exact HO_10.out⟩, ⟨by (with_reducible repeat (first | apply Kd.V_alloc | apply Kd.V_drewN | apply Kd.V_drew)); exact HO_12.out⟩, ⟨by (with_reducible repeat (first | apply Kd.R_alloc | apply Kd.R_drewN | apply Kd.R_drew)); exact HO_14.out⟩, ⟨by (with_reducible repeat (first | apply Kd.V_alloc | apply Kd.V_drewN | apply Kd.V_drew)); exact HO233.out⟩, ⟨by (with_reducible repeat (first | refine blk_drewN ?_ _ | refine blk_drew ?_ | refine blk_alloc ?_ _)); exact BK219.out⟩, ⟨by (with_reducible repeat (first | refine blk_drewN ?_ _ | refine blk_drew ?_ | refine blk_alloc ?_ _)); exact BK220.out⟩, ⟨by repeat (first | (with_reducible first | exact HB.out | apply below_alloc | apply pw_below_drewN | apply below_drew1 | refine below_set ?_ GE219.out | refine below_set ?_ GE220.out) | exact HB.out)⟩⟩
           case round =>
            clear H'
            try clear c1
            try clear c2
            try clear p2
            try clear q2
            try clear c3
            try clear c4
            try clear p6
            try clear c8
            try clear c8b0
            try clear c9
            try clear c9b0
            try clear c12
            try clear c16
            try clear c16b0
            try clear c16b1
            try clear c19
            try clear c23
            try clear c23b0
            try clear c23b1
            try clear c24
            try clear c24b0
            try clear c26
            try clear c26b0
            try clear c26b1
            try clear c27
            try clear c27b0
            try clear c27b1
            try clear c28
            try clear c28b0
            try clear c28b1
            try clear c29
            try clear q29
            try clear hcz13_0
            try clear hcz13_1
            try clear hcz13_2
            try clear hcz14_0
            try clear hcz14_1
            try clear hcz14_10
            try clear hcz14_11
            try clear hcz14_12
            try clear hcz14_13
            try clear hcz14_14
            try clear hcz14_15
            try clear hcz14_16
            try clear hcz14_17
            try clear hcz14_18
            try clear hcz14_19
            try clear hcz14_2
            try clear hcz14_20
            try clear hcz14_21
            try clear hcz14_22
            try clear hcz14_23
            try clear hcz14_24
            try clear hcz14_25
            try clear hcz14_26
            try clear hcz14_27
            try clear hcz14_28
            try clear hcz14_29
            try clear hcz14_3
            try clear hcz14_30
            try clear hcz14_31
            try clear hcz14_32
            try clear hcz14_33
            try clear hcz14_34
            try clear hcz14_35
            try clear hcz14_36
            try clear hcz14_4
            try clear hcz14_5
            try clear hcz14_6
            try clear hcz14_7
            try clear hcz14_8
            try clear hcz14_9
            try clear hcz20_0
            try clear hcz20_1
            try clear hcz20_2
            try clear hcz21_0
            try clear hcz21_1
            try clear hcz21_10
            try clear hcz21_11
            try clear hcz21_12
            try clear hcz21_13
            try clear hcz21_14
            try clear hcz21_15
            try clear hcz21_16
            try clear hcz21_17
            try clear hcz21_18
            try clear hcz21_19
            try clear hcz21_2
            try clear hcz21_20
            try clear hcz21_21
            try clear hcz21_22
            try clear hcz21_23
            try clear hcz21_24
            try clear hcz21_25
            try clear hcz21_26
            try clear hcz21_27
            try clear hcz21_28
            try clear hcz21_29
            try clear hcz21_3
            try clear hcz21_30
            try clear hcz21_31
            try clear hcz21_32
            try clear hcz21_33
            try clear hcz21_34
            try clear hcz21_35
            try clear hcz21_36
            try clear hcz21_4
            try clear hcz21_5
            try clear hcz21_6
            try clear hcz21_7
            try clear hcz21_8
            try clear hcz21_9
            try clear hfz13_0
            try clear hfz13_1
            try clear hfz13_2
            try clear hfz14_0
            try clear hfz14_1
            try clear hfz14_10
            try clear hfz14_11
            try clear hfz14_12
            try clear hfz14_13
            try clear hfz14_14
            try clear hfz14_15
            try clear hfz14_16
            try clear hfz14_17
            try clear hfz14_18
            try clear hfz14_19
            try clear hfz14_2
            try clear hfz14_20
            try clear hfz14_21
            try clear hfz14_22
            try clear hfz14_23
            try clear hfz14_24
            try clear hfz14_25
            try clear hfz14_26
            try clear hfz14_27
            try clear hfz14_28
            try clear hfz14_29
            try clear hfz14_3
            try clear hfz14_30
            try clear hfz14_31
            try clear hfz14_32
            try clear hfz14_33
            try clear hfz14_34
            try clear hfz14_35
            try clear hfz14_36
            try clear hfz14_4
            try clear hfz14_5
            try clear hfz14_6
            try clear hfz14_7
            try clear hfz14_8
            try clear hfz14_9
            try clear hfz20_0
            try clear hfz20_1
            try clear hfz20_2
            try clear hfz21_0
            try clear hfz21_1
            try clear hfz21_10
            try clear hfz21_11
            try clear hfz21_12
            try clear hfz21_13
            try clear hfz21_14
            try clear hfz21_15
            try clear hfz21_16
            try clear hfz21_17
            try clear hfz21_18
            try clear hfz21_19
            try clear hfz21_2
            try clear hfz21_20
            try clear hfz21_21
            try clear hfz21_22
            try clear hfz21_23
            try clear hfz21_24
            try clear hfz21_25
            try clear hfz21_26
            try clear hfz21_27
            try clear hfz21_28
            try clear hfz21_29
            try clear hfz21_3
            try clear hfz21_30
            try clear hfz21_31
            try clear hfz21_32
            try clear hfz21_33
            try clear hfz21_34
            try clear hfz21_35
            try clear hfz21_36
            try clear hfz21_4
            try clear hfz21_5
            try clear hfz21_6
            try clear hfz21_7
            try clear hfz21_8
            try clear hfz21_9
            try clear p2
            try clear p6
            try clear q029
            try clear q29
            obtain ⟨x17_2, x18_2, rfl, rfl, HA, HK2, HO_10, HO_12, HO_14, HO_16, BK219, BK220, HB⟩ := hrel
            cases gk with
            | zero => exact absurd HA.out (by simp [shackleref06_Read.l1])
            | succ k2 =>
             have H := HA.out
             clear HA
             simp only [shackleref06_Read.l1] at H
             by_cases c31 : x18_2 < 24
             ·rw [if_pos c31] at H
              have c31b0 : decide (x18_2 < 24) = true := decide_eq_true c31
              clear c31
              by_cases c32 : x17_2 = true
              ·subst c32
               have H1 : (if 0 ≤ x18_2 then (if x18_2 < (y229.length : Int) then (shackleref06_Read.l1 k2 a3 t221 t225 x14_1 x15_1 y229 ((rd y229 x18_2) == 0) (wrap64 (x18_2 + 1))) else (none)) else (none)) = some (r1, r2) := by rw [if_pos rfl] at H; exact H
               clear H
               have H := H1
               clear H1
               by_cases c33 : 0 ≤ x18_2
               ·rw [if_pos c33] at H
                have c33b0 : decide (0 ≤ x18_2) = true := decide_eq_true c33
                clear c33
                by_cases c34 : x18_2 < (y229.length : Int)
                ·rw [if_pos c34] at H
                 have c34b0 : decide (x18_2 < (y229.length : Int)) = true := decide_eq_true c34
                 clear c34
                 have H' := Aside0.mk H
                 clear H
                 have p234 : 0 ≤ (x18_2 : Int) := of_decide_eq_true (by assumption)
                 have q234 : x18_2 < (y229.length : Int) := of_decide_eq_true (by assumption)
                 obtain ⟨ad234, e234, hx234_0⟩ := Kd.at_int (Kd.V_reads' HO_16.out).2.2 x18_2 p234 q234
                 cases e234
                 replace p234 := eq_true p234
                 replace q234 := eq_true q234
                 go_wp2
                 go_roundg k2
                 case measure => have := HK1.out; have := HK2.out; omega
                 case rel => exact ⟨(((rd y229 x18_2) == 0)), (wrap64 (x18_2 + 1)), (by first | rfl | (simp; done) | (simp [*]; done)), (by first | rfl | (simp; done) | (simp [*]; done)), H', ⟨by have := HK1.out; have := HK2.out; omega⟩, ⟨by (with_reducible repeat (first | apply Kd.V_alloc | apply Kd.V_drewN | apply Kd.V_drew)); exact HO_10.out⟩, ⟨by (with_reducible repeat (first | apply Kd.V_alloc | apply Kd.V_drewN | apply Kd.V_drew)); exact HO_12.out⟩, ⟨by (with_reducible repeat (first | apply Kd.R_alloc | apply Kd.R_drewN | apply Kd.R_drew)); exact HO_14.out⟩, ⟨by (with_reducible repeat (first | apply Kd.V_alloc | apply Kd.V_drewN | apply Kd.V_drew)); exact HO_16.out⟩, ⟨by (with_reducible repeat (first | refine blk_drewN ?_ _ | refine blk_drew ?_ | refine blk_alloc ?_ _)); exact BK219.out⟩, ⟨by (with_reducible repeat (first | refine blk_drewN ?_ _ | refine blk_drew ?_ | refine blk_alloc ?_ _)); exact BK220.out⟩, ⟨by repeat (first | (with_reducible first | exact HB.out | apply below_alloc | apply pw_below_drewN | apply below_drew1 | refine below_set ?_ GE219.out | refine below_set ?_ GE220.out) | exact HB.out)⟩⟩
                ·rw [if_neg c34] at H
                 exact absurd H (by simp)
               ·rw [if_neg c33] at H
                exact absurd H (by simp)
              ·replace c32 := Bool.eq_false_iff.mpr c32
               subst c32
               have H1 : (shackleref06_Read.l1 k2 a3 t221 t225 x14_1 x15_1 y229 false (wrap64 (x18_2 + 1))) = some (r1, r2) := by rw [if_neg (show ¬ (false = true) by decide)] at H; exact H
               clear H
               have H := H1
               clear H1
               have H' := Aside0.mk H
               clear H
               go_wp2
               go_roundg k2
               case measure => have := HK1.out; have := HK2.out; omega
               case rel => exact ⟨(false), (wrap64 (x18_2 + 1)), (by first | rfl | (simp; done) | (simp [*]; done)), (by first | rfl | (simp; done) | (simp [*]; done)), H', ⟨by have := HK1.out; have := HK2.out; omega⟩, ⟨by (with_reducible repeat (first | apply Kd.V_alloc | apply Kd.V_drewN | apply Kd.V_drew)); exact HO_10.out⟩, ⟨by (with_reducible repeat (first | apply Kd.V_alloc | apply Kd.V_drewN | apply Kd.V_drew)); exact HO_12.out⟩, ⟨by (with_reducible repeat (first | apply Kd.R_alloc | apply Kd.R_drewN | apply Kd.R_drew)); exact HO_14.out⟩, ⟨by (with_reducible repeat (first | apply Kd.V_alloc | apply Kd.V_drewN | apply Kd.V_drew)); exact HO_16.out⟩, ⟨by (with_reducible repeat (first | refine blk_drewN ?_ _ | refine blk_drew ?_ | refine blk_alloc ?_ _)); exact BK219.out⟩, ⟨by (with_reducible repeat (first | refine blk_drewN ?_ _ | refine blk_drew ?_ | refine blk_alloc ?_ _)); exact BK220.out⟩, ⟨by repeat (first | (with_reducible first | exact HB.out | apply below_alloc | apply pw_below_drewN | apply below_drew1 | refine below_set ?_ GE219.out | refine below_set ?_ GE220.out) | exact HB.out)⟩⟩
             ·rw [if_neg c31] at H
              have c31b0 : decide (x18_2 < 24) = false := decide_eq_false c31
              clear c31
              have HC35 := Aside0.mk H
              clear H
              go_upto_region 21 with (fail)
              go_cut [82] (fun v82 wc => ∃ (kq : Nat) (x82_34 : Bool), v82 = .bool x82_34 ∧ Aside0 (shackleref06_Read.j2 kq a3 t221 t225 x14_1 x15_1 y229 x82_34 = some (r1, r2)) ∧ Aside0 (kq ≤ k2) ∧ Aside0 (Kd.V (Kd.int .u8) 5 wc w.heap.size (fun k_ => some k_ ≠ (u14 : Value).ownBlock ∧ k_ ≠ gb219 ∧ k_ ≠ gb220) v222 t221) ∧ Aside0 (Kd.V (Kd.int .u8) 5 wc w.heap.size (fun k_ => some k_ ≠ (u14 : Value).ownBlock ∧ k_ ≠ gb219 ∧ k_ ≠ gb220) (.slice Ao30 t225.length co30) t225) ∧ Aside0 (Kd.R k68 68 wc w.heap.size (fun _ => True) u14 x14_1) ∧ Aside0 (Kd.V (Kd.int .u8) 5 wc w.heap.size (fun k_ => some k_ ≠ (u14 : Value).ownBlock ∧ k_ ≠ gb219 ∧ k_ ≠ gb220) (.slice A29 y229.length c29) y229) ∧ Aside0 (wc.heap[gb219]? = some (.cells #[.int .i64 a1_0, .int .u64 a1_1, (.slice A1_2 l1_2.length c1_2)] 53 (0, 0))) ∧ Aside0 (wc.heap[gb220]? = some (.cells #[(.slice A2_0 l2_0.length c2_0), .int .u64 a2_1, .int .u64 a2_2, .int .u64 a2_3, .int .u64 a2_4, .int .u64 a2_5, .int .u64 a2_6, .int .u64 a2_7, .int .u64 a2_8, .int .u64 a2_9, .int .u64 a2_10, .int .u64 a2_11, .int .u64 a2_12, .int .u64 a2_13, .bool a2_14, .bool a2_15, .bool a2_16, .int .u64 a2_17, .int .u64 a2_18, .int .u64 a2_19, .int .u64 a2_20, .int .u64 a2_21, .int .u64 a2_22, .int .u64 a2_23, .int .u64 a2_24, .int .u64 a2_25, .int .u64 a2_26, .int .u64 a2_27, .int .u64 a2_28, .int .u64 a2_29, .int .u64 a2_30, .int .u64 a2_31, .bool a2_32, .bool a2_33, .bool a2_34, .bool a2_35, .bool a2_36] 55 (0, 0))) ∧ Aside0 (Below w.heap.size w wc))
              case first =>
               have H := HC35.out
               clear HC35
               by_cases c36 : x15_1 = 0
               ·rw [if_pos c36] at H
                have c36b0 : (x15_1 == 0) = true := beq_iff_eq.mpr c36
                have c36b1 : (x15_1 != 0) = false := bne_eq_false_iff_eq.mpr c36
                clear c36
                (first | rw [c36b0] | (simp only [i64_w, i32_w]; rw [c36b0]) | skip)
                have H' := Aside0.mk H
                clear H
                go_wp2
                go_meet
                case rel => exact ⟨_, (!x17_2), (by first | rfl | (simp; done) | (simp [*]; done)), H', ⟨by have := HK1.out; have := HK2.out; first | omega | exact Nat.le_refl _⟩, ⟨by (with_reducible repeat (first | apply Kd.V_alloc | apply Kd.V_drewN | apply Kd.V_drew)); exact HO_10.out⟩, ⟨by (with_reducible repeat (first | apply Kd.V_alloc | apply Kd.V_drewN | apply Kd.V_drew)); exact HO_12.out⟩, ⟨by (with_reducible repeat (first | apply Kd.R_alloc | apply Kd.R_drewN | apply Kd.R_drew)); exact HO_14.out⟩, ⟨by (with_reducible repeat (first | apply Kd.V_alloc | apply Kd.V_drewN | apply Kd.V_drew)); exact HO_16.out⟩, ⟨by (with_reducible repeat (first | refine blk_drewN ?_ _ | refine blk_drew ?_ | refine blk_alloc ?_ _)); exact BK219.out⟩, ⟨by (with_reducible repeat (first | refine blk_drewN ?_ _ | refine blk_drew ?_ | refine blk_alloc ?_ _)); exact BK220.out⟩, ⟨by repeat (first | (with_reducible first | exact HB.out | apply below_alloc | apply pw_below_drewN | apply below_drew1 | refine below_set ?_ GE219.out | refine below_set ?_ GE220.out) | exact HB.out)⟩⟩
               ·rw [if_neg c36] at H
                have c36b0 : (x15_1 == 0) = false := beq_eq_false_iff_ne.mpr c36
                have c36b1 : (x15_1 != 0) = true := bne_iff_ne.mpr c36
                (first | rw [c36b0] | (simp only [i64_w, i32_w]; rw [c36b0]) | skip)
                have H' := Aside0.mk H
                clear H
                go_wp2
                go_meet
                case rel => exact ⟨_, (false), (by first | rfl | (simp; done) | (simp [*]; done)), H', ⟨by have := HK1.out; have := HK2.out; first | omega | exact Nat.le_refl _⟩, ⟨by (with_reducible repeat (first | apply Kd.V_alloc | apply Kd.V_drewN | apply Kd.V_drew)); exact HO_10.out⟩, ⟨by (with_reducible repeat (first | apply Kd.V_alloc | apply Kd.V_drewN | apply Kd.V_drew)); exact HO_12.out⟩, ⟨by (with_reducible repeat (first | apply Kd.R_alloc | apply Kd.R_drewN | apply Kd.R_drew)); exact HO_14.out⟩, ⟨by (with_reducible repeat (first | apply Kd.V_alloc | apply Kd.V_drewN | apply Kd.V_drew)); exact HO_16.out⟩, ⟨by (with_reducible repeat (first | refine blk_drewN ?_ _ | refine blk_drew ?_ | refine blk_alloc ?_ _)); exact BK219.out⟩, ⟨by (with_reducible repeat (first | refine blk_drewN ?_ _ | refine blk_drew ?_ | refine blk_alloc ?_ _)); exact BK220.out⟩, ⟨by repeat (first | (with_reducible first | exact HB.out | apply below_alloc | apply pw_below_drewN | apply below_drew1 | refine below_set ?_ GE219.out | refine below_set ?_ GE220.out) | exact HB.out)⟩⟩
              case rest =>
               clear HC35
               try clear c1
               try clear c2
               try clear p2
               try clear q2
               try clear hx2
               try clear c3
               try clear c4
               try clear p6
               try clear c8
               try clear c8b0
               try clear c9
               try clear c9b0
               try clear c12
               try clear c16
               try clear c16b0
               try clear c16b1
               try clear c19
               try clear c23
               try clear c23b0
               try clear c23b1
               try clear p23
               try clear q23
               try clear hx23
               try clear c24
               try clear c24b0
               try clear c26
               try clear c26b0
               try clear c26b1
               try clear c27
               try clear c27b0
               try clear c27b1
               try clear c28
               try clear c28b0
               try clear c28b1
               try clear c29
               try clear q29
               try clear c31
               try clear c31b0
               try clear c32
               try clear c33
               try clear c33b0
               try clear c34
               try clear c34b0
               try clear c36
               try clear c36b0
               try clear c36b1
               try clear hcz13_0
               try clear hcz13_1
               try clear hcz13_2
               try clear hcz14_0
               try clear hcz14_1
               try clear hcz14_10
               try clear hcz14_11
               try clear hcz14_12
               try clear hcz14_13
               try clear hcz14_14
               try clear hcz14_15
               try clear hcz14_16
               try clear hcz14_17
               try clear hcz14_18
               try clear hcz14_19
               try clear hcz14_2
               try clear hcz14_20
               try clear hcz14_21
               try clear hcz14_22
               try clear hcz14_23
               try clear hcz14_24
               try clear hcz14_25
               try clear hcz14_26
               try clear hcz14_27
               try clear hcz14_28
               try clear hcz14_29
               try clear hcz14_3
               try clear hcz14_30
               try clear hcz14_31
               try clear hcz14_32
               try clear hcz14_33
               try clear hcz14_34
               try clear hcz14_35
               try clear hcz14_36
               try clear hcz14_4
               try clear hcz14_5
               try clear hcz14_6
               try clear hcz14_7
               try clear hcz14_8
               try clear hcz14_9
               try clear hcz20_0
               try clear hcz20_1
               try clear hcz20_2
               try clear hcz21_0
               try clear hcz21_1
               try clear hcz21_10
               try clear hcz21_11
               try clear hcz21_12
               try clear hcz21_13
               try clear hcz21_14
               try clear hcz21_15
               try clear hcz21_16
               try clear hcz21_17
               try clear hcz21_18
               try clear hcz21_19
               try clear hcz21_2
               try clear hcz21_20
               try clear hcz21_21
               try clear hcz21_22
               try clear hcz21_23
               try clear hcz21_24
               try clear hcz21_25
               try clear hcz21_26
               try clear hcz21_27
               try clear hcz21_28
               try clear hcz21_29
               try clear hcz21_3
               try clear hcz21_30
               try clear hcz21_31
               try clear hcz21_32
               try clear hcz21_33
               try clear hcz21_34
               try clear hcz21_35
               try clear hcz21_36
               try clear hcz21_4
               try clear hcz21_5
               try clear hcz21_6
               try clear hcz21_7
               try clear hcz21_8
               try clear hcz21_9
               try clear hfz13_0
               try clear hfz13_1
               try clear hfz13_2
               try clear hfz14_0
               try clear hfz14_1
               try clear hfz14_10
               try clear hfz14_11
               try clear hfz14_12
               try clear hfz14_13
               try clear hfz14_14
               try clear hfz14_15
               try clear hfz14_16
               try clear hfz14_17
               try clear hfz14_18
               try clear hfz14_19
               try clear hfz14_2
               try clear hfz14_20
               try clear hfz14_21
               try clear hfz14_22
               try clear hfz14_23
               try clear hfz14_24
               try clear hfz14_25
               try clear hfz14_26
               try clear hfz14_27
               try clear hfz14_28
               try clear hfz14_29
               try clear hfz14_3
               try clear hfz14_30
               try clear hfz14_31
               try clear hfz14_32
               try clear hfz14_33
               try clear hfz14_34
               try clear hfz14_35
               try clear hfz14_36
               try clear hfz14_4
               try clear hfz14_5
               try clear hfz14_6
               try clear hfz14_7
               try clear hfz14_8
               try clear hfz14_9
               try clear hfz20_0
               try clear hfz20_1
               try clear hfz20_2
               try clear hfz21_0
               try clear hfz21_1
               try clear hfz21_10
               try clear hfz21_11
               try clear hfz21_12
               try clear hfz21_13
               try clear hfz21_14
               try clear hfz21_15
               try clear hfz21_16
               try clear hfz21_17
               try clear hfz21_18
               try clear hfz21_19
               try clear hfz21_2
               try clear hfz21_20
               try clear hfz21_21
               try clear hfz21_22
               try clear hfz21_23
               try clear hfz21_24
               try clear hfz21_25
               try clear hfz21_26
               try clear hfz21_27
               try clear hfz21_28
               try clear hfz21_29
               try clear hfz21_3
               try clear hfz21_30
               try clear hfz21_31
               try clear hfz21_32
               try clear hfz21_33
               try clear hfz21_34
               try clear hfz21_35
               try clear hfz21_36
               try clear hfz21_4
               try clear hfz21_5
               try clear hfz21_6
               try clear hfz21_7
               try clear hfz21_8
               try clear hfz21_9
               try clear hx234_0
               try clear p2
               try clear p234
               try clear p6
               try clear q029
               try clear q2
               try clear q234
               try clear q29
               obtain ⟨kq, x82_34, rfl, HA, HJ34, HO_10, HO_12, HO_14, HO_16, BK219, BK220, HB⟩ := hcut
               cases kq with
               | zero => exact absurd HA.out (by simp [shackleref06_Read.j2])
               | succ kj34 =>
                have H := HA.out
                clear HA
                simp only [shackleref06_Read.j2] at H
                by_cases c37 : x82_34 = true
                ·subst c37
                 have H1 : (some (([] : List (S68)), 3)) = some (r1, r2) := by rw [if_pos rfl] at H; exact H
                 clear H
                 have H := H1
                 clear H1
                 simp only [Option.some.injEq, Prod.mk.injEq] at H
                 obtain ⟨rfl, rfl⟩ := H
                 go_wp2
                 go_ret2
                 exact ⟨_, by first | rfl | (simp [errW_none, errW_some] <;> rfl) | (simp only [← hji25]; first | rfl | (simp [errW_none, errW_some] <;> rfl)) | (simp [*, errW_none, errW_some] <;> rfl), by first | exact Kd.R_nil _ _ _ _ _ | exact Kd.N_nil _ _ _ _ _ | exact Kd.V_nil _ _ _ _ _ | exact Kd.Q_nil _ _ _ _ _ | exact Kd.S_nil _ _ _ _ _, by repeat (first | (with_reducible first | exact HB.out | apply below_alloc | apply pw_below_drewN | apply below_drew1 | refine below_set ?_ GE219.out | refine below_set ?_ GE220.out) | exact HB.out)⟩
                ·replace c37 := Bool.eq_false_iff.mpr c37
                 subst c37
                 have H1 : (if 4 ≤ (y229.length : Int) then ((shackleref05_Number.f kj34 (y229.take 4)).bind fun t240 => ((shackleref06_Text.f kj34 t221 t240).bind fun bt241 => (if bt241.2 = 0 then (if 4 < (y229.length : Int) then (if (wrap64 (Int.tdiv (wrap64 (rd y229 4)) 16)) > 2 then (shackleref06_Read.j3 kj34 a3 t221 t225 x14_1 x15_1 y229 bt241.1 (wrap64 (Int.tdiv (wrap64 (rd y229 4)) 16)) (Int.tmod (wrap64 (rd y229 4)) 16) true) else (if (Int.tmod (wrap64 (rd y229 4)) 16) = 0 then (shackleref06_Read.j3 kj34 a3 t221 t225 x14_1 x15_1 y229 bt241.1 (wrap64 (Int.tdiv (wrap64 (rd y229 4)) 16)) (Int.tmod (wrap64 (rd y229 4)) 16) false) else (if (Int.tmod (wrap64 (rd y229 4)) 16) = 1 then (shackleref06_Read.j3 kj34 a3 t221 t225 x14_1 x15_1 y229 bt241.1 (wrap64 (Int.tdiv (wrap64 (rd y229 4)) 16)) (Int.tmod (wrap64 (rd y229 4)) 16) false) else (if (Int.tmod (wrap64 (rd y229 4)) 16) = 2 then (shackleref06_Read.j3 kj34 a3 t221 t225 x14_1 x15_1 y229 bt241.1 (wrap64 (Int.tdiv (wrap64 (rd y229 4)) 16)) (Int.tmod (wrap64 (rd y229 4)) 16) false) else (if (Int.tmod (wrap64 (rd y229 4)) 16) = 3 then (shackleref06_Read.j3 kj34 a3 t221 t225 x14_1 x15_1 y229 bt241.1 (wrap64 (Int.tdiv (wrap64 (rd y229 4)) 16)) (Int.tmod (wrap64 (rd y229 4)) 16) false) else (if (Int.tmod (wrap64 (rd y229 4)) 16) = 4 then (shackleref06_Read.j3 kj34 a3 t221 t225 x14_1 x15_1 y229 bt241.1 (wrap64 (Int.tdiv (wrap64 (rd y229 4)) 16)) (Int.tmod (wrap64 (rd y229 4)) 16) false) else (if (Int.tmod (wrap64 (rd y229 4)) 16) = 6 then (shackleref06_Read.j3 kj34 a3 t221 t225 x14_1 x15_1 y229 bt241.1 (wrap64 (Int.tdiv (wrap64 (rd y229 4)) 16)) (Int.tmod (wrap64 (rd y229 4)) 16) false) else (shackleref06_Read.j3 kj34 a3 t221 t225 x14_1 x15_1 y229 bt241.1 (wrap64 (Int.tdiv (wrap64 (rd y229 4)) 16)) (Int.tmod (wrap64 (rd y229 4)) 16) ((Int.tmod (wrap64 (rd y229 4)) 16) != 10))))))))) else (none)) else (some (([] : List (S68)), bt241.2))))) else (none)) = some (r1, r2) := by rw [if_neg (show ¬ (false = true) by decide)] at H; exact H
                 clear H
                 have H := H1
                 clear H1
                 by_cases c38 : 4 ≤ (y229.length : Int)
                 ·rw [if_pos c38] at H
                  have c38b0 := eq_true c38
                  have c38b1 : decide (4 ≤ (y229.length : Int)) = true := decide_eq_true c38
                  clear c38
                  obtain ⟨y235, hy235⟩ : ∃ y_ : List Int, y_ = (y229.take 4) := ⟨_, rfl⟩
                  replace H : ((shackleref05_Number.f kj34 y235).bind fun t240 => ((shackleref06_Text.f kj34 t221 t240).bind fun bt241 => (if bt241.2 = 0 then (if 4 < (y229.length : Int) then (if (wrap64 (Int.tdiv (wrap64 (rd y229 4)) 16)) > 2 then (shackleref06_Read.j3 kj34 a3 t221 t225 x14_1 x15_1 y229 bt241.1 (wrap64 (Int.tdiv (wrap64 (rd y229 4)) 16)) (Int.tmod (wrap64 (rd y229 4)) 16) true) else (if (Int.tmod (wrap64 (rd y229 4)) 16) = 0 then (shackleref06_Read.j3 kj34 a3 t221 t225 x14_1 x15_1 y229 bt241.1 (wrap64 (Int.tdiv (wrap64 (rd y229 4)) 16)) (Int.tmod (wrap64 (rd y229 4)) 16) false) else (if (Int.tmod (wrap64 (rd y229 4)) 16) = 1 then (shackleref06_Read.j3 kj34 a3 t221 t225 x14_1 x15_1 y229 bt241.1 (wrap64 (Int.tdiv (wrap64 (rd y229 4)) 16)) (Int.tmod (wrap64 (rd y229 4)) 16) false) else (if (Int.tmod (wrap64 (rd y229 4)) 16) = 2 then (shackleref06_Read.j3 kj34 a3 t221 t225 x14_1 x15_1 y229 bt241.1 (wrap64 (Int.tdiv (wrap64 (rd y229 4)) 16)) (Int.tmod (wrap64 (rd y229 4)) 16) false) else (if (Int.tmod (wrap64 (rd y229 4)) 16) = 3 then (shackleref06_Read.j3 kj34 a3 t221 t225 x14_1 x15_1 y229 bt241.1 (wrap64 (Int.tdiv (wrap64 (rd y229 4)) 16)) (Int.tmod (wrap64 (rd y229 4)) 16) false) else (if (Int.tmod (wrap64 (rd y229 4)) 16) = 4 then (shackleref06_Read.j3 kj34 a3 t221 t225 x14_1 x15_1 y229 bt241.1 (wrap64 (Int.tdiv (wrap64 (rd y229 4)) 16)) (Int.tmod (wrap64 (rd y229 4)) 16) false) else (if (Int.tmod (wrap64 (rd y229 4)) 16) = 6 then (shackleref06_Read.j3 kj34 a3 t221 t225 x14_1 x15_1 y229 bt241.1 (wrap64 (Int.tdiv (wrap64 (rd y229 4)) 16)) (Int.tmod (wrap64 (rd y229 4)) 16) false) else (shackleref06_Read.j3 kj34 a3 t221 t225 x14_1 x15_1 y229 bt241.1 (wrap64 (Int.tdiv (wrap64 (rd y229 4)) 16)) (Int.tmod (wrap64 (rd y229 4)) 16) ((Int.tmod (wrap64 (rd y229 4)) 16) != 10))))))))) else (none)) else (some (([] : List (S68)), bt241.2))))) = some (r1, r2) := by first | (rw [hy235]; with_reducible exact H) | (have H2_ := (Option.bind_some _ _).symm.trans H; rw [hy235]; with_reducible exact H2_) | (have H2_ := (Option.bind_some _ _).symm.trans H; with_reducible exact H2_) | with_reducible exact H | (rw [hy235]; exact H) | exact H
                  have Ny235 := Aside0.mk hy235
                  clear hy235
                  replace H := Option.bind_eq_some_iff.mp H
                  obtain ⟨t240, A390, H⟩ := H
                  replace H : ((shackleref06_Text.f kj34 t221 t240).bind fun bt241 => (if bt241.2 = 0 then (if 4 < (y229.length : Int) then (if (wrap64 (Int.tdiv (wrap64 (rd y229 4)) 16)) > 2 then (shackleref06_Read.j3 kj34 a3 t221 t225 x14_1 x15_1 y229 bt241.1 (wrap64 (Int.tdiv (wrap64 (rd y229 4)) 16)) (Int.tmod (wrap64 (rd y229 4)) 16) true) else (if (Int.tmod (wrap64 (rd y229 4)) 16) = 0 then (shackleref06_Read.j3 kj34 a3 t221 t225 x14_1 x15_1 y229 bt241.1 (wrap64 (Int.tdiv (wrap64 (rd y229 4)) 16)) (Int.tmod (wrap64 (rd y229 4)) 16) false) else (if (Int.tmod (wrap64 (rd y229 4)) 16) = 1 then (shackleref06_Read.j3 kj34 a3 t221 t225 x14_1 x15_1 y229 bt241.1 (wrap64 (Int.tdiv (wrap64 (rd y229 4)) 16)) (Int.tmod (wrap64 (rd y229 4)) 16) false) else (if (Int.tmod (wrap64 (rd y229 4)) 16) = 2 then (shackleref06_Read.j3 kj34 a3 t221 t225 x14_1 x15_1 y229 bt241.1 (wrap64 (Int.tdiv (wrap64 (rd y229 4)) 16)) (Int.tmod (wrap64 (rd y229 4)) 16) false) else (if (Int.tmod (wrap64 (rd y229 4)) 16) = 3 then (shackleref06_Read.j3 kj34 a3 t221 t225 x14_1 x15_1 y229 bt241.1 (wrap64 (Int.tdiv (wrap64 (rd y229 4)) 16)) (Int.tmod (wrap64 (rd y229 4)) 16) false) else (if (Int.tmod (wrap64 (rd y229 4)) 16) = 4 then (shackleref06_Read.j3 kj34 a3 t221 t225 x14_1 x15_1 y229 bt241.1 (wrap64 (Int.tdiv (wrap64 (rd y229 4)) 16)) (Int.tmod (wrap64 (rd y229 4)) 16) false) else (if (Int.tmod (wrap64 (rd y229 4)) 16) = 6 then (shackleref06_Read.j3 kj34 a3 t221 t225 x14_1 x15_1 y229 bt241.1 (wrap64 (Int.tdiv (wrap64 (rd y229 4)) 16)) (Int.tmod (wrap64 (rd y229 4)) 16) false) else (shackleref06_Read.j3 kj34 a3 t221 t225 x14_1 x15_1 y229 bt241.1 (wrap64 (Int.tdiv (wrap64 (rd y229 4)) 16)) (Int.tmod (wrap64 (rd y229 4)) 16) ((Int.tmod (wrap64 (rd y229 4)) 16) != 10))))))))) else (none)) else (some (([] : List (S68)), bt241.2)))) = some (r1, r2) := H
                  have A39 := Aside0.mk A390
                  clear A390
                  replace H := Option.bind_eq_some_iff.mp H
                  obtain ⟨⟨t241, t242⟩, A400, H⟩ := H
                  replace H : (if t242 = 0 then (if 4 < (y229.length : Int) then (if (wrap64 (Int.tdiv (wrap64 (rd y229 4)) 16)) > 2 then (shackleref06_Read.j3 kj34 a3 t221 t225 x14_1 x15_1 y229 t241 (wrap64 (Int.tdiv (wrap64 (rd y229 4)) 16)) (Int.tmod (wrap64 (rd y229 4)) 16) true) else (if (Int.tmod (wrap64 (rd y229 4)) 16) = 0 then (shackleref06_Read.j3 kj34 a3 t221 t225 x14_1 x15_1 y229 t241 (wrap64 (Int.tdiv (wrap64 (rd y229 4)) 16)) (Int.tmod (wrap64 (rd y229 4)) 16) false) else (if (Int.tmod (wrap64 (rd y229 4)) 16) = 1 then (shackleref06_Read.j3 kj34 a3 t221 t225 x14_1 x15_1 y229 t241 (wrap64 (Int.tdiv (wrap64 (rd y229 4)) 16)) (Int.tmod (wrap64 (rd y229 4)) 16) false) else (if (Int.tmod (wrap64 (rd y229 4)) 16) = 2 then (shackleref06_Read.j3 kj34 a3 t221 t225 x14_1 x15_1 y229 t241 (wrap64 (Int.tdiv (wrap64 (rd y229 4)) 16)) (Int.tmod (wrap64 (rd y229 4)) 16) false) else (if (Int.tmod (wrap64 (rd y229 4)) 16) = 3 then (shackleref06_Read.j3 kj34 a3 t221 t225 x14_1 x15_1 y229 t241 (wrap64 (Int.tdiv (wrap64 (rd y229 4)) 16)) (Int.tmod (wrap64 (rd y229 4)) 16) false) else (if (Int.tmod (wrap64 (rd y229 4)) 16) = 4 then (shackleref06_Read.j3 kj34 a3 t221 t225 x14_1 x15_1 y229 t241 (wrap64 (Int.tdiv (wrap64 (rd y229 4)) 16)) (Int.tmod (wrap64 (rd y229 4)) 16) false) else (if (Int.tmod (wrap64 (rd y229 4)) 16) = 6 then (shackleref06_Read.j3 kj34 a3 t221 t225 x14_1 x15_1 y229 t241 (wrap64 (Int.tdiv (wrap64 (rd y229 4)) 16)) (Int.tmod (wrap64 (rd y229 4)) 16) false) else (shackleref06_Read.j3 kj34 a3 t221 t225 x14_1 x15_1 y229 t241 (wrap64 (Int.tdiv (wrap64 (rd y229 4)) 16)) (Int.tmod (wrap64 (rd y229 4)) 16) ((Int.tmod (wrap64 (rd y229 4)) 16) != 10))))))))) else (none)) else (some (([] : List (S68)), t242))) = some (r1, r2) := H
                  have A40 := Aside0.mk A400
                  clear A400
                  have HC41 := Aside0.mk H
                  clear H
                  have q42 : (4 : Int) ≤ ((y229.length : Int) : Int) := of_decide_eq_true (by assumption)
                  obtain ⟨i042, hi042, _, hsz42, _⟩ := info_parts info5
                  have hroom42 : y229.length ≤ c29 := (Kd.V_reads' HO_16.out).2.1
                  have hC42 : Kd.F (Kd.int .u8) _ _ A29 y229.length y229 := (Kd.V_at (base := w.heap.size) HO_16.out).2.2
                  have hcut42 := cut_to (P := Try.prog) 22 5 .i64 Try.underlying22 hi042 A29 y229.length c29 4 (by omega) q42 hroom42
                  have hr42 := Kd.F_take (m := 4) hC42 (by omega)
                  have hy42 : y235.length = (4 : Int).toNat := (by rw [Ny235.out, List.length_take]; omega)
                  rw [← Ny235.out] at hr42
                  rw [← hy42] at hcut42
                  have HO239 := Aside0.mk (show Kd.V (Kd.int .u8) 5 _ w.heap.size _ (.slice A29 y235.length c29) y235 from Kd.V_mk (by omega) hr42)
                  have HC239 := Aside0.mk (show y235.length ≤ c29 from by omega)
                  clear hr42 hC42 hroom42 hi042 hsz42
                  have KY42 := Aside0.mk hy42
                  clear hy42
                  replace q42 := eq_true q42
                  go_upto_region 24 with (first | ((with_reducible refine gate_ (.load 55 (.tmp 6)) rfl ?_); refine wpList_load_row rfl 55 (.tmp 6) rfl gb220 rfl 55 _ (0, 0) _ (by (with_reducible repeat (first | refine blk_drewN ?_ _ | refine blk_drew ?_ | refine blk_alloc ?_ _)); exact BK220.out) Try.underlying55 rfl (by kernel_rfl) ?_) | ((with_reducible refine gate_callee (f := 50) rfl ?_); refine goesL_ (some 87) rfl rfl Try.func50 (by kernel_rfl) rfl #[.slice A29 y235.length c29] rfl (by (try simp only [List.map_toArray, List.map_cons, List.map_nil]); first | done | rfl | (simp only [List.length_drop, List.length_take]; rfl)) ?_; (with_reducible refine (shackleref05_Number.calls kj34 _ _ y235 t240 _ ?side1 ?side2 A39.out).mono ?_); (case side1 => repeat (first | exact (Kd.V_reads' HO239.out).2.2 | (with_reducible refine Kd.C_alloc ?_ _) | (with_reducible refine Kd.C_drewN ?_ _) | (with_reducible refine Kd.C_drew ?_))); (case side2 => exact (Kd.V_reads' HO239.out).2.1); rintro e w' ⟨rfl, ⟨nd, rfl⟩⟩; refine ⟨_, rfl, ?_⟩; obtain ⟨Ao43, co43, eo43⟩ := Kd.V_slice HO_10.out; subst eo43) | ((with_reducible refine gate_callee (f := 15) rfl ?_); refine goesL_ (some 88) rfl rfl Try.func15 (by kernel_rfl) rfl #[.slice Ao43 t221.length co43, .int .u64 t240] rfl (by (try simp only [List.map_toArray, List.map_cons, List.map_nil]); first | done | rfl | (simp only [List.length_drop, List.length_take]; rfl)) ?_; (with_reducible refine (shackleref06_Text.calls kj34 _ _ t221 t240 t241 t242 _ ?side1 ?side2 A40.out).mono ?_); (case side1 => repeat (first | exact (Kd.V_reads' HO_10.out).2.2 | (with_reducible refine Kd.C_alloc ?_ _) | (with_reducible refine Kd.C_drewN ?_ _) | (with_reducible refine Kd.C_drew ?_))); (case side2 => exact (Kd.V_reads' HO_10.out).2.1); rintro e w' ⟨rfl, ⟨nd, rfl⟩⟩; refine ⟨_, rfl, ?_⟩))
                  (try simp only [Act.put, List.setIfInBounds_toArray, List.set_cons_zero, List.set_cons_succ])
                  have H := HC41.out
                  clear HC41
                  by_cases c44 : t242 = 0
                  ·rw [if_pos c44] at H
                   have c44b0 : (t242 == 0) = true := beq_iff_eq.mpr c44
                   have c44b1 : (t242 != 0) = false := bne_eq_false_iff_eq.mpr c44
                   clear c44
                   (first | rw [c44b0] | (simp only [i64_w, i32_w]; rw [c44b0]) | skip)
                   by_cases c45 : 4 < (y229.length : Int)
                   ·rw [if_pos c45] at H
                    have c45b0 : decide (4 < (y229.length : Int)) = true := decide_eq_true c45
                    have c45b1 : decide (4 < y229.length) = true := decide_eq_true (by omega)
                    clear c45
                    have HC46 := Aside0.mk H
                    clear H
                    have p243 : 0 ≤ (4 : Int) := (by omega)
                    have q243 : 4 < (y229.length : Int) := of_decide_eq_true (by assumption)
                    obtain ⟨ad243, e243, hx243_0⟩ := Kd.at_int (Kd.V_reads' HO_16.out).2.2 4 p243 q243
                    cases e243
                    (try simp only [show (4 : Int).toNat = 4 from rfl, Nat.reduceMul, Nat.reduceEqDiff, Go.Addr.add, ↓reduceIte] at hx243_0)
                    have qi243 : (4 < y229.length) = True := eq_true (by omega)
                    (try rw [show ((4 : Int)).toNat = 4 from rfl] at hx243_0)
                    replace p243 := eq_true p243
                    replace q243 := eq_true q243
                    have p244 : 0 ≤ (4 : Int) := (by omega)
                    have q244 : 4 < (y229.length : Int) := of_decide_eq_true (by assumption)
                    obtain ⟨ad244, e244, hx244_0⟩ := Kd.at_int (Kd.V_reads' HO_16.out).2.2 4 p244 q244
                    obtain rfl : ad243 = ad244 := (by injection e244)
                    (try simp only [show (4 : Int).toNat = 4 from rfl, Nat.reduceMul, Nat.reduceEqDiff, Go.Addr.add, ↓reduceIte] at hx244_0)
                    have qi244 : (4 < y229.length) = True := eq_true (by omega)
                    (try rw [show ((4 : Int)).toNat = 4 from rfl] at hx244_0)
                    replace p244 := eq_true p244
                    replace q244 := eq_true q244
                    go_upto_region 28 with (fail)
                    have H := HC46.out
                    clear HC46
                    have HC47 := Aside0.mk H
                    clear H
                    go_upto_region 28 with (fail)
                    go_cut [133] (fun v133 wc => ∃ (kq : Nat) (x133_46 : Bool), v133 = .bool x133_46 ∧ Aside0 (shackleref06_Read.j3 kq a3 t221 t225 x14_1 x15_1 y229 t241 (wrap64 (Int.tdiv (wrap64 (rd y229 4)) 16)) (Int.tmod (wrap64 (rd y229 4)) 16) x133_46 = some (r1, r2)) ∧ Aside0 (kq ≤ kj34) ∧ Aside0 (Kd.V (Kd.int .u8) 5 wc w.heap.size (fun k_ => some k_ ≠ (u14 : Value).ownBlock ∧ k_ ≠ gb219 ∧ k_ ≠ gb220) (.slice Ao43 t221.length co43) t221) ∧ Aside0 (Kd.V (Kd.int .u8) 5 wc w.heap.size (fun k_ => some k_ ≠ (u14 : Value).ownBlock ∧ k_ ≠ gb219 ∧ k_ ≠ gb220) (.slice Ao30 t225.length co30) t225) ∧ Aside0 (Kd.R k68 68 wc w.heap.size (fun _ => True) u14 x14_1) ∧ Aside0 (Kd.V (Kd.int .u8) 5 wc w.heap.size (fun k_ => some k_ ≠ (u14 : Value).ownBlock ∧ k_ ≠ gb219 ∧ k_ ≠ gb220) (.slice (some ad243) y229.length c29) y229) ∧ Aside0 (wc.heap[gb219]? = some (.cells #[.int .i64 a1_0, .int .u64 a1_1, (.slice A1_2 l1_2.length c1_2)] 53 (0, 0))) ∧ Aside0 (wc.heap[gb220]? = some (.cells #[(.slice A2_0 l2_0.length c2_0), .int .u64 a2_1, .int .u64 a2_2, .int .u64 a2_3, .int .u64 a2_4, .int .u64 a2_5, .int .u64 a2_6, .int .u64 a2_7, .int .u64 a2_8, .int .u64 a2_9, .int .u64 a2_10, .int .u64 a2_11, .int .u64 a2_12, .int .u64 a2_13, .bool a2_14, .bool a2_15, .bool a2_16, .int .u64 a2_17, .int .u64 a2_18, .int .u64 a2_19, .int .u64 a2_20, .int .u64 a2_21, .int .u64 a2_22, .int .u64 a2_23, .int .u64 a2_24, .int .u64 a2_25, .int .u64 a2_26, .int .u64 a2_27, .int .u64 a2_28, .int .u64 a2_29, .int .u64 a2_30, .int .u64 a2_31, .bool a2_32, .bool a2_33, .bool a2_34, .bool a2_35, .bool a2_36] 55 (0, 0))) ∧ Aside0 (Below w.heap.size w wc))
                    case first =>
                     have H := HC47.out
                     clear HC47
                     by_cases c48 : (wrap64 (Int.tdiv (wrap64 (rd y229 4)) 16)) > 2
                     ·rw [if_pos c48] at H
                      have c48b0 : decide (2 < (wrap64 (Int.tdiv (wrap64 (rd y229 4)) 16))) = true := decide_eq_true c48
                      clear c48
                      (first | rw [c48b0] | (simp only [i64_w, i32_w]; rw [c48b0]) | skip)
                      have H' := Aside0.mk H
                      clear H
                      go_wp2
                      go_meet
                      case rel => exact ⟨_, (true), (by first | rfl | (simp; done) | (simp [*]; done)), H', ⟨by have := HK1.out; have := HK2.out; have := HJ34.out; first | omega | exact Nat.le_refl _⟩, ⟨by (with_reducible repeat (first | apply Kd.V_alloc | apply Kd.V_drewN | apply Kd.V_drew)); exact HO_10.out⟩, ⟨by (with_reducible repeat (first | apply Kd.V_alloc | apply Kd.V_drewN | apply Kd.V_drew)); exact HO_12.out⟩, ⟨by (with_reducible repeat (first | apply Kd.R_alloc | apply Kd.R_drewN | apply Kd.R_drew)); exact HO_14.out⟩, ⟨by (with_reducible repeat (first | apply Kd.V_alloc | apply Kd.V_drewN | apply Kd.V_drew)); exact HO_16.out⟩, ⟨by (with_reducible repeat (first | refine blk_drewN ?_ _ | refine blk_drew ?_ | refine blk_alloc ?_ _)); exact BK219.out⟩, ⟨by (with_reducible repeat (first | refine blk_drewN ?_ _ | refine blk_drew ?_ | refine blk_alloc ?_ _)); exact BK220.out⟩, ⟨by repeat (first | (with_reducible first | exact HB.out | apply below_alloc | apply pw_below_drewN | apply below_drew1 | refine below_set ?_ GE219.out | refine below_set ?_ GE220.out) | exact HB.out)⟩⟩
                     ·rw [if_neg c48] at H
                      have c48b0 : decide (2 < (wrap64 (Int.tdiv (wrap64 (rd y229 4)) 16))) = false := decide_eq_false c48
                      clear c48
                      (first | rw [c48b0] | (simp only [i64_w, i32_w]; rw [c48b0]) | skip)
                      by_cases c49 : (Int.tmod (wrap64 (rd y229 4)) 16) = 0
                      ·rw [if_pos c49] at H
                       have c49b0 : ((Int.tmod (wrap64 (rd y229 4)) 16) == 0) = true := beq_iff_eq.mpr c49
                       have c49b1 : ((Int.tmod (wrap64 (rd y229 4)) 16) != 0) = false := bne_eq_false_iff_eq.mpr c49
                       clear c49
                       have H' := Aside0.mk H
                       clear H
                       go_wp2
                       go_meet
                       case rel => exact ⟨_, (false), (by first | rfl | (simp; done) | (simp [*]; done)), H', ⟨by have := HK1.out; have := HK2.out; have := HJ34.out; first | omega | exact Nat.le_refl _⟩, ⟨by (with_reducible repeat (first | apply Kd.V_alloc | apply Kd.V_drewN | apply Kd.V_drew)); exact HO_10.out⟩, ⟨by (with_reducible repeat (first | apply Kd.V_alloc | apply Kd.V_drewN | apply Kd.V_drew)); exact HO_12.out⟩, ⟨by (with_reducible repeat (first | apply Kd.R_alloc | apply Kd.R_drewN | apply Kd.R_drew)); exact HO_14.out⟩, ⟨by (with_reducible repeat (first | apply Kd.V_alloc | apply Kd.V_drewN | apply Kd.V_drew)); exact HO_16.out⟩, ⟨by (with_reducible repeat (first | refine blk_drewN ?_ _ | refine blk_drew ?_ | refine blk_alloc ?_ _)); exact BK219.out⟩, ⟨by (with_reducible repeat (first | refine blk_drewN ?_ _ | refine blk_drew ?_ | refine blk_alloc ?_ _)); exact BK220.out⟩, ⟨by repeat (first | (with_reducible first | exact HB.out | apply below_alloc | apply pw_below_drewN | apply below_drew1 | refine below_set ?_ GE219.out | refine below_set ?_ GE220.out) | exact HB.out)⟩⟩
                      ·rw [if_neg c49] at H
                       have c49b0 : ((Int.tmod (wrap64 (rd y229 4)) 16) == 0) = false := beq_eq_false_iff_ne.mpr c49
                       have c49b1 : ((Int.tmod (wrap64 (rd y229 4)) 16) != 0) = true := bne_iff_ne.mpr c49
                       by_cases c50 : (Int.tmod (wrap64 (rd y229 4)) 16) = 1
                       ·rw [if_pos c50] at H
                        have c50b0 : ((Int.tmod (wrap64 (rd y229 4)) 16) == 1) = true := beq_iff_eq.mpr c50
                        have c50b1 : ((Int.tmod (wrap64 (rd y229 4)) 16) != 1) = false := bne_eq_false_iff_eq.mpr c50
                        clear c50
                        have H' := Aside0.mk H
                        clear H
                        go_wp2
                        go_meet
                        case rel => exact ⟨_, (false), (by first | rfl | (simp; done) | (simp [*]; done)), H', ⟨by have := HK1.out; have := HK2.out; have := HJ34.out; first | omega | exact Nat.le_refl _⟩, ⟨by (with_reducible repeat (first | apply Kd.V_alloc | apply Kd.V_drewN | apply Kd.V_drew)); exact HO_10.out⟩, ⟨by (with_reducible repeat (first | apply Kd.V_alloc | apply Kd.V_drewN | apply Kd.V_drew)); exact HO_12.out⟩, ⟨by (with_reducible repeat (first | apply Kd.R_alloc | apply Kd.R_drewN | apply Kd.R_drew)); exact HO_14.out⟩, ⟨by (with_reducible repeat (first | apply Kd.V_alloc | apply Kd.V_drewN | apply Kd.V_drew)); exact HO_16.out⟩, ⟨by (with_reducible repeat (first | refine blk_drewN ?_ _ | refine blk_drew ?_ | refine blk_alloc ?_ _)); exact BK219.out⟩, ⟨by (with_reducible repeat (first | refine blk_drewN ?_ _ | refine blk_drew ?_ | refine blk_alloc ?_ _)); exact BK220.out⟩, ⟨by repeat (first | (with_reducible first | exact HB.out | apply below_alloc | apply pw_below_drewN | apply below_drew1 | refine below_set ?_ GE219.out | refine below_set ?_ GE220.out) | exact HB.out)⟩⟩
                       ·rw [if_neg c50] at H
                        have c50b0 : ((Int.tmod (wrap64 (rd y229 4)) 16) == 1) = false := beq_eq_false_iff_ne.mpr c50
                        have c50b1 : ((Int.tmod (wrap64 (rd y229 4)) 16) != 1) = true := bne_iff_ne.mpr c50
                        by_cases c51 : (Int.tmod (wrap64 (rd y229 4)) 16) = 2
                        ·rw [if_pos c51] at H
                         have c51b0 : ((Int.tmod (wrap64 (rd y229 4)) 16) == 2) = true := beq_iff_eq.mpr c51
                         have c51b1 : ((Int.tmod (wrap64 (rd y229 4)) 16) != 2) = false := bne_eq_false_iff_eq.mpr c51
                         clear c51
                         have H' := Aside0.mk H
                         clear H
                         go_wp2
                         go_meet
                         case rel => exact ⟨_, (false), (by first | rfl | (simp; done) | (simp [*]; done)), H', ⟨by have := HK1.out; have := HK2.out; have := HJ34.out; first | omega | exact Nat.le_refl _⟩, ⟨by (with_reducible repeat (first | apply Kd.V_alloc | apply Kd.V_drewN | apply Kd.V_drew)); exact HO_10.out⟩, ⟨by (with_reducible repeat (first | apply Kd.V_alloc | apply Kd.V_drewN | apply Kd.V_drew)); exact HO_12.out⟩, ⟨by (with_reducible repeat (first | apply Kd.R_alloc | apply Kd.R_drewN | apply Kd.R_drew)); exact HO_14.out⟩, ⟨by (with_reducible repeat (first | apply Kd.V_alloc | apply Kd.V_drewN | apply Kd.V_drew)); exact HO_16.out⟩, ⟨by (with_reducible repeat (first | refine blk_drewN ?_ _ | refine blk_drew ?_ | refine blk_alloc ?_ _)); exact BK219.out⟩, ⟨by (with_reducible repeat (first | refine blk_drewN ?_ _ | refine blk_drew ?_ | refine blk_alloc ?_ _)); exact BK220.out⟩, ⟨by repeat (first | (with_reducible first | exact HB.out | apply below_alloc | apply pw_below_drewN | apply below_drew1 | refine below_set ?_ GE219.out | refine below_set ?_ GE220.out) | exact HB.out)⟩⟩
                        ·rw [if_neg c51] at H
                         have c51b0 : ((Int.tmod (wrap64 (rd y229 4)) 16) == 2) = false := beq_eq_false_iff_ne.mpr c51
                         have c51b1 : ((Int.tmod (wrap64 (rd y229 4)) 16) != 2) = true := bne_iff_ne.mpr c51
                         by_cases c52 : (Int.tmod (wrap64 (rd y229 4)) 16) = 3
                         ·rw [if_pos c52] at H
                          have c52b0 : ((Int.tmod (wrap64 (rd y229 4)) 16) == 3) = true := beq_iff_eq.mpr c52
                          have c52b1 : ((Int.tmod (wrap64 (rd y229 4)) 16) != 3) = false := bne_eq_false_iff_eq.mpr c52
                          clear c52
                          have H' := Aside0.mk H
                          clear H
                          go_wp2
                          go_meet
                          case rel => exact ⟨_, (false), (by first | rfl | (simp; done) | (simp [*]; done)), H', ⟨by have := HK1.out; have := HK2.out; have := HJ34.out; first | omega | exact Nat.le_refl _⟩, ⟨by (with_reducible repeat (first | apply Kd.V_alloc | apply Kd.V_drewN | apply Kd.V_drew)); exact HO_10.out⟩, ⟨by (with_reducible repeat (first | apply Kd.V_alloc | apply Kd.V_drewN | apply Kd.V_drew)); exact HO_12.out⟩, ⟨by (with_reducible repeat (first | apply Kd.R_alloc | apply Kd.R_drewN | apply Kd.R_drew)); exact HO_14.out⟩, ⟨by (with_reducible repeat (first | apply Kd.V_alloc | apply Kd.V_drewN | apply Kd.V_drew)); exact HO_16.out⟩, ⟨by (with_reducible repeat (first | refine blk_drewN ?_ _ | refine blk_drew ?_ | refine blk_alloc ?_ _)); exact BK219.out⟩, ⟨by (with_reducible repeat (first | refine blk_drewN ?_ _ | refine blk_drew ?_ | refine blk_alloc ?_ _)); exact BK220.out⟩, ⟨by repeat (first | (with_reducible first | exact HB.out | apply below_alloc | apply pw_below_drewN | apply below_drew1 | refine below_set ?_ GE219.out | refine below_set ?_ GE220.out) | exact HB.out)⟩⟩
                         ·rw [if_neg c52] at H
                          have c52b0 : ((Int.tmod (wrap64 (rd y229 4)) 16) == 3) = false := beq_eq_false_iff_ne.mpr c52
                          have c52b1 : ((Int.tmod (wrap64 (rd y229 4)) 16) != 3) = true := bne_iff_ne.mpr c52
                          by_cases c53 : (Int.tmod (wrap64 (rd y229 4)) 16) = 4
                          ·rw [if_pos c53] at H
                           have c53b0 : ((Int.tmod (wrap64 (rd y229 4)) 16) == 4) = true := beq_iff_eq.mpr c53
                           have c53b1 : ((Int.tmod (wrap64 (rd y229 4)) 16) != 4) = false := bne_eq_false_iff_eq.mpr c53
                           clear c53
                           have H' := Aside0.mk H
                           clear H
                           go_wp2
                           go_meet
                           case rel => exact ⟨_, (false), (by first | rfl | (simp; done) | (simp [*]; done)), H', ⟨by have := HK1.out; have := HK2.out; have := HJ34.out; first | omega | exact Nat.le_refl _⟩, ⟨by (with_reducible repeat (first | apply Kd.V_alloc | apply Kd.V_drewN | apply Kd.V_drew)); exact HO_10.out⟩, ⟨by (with_reducible repeat (first | apply Kd.V_alloc | apply Kd.V_drewN | apply Kd.V_drew)); exact HO_12.out⟩, ⟨by (with_reducible repeat (first | apply Kd.R_alloc | apply Kd.R_drewN | apply Kd.R_drew)); exact HO_14.out⟩, ⟨by (with_reducible repeat (first | apply Kd.V_alloc | apply Kd.V_drewN | apply Kd.V_drew)); exact HO_16.out⟩, ⟨by (with_reducible repeat (first | refine blk_drewN ?_ _ | refine blk_drew ?_ | refine blk_alloc ?_ _)); exact BK219.out⟩, ⟨by (with_reducible repeat (first | refine blk_drewN ?_ _ | refine blk_drew ?_ | refine blk_alloc ?_ _)); exact BK220.out⟩, ⟨by repeat (first | (with_reducible first | exact HB.out | apply below_alloc | apply pw_below_drewN | apply below_drew1 | refine below_set ?_ GE219.out | refine below_set ?_ GE220.out) | exact HB.out)⟩⟩
                          ·rw [if_neg c53] at H
                           have c53b0 : ((Int.tmod (wrap64 (rd y229 4)) 16) == 4) = false := beq_eq_false_iff_ne.mpr c53
                           have c53b1 : ((Int.tmod (wrap64 (rd y229 4)) 16) != 4) = true := bne_iff_ne.mpr c53
                           by_cases c54 : (Int.tmod (wrap64 (rd y229 4)) 16) = 6
                           ·rw [if_pos c54] at H
                            have c54b0 : ((Int.tmod (wrap64 (rd y229 4)) 16) == 6) = true := beq_iff_eq.mpr c54
                            have c54b1 : ((Int.tmod (wrap64 (rd y229 4)) 16) != 6) = false := bne_eq_false_iff_eq.mpr c54
                            clear c54
                            have H' := Aside0.mk H
                            clear H
                            go_wp2
                            go_meet
                            case rel => exact ⟨_, (false), (by first | rfl | (simp; done) | (simp [*]; done)), H', ⟨by have := HK1.out; have := HK2.out; have := HJ34.out; first | omega | exact Nat.le_refl _⟩, ⟨by (with_reducible repeat (first | apply Kd.V_alloc | apply Kd.V_drewN | apply Kd.V_drew)); exact HO_10.out⟩, ⟨by (with_reducible repeat (first | apply Kd.V_alloc | apply Kd.V_drewN | apply Kd.V_drew)); exact HO_12.out⟩, ⟨by (with_reducible repeat (first | apply Kd.R_alloc | apply Kd.R_drewN | apply Kd.R_drew)); exact HO_14.out⟩, ⟨by (with_reducible repeat (first | apply Kd.V_alloc | apply Kd.V_drewN | apply Kd.V_drew)); exact HO_16.out⟩, ⟨by (with_reducible repeat (first | refine blk_drewN ?_ _ | refine blk_drew ?_ | refine blk_alloc ?_ _)); exact BK219.out⟩, ⟨by (with_reducible repeat (first | refine blk_drewN ?_ _ | refine blk_drew ?_ | refine blk_alloc ?_ _)); exact BK220.out⟩, ⟨by repeat (first | (with_reducible first | exact HB.out | apply below_alloc | apply pw_below_drewN | apply below_drew1 | refine below_set ?_ GE219.out | refine below_set ?_ GE220.out) | exact HB.out)⟩⟩
                           ·rw [if_neg c54] at H
                            have c54b0 : ((Int.tmod (wrap64 (rd y229 4)) 16) == 6) = false := beq_eq_false_iff_ne.mpr c54
                            have c54b1 : ((Int.tmod (wrap64 (rd y229 4)) 16) != 6) = true := bne_iff_ne.mpr c54
                            have H' := Aside0.mk H
                            clear H
                            go_wp2
                            go_meet
                            case rel => exact ⟨_, (((Int.tmod (wrap64 (rd y229 4)) 16) != 10)), (by first | rfl | (simp; done) | (simp [*]; done)), H', ⟨by have := HK1.out; have := HK2.out; have := HJ34.out; first | omega | exact Nat.le_refl _⟩, ⟨by (with_reducible repeat (first | apply Kd.V_alloc | apply Kd.V_drewN | apply Kd.V_drew)); exact HO_10.out⟩, ⟨by (with_reducible repeat (first | apply Kd.V_alloc | apply Kd.V_drewN | apply Kd.V_drew)); exact HO_12.out⟩, ⟨by (with_reducible repeat (first | apply Kd.R_alloc | apply Kd.R_drewN | apply Kd.R_drew)); exact HO_14.out⟩, ⟨by (with_reducible repeat (first | apply Kd.V_alloc | apply Kd.V_drewN | apply Kd.V_drew)); exact HO_16.out⟩, ⟨by (with_reducible repeat (first | refine blk_drewN ?_ _ | refine blk_drew ?_ | refine blk_alloc ?_ _)); exact BK219.out⟩, ⟨by (with_reducible repeat (first | refine blk_drewN ?_ _ | refine blk_drew ?_ | refine blk_alloc ?_ _)); exact BK220.out⟩, ⟨by repeat (first | (with_reducible first | exact HB.out | apply below_alloc | apply pw_below_drewN | apply below_drew1 | refine below_set ?_ GE219.out | refine below_set ?_ GE220.out) | exact HB.out)⟩⟩
                    case rest =>
                     clear HC47
                     try clear c1
                     try clear c2
                     try clear p2
                     try clear q2
                     try clear hx2
                     try clear qi2
                     try clear c3
                     try clear c4
                     try clear q4
                     try clear c5
                     try clear p6
                     try clear c8
                     try clear c8b0
                     try clear c9
                     try clear c9b0
                     try clear c12
                     try clear c15
                     try clear c16
                     try clear c16b0
                     try clear c16b1
                     try clear c19
                     try clear c23
                     try clear c23b0
                     try clear c23b1
                     try clear p23
                     try clear q23
                     try clear hx23
                     try clear c24
                     try clear c24b0
                     try clear p24
                     try clear q24
                     try clear hx24
                     try clear qi24
                     try clear c26
                     try clear c26b0
                     try clear c26b1
                     try clear c27
                     try clear c27b0
                     try clear c27b1
                     try clear c28
                     try clear c28b0
                     try clear c28b1
                     try clear c29
                     try clear q29
                     try clear c31
                     try clear c31b0
                     try clear c32
                     try clear c33
                     try clear c33b0
                     try clear c34
                     try clear c34b0
                     try clear c36
                     try clear c36b0
                     try clear c36b1
                     try clear c37
                     try clear c38
                     try clear c38b0
                     try clear c38b1
                     try clear q42
                     try clear c44
                     try clear c44b0
                     try clear c44b1
                     try clear c45
                     try clear c45b0
                     try clear c45b1
                     try clear c48
                     try clear c48b0
                     try clear c49
                     try clear c49b0
                     try clear c49b1
                     try clear c50
                     try clear c50b0
                     try clear c50b1
                     try clear c51
                     try clear c51b0
                     try clear c51b1
                     try clear c52
                     try clear c52b0
                     try clear c52b1
                     try clear c53
                     try clear c53b0
                     try clear c53b1
                     try clear c54
                     try clear c54b0
                     try clear c54b1
                     try clear hcz13_0
                     try clear hcz13_1
                     try clear hcz13_2
                     try clear hcz14_0
                     try clear hcz14_1
                     try clear hcz14_10
                     try clear hcz14_11
                     try clear hcz14_12
                     try clear hcz14_13
                     try clear hcz14_14
                     try clear hcz14_15
                     try clear hcz14_16
                     try clear hcz14_17
                     try clear hcz14_18
                     try clear hcz14_19
                     try clear hcz14_2
                     try clear hcz14_20
                     try clear hcz14_21
                     try clear hcz14_22
                     try clear hcz14_23
                     try clear hcz14_24
                     try clear hcz14_25
                     try clear hcz14_26
                     try clear hcz14_27
                     try clear hcz14_28
                     try clear hcz14_29
                     try clear hcz14_3
                     try clear hcz14_30
                     try clear hcz14_31
                     try clear hcz14_32
                     try clear hcz14_33
                     try clear hcz14_34
                     try clear hcz14_35
                     try clear hcz14_36
                     try clear hcz14_4
                     try clear hcz14_5
                     try clear hcz14_6
                     try clear hcz14_7
                     try clear hcz14_8
                     try clear hcz14_9
                     try clear hcz20_0
                     try clear hcz20_1
                     try clear hcz20_2
                     try clear hcz21_0
                     try clear hcz21_1
                     try clear hcz21_10
                     try clear hcz21_11
                     try clear hcz21_12
                     try clear hcz21_13
                     try clear hcz21_14
                     try clear hcz21_15
                     try clear hcz21_16
                     try clear hcz21_17
                     try clear hcz21_18
                     try clear hcz21_19
                     try clear hcz21_2
                     try clear hcz21_20
                     try clear hcz21_21
                     try clear hcz21_22
                     try clear hcz21_23
                     try clear hcz21_24
                     try clear hcz21_25
                     try clear hcz21_26
                     try clear hcz21_27
                     try clear hcz21_28
                     try clear hcz21_29
                     try clear hcz21_3
                     try clear hcz21_30
                     try clear hcz21_31
                     try clear hcz21_32
                     try clear hcz21_33
                     try clear hcz21_34
                     try clear hcz21_35
                     try clear hcz21_36
                     try clear hcz21_4
                     try clear hcz21_5
                     try clear hcz21_6
                     try clear hcz21_7
                     try clear hcz21_8
                     try clear hcz21_9
                     try clear hfz13_0
                     try clear hfz13_1
                     try clear hfz13_2
                     try clear hfz14_0
                     try clear hfz14_1
                     try clear hfz14_10
                     try clear hfz14_11
                     try clear hfz14_12
                     try clear hfz14_13
                     try clear hfz14_14
                     try clear hfz14_15
                     try clear hfz14_16
                     try clear hfz14_17
                     try clear hfz14_18
                     try clear hfz14_19
                     try clear hfz14_2
                     try clear hfz14_20
                     try clear hfz14_21
                     try clear hfz14_22
                     try clear hfz14_23
                     try clear hfz14_24
                     try clear hfz14_25
                     try clear hfz14_26
                     try clear hfz14_27
                     try clear hfz14_28
                     try clear hfz14_29
                     try clear hfz14_3
                     try clear hfz14_30
                     try clear hfz14_31
                     try clear hfz14_32
                     try clear hfz14_33
                     try clear hfz14_34
                     try clear hfz14_35
                     try clear hfz14_36
                     try clear hfz14_4
                     try clear hfz14_5
                     try clear hfz14_6
                     try clear hfz14_7
                     try clear hfz14_8
                     try clear hfz14_9
                     try clear hfz20_0
                     try clear hfz20_1
                     try clear hfz20_2
                     try clear hfz21_0
                     try clear hfz21_1
                     try clear hfz21_10
                     try clear hfz21_11
                     try clear hfz21_12
                     try clear hfz21_13
                     try clear hfz21_14
                     try clear hfz21_15
                     try clear hfz21_16
                     try clear hfz21_17
                     try clear hfz21_18
                     try clear hfz21_19
                     try clear hfz21_2
                     try clear hfz21_20
                     try clear hfz21_21
                     try clear hfz21_22
                     try clear hfz21_23
                     try clear hfz21_24
                     try clear hfz21_25
                     try clear hfz21_26
                     try clear hfz21_27
                     try clear hfz21_28
                     try clear hfz21_29
                     try clear hfz21_3
                     try clear hfz21_30
                     try clear hfz21_31
                     try clear hfz21_32
                     try clear hfz21_33
                     try clear hfz21_34
                     try clear hfz21_35
                     try clear hfz21_36
                     try clear hfz21_4
                     try clear hfz21_5
                     try clear hfz21_6
                     try clear hfz21_7
                     try clear hfz21_8
                     try clear hfz21_9
                     try clear hx234_0
                     try clear hx243_0
                     try clear hx244_0
                     try clear p2
                     try clear p23
                     try clear p234
                     try clear p243
                     try clear p244
                     try clear p6
                     try clear q029
                     try clear q2
                     try clear q23
                     try clear q234
                     try clear q243
                     try clear q244
                     try clear q29
                     try clear q42
                     obtain ⟨kq, x133_46, rfl, HA, HJ46, HO_10, HO_12, HO_14, HO_16, BK219, BK220, HB⟩ := hcut
                     cases kq with
                     | zero => exact absurd HA.out (by simp [shackleref06_Read.j3])
                     | succ kj46 =>
                      have H := HA.out
                      clear HA
                      simp only [shackleref06_Read.j3] at H
                      by_cases c55 : x133_46 = true
                      ·subst c55
                       have H1 : (some (([] : List (S68)), 3)) = some (r1, r2) := by rw [if_pos rfl] at H; exact H
                       clear H
                       have H := H1
                       clear H1
                       simp only [Option.some.injEq, Prod.mk.injEq] at H
                       obtain ⟨rfl, rfl⟩ := H
                       go_wp2
                       go_ret2
                       exact ⟨_, by first | rfl | (simp [errW_none, errW_some] <;> rfl) | (simp only [← hji25]; first | rfl | (simp [errW_none, errW_some] <;> rfl)) | (simp [*, errW_none, errW_some] <;> rfl), by first | exact Kd.R_nil _ _ _ _ _ | exact Kd.N_nil _ _ _ _ _ | exact Kd.V_nil _ _ _ _ _ | exact Kd.Q_nil _ _ _ _ _ | exact Kd.S_nil _ _ _ _ _, by repeat (first | (with_reducible first | exact HB.out | apply below_alloc | apply pw_below_drewN | apply below_drew1 | refine below_set ?_ GE219.out | refine below_set ?_ GE220.out) | exact HB.out)⟩
                      ·replace c55 := Bool.eq_false_iff.mpr c55
                       subst c55
                       have H1 : (if 5 < (y229.length : Int) then (if 6 < (y229.length : Int) then (if 7 < (y229.length : Int) then (if 8 ≤ 16 then (if 16 ≤ (y229.length : Int) then ((shackleref05_Number.f kj46 ((y229.take 16).drop 8)).bind fun t253 => (if 16 ≤ 24 then (if 24 ≤ (y229.length : Int) then ((shackleref05_Number.f kj46 ((y229.take 24).drop 16)).bind fun t259 => (if x14_1.length < 2199023255552 then (shackleref06_Read.l0 kj46 a3 t221 t225 (x14_1 ++ [(⟨t241, (wrap64 (Int.tdiv (wrap64 (rd y229 4)) 16)), (Int.tmod (wrap64 (rd y229 4)) 16), Int.tmod (wrap64 (rd y229 5)) 4, wrap64 ((wrap64 (rd y229 6)) + (wrap64 (256 * (wrap64 (rd y229 7))))), t253, t259⟩ : S68)]) (wrap64 (x15_1 + 1))) else (none))) else (none)) else (none))) else (none)) else (none)) else (none)) else (none)) else (none)) = some (r1, r2) := by rw [if_neg (show ¬ (false = true) by decide)] at H; exact H
                       clear H
                       have H := H1
                       clear H1
                       by_cases c56 : 5 < (y229.length : Int)
                       ·rw [if_pos c56] at H
                        have c56b0 : decide (5 < (y229.length : Int)) = true := decide_eq_true c56
                        have c56b1 : decide (5 < y229.length) = true := decide_eq_true (by omega)
                        clear c56
                        by_cases c57 : 6 < (y229.length : Int)
                        ·rw [if_pos c57] at H
                         have c57b0 : decide (6 < (y229.length : Int)) = true := decide_eq_true c57
                         have c57b1 : decide (6 < y229.length) = true := decide_eq_true (by omega)
                         clear c57
                         by_cases c58 : 7 < (y229.length : Int)
                         ·rw [if_pos c58] at H
                          have c58b0 : decide (7 < (y229.length : Int)) = true := decide_eq_true c58
                          have c58b1 : decide (7 < y229.length) = true := decide_eq_true (by omega)
                          clear c58
                          by_cases c59 : 8 ≤ 16
                          ·rw [if_pos c59] at H
                           have c59b0 := eq_true c59
                           have c59b1 : decide (8 ≤ 16) = true := decide_eq_true c59
                           clear c59
                           by_cases c60 : 16 ≤ (y229.length : Int)
                           ·rw [if_pos c60] at H
                            have c60b0 := eq_true c60
                            have c60b1 : decide (16 ≤ (y229.length : Int)) = true := decide_eq_true c60
                            clear c60
                            obtain ⟨y248, hy248⟩ : ∃ y_ : List Int, y_ = ((y229.take 16).drop 8) := ⟨_, rfl⟩
                            replace H : ((shackleref05_Number.f kj46 y248).bind fun t253 => (if 16 ≤ 24 then (if 24 ≤ (y229.length : Int) then ((shackleref05_Number.f kj46 ((y229.take 24).drop 16)).bind fun t259 => (if x14_1.length < 2199023255552 then (shackleref06_Read.l0 kj46 a3 t221 t225 (x14_1 ++ [(⟨t241, (wrap64 (Int.tdiv (wrap64 (rd y229 4)) 16)), (Int.tmod (wrap64 (rd y229 4)) 16), Int.tmod (wrap64 (rd y229 5)) 4, wrap64 ((wrap64 (rd y229 6)) + (wrap64 (256 * (wrap64 (rd y229 7))))), t253, t259⟩ : S68)]) (wrap64 (x15_1 + 1))) else (none))) else (none)) else (none))) = some (r1, r2) := by first | (rw [hy248]; with_reducible exact H) | (have H2_ := (Option.bind_some _ _).symm.trans H; rw [hy248]; with_reducible exact H2_) | (have H2_ := (Option.bind_some _ _).symm.trans H; with_reducible exact H2_) | with_reducible exact H | (rw [hy248]; exact H) | exact H
                            have Ny248 := Aside0.mk hy248
                            clear hy248
                            replace H := Option.bind_eq_some_iff.mp H
                            obtain ⟨t253, A610, H⟩ := H
                            replace H : (if 16 ≤ 24 then (if 24 ≤ (y229.length : Int) then ((shackleref05_Number.f kj46 ((y229.take 24).drop 16)).bind fun t259 => (if x14_1.length < 2199023255552 then (shackleref06_Read.l0 kj46 a3 t221 t225 (x14_1 ++ [(⟨t241, (wrap64 (Int.tdiv (wrap64 (rd y229 4)) 16)), (Int.tmod (wrap64 (rd y229 4)) 16), Int.tmod (wrap64 (rd y229 5)) 4, wrap64 ((wrap64 (rd y229 6)) + (wrap64 (256 * (wrap64 (rd y229 7))))), t253, t259⟩ : S68)]) (wrap64 (x15_1 + 1))) else (none))) else (none)) else (none)) = some (r1, r2) := H
                            have A61 := Aside0.mk A610
                            clear A610
                            by_cases c62 : 16 ≤ 24
                            ·rw [if_pos c62] at H
                             have c62b0 := eq_true c62
                             have c62b1 : decide (16 ≤ 24) = true := decide_eq_true c62
                             clear c62
                             by_cases c63 : 24 ≤ (y229.length : Int)
                             ·rw [if_pos c63] at H
                              have c63b0 := eq_true c63
                              have c63b1 : decide (24 ≤ (y229.length : Int)) = true := decide_eq_true c63
                              clear c63
                              obtain ⟨y254, hy254⟩ : ∃ y_ : List Int, y_ = ((y229.take 24).drop 16) := ⟨_, rfl⟩
                              replace H : ((shackleref05_Number.f kj46 y254).bind fun t259 => (if x14_1.length < 2199023255552 then (shackleref06_Read.l0 kj46 a3 t221 t225 (x14_1 ++ [(⟨t241, (wrap64 (Int.tdiv (wrap64 (rd y229 4)) 16)), (Int.tmod (wrap64 (rd y229 4)) 16), Int.tmod (wrap64 (rd y229 5)) 4, wrap64 ((wrap64 (rd y229 6)) + (wrap64 (256 * (wrap64 (rd y229 7))))), t253, t259⟩ : S68)]) (wrap64 (x15_1 + 1))) else (none))) = some (r1, r2) := by first | (rw [hy254]; with_reducible exact H) | (have H2_ := (Option.bind_some _ _).symm.trans H; rw [hy254]; with_reducible exact H2_) | (have H2_ := (Option.bind_some _ _).symm.trans H; with_reducible exact H2_) | with_reducible exact H | (rw [hy254]; exact H) | exact H
                              have Ny254 := Aside0.mk hy254
                              clear hy254
                              replace H := Option.bind_eq_some_iff.mp H
                              obtain ⟨t259, A640, H⟩ := H
                              replace H : (if x14_1.length < 2199023255552 then (shackleref06_Read.l0 kj46 a3 t221 t225 (x14_1 ++ [(⟨t241, (wrap64 (Int.tdiv (wrap64 (rd y229 4)) 16)), (Int.tmod (wrap64 (rd y229 4)) 16), Int.tmod (wrap64 (rd y229 5)) 4, wrap64 ((wrap64 (rd y229 6)) + (wrap64 (256 * (wrap64 (rd y229 7))))), t253, t259⟩ : S68)]) (wrap64 (x15_1 + 1))) else (none)) = some (r1, r2) := H
                              have A64 := Aside0.mk A640
                              clear A640
                              by_cases c65 : x14_1.length < 2199023255552
                              ·rw [if_pos c65] at H
                               have LMc65 := Aside0.mk c65
                               clear c65
                               obtain ⟨y260, hy260⟩ : ∃ y_ : List (S68), y_ = (x14_1 ++ [(⟨t241, (wrap64 (Int.tdiv (wrap64 (rd y229 4)) 16)), (Int.tmod (wrap64 (rd y229 4)) 16), Int.tmod (wrap64 (rd y229 5)) 4, wrap64 ((wrap64 (rd y229 6)) + (wrap64 (256 * (wrap64 (rd y229 7))))), t253, t259⟩ : S68)]) := ⟨_, rfl⟩
                               replace H : (shackleref06_Read.l0 kj46 a3 t221 t225 y260 (wrap64 (x15_1 + 1))) = some (r1, r2) := by first | (rw [hy260]; with_reducible exact H) | (have H2_ := (Option.bind_some _ _).symm.trans H; rw [hy260]; with_reducible exact H2_) | (have H2_ := (Option.bind_some _ _).symm.trans H; with_reducible exact H2_) | with_reducible exact H | (rw [hy260]; exact H) | exact H
                               have Ny260 := Aside0.mk hy260
                               clear hy260
                               have H' := Aside0.mk H
                               clear H
                               try go_wp2
                               have n0_ := Aside0.mk (Kd.V_drew HO_10.out)
                               have n1_ := Aside0.mk (Kd.V_drew HO_12.out)
                               have n2_ := Aside0.mk (Kd.R_drew HO_14.out)
                               have n3_ := Aside0.mk (Kd.V_drew HO_16.out)
                               have n4_ := Aside0.mk (blk_drew BK219.out)
                               have n5_ := Aside0.mk (blk_drew BK220.out)
                               have n6_ := Aside0.mk (below_drew1 HB.out)
                               clear HO_10
                               clear HO_12
                               clear HO_14
                               clear HO_16
                               clear BK219
                               clear BK220
                               clear HB
                               have HO_10 := n0_
                               have HO_12 := n1_
                               have HO_14 := n2_
                               have HO_16 := n3_
                               have BK219 := n4_
                               have BK220 := n5_
                               have HB := n6_
                               clear n0_ n1_ n2_ n3_ n4_ n5_ n6_
                               have p245 : 0 ≤ (5 : Int) := (by omega)
                               have q245 : 5 < (y229.length : Int) := of_decide_eq_true (by assumption)
                               obtain ⟨ad245, e245, hx245_0⟩ := Kd.at_int (Kd.V_reads' HO_16.out).2.2 5 p245 q245
                               obtain rfl : ad243 = ad245 := (by injection e245)
                               (try simp only [show (5 : Int).toNat = 5 from rfl, Nat.reduceMul, Nat.reduceEqDiff, Go.Addr.add, ↓reduceIte] at hx245_0)
                               have qi245 : (5 < y229.length) = True := eq_true (by omega)
                               (try rw [show ((5 : Int)).toNat = 5 from rfl] at hx245_0)
                               replace p245 := eq_true p245
                               replace q245 := eq_true q245
                               have p246 : 0 ≤ (6 : Int) := (by omega)
                               have q246 : 6 < (y229.length : Int) := of_decide_eq_true (by assumption)
                               obtain ⟨ad246, e246, hx246_0⟩ := Kd.at_int (Kd.V_reads' HO_16.out).2.2 6 p246 q246
                               obtain rfl : ad243 = ad246 := (by injection e246)
                               (try simp only [show (6 : Int).toNat = 6 from rfl, Nat.reduceMul, Nat.reduceEqDiff, Go.Addr.add, ↓reduceIte] at hx246_0)
                               have qi246 : (6 < y229.length) = True := eq_true (by omega)
                               (try rw [show ((6 : Int)).toNat = 6 from rfl] at hx246_0)
                               replace p246 := eq_true p246
                               replace q246 := eq_true q246
                               have p247 : 0 ≤ (7 : Int) := (by omega)
                               have q247 : 7 < (y229.length : Int) := of_decide_eq_true (by assumption)
                               obtain ⟨ad247, e247, hx247_0⟩ := Kd.at_int (Kd.V_reads' HO_16.out).2.2 7 p247 q247
                               obtain rfl : ad243 = ad247 := (by injection e247)
                               (try simp only [show (7 : Int).toNat = 7 from rfl, Nat.reduceMul, Nat.reduceEqDiff, Go.Addr.add, ↓reduceIte] at hx247_0)
                               have qi247 : (7 < y229.length) = True := eq_true (by omega)
                               (try rw [show ((7 : Int)).toNat = 7 from rfl] at hx247_0)
                               replace p247 := eq_true p247
                               replace q247 := eq_true q247
                               have q67 : (16 : Int) ≤ ((y229.length : Int) : Int) := of_decide_eq_true (by assumption)
                               obtain ⟨i067, hi067, _, hsz67, _⟩ := info_parts info5
                               have hroom67 : y229.length ≤ c29 := (Kd.V_reads' HO_16.out).2.1
                               have hC67 : Kd.F (Kd.int .u8) _ _ (some ad243) y229.length y229 := (Kd.V_at (base := w.heap.size) HO_16.out).2.2
                               have ql67 : (8 : Int) ≤ (16 : Int) := (by omega)
                               have hcut67 := cut_mid (P := Try.prog) 22 5 .i64 .i64 Try.underlying22 hi067 1 hsz67 (some ad243) y229.length c29 8 16 (by omega) ql67 q67 hroom67
                               have hr67 := Kd.F_mid (lo := (8 : Int).toNat) (hi := (16 : Int).toNat) (c := c29) hC67 (by omega) (by omega) hroom67
                               obtain ⟨A67, hA67⟩ : ∃ A1, A1 = (if c29 = (8 : Int).toNat then (some ad243) else ((some ad243) : Option Addr).map (·.add ((8 : Int).toNat * 1))) := ⟨_, rfl⟩
                               obtain ⟨c67, hc67⟩ : ∃ c1, c1 = c29 - (8 : Int).toNat := ⟨_, rfl⟩
                               have hy67 : y248.length = (16 : Int).toNat - (8 : Int).toNat := (by rw [Ny248.out, List.length_drop, List.length_take] <;> omega)
                               rw [show ((y229).take (16 : Int).toNat).drop (8 : Int).toNat = y248 from Ny248.out.symm] at hr67
                               replace hr67 : Kd.F (Kd.int .u8) _ _ A67 y248.length y248 := (by rw [hA67]; exact hr67)
                               rw [← hy67, ← hA67, ← hc67] at hcut67
                               have HO252 := Aside0.mk (show Kd.V (Kd.int .u8) 5 _ w.heap.size _ (.slice A67 y248.length c67) y248 from Kd.V_mk (by rw [hy67, hc67]; exact Nat.sub_le_sub_right (Nat.le_trans (by omega) hroom67) _) hr67)
                               have HC252 := Aside0.mk (show y248.length ≤ c67 from by rw [hy67, hc67]; exact Nat.sub_le_sub_right (Nat.le_trans (by omega) hroom67) _)
                               clear hr67 hC67 hroom67 hi067 hsz67 hc67
                               have KY67 := Aside0.mk hy67
                               have KA67 := Aside0.mk hA67
                               clear hy67 hA67
                               replace q67 := eq_true q67
                               have q68 : (24 : Int) ≤ ((y229.length : Int) : Int) := of_decide_eq_true (by assumption)
                               obtain ⟨i068, hi068, _, hsz68, _⟩ := info_parts info5
                               have hroom68 : y229.length ≤ c29 := (Kd.V_reads' HO_16.out).2.1
                               have hC68 : Kd.F (Kd.int .u8) _ _ (some ad243) y229.length y229 := (Kd.V_at (base := w.heap.size) HO_16.out).2.2
                               have ql68 : (16 : Int) ≤ (24 : Int) := (by omega)
                               have hcut68 := cut_mid (P := Try.prog) 22 5 .i64 .i64 Try.underlying22 hi068 1 hsz68 (some ad243) y229.length c29 16 24 (by omega) ql68 q68 hroom68
                               have hr68 := Kd.F_mid (lo := (16 : Int).toNat) (hi := (24 : Int).toNat) (c := c29) hC68 (by omega) (by omega) hroom68
                               obtain ⟨A68, hA68⟩ : ∃ A1, A1 = (if c29 = (16 : Int).toNat then (some ad243) else ((some ad243) : Option Addr).map (·.add ((16 : Int).toNat * 1))) := ⟨_, rfl⟩
                               obtain ⟨c68, hc68⟩ : ∃ c1, c1 = c29 - (16 : Int).toNat := ⟨_, rfl⟩
                               have hy68 : y254.length = (24 : Int).toNat - (16 : Int).toNat := (by rw [Ny254.out, List.length_drop, List.length_take] <;> omega)
                               rw [show ((y229).take (24 : Int).toNat).drop (16 : Int).toNat = y254 from Ny254.out.symm] at hr68
                               replace hr68 : Kd.F (Kd.int .u8) _ _ A68 y254.length y254 := (by rw [hA68]; exact hr68)
                               rw [← hy68, ← hA68, ← hc68] at hcut68
                               have HO258 := Aside0.mk (show Kd.V (Kd.int .u8) 5 _ w.heap.size _ (.slice A68 y254.length c68) y254 from Kd.V_mk (by rw [hy68, hc68]; exact Nat.sub_le_sub_right (Nat.le_trans (by omega) hroom68) _) hr68)
                               have HC258 := Aside0.mk (show y254.length ≤ c68 from by rw [hy68, hc68]; exact Nat.sub_le_sub_right (Nat.le_trans (by omega) hroom68) _)
                               clear hr68 hC68 hroom68 hi068 hsz68 hc68
                               have KY68 := Aside0.mk hy68
                               have KA68 := Aside0.mk hA68
                               clear hy68 hA68
                               replace q68 := eq_true q68
                               refine start_ (n := 29) (S := fun w' => w'.cell? ⟨ad243.block, ad243.off + 5, none⟩ = some (.int .u8 (rd y229 5)) ∧ w'.cell? ⟨ad243.block, ad243.off + 6, none⟩ = some (.int .u8 (rd y229 6)) ∧ w'.cell? ⟨ad243.block, ad243.off + 7, none⟩ = some (.int .u8 (rd y229 7))) (ds := [26, 27]) #[false, false, false, false, false, false, false, false, false, false, false, false, false, false, false, false, false, false, false, false, false, false, false, false, false, false, false, false, false] (by kernel_rfl) rfl rfl ⟨hx245_0, hx246_0, hx247_0⟩ (fun hHeld => ?_); refine with_tabW shackleref06_Read.tab30 shackleref06_Read.bits30 (fun HT_ HW_ => ?_)
                               generalize wc.drew = w66 at HO_10 HO_12 HO_14 HO_16 BK219 BK220 HB HO252 HO258 hx245_0 hx246_0 hx247_0 hHeld ⊢
                               refine pure_ (i := 0) (N := some 134) (v := ?_) (a' := ?_) #[true, false, false, false, false, false, false, false, false, false, false, false, false, false, false, false, false, false, false, false, false, false, false, false, false, false, false, false, false] rfl rfl (any_of HT_.out (by kernel_rfl)) (fun _ _ _ h => h) (Or.inl ⟨by rfl, ?_⟩) ?_ ?_
                               rotate_left
                               ·intro w'
                                go_simp
                                with_reducible rfl
                               rotate_left
                               ·simp only [Act.put, List.setIfInBounds_toArray, List.set_cons_zero, List.set_cons_succ, i64_w, i32_w]
                                rfl
                               refine pure_ (i := 1) (N := some 135) (v := ?_) (a' := ?_) #[true, true, false, false, false, false, false, false, false, false, false, false, false, false, false, false, false, false, false, false, false, false, false, false, false, false, false, false, false] rfl rfl (any_of HT_.out (by kernel_rfl)) (fun _ _ _ h => h) (Or.inl ⟨by rfl, ?_⟩) ?_ ?_
                               rotate_left
                               ·intro w'
                                go_simp
                                with_reducible rfl
                               rotate_left
                               ·simp only [Act.put, List.setIfInBounds_toArray, List.set_cons_zero, List.set_cons_succ, i64_w, i32_w]
                                rfl
                               refine pure_ (i := 2) (N := some 136) (v := ?_) (a' := ?_) #[true, true, true, false, false, false, false, false, false, false, false, false, false, false, false, false, false, false, false, false, false, false, false, false, false, false, false, false, false] rfl rfl (any_of HT_.out (by kernel_rfl)) (fun _ _ _ h => h) (Or.inl ⟨by rfl, ?_⟩) ?_ ?_
                               rotate_left
                               ·intro w'
                                go_simp
                                with_reducible rfl
                               rotate_left
                               ·simp only [Act.put, List.setIfInBounds_toArray, List.set_cons_zero, List.set_cons_succ, i64_w, i32_w]
                                rfl
                               refine pure_ (i := 3) (N := some 137) (v := ?_) (a' := ?_) #[true, true, true, true, false, false, false, false, false, false, false, false, false, false, false, false, false, false, false, false, false, false, false, false, false, false, false, false, false] rfl rfl (any_of HT_.out (by kernel_rfl)) (fun _ _ _ h => h) (Or.inl ⟨by rfl, ?_⟩) ?_ ?_
                               rotate_left
                               ·intro w'
                                go_simp
                                with_reducible rfl
                               rotate_left
                               ·simp only [Act.put, List.setIfInBounds_toArray, List.set_cons_zero, List.set_cons_succ, i64_w, i32_w]
                                rfl
                               refine pure_ (i := 4) (N := some 138) (v := ?_) (a' := ?_) #[true, true, true, true, true, false, false, false, false, false, false, false, false, false, false, false, false, false, false, false, false, false, false, false, false, false, false, false, false] rfl rfl (any_of HT_.out (by kernel_rfl)) (fun _ _ _ h => h) (Or.inl ⟨by rfl, ?_⟩) ?_ ?_
                               rotate_left
                               ·intro w'
                                go_simp
                                with_reducible rfl
                               rotate_left
                               ·simp only [Act.put, List.setIfInBounds_toArray, List.set_cons_zero, List.set_cons_succ, i64_w, i32_w]
                                rfl
                               refine pure_ (i := 5) (N := some 139) (v := ?_) (a' := ?_) #[true, true, true, true, true, true, false, false, false, false, false, false, false, false, false, false, false, false, false, false, false, false, false, false, false, false, false, false, false] rfl rfl (any_of HT_.out (by kernel_rfl)) (fun _ _ _ h => h) (Or.inl ⟨by rfl, ?_⟩) ?_ ?_
                               rotate_left
                               ·intro w'
                                go_simp
                                with_reducible rfl
                               rotate_left
                               ·simp only [Act.put, List.setIfInBounds_toArray, List.set_cons_zero, List.set_cons_succ, i64_w, i32_w]
                                rfl
                               refine pure_ (i := 9) (N := some 143) (v := ?_) (a' := ?_) #[true, true, true, true, true, true, false, false, false, true, false, false, false, false, false, false, false, false, false, false, false, false, false, false, false, false, false, false, false] rfl rfl (any_of HT_.out (by kernel_rfl)) (fun _ _ _ h => h) (Or.inl ⟨by rfl, ?_⟩) ?_ ?_
                               rotate_left
                               ·intro w'
                                go_simp
                                with_reducible rfl
                               rotate_left
                               ·simp only [Act.put, List.setIfInBounds_toArray, List.set_cons_zero, List.set_cons_succ, i64_w, i32_w]
                                rfl
                               refine pure_ (i := 10) (N := some 144) (v := ?_) (a' := ?_) #[true, true, true, true, true, true, false, false, false, true, true, false, false, false, false, false, false, false, false, false, false, false, false, false, false, false, false, false, false] rfl rfl (any_of HT_.out (by kernel_rfl)) (fun _ _ _ h => h) (Or.inl ⟨by rfl, ?_⟩) ?_ ?_
                               rotate_left
                               ·intro w'
                                go_simp
                                with_reducible rfl
                               rotate_left
                               ·simp only [Act.put, List.setIfInBounds_toArray, List.set_cons_zero, List.set_cons_succ, i64_w, i32_w]
                                rfl
                               refine pure_ (i := 13) (N := some 147) (v := ?_) (a' := ?_) #[true, true, true, true, true, true, false, false, false, true, true, false, false, true, false, false, false, false, false, false, false, false, false, false, false, false, false, false, false] rfl rfl (any_of HT_.out (by kernel_rfl)) (fun _ _ _ h => h) (Or.inl ⟨by rfl, ?_⟩) ?_ ?_
                               rotate_left
                               ·intro w'
                                go_simp
                                with_reducible rfl
                               rotate_left
                               ·simp only [Act.put, List.setIfInBounds_toArray, List.set_cons_zero, List.set_cons_succ, i64_w, i32_w]
                                rfl
                               refine pure_ (i := 14) (N := some 148) (v := ?_) (a' := ?_) #[true, true, true, true, true, true, false, false, false, true, true, false, false, true, true, false, false, false, false, false, false, false, false, false, false, false, false, false, false] rfl rfl (any_of HT_.out (by kernel_rfl)) (fun _ _ _ h => h) (Or.inl ⟨by rfl, ?_⟩) ?_ ?_
                               rotate_left
                               ·intro w'
                                go_simp
                                with_reducible rfl
                               rotate_left
                               ·simp only [Act.put, List.setIfInBounds_toArray, List.set_cons_zero, List.set_cons_succ, i64_w, i32_w]
                                rfl
                               refine pure_ (i := 19) (N := some 153) (v := ?_) (a' := ?_) #[true, true, true, true, true, true, false, false, false, true, true, false, false, true, true, false, false, false, false, true, false, false, false, false, false, false, false, false, false] rfl rfl (any_of HT_.out (by kernel_rfl)) (fun _ _ _ h => h) (Or.inl ⟨by rfl, ?_⟩) ?_ ?_
                               rotate_left
                               ·intro w'
                                go_simp
                                with_reducible rfl
                               rotate_left
                               ·simp only [Act.put, List.setIfInBounds_toArray, List.set_cons_zero, List.set_cons_succ, i64_w, i32_w]
                                rfl
                               refine pure_ (i := 20) (N := some 154) (v := ?_) (a' := ?_) #[true, true, true, true, true, true, false, false, false, true, true, false, false, true, true, false, false, false, false, true, true, false, false, false, false, false, false, false, false] rfl rfl (any_of HT_.out (by kernel_rfl)) (fun _ _ _ h => h) (Or.inl ⟨by rfl, ?_⟩) ?_ ?_
                               rotate_left
                               ·intro w'
                                go_simp
                                with_reducible rfl
                               rotate_left
                               ·simp only [Act.put, List.setIfInBounds_toArray, List.set_cons_zero, List.set_cons_succ, i64_w, i32_w]
                                rfl
                               refine pure_ (i := 22) (N := some 156) (v := ?_) (a' := ?_) #[true, true, true, true, true, true, false, false, false, true, true, false, false, true, true, false, false, false, false, true, true, false, true, false, false, false, false, false, false] rfl rfl (any_of HT_.out (by kernel_rfl)) (fun _ _ _ h => h) (Or.inl ⟨by rfl, ?_⟩) ?_ ?_
                               rotate_left
                               ·intro w'
                                go_simp
                                with_reducible rfl
                               rotate_left
                               ·simp only [Act.put, List.setIfInBounds_toArray, List.set_cons_zero, List.set_cons_succ, i64_w, i32_w]
                                rfl
                               refine pure_ (i := 23) (N := some 157) (v := ?_) (a' := ?_) #[true, true, true, true, true, true, false, false, false, true, true, false, false, true, true, false, false, false, false, true, true, false, true, true, false, false, false, false, false] rfl rfl (any_of HT_.out (by kernel_rfl)) (fun _ _ _ h => h) (Or.inl ⟨by rfl, ?_⟩) ?_ ?_
                               rotate_left
                               ·intro w'
                                go_simp
                                with_reducible rfl
                               rotate_left
                               ·simp only [Act.put, List.setIfInBounds_toArray, List.set_cons_zero, List.set_cons_succ, i64_w, i32_w]
                                rfl
                               refine take_ (i := 6) (N := some 140) (v := ?_) (a' := ?_) #[true, true, true, true, true, true, true, false, false, true, true, false, false, true, true, false, false, false, false, true, true, false, true, true, false, false, false, false, false] rfl rfl (take_ofW HT_.out HW_.out (by kernel_rfl)) (fun _ _ _ h => h) (Or.inl ⟨by rfl, ?_⟩) hHeld ?_ ?_
                               rotate_left
                               ·rintro w' ⟨s0, s1, s2⟩
                                go_simp
                                with_reducible rfl
                               rotate_left
                               ·simp only [Act.put, List.setIfInBounds_toArray, List.set_cons_zero, List.set_cons_succ, i64_w, i32_w]
                                rfl
                               refine pure_ (i := 7) (N := some 141) (v := ?_) (a' := ?_) #[true, true, true, true, true, true, true, true, false, true, true, false, false, true, true, false, false, false, false, true, true, false, true, true, false, false, false, false, false] rfl rfl (any_of HT_.out (by kernel_rfl)) (fun _ _ _ h => h) (Or.inl ⟨by rfl, ?_⟩) ?_ ?_
                               rotate_left
                               ·intro w'
                                go_simp
                                with_reducible rfl
                               rotate_left
                               ·simp only [Act.put, List.setIfInBounds_toArray, List.set_cons_zero, List.set_cons_succ, i64_w, i32_w]
                                rfl
                               refine pure_ (i := 8) (N := some 142) (v := ?_) (a' := ?_) #[true, true, true, true, true, true, true, true, true, true, true, false, false, true, true, false, false, false, false, true, true, false, true, true, false, false, false, false, false] rfl rfl (any_of HT_.out (by kernel_rfl)) (fun _ _ _ h => h) (Or.inl ⟨by rfl, ?_⟩) ?_ ?_
                               rotate_left
                               ·intro w'
                                go_simp
                                with_reducible rfl
                               rotate_left
                               ·simp only [Act.put, List.setIfInBounds_toArray, List.set_cons_zero, List.set_cons_succ, i64_w, i32_w]
                                rfl
                               refine take_ (i := 11) (N := some 145) (v := ?_) (a' := ?_) #[true, true, true, true, true, true, true, true, true, true, true, true, false, true, true, false, false, false, false, true, true, false, true, true, false, false, false, false, false] rfl rfl (take_ofW HT_.out HW_.out (by kernel_rfl)) (fun _ _ _ h => h) (Or.inl ⟨by rfl, ?_⟩) hHeld ?_ ?_
                               rotate_left
                               ·rintro w' ⟨s0, s1, s2⟩
                                go_simp
                                with_reducible rfl
                               rotate_left
                               ·simp only [Act.put, List.setIfInBounds_toArray, List.set_cons_zero, List.set_cons_succ, i64_w, i32_w]
                                rfl
                               refine pure_ (i := 12) (N := some 146) (v := ?_) (a' := ?_) #[true, true, true, true, true, true, true, true, true, true, true, true, true, true, true, false, false, false, false, true, true, false, true, true, false, false, false, false, false] rfl rfl (any_of HT_.out (by kernel_rfl)) (fun _ _ _ h => h) (Or.inl ⟨by rfl, ?_⟩) ?_ ?_
                               rotate_left
                               ·intro w'
                                go_simp
                                with_reducible rfl
                               rotate_left
                               ·simp only [Act.put, List.setIfInBounds_toArray, List.set_cons_zero, List.set_cons_succ, i64_w, i32_w]
                                rfl
                               refine take_ (i := 15) (N := some 149) (v := ?_) (a' := ?_) #[true, true, true, true, true, true, true, true, true, true, true, true, true, true, true, true, false, false, false, true, true, false, true, true, false, false, false, false, false] rfl rfl (take_ofW HT_.out HW_.out (by kernel_rfl)) (fun _ _ _ h => h) (Or.inl ⟨by rfl, ?_⟩) hHeld ?_ ?_
                               rotate_left
                               ·rintro w' ⟨s0, s1, s2⟩
                                go_simp
                                with_reducible rfl
                               rotate_left
                               ·simp only [Act.put, List.setIfInBounds_toArray, List.set_cons_zero, List.set_cons_succ, i64_w, i32_w]
                                rfl
                               refine pure_ (i := 16) (N := some 150) (v := ?_) (a' := ?_) #[true, true, true, true, true, true, true, true, true, true, true, true, true, true, true, true, true, false, false, true, true, false, true, true, false, false, false, false, false] rfl rfl (any_of HT_.out (by kernel_rfl)) (fun _ _ _ h => h) (Or.inl ⟨by rfl, ?_⟩) ?_ ?_
                               rotate_left
                               ·intro w'
                                go_simp
                                with_reducible rfl
                               rotate_left
                               ·simp only [Act.put, List.setIfInBounds_toArray, List.set_cons_zero, List.set_cons_succ, i64_w, i32_w]
                                rfl
                               refine pure_ (i := 17) (N := some 151) (v := ?_) (a' := ?_) #[true, true, true, true, true, true, true, true, true, true, true, true, true, true, true, true, true, true, false, true, true, false, true, true, false, false, false, false, false] rfl rfl (any_of HT_.out (by kernel_rfl)) (fun _ _ _ h => h) (Or.inl ⟨by rfl, ?_⟩) ?_ ?_
                               rotate_left
                               ·intro w'
                                go_simp
                                with_reducible rfl
                               rotate_left
                               ·simp only [Act.put, List.setIfInBounds_toArray, List.set_cons_zero, List.set_cons_succ, i64_w, i32_w]
                                rfl
                               refine pure_ (i := 18) (N := some 152) (v := ?_) (a' := ?_) #[true, true, true, true, true, true, true, true, true, true, true, true, true, true, true, true, true, true, true, true, true, false, true, true, false, false, false, false, false] rfl rfl (any_of HT_.out (by kernel_rfl)) (fun _ _ _ h => h) (Or.inl ⟨by rfl, ?_⟩) ?_ ?_
                               rotate_left
                               ·intro w'
                                go_simp
                                with_reducible rfl
                               rotate_left
                               ·simp only [Act.put, List.setIfInBounds_toArray, List.set_cons_zero, List.set_cons_succ, i64_w, i32_w]
                                rfl
                               refine one_ (i := 21) (N := some 155) #[true, true, true, true, true, true, true, true, true, true, true, true, true, true, true, true, true, true, true, true, true, true, true, true, false, false, false, false, false] rfl rfl (one_of HT_.out (by kernel_rfl)) (by decide) (fun K hK => ?_)
                               refine goes_ Try.func50 (by kernel_rfl) rfl #[.slice A67 y248.length c67] (by rfl) rfl rfl (by (try simp only [List.map_toArray, List.map_cons, List.map_nil]); first | done | rfl | (simp only [List.length_drop, List.length_take]; rfl)) ?_
                               with_reducible refine (shackleref05_Number.calls kj46 _ _ y248 t253 _ ?side1 ?side2 A61.out).mono ?_
                               (case side1 => repeat (first | exact (Kd.V_reads' HO252.out).2.2 | (with_reducible refine Kd.C_alloc ?_ _) | (with_reducible refine Kd.C_drewN ?_ _) | (with_reducible refine Kd.C_drew ?_)))
                               (case side2 => exact (Kd.V_reads' HO252.out).2.1)
                               rintro e w' ⟨rfl, ⟨nd, rfl⟩⟩
                               refine ⟨_, rfl, ?_⟩
                               refine hK.out _ _ ⟨hHeld.1, hHeld.2.1, hHeld.2.2⟩ (fun hHeld => ?_)
                               clear hK K
                               refine norm_ (a' := ?_) ?_ ?_
                               rotate_left
                               ·show Act.put _ (some 155) _ = _
                                simp only [Act.put, List.setIfInBounds_toArray, List.set_cons_zero, List.set_cons_succ, i64_w, i32_w]
                                rfl
                               refine one_ (i := 24) (N := some 158) #[true, true, true, true, true, true, true, true, true, true, true, true, true, true, true, true, true, true, true, true, true, true, true, true, true, false, false, false, false] rfl rfl (one_of HT_.out (by kernel_rfl)) (by decide) (fun K hK => ?_)
                               refine goes_ Try.func50 (by kernel_rfl) rfl #[.slice A68 y254.length c68] (by rfl) rfl rfl (by (try simp only [List.map_toArray, List.map_cons, List.map_nil]); first | done | rfl | (simp only [List.length_drop, List.length_take]; rfl)) ?_
                               with_reducible refine (shackleref05_Number.calls kj46 _ _ y254 t259 _ ?side1 ?side2 A64.out).mono ?_
                               (case side1 => repeat (first | exact (Kd.V_reads' HO258.out).2.2 | (with_reducible refine Kd.C_alloc ?_ _) | (with_reducible refine Kd.C_drewN ?_ _) | (with_reducible refine Kd.C_drew ?_)))
                               (case side2 => exact (Kd.V_reads' HO258.out).2.1)
                               rintro e w' ⟨rfl, ⟨nd, rfl⟩⟩
                               refine ⟨_, rfl, ?_⟩
                               refine hK.out _ _ ⟨hHeld.1, hHeld.2.1, hHeld.2.2⟩ (fun hHeld => ?_)
                               clear hK K
                               refine norm_ (a' := ?_) ?_ ?_
                               rotate_left
                               ·show Act.put _ (some 158) _ = _
                                simp only [Act.put, List.setIfInBounds_toArray, List.set_cons_zero, List.set_cons_succ, i64_w, i32_w]
                                rfl
                               refine pure_ (i := 25) (N := some 159) (v := ?_) (a' := ?_) #[true, true, true, true, true, true, true, true, true, true, true, true, true, true, true, true, true, true, true, true, true, true, true, true, true, true, false, false, false] rfl rfl (any_of HT_.out (by kernel_rfl)) (fun _ _ _ h => h) (Or.inl ⟨by rfl, ?_⟩) ?_ ?_
                               rotate_left
                               ·intro w'
                                go_simp
                                with_reducible rfl
                               rotate_left
                               ·simp only [Act.put, List.setIfInBounds_toArray, List.set_cons_zero, List.set_cons_succ, i64_w, i32_w]
                                rfl
                               refine last_ (i := 26) (N := some 160) #[true, true, true, true, true, true, true, true, true, true, true, true, true, true, true, true, true, true, true, true, true, true, true, true, true, true, true, false, false] rfl rfl (one_of HT_.out (by kernel_rfl)) (by decide) (fun K hK => ?_)
                               refine value_ (w1 := ?_) (v := ?_) (by rfl) rfl ?_ ?_
                               rotate_left 2
                               ·go_simp
                                constructor
                                ·rfl
                                ·rfl
                               refine hK.out _ _ ?_
                               clear hK K
                               refine norm_ (a' := ?_) ?_ ?_
                               rotate_left
                               ·show Act.put _ (some 160) _ = _
                                simp only [Act.put, List.setIfInBounds_toArray, List.set_cons_zero, List.set_cons_succ, i64_w, i32_w]
                                rfl
                               refine last_ (i := 27) (N := some 161) #[true, true, true, true, true, true, true, true, true, true, true, true, true, true, true, true, true, true, true, true, true, true, true, true, true, true, true, true, false] rfl rfl (one_of HT_.out (by kernel_rfl)) (by decide) (fun K hK => ?_)
                               refine Kd.R_append_step k68 (w0 := w) w.heap.size (by rfl) (.tmp 134) (.tmp 160) 60 68 (.agg #[(.string ⟨#[]⟩), (.int .i64 0), (.int .i64 0), (.int .i64 0), (.int .i64 0), (.int .u64 0), (.int .u64 0)]) 64 rfl Try.underlying60 info68 rfl (by decide) (by omega) u14 x14_1 (⟨t241, (wrap64 (Int.tdiv (wrap64 (rd y229 4)) 16)), (Int.tmod (wrap64 (rd y229 4)) 16), Int.tmod (wrap64 (rd y229 5)) 4, wrap64 ((wrap64 (rd y229 6)) + (wrap64 (256 * (wrap64 (rd y229 7))))), t253, t259⟩ : S68) [.string t241, .int .i64 (wrap64 (Int.tdiv (wrap64 (rd y229 4)) 16)), .int .i64 (Int.tmod (wrap64 (rd y229 4)) 16), .int .i64 (Int.tmod (wrap64 (rd y229 5)) 4), .int .i64 (wrap64 ((wrap64 (rd y229 6)) + (wrap64 (256 * (wrap64 (rd y229 7)))))), .int .u64 t253, .int .u64 t259] (fun _ => True) (fun _ => False) rfl rfl ?aP (fun _ hk => hk.elim) ?aF ?aO ?aB ?aS ?aL ?_
                               (case aP => exact k68_mkM _ _ _ (⟨t241, (wrap64 (Int.tdiv (wrap64 (rd y229 4)) 16)), (Int.tmod (wrap64 (rd y229 4)) 16), Int.tmod (wrap64 (rd y229 5)) 4, wrap64 ((wrap64 (rd y229 6)) + (wrap64 (256 * (wrap64 (rd y229 7))))), t253, t259⟩ : S68))
                               (case aB => exact (by repeat (first | (with_reducible first | exact HB.out | apply below_alloc | apply pw_below_drewN | apply below_drew1 | refine below_set ?_ GE219.out | refine below_set ?_ GE220.out) | exact HB.out)))
                               (case aF => exact (fun _ _ => trivial))
                               (case aO => exact (by (with_reducible repeat (first | apply Kd.R_alloc | apply Kd.R_drewN | apply Kd.R_drew)); exact HO_14.out))
                               (case aS => exact (below_size (by repeat (first | (with_reducible first | exact HB.out | apply below_alloc | apply pw_below_drewN | apply below_drew1 | refine below_set ?_ GE219.out | refine below_set ?_ GE220.out) | exact HB.out))))
                               (case aL => have := LMc65.out; omega)
                               intro v261 w69 ho hb hg hat
                               rw [← Ny260.out] at ho
                               have n0_ := Aside0.mk (Kd.V_afterv (ok := (fun k_ => k_ ≠ gb219 ∧ k_ ≠ gb220)) (by (with_reducible repeat (first | apply Kd.V_alloc | apply Kd.V_drewN | apply Kd.V_drew)); exact Kd.V_mono HO_10.out (fun _ hk => ⟨⟨hk.2.1, hk.2.2⟩, hk.1⟩)) hg hat)
                               have n1_ := Aside0.mk (Kd.V_afterv (ok := (fun k_ => k_ ≠ gb219 ∧ k_ ≠ gb220)) (by (with_reducible repeat (first | apply Kd.V_alloc | apply Kd.V_drewN | apply Kd.V_drew)); exact Kd.V_mono HO_12.out (fun _ hk => ⟨⟨hk.2.1, hk.2.2⟩, hk.1⟩)) hg hat)
                               have n2_ := Aside0.mk (Kd.V_afterv (ok := (fun k_ => k_ ≠ gb219 ∧ k_ ≠ gb220)) (by (with_reducible repeat (first | apply Kd.V_alloc | apply Kd.V_drewN | apply Kd.V_drew)); exact Kd.V_mono HO_16.out (fun _ hk => ⟨⟨hk.2.1, hk.2.2⟩, hk.1⟩)) hg hat)
                               have n3_ := Aside0.mk (blk_grown (g := gb219) (o := .cells #[.int .i64 a1_0, .int .u64 a1_1, .slice A1_2 l1_2.length c1_2] 53 (0, 0)) (by (with_reducible repeat (first | refine blk_drewN ?_ _ | refine blk_drew ?_ | refine blk_alloc ?_ _)); exact BK219.out) hg (Kd.R_ne HO_14.out BK219.out (by decide)))
                               have n4_ := Aside0.mk (blk_grown (g := gb220) (o := .cells #[.slice A2_0 l2_0.length c2_0, .int .u64 a2_1, .int .u64 a2_2, .int .u64 a2_3, .int .u64 a2_4, .int .u64 a2_5, .int .u64 a2_6, .int .u64 a2_7, .int .u64 a2_8, .int .u64 a2_9, .int .u64 a2_10, .int .u64 a2_11, .int .u64 a2_12, .int .u64 a2_13, .bool a2_14, .bool a2_15, .bool a2_16, .int .u64 a2_17, .int .u64 a2_18, .int .u64 a2_19, .int .u64 a2_20, .int .u64 a2_21, .int .u64 a2_22, .int .u64 a2_23, .int .u64 a2_24, .int .u64 a2_25, .int .u64 a2_26, .int .u64 a2_27, .int .u64 a2_28, .int .u64 a2_29, .int .u64 a2_30, .int .u64 a2_31, .bool a2_32, .bool a2_33, .bool a2_34, .bool a2_35, .bool a2_36] 55 (0, 0)) (by (with_reducible repeat (first | refine blk_drewN ?_ _ | refine blk_drew ?_ | refine blk_alloc ?_ _)); exact BK220.out) hg (Kd.R_ne HO_14.out BK220.out (by decide)))
                               have n5_ := Aside0.mk (Kd.V_afterv (ok := (fun k_ => k_ ≠ gb219 ∧ k_ ≠ gb220)) (by (with_reducible repeat (first | apply Kd.V_alloc | apply Kd.V_drewN | apply Kd.V_drew)); exact Kd.V_mono HO252.out (fun _ hk => ⟨⟨hk.2.1, hk.2.2⟩, hk.1⟩)) hg hat)
                               have n6_ := Aside0.mk (Kd.V_afterv (ok := (fun k_ => k_ ≠ gb219 ∧ k_ ≠ gb220)) (by (with_reducible repeat (first | apply Kd.V_alloc | apply Kd.V_drewN | apply Kd.V_drew)); exact Kd.V_mono HO258.out (fun _ hk => ⟨⟨hk.2.1, hk.2.2⟩, hk.1⟩)) hg hat)
                               have n7_ := Aside0.mk (hb)
                               have n8_ := Aside0.mk (ho)
                               clear HO_10
                               clear HO_12
                               clear HO_16
                               clear BK219
                               clear BK220
                               clear HO252
                               clear HO258
                               clear HB
                               clear HO_14
                               have HO_10 := n0_
                               have HO_12 := n1_
                               have HO_16 := n2_
                               have BK219 := n3_
                               have BK220 := n4_
                               have HO252 := n5_
                               have HO258 := n6_
                               have HB := n7_
                               have HO262 := n8_
                               clear n0_ n1_ n2_ n3_ n4_ n5_ n6_ n7_ n8_
                               clear ho hb hg hat
                               refine hK.out _ _ ?_
                               clear hK K
                               refine norm_ (a' := ?_) ?_ ?_
                               rotate_left
                               ·show Act.put _ (some 161) _ = _
                                simp only [Act.put, List.setIfInBounds_toArray, List.set_cons_zero, List.set_cons_succ, i64_w, i32_w]
                                rfl
                               refine pure_ (i := 28) (N := some 14) (v := ?_) (a' := ?_) #[true, true, true, true, true, true, true, true, true, true, true, true, true, true, true, true, true, true, true, true, true, true, true, true, true, true, true, true, true] rfl rfl (any_of HT_.out (by kernel_rfl)) (fun _ _ _ h => h) (Or.inl ⟨by rfl, ?_⟩) ?_ ?_
                               rotate_left
                               ·intro w'
                                go_simp
                                with_reducible rfl
                               rotate_left
                               ·simp only [Act.put, List.setIfInBounds_toArray, List.set_cons_zero, List.set_cons_succ, i64_w, i32_w]
                                rfl
                               refine done_ (done_of HT_.out (by kernel_rfl)) ?_
                               try go_wp2
                               go_roundg kj46
                               case measure => have := HK1.out; have := HK2.out; have := HJ34.out; have := HJ46.out; omega
                               case rel => exact ⟨(y260), (wrap64 (x15_1 + 1)), (by first | rfl | (simp; done) | (simp [*]; done)), H', ⟨by have := HK1.out; have := HK2.out; have := HJ34.out; have := HJ46.out; omega⟩, ⟨by (with_reducible repeat (first | apply Kd.V_alloc | apply Kd.V_drewN | apply Kd.V_drew)); exact Kd.V_mono HO_10.out (fun _ hk => ⟨hk.2, ⟨hk.1.1, hk.1.2⟩⟩)⟩, ⟨by (with_reducible repeat (first | apply Kd.V_alloc | apply Kd.V_drewN | apply Kd.V_drew)); exact Kd.V_mono HO_12.out (fun _ hk => ⟨hk.2, ⟨hk.1.1, hk.1.2⟩⟩)⟩, ⟨by (with_reducible repeat (first | apply Kd.R_alloc | apply Kd.R_drewN | apply Kd.R_drew)); exact HO262.out⟩, ⟨by (with_reducible repeat (first | refine blk_drewN ?_ _ | refine blk_drew ?_ | refine blk_alloc ?_ _)); exact BK219.out⟩, ⟨by (with_reducible repeat (first | refine blk_drewN ?_ _ | refine blk_drew ?_ | refine blk_alloc ?_ _)); exact BK220.out⟩, ⟨by repeat (first | (with_reducible first | exact HB.out | apply below_alloc | apply pw_below_drewN | apply below_drew1 | refine below_set ?_ GE219.out | refine below_set ?_ GE220.out) | exact HB.out)⟩⟩
                              ·rw [if_neg c65] at H
                               exact absurd H (by simp)
                             ·rw [if_neg c63] at H
                              exact absurd H (by simp)
                            ·rw [if_neg c62] at H
                             exact absurd H (by simp)
                           ·rw [if_neg c60] at H
                            exact absurd H (by simp)
                          ·rw [if_neg c59] at H
                           exact absurd H (by simp)
                         ·rw [if_neg c58] at H
                          exact absurd H (by simp)
                        ·rw [if_neg c57] at H
                         exact absurd H (by simp)
                       ·rw [if_neg c56] at H
                        exact absurd H (by simp)
                   ·rw [if_neg c45] at H
                    exact absurd H (by simp)
                  ·rw [if_neg c44] at H
                   have c44b0 : (t242 == 0) = false := beq_eq_false_iff_ne.mpr c44
                   have c44b1 : (t242 != 0) = true := bne_iff_ne.mpr c44
                   (first | rw [c44b0] | (simp only [i64_w, i32_w]; rw [c44b0]) | skip)
                   simp only [Option.some.injEq, Prod.mk.injEq] at H
                   obtain ⟨rfl, rfl⟩ := H
                   go_wp2
                   go_ret2
                   exact ⟨_, by first | rfl | (simp [errW_none, errW_some] <;> rfl) | (simp only [← hji25]; first | rfl | (simp [errW_none, errW_some] <;> rfl)) | (simp [*, errW_none, errW_some] <;> rfl), by first | exact Kd.R_nil _ _ _ _ _ | exact Kd.N_nil _ _ _ _ _ | exact Kd.V_nil _ _ _ _ _ | exact Kd.Q_nil _ _ _ _ _ | exact Kd.S_nil _ _ _ _ _, by repeat (first | (with_reducible first | exact HB.out | apply below_alloc | apply pw_below_drewN | apply below_drew1 | refine below_set ?_ GE219.out | refine below_set ?_ GE220.out) | exact HB.out)⟩
                 ·rw [if_neg c38] at H
                  exact absurd H (by simp)
          ·rw [if_neg c28] at H
           exact absurd H (by simp)
         ·rw [if_neg c27] at H
          exact absurd H (by simp)
        ·rw [if_neg c26] at H
         exact absurd H (by simp)
       ·rw [if_neg c24] at H
        have c24b0 : decide (x15_1 < a3) = false := decide_eq_false c24
        clear c24
        simp only [Option.some.injEq, Prod.mk.injEq] at H
        obtain ⟨rfl, rfl⟩ := H
        go_wp2
        go_ret2
        exact ⟨_, by first | rfl | (simp [errW_none, errW_some] <;> rfl) | (simp [*, errW_none, errW_some] <;> rfl), by (with_reducible repeat (first | apply Kd.R_alloc | apply Kd.R_drewN | apply Kd.R_drew)); exact HO_14.out, by repeat (first | (with_reducible first | exact HB.out | apply below_alloc | apply pw_below_drewN | apply below_drew1 | refine below_set ?_ GE219.out | refine below_set ?_ GE220.out) | exact HB.out)⟩
    ·rw [if_neg c23] at H
     have c23b0 : (t228 == 0) = false := beq_eq_false_iff_ne.mpr c23
     have c23b1 : (t228 != 0) = true := bne_iff_ne.mpr c23
     (first | rw [c23b0] | (simp only [i64_w, i32_w]; rw [c23b0]) | skip)
     simp only [Option.some.injEq, Prod.mk.injEq] at H
     obtain ⟨rfl, rfl⟩ := H
     go_wp2
     go_ret2
     exact ⟨_, by first | rfl | (simp [errW_none, errW_some] <;> rfl) | (simp [*, errW_none, errW_some] <;> rfl), by first | exact Kd.R_nil _ _ _ _ _ | exact Kd.N_nil _ _ _ _ _ | exact Kd.V_nil _ _ _ _ _ | exact Kd.Q_nil _ _ _ _ _ | exact Kd.S_nil _ _ _ _ _, by repeat (first | (with_reducible first | exact HB.out | apply below_alloc | apply pw_below_drewN | apply below_drew1 | refine below_set ?_ GE219.out | refine below_set ?_ GE220.out) | exact HB.out)⟩
   ·rw [if_neg c16] at H
    have c16b0 : (t224 == 0) = false := beq_eq_false_iff_ne.mpr c16
    have c16b1 : (t224 != 0) = true := bne_iff_ne.mpr c16
    (first | rw [c16b0] | (simp only [i64_w, i32_w]; rw [c16b0]) | skip)
    simp only [Option.some.injEq, Prod.mk.injEq] at H
    obtain ⟨rfl, rfl⟩ := H
    go_wp2
    go_ret2
    exact ⟨_, by first | rfl | (simp [errW_none, errW_some] <;> rfl) | (simp [*, errW_none, errW_some] <;> rfl), by first | exact Kd.R_nil _ _ _ _ _ | exact Kd.N_nil _ _ _ _ _ | exact Kd.V_nil _ _ _ _ _ | exact Kd.Q_nil _ _ _ _ _ | exact Kd.S_nil _ _ _ _ _, by repeat (first | (with_reducible first | exact HB.out | apply below_alloc | apply pw_below_drewN | apply below_drew1 | refine below_set ?_ GE219.out | refine below_set ?_ GE220.out) | exact HB.out)⟩

end Go.Proofs.Ytlohkhadbkahdaa.QSyms
