import Derived.Test.YthopdoamajjojaaQVersWx0
import Derived.Test.YthopdoamajjojaaQVersWx1
namespace Go.Proofs.Ythopdoamajjojaa.QVersW
open Go.RowKit Go.Proofs.YthopdoamajjojaaW.PrintWords Go.Proofs.YthopdoamajjojaaW.PrintLast Go.Proofs.YthopdoamajjojaaW.PrintMore
attribute [local go_sem] max2_int min2_int max_two min_two max_three min_three max_four min_four
set_option linter.unusedVariables false
set_option linter.unusedSimpArgs false
mutual
def shacklelaw08_VersOnce.j0 : Nat → Int → Bool → Bool → Bool → List Int → List (S63) → List (S66) → Option (Bool)
 | 0, _, _, _, _, _, _, _ => none
 | k + 1, x3, x9, x37, x116000, x116001, x116002, x116003 => if x37 = true then (if x9 = true then (if (x116001.length : Int) = 0 then (if (x116002.length : Int) = 0 then (some ((x116003.length : Int) == 0)) else (some false)) else (some false)) else (some false)) else (shacklelaw08_VersOnce.l0 k x3 x9 ([] : List Int) 0 x116000 x116001 x116002 x116003)
def shacklelaw08_VersOnce.l0 : Nat → Int → Bool → List Int → Int → Bool → List Int → List (S63) → List (S66) → Option (Bool)
 | 0, _, _, _, _, _, _, _, _ => none
 | k + 1, x3, x9, x12, x13, x116000, x116001, x116002, x116003 => if x13 < (x116002.length : Int) then (if 0 ≤ x13 then (if x12.length < 17592186044416 then (shacklelaw08_VersOnce.l0 k x3 x9 (x12 ++ [(rd_T63 x116002 x13).f0]) (wrap64 (x13 + 1)) x116000 x116001 x116002 x116003) else (none)) else (none)) else (shacklelaw08_VersOnce.l1 k x3 x9 x12 0 x116000 x116001 x116002 x116003)
def shacklelaw08_VersOnce.l1 : Nat → Int → Bool → List Int → Int → Bool → List Int → List (S63) → List (S66) → Option (Bool)
 | 0, _, _, _, _, _, _, _, _ => none
 | k + 1, x3, x9, x12, x14, x116000, x116001, x116002, x116003 => if x14 < (x116003.length : Int) then (shacklelaw08_VersOnce.l2 k x3 x9 x12 x14 0 x116000 x116001 x116002 x116003) else (shacklelaw08_VersOnce.l3 k x3 x9 x12 0 x116000 x116001 x116002 x116003)
def shacklelaw08_VersOnce.l2 : Nat → Int → Bool → List Int → Int → Int → Bool → List Int → List (S63) → List (S66) → Option (Bool)
 | 0, _, _, _, _, _, _, _, _, _ => none
 | k + 1, x3, x9, x12, x14, x15, x116000, x116001, x116002, x116003 => if 0 ≤ x14 then (if x14 < (x116003.length : Int) then (if x15 < (((rd_T66 x116003 x14).f1).length : Int) then (if 0 ≤ x15 then (if x12.length < 17592186044416 then (shacklelaw08_VersOnce.l2 k x3 x9 (x12 ++ [(rd_T68 ((rd_T66 x116003 x14).f1) x15).f0]) x14 (wrap64 (x15 + 1)) x116000 x116001 x116002 x116003) else (none)) else (none)) else (shacklelaw08_VersOnce.l1 k x3 x9 x12 (wrap64 (x14 + 1)) x116000 x116001 x116002 x116003)) else (none)) else (none)
def shacklelaw08_VersOnce.l3 : Nat → Int → Bool → List Int → Int → Bool → List Int → List (S63) → List (S66) → Option (Bool)
 | 0, _, _, _, _, _, _, _, _ => none
 | k + 1, x3, x9, x12, x16, x116000, x116001, x116002, x116003 => if x16 < (x12.length : Int) then (shacklelaw08_VersOnce.l4 k x3 x9 x12 x16 0 x116000 x116001 x116002 x116003) else (shacklelaw08_VersOnce.l5 k x3 x9 x12 0 x116000 x116001 x116002 x116003)
def shacklelaw08_VersOnce.l4 : Nat → Int → Bool → List Int → Int → Int → Bool → List Int → List (S63) → List (S66) → Option (Bool)
 | 0, _, _, _, _, _, _, _, _, _ => none
 | k + 1, x3, x9, x12, x16, x17, x116000, x116001, x116002, x116003 => if x17 < x16 then (if 0 ≤ x16 then (if x16 < (x12.length : Int) then (if 0 ≤ x17 then (if x17 < (x12.length : Int) then (if (rd x12 x16) = (rd x12 x17) then (some false) else (shacklelaw08_VersOnce.l4 k x3 x9 x12 x16 (wrap64 (x17 + 1)) x116000 x116001 x116002 x116003)) else (none)) else (none)) else (none)) else (none)) else (if 0 ≤ x16 then (if x16 < (x12.length : Int) then (if (rd x12 x16) < 1 then (some false) else (if (rd x12 x16) > 32767 then (some false) else (shacklelaw08_VersOnce.l3 k x3 x9 x12 (wrap64 (x16 + 1)) x116000 x116001 x116002 x116003))) else (none)) else (none))
def shacklelaw08_VersOnce.l5 : Nat → Int → Bool → List Int → Int → Bool → List Int → List (S63) → List (S66) → Option (Bool)
 | 0, _, _, _, _, _, _, _, _ => none
 | k + 1, x3, x9, x12, x18, x116000, x116001, x116002, x116003 => if x18 < (x116001.length : Int) then (if 0 ≤ x18 then (if (Int.tmod (rd x116001 x18) 32768) = 0 then (shacklelaw08_VersOnce.j7 k x3 x9 x12 x18 (Int.tmod (rd x116001 x18) 32768) true x116000 x116001 x116002 x116003) else (shacklelaw08_VersOnce.j7 k x3 x9 x12 x18 (Int.tmod (rd x116001 x18) 32768) ((Int.tmod (rd x116001 x18) 32768) == 1) x116000 x116001 x116002 x116003)) else (none)) else (if x9 = true then (some ((x116001.length : Int) == x3)) else (some false))
def shacklelaw08_VersOnce.j7 : Nat → Int → Bool → List Int → Int → Int → Bool → Bool → List Int → List (S63) → List (S66) → Option (Bool)
 | 0, _, _, _, _, _, _, _, _, _, _ => none
 | k + 1, x3, x9, x12, x18, x19, x20, x116000, x116001, x116002, x116003 => shacklelaw08_VersOnce.l6 k x3 x9 x12 x18 x19 x20 0 x116000 x116001 x116002 x116003
def shacklelaw08_VersOnce.l6 : Nat → Int → Bool → List Int → Int → Int → Bool → Int → Bool → List Int → List (S63) → List (S66) → Option (Bool)
 | 0, _, _, _, _, _, _, _, _, _, _, _ => none
 | k + 1, x3, x9, x12, x18, x19, x20, x21, x116000, x116001, x116002, x116003 => if x21 < (x12.length : Int) then (if x20 = true then (shacklelaw08_VersOnce.l6 k x3 x9 x12 x18 x19 true (wrap64 (x21 + 1)) x116000 x116001 x116002 x116003) else (if 0 ≤ x21 then (shacklelaw08_VersOnce.l6 k x3 x9 x12 x18 x19 ((rd x12 x21) == x19) (wrap64 (x21 + 1)) x116000 x116001 x116002 x116003) else (none))) else (if x20 = true then (shacklelaw08_VersOnce.l5 k x3 x9 x12 (wrap64 (x18 + 1)) x116000 x116001 x116002 x116003) else (some false))
end
def shacklelaw08_VersOnce.f (k : Nat) (l0 : List Int) (a1_0 : Int) (a1_1 : Int) (l1_2 : List (S29)) (l2_0 : List Int) (a2_1 : Int) (a2_2 : Int) (a2_3 : Int) (a2_4 : Int) (a2_5 : Int) (a2_6 : Int) (a2_7 : Int) (a2_8 : Int) (a2_9 : Int) (a2_10 : Int) (a2_11 : Int) (a2_12 : Int) (a2_13 : Int) (a2_14 : Bool) (a2_15 : Bool) (a2_16 : Bool) (a2_17 : Int) (a2_18 : Int) (a2_19 : Int) (a2_20 : Int) (a2_21 : Int) (a2_22 : Int) (a2_23 : Int) (a2_24 : Int) (a2_25 : Int) (a2_26 : Int) (a2_27 : Int) (a2_28 : Int) (a2_29 : Int) (a2_30 : Int) (a2_31 : Int) (a2_32 : Bool) (a2_33 : Bool) (a2_34 : Bool) (a2_35 : Bool) (a2_36 : Bool) (a3 : Int) : Option (Bool) := (shacklelaw08_up.f).bind fun t103 => ((vers_Read.f l0 a1_0 a1_1 l1_2 l2_0 a2_1 a2_2 a2_3 a2_4 a2_5 a2_6 a2_7 a2_8 a2_9 a2_10 a2_11 a2_12 a2_13 a2_14 a2_15 a2_16 a2_17 a2_18 a2_19 a2_20 a2_21 a2_22 a2_23 a2_24 a2_25 a2_26 a2_27 a2_28 a2_29 a2_30 a2_31 a2_32 a2_33 a2_34 a2_35 a2_36 a3).bind fun bt104 => (if bt104.2.2.2.2.isNone = true then (shacklelaw08_VersOnce.j0 k a3 t103 (!bt104.1) bt104.1 bt104.2.1 bt104.2.2.1 bt104.2.2.2.1) else (shacklelaw08_VersOnce.j0 k a3 t103 true bt104.1 bt104.2.1 bt104.2.2.1 bt104.2.2.2.1)))
theorem shacklelaw08_VersOnce.mono_l : ∀ k, (∀ y0 y1 y2 y3 y4 y5 y6, LeO (shacklelaw08_VersOnce.j0 k y0 y1 y2 y3 y4 y5 y6) (shacklelaw08_VersOnce.j0 (k + 1) y0 y1 y2 y3 y4 y5 y6)) ∧ (∀ y0 y1 y2 y3 y4 y5 y6 y7, LeO (shacklelaw08_VersOnce.l0 k y0 y1 y2 y3 y4 y5 y6 y7) (shacklelaw08_VersOnce.l0 (k + 1) y0 y1 y2 y3 y4 y5 y6 y7)) ∧ (∀ y0 y1 y2 y3 y4 y5 y6 y7, LeO (shacklelaw08_VersOnce.l1 k y0 y1 y2 y3 y4 y5 y6 y7) (shacklelaw08_VersOnce.l1 (k + 1) y0 y1 y2 y3 y4 y5 y6 y7)) ∧ (∀ y0 y1 y2 y3 y4 y5 y6 y7 y8, LeO (shacklelaw08_VersOnce.l2 k y0 y1 y2 y3 y4 y5 y6 y7 y8) (shacklelaw08_VersOnce.l2 (k + 1) y0 y1 y2 y3 y4 y5 y6 y7 y8)) ∧ (∀ y0 y1 y2 y3 y4 y5 y6 y7, LeO (shacklelaw08_VersOnce.l3 k y0 y1 y2 y3 y4 y5 y6 y7) (shacklelaw08_VersOnce.l3 (k + 1) y0 y1 y2 y3 y4 y5 y6 y7)) ∧ (∀ y0 y1 y2 y3 y4 y5 y6 y7 y8, LeO (shacklelaw08_VersOnce.l4 k y0 y1 y2 y3 y4 y5 y6 y7 y8) (shacklelaw08_VersOnce.l4 (k + 1) y0 y1 y2 y3 y4 y5 y6 y7 y8)) ∧ (∀ y0 y1 y2 y3 y4 y5 y6 y7, LeO (shacklelaw08_VersOnce.l5 k y0 y1 y2 y3 y4 y5 y6 y7) (shacklelaw08_VersOnce.l5 (k + 1) y0 y1 y2 y3 y4 y5 y6 y7)) ∧ (∀ y0 y1 y2 y3 y4 y5 y6 y7 y8 y9, LeO (shacklelaw08_VersOnce.j7 k y0 y1 y2 y3 y4 y5 y6 y7 y8 y9) (shacklelaw08_VersOnce.j7 (k + 1) y0 y1 y2 y3 y4 y5 y6 y7 y8 y9)) ∧ (∀ y0 y1 y2 y3 y4 y5 y6 y7 y8 y9 y10, LeO (shacklelaw08_VersOnce.l6 k y0 y1 y2 y3 y4 y5 y6 y7 y8 y9 y10) (shacklelaw08_VersOnce.l6 (k + 1) y0 y1 y2 y3 y4 y5 y6 y7 y8 y9 y10))
 | 0 => ⟨fun _ _ _ _ _ _ _ r h => by simp [shacklelaw08_VersOnce.j0] at h, fun _ _ _ _ _ _ _ _ r h => by simp [shacklelaw08_VersOnce.l0] at h, fun _ _ _ _ _ _ _ _ r h => by simp [shacklelaw08_VersOnce.l1] at h, fun _ _ _ _ _ _ _ _ _ r h => by simp [shacklelaw08_VersOnce.l2] at h, fun _ _ _ _ _ _ _ _ r h => by simp [shacklelaw08_VersOnce.l3] at h, fun _ _ _ _ _ _ _ _ _ r h => by simp [shacklelaw08_VersOnce.l4] at h, fun _ _ _ _ _ _ _ _ r h => by simp [shacklelaw08_VersOnce.l5] at h, fun _ _ _ _ _ _ _ _ _ _ r h => by simp [shacklelaw08_VersOnce.j7] at h, fun _ _ _ _ _ _ _ _ _ _ _ r h => by simp [shacklelaw08_VersOnce.l6] at h⟩
 | k + 1 => by
  obtain ⟨ih0, ih1, ih2, ih3, ih4, ih5, ih6, ih7, ih8⟩ := shacklelaw08_VersOnce.mono_l k
  refine ⟨?_, ?_, ?_, ?_, ?_, ?_, ?_, ?_, ?_⟩
  ·intro y0 y1 y2 y3 y4 y5 y6
   unfold shacklelaw08_VersOnce.j0
   repeat' first
   | (with_reducible exact ih0 _ _ _ _ _ _ _)
   | (with_reducible exact ih1 _ _ _ _ _ _ _ _)
   | (with_reducible exact ih2 _ _ _ _ _ _ _ _)
   | (with_reducible exact ih3 _ _ _ _ _ _ _ _ _)
   | (with_reducible exact ih4 _ _ _ _ _ _ _ _)
   | (with_reducible exact ih5 _ _ _ _ _ _ _ _ _)
   | (with_reducible exact ih6 _ _ _ _ _ _ _ _)
   | (with_reducible exact ih7 _ _ _ _ _ _ _ _ _ _)
   | (with_reducible exact ih8 _ _ _ _ _ _ _ _ _ _ _)
   | (with_reducible exact LeO.refl _)
   | (with_reducible exact LeO.none _)
   | (with_reducible refine LeO.ite ?_ ?_)
   | (with_reducible refine LeO.bind ?_ (fun _ => ?_))
   | exact ih0 _ _ _ _ _ _ _
   | exact ih1 _ _ _ _ _ _ _ _
   | exact ih2 _ _ _ _ _ _ _ _
   | exact ih3 _ _ _ _ _ _ _ _ _
   | exact ih4 _ _ _ _ _ _ _ _
   | exact ih5 _ _ _ _ _ _ _ _ _
   | exact ih6 _ _ _ _ _ _ _ _
   | exact ih7 _ _ _ _ _ _ _ _ _ _
   | exact ih8 _ _ _ _ _ _ _ _ _ _ _
   | exact LeO.none _
   | refine LeO.ite ?_ ?_
   | refine LeO.bind ?_ (fun _ => ?_)
  ·intro y0 y1 y2 y3 y4 y5 y6 y7
   unfold shacklelaw08_VersOnce.l0
   repeat' first
   | (with_reducible exact ih0 _ _ _ _ _ _ _)
   | (with_reducible exact ih1 _ _ _ _ _ _ _ _)
   | (with_reducible exact ih2 _ _ _ _ _ _ _ _)
   | (with_reducible exact ih3 _ _ _ _ _ _ _ _ _)
   | (with_reducible exact ih4 _ _ _ _ _ _ _ _)
   | (with_reducible exact ih5 _ _ _ _ _ _ _ _ _)
   | (with_reducible exact ih6 _ _ _ _ _ _ _ _)
   | (with_reducible exact ih7 _ _ _ _ _ _ _ _ _ _)
   | (with_reducible exact ih8 _ _ _ _ _ _ _ _ _ _ _)
   | (with_reducible exact LeO.refl _)
   | (with_reducible exact LeO.none _)
   | (with_reducible refine LeO.ite ?_ ?_)
   | (with_reducible refine LeO.bind ?_ (fun _ => ?_))
   | exact ih0 _ _ _ _ _ _ _
   | exact ih1 _ _ _ _ _ _ _ _
   | exact ih2 _ _ _ _ _ _ _ _
   | exact ih3 _ _ _ _ _ _ _ _ _
   | exact ih4 _ _ _ _ _ _ _ _
   | exact ih5 _ _ _ _ _ _ _ _ _
   | exact ih6 _ _ _ _ _ _ _ _
   | exact ih7 _ _ _ _ _ _ _ _ _ _
   | exact ih8 _ _ _ _ _ _ _ _ _ _ _
   | exact LeO.none _
   | refine LeO.ite ?_ ?_
   | refine LeO.bind ?_ (fun _ => ?_)
  ·intro y0 y1 y2 y3 y4 y5 y6 y7
   unfold shacklelaw08_VersOnce.l1
   repeat' first
   | (with_reducible exact ih0 _ _ _ _ _ _ _)
   | (with_reducible exact ih1 _ _ _ _ _ _ _ _)
   | (with_reducible exact ih2 _ _ _ _ _ _ _ _)
   | (with_reducible exact ih3 _ _ _ _ _ _ _ _ _)
   | (with_reducible exact ih4 _ _ _ _ _ _ _ _)
   | (with_reducible exact ih5 _ _ _ _ _ _ _ _ _)
   | (with_reducible exact ih6 _ _ _ _ _ _ _ _)
   | (with_reducible exact ih7 _ _ _ _ _ _ _ _ _ _)
   | (with_reducible exact ih8 _ _ _ _ _ _ _ _ _ _ _)
   | (with_reducible exact LeO.refl _)
   | (with_reducible exact LeO.none _)
   | (with_reducible refine LeO.ite ?_ ?_)
   | (with_reducible refine LeO.bind ?_ (fun _ => ?_))
   | exact ih0 _ _ _ _ _ _ _
   | exact ih1 _ _ _ _ _ _ _ _
   | exact ih2 _ _ _ _ _ _ _ _
   | exact ih3 _ _ _ _ _ _ _ _ _
   | exact ih4 _ _ _ _ _ _ _ _
   | exact ih5 _ _ _ _ _ _ _ _ _
   | exact ih6 _ _ _ _ _ _ _ _
   | exact ih7 _ _ _ _ _ _ _ _ _ _
   | exact ih8 _ _ _ _ _ _ _ _ _ _ _
   | exact LeO.none _
   | refine LeO.ite ?_ ?_
   | refine LeO.bind ?_ (fun _ => ?_)
  ·intro y0 y1 y2 y3 y4 y5 y6 y7 y8
   unfold shacklelaw08_VersOnce.l2
   repeat' first
   | (with_reducible exact ih0 _ _ _ _ _ _ _)
   | (with_reducible exact ih1 _ _ _ _ _ _ _ _)
   | (with_reducible exact ih2 _ _ _ _ _ _ _ _)
   | (with_reducible exact ih3 _ _ _ _ _ _ _ _ _)
   | (with_reducible exact ih4 _ _ _ _ _ _ _ _)
   | (with_reducible exact ih5 _ _ _ _ _ _ _ _ _)
   | (with_reducible exact ih6 _ _ _ _ _ _ _ _)
   | (with_reducible exact ih7 _ _ _ _ _ _ _ _ _ _)
   | (with_reducible exact ih8 _ _ _ _ _ _ _ _ _ _ _)
   | (with_reducible exact LeO.refl _)
   | (with_reducible exact LeO.none _)
   | (with_reducible refine LeO.ite ?_ ?_)
   | (with_reducible refine LeO.bind ?_ (fun _ => ?_))
   | exact ih0 _ _ _ _ _ _ _
   | exact ih1 _ _ _ _ _ _ _ _
   | exact ih2 _ _ _ _ _ _ _ _
   | exact ih3 _ _ _ _ _ _ _ _ _
   | exact ih4 _ _ _ _ _ _ _ _
   | exact ih5 _ _ _ _ _ _ _ _ _
   | exact ih6 _ _ _ _ _ _ _ _
   | exact ih7 _ _ _ _ _ _ _ _ _ _
   | exact ih8 _ _ _ _ _ _ _ _ _ _ _
   | exact LeO.none _
   | refine LeO.ite ?_ ?_
   | refine LeO.bind ?_ (fun _ => ?_)
  ·intro y0 y1 y2 y3 y4 y5 y6 y7
   unfold shacklelaw08_VersOnce.l3
   repeat' first
   | (with_reducible exact ih0 _ _ _ _ _ _ _)
   | (with_reducible exact ih1 _ _ _ _ _ _ _ _)
   | (with_reducible exact ih2 _ _ _ _ _ _ _ _)
   | (with_reducible exact ih3 _ _ _ _ _ _ _ _ _)
   | (with_reducible exact ih4 _ _ _ _ _ _ _ _)
   | (with_reducible exact ih5 _ _ _ _ _ _ _ _ _)
   | (with_reducible exact ih6 _ _ _ _ _ _ _ _)
   | (with_reducible exact ih7 _ _ _ _ _ _ _ _ _ _)
   | (with_reducible exact ih8 _ _ _ _ _ _ _ _ _ _ _)
   | (with_reducible exact LeO.refl _)
   | (with_reducible exact LeO.none _)
   | (with_reducible refine LeO.ite ?_ ?_)
   | (with_reducible refine LeO.bind ?_ (fun _ => ?_))
   | exact ih0 _ _ _ _ _ _ _
   | exact ih1 _ _ _ _ _ _ _ _
   | exact ih2 _ _ _ _ _ _ _ _
   | exact ih3 _ _ _ _ _ _ _ _ _
   | exact ih4 _ _ _ _ _ _ _ _
   | exact ih5 _ _ _ _ _ _ _ _ _
   | exact ih6 _ _ _ _ _ _ _ _
   | exact ih7 _ _ _ _ _ _ _ _ _ _
   | exact ih8 _ _ _ _ _ _ _ _ _ _ _
   | exact LeO.none _
   | refine LeO.ite ?_ ?_
   | refine LeO.bind ?_ (fun _ => ?_)
  ·intro y0 y1 y2 y3 y4 y5 y6 y7 y8
   unfold shacklelaw08_VersOnce.l4
   repeat' first
   | (with_reducible exact ih0 _ _ _ _ _ _ _)
   | (with_reducible exact ih1 _ _ _ _ _ _ _ _)
   | (with_reducible exact ih2 _ _ _ _ _ _ _ _)
   | (with_reducible exact ih3 _ _ _ _ _ _ _ _ _)
   | (with_reducible exact ih4 _ _ _ _ _ _ _ _)
   | (with_reducible exact ih5 _ _ _ _ _ _ _ _ _)
   | (with_reducible exact ih6 _ _ _ _ _ _ _ _)
   | (with_reducible exact ih7 _ _ _ _ _ _ _ _ _ _)
   | (with_reducible exact ih8 _ _ _ _ _ _ _ _ _ _ _)
   | (with_reducible exact LeO.refl _)
   | (with_reducible exact LeO.none _)
   | (with_reducible refine LeO.ite ?_ ?_)
   | (with_reducible refine LeO.bind ?_ (fun _ => ?_))
   | exact ih0 _ _ _ _ _ _ _
   | exact ih1 _ _ _ _ _ _ _ _
   | exact ih2 _ _ _ _ _ _ _ _
   | exact ih3 _ _ _ _ _ _ _ _ _
   | exact ih4 _ _ _ _ _ _ _ _
   | exact ih5 _ _ _ _ _ _ _ _ _
   | exact ih6 _ _ _ _ _ _ _ _
   | exact ih7 _ _ _ _ _ _ _ _ _ _
   | exact ih8 _ _ _ _ _ _ _ _ _ _ _
   | exact LeO.none _
   | refine LeO.ite ?_ ?_
   | refine LeO.bind ?_ (fun _ => ?_)
  ·intro y0 y1 y2 y3 y4 y5 y6 y7
   unfold shacklelaw08_VersOnce.l5
   repeat' first
   | (with_reducible exact ih0 _ _ _ _ _ _ _)
   | (with_reducible exact ih1 _ _ _ _ _ _ _ _)
   | (with_reducible exact ih2 _ _ _ _ _ _ _ _)
   | (with_reducible exact ih3 _ _ _ _ _ _ _ _ _)
   | (with_reducible exact ih4 _ _ _ _ _ _ _ _)
   | (with_reducible exact ih5 _ _ _ _ _ _ _ _ _)
   | (with_reducible exact ih6 _ _ _ _ _ _ _ _)
   | (with_reducible exact ih7 _ _ _ _ _ _ _ _ _ _)
   | (with_reducible exact ih8 _ _ _ _ _ _ _ _ _ _ _)
   | (with_reducible exact LeO.refl _)
   | (with_reducible exact LeO.none _)
   | (with_reducible refine LeO.ite ?_ ?_)
   | (with_reducible refine LeO.bind ?_ (fun _ => ?_))
   | exact ih0 _ _ _ _ _ _ _
   | exact ih1 _ _ _ _ _ _ _ _
   | exact ih2 _ _ _ _ _ _ _ _
   | exact ih3 _ _ _ _ _ _ _ _ _
   | exact ih4 _ _ _ _ _ _ _ _
   | exact ih5 _ _ _ _ _ _ _ _ _
   | exact ih6 _ _ _ _ _ _ _ _
   | exact ih7 _ _ _ _ _ _ _ _ _ _
   | exact ih8 _ _ _ _ _ _ _ _ _ _ _
   | exact LeO.none _
   | refine LeO.ite ?_ ?_
   | refine LeO.bind ?_ (fun _ => ?_)
  ·intro y0 y1 y2 y3 y4 y5 y6 y7 y8 y9
   unfold shacklelaw08_VersOnce.j7
   repeat' first
   | (with_reducible exact ih0 _ _ _ _ _ _ _)
   | (with_reducible exact ih1 _ _ _ _ _ _ _ _)
   | (with_reducible exact ih2 _ _ _ _ _ _ _ _)
   | (with_reducible exact ih3 _ _ _ _ _ _ _ _ _)
   | (with_reducible exact ih4 _ _ _ _ _ _ _ _)
   | (with_reducible exact ih5 _ _ _ _ _ _ _ _ _)
   | (with_reducible exact ih6 _ _ _ _ _ _ _ _)
   | (with_reducible exact ih7 _ _ _ _ _ _ _ _ _ _)
   | (with_reducible exact ih8 _ _ _ _ _ _ _ _ _ _ _)
   | (with_reducible exact LeO.refl _)
   | (with_reducible exact LeO.none _)
   | (with_reducible refine LeO.ite ?_ ?_)
   | (with_reducible refine LeO.bind ?_ (fun _ => ?_))
   | exact ih0 _ _ _ _ _ _ _
   | exact ih1 _ _ _ _ _ _ _ _
   | exact ih2 _ _ _ _ _ _ _ _
   | exact ih3 _ _ _ _ _ _ _ _ _
   | exact ih4 _ _ _ _ _ _ _ _
   | exact ih5 _ _ _ _ _ _ _ _ _
   | exact ih6 _ _ _ _ _ _ _ _
   | exact ih7 _ _ _ _ _ _ _ _ _ _
   | exact ih8 _ _ _ _ _ _ _ _ _ _ _
   | exact LeO.none _
   | refine LeO.ite ?_ ?_
   | refine LeO.bind ?_ (fun _ => ?_)
  ·intro y0 y1 y2 y3 y4 y5 y6 y7 y8 y9 y10
   unfold shacklelaw08_VersOnce.l6
   repeat' first
   | (with_reducible exact ih0 _ _ _ _ _ _ _)
   | (with_reducible exact ih1 _ _ _ _ _ _ _ _)
   | (with_reducible exact ih2 _ _ _ _ _ _ _ _)
   | (with_reducible exact ih3 _ _ _ _ _ _ _ _ _)
   | (with_reducible exact ih4 _ _ _ _ _ _ _ _)
   | (with_reducible exact ih5 _ _ _ _ _ _ _ _ _)
   | (with_reducible exact ih6 _ _ _ _ _ _ _ _)
   | (with_reducible exact ih7 _ _ _ _ _ _ _ _ _ _)
   | (with_reducible exact ih8 _ _ _ _ _ _ _ _ _ _ _)
   | (with_reducible exact LeO.refl _)
   | (with_reducible exact LeO.none _)
   | (with_reducible refine LeO.ite ?_ ?_)
   | (with_reducible refine LeO.bind ?_ (fun _ => ?_))
   | exact ih0 _ _ _ _ _ _ _
   | exact ih1 _ _ _ _ _ _ _ _
   | exact ih2 _ _ _ _ _ _ _ _
   | exact ih3 _ _ _ _ _ _ _ _ _
   | exact ih4 _ _ _ _ _ _ _ _
   | exact ih5 _ _ _ _ _ _ _ _ _
   | exact ih6 _ _ _ _ _ _ _ _
   | exact ih7 _ _ _ _ _ _ _ _ _ _
   | exact ih8 _ _ _ _ _ _ _ _ _ _ _
   | exact LeO.none _
   | refine LeO.ite ?_ ?_
   | refine LeO.bind ?_ (fun _ => ?_)
theorem shacklelaw08_VersOnce.mono : ∀ a0 a1 a2 a3 a4 a5 a6 a7 a8 a9 a10 a11 a12 a13 a14 a15 a16 a17 a18 a19 a20 a21 a22 a23 a24 a25 a26 a27 a28 a29 a30 a31 a32 a33 a34 a35 a36 a37 a38 a39 a40 a41 k, LeO (shacklelaw08_VersOnce.f k a0 a1 a2 a3 a4 a5 a6 a7 a8 a9 a10 a11 a12 a13 a14 a15 a16 a17 a18 a19 a20 a21 a22 a23 a24 a25 a26 a27 a28 a29 a30 a31 a32 a33 a34 a35 a36 a37 a38 a39 a40 a41) (shacklelaw08_VersOnce.f (k + 1) a0 a1 a2 a3 a4 a5 a6 a7 a8 a9 a10 a11 a12 a13 a14 a15 a16 a17 a18 a19 a20 a21 a22 a23 a24 a25 a26 a27 a28 a29 a30 a31 a32 a33 a34 a35 a36 a37 a38 a39 a40 a41) := by
 intro a0 a1 a2 a3 a4 a5 a6 a7 a8 a9 a10 a11 a12 a13 a14 a15 a16 a17 a18 a19 a20 a21 a22 a23 a24 a25 a26 a27 a28 a29 a30 a31 a32 a33 a34 a35 a36 a37 a38 a39 a40 a41 k
 obtain ⟨ih0, ih1, ih2, ih3, ih4, ih5, ih6, ih7, ih8⟩ := shacklelaw08_VersOnce.mono_l k
 unfold shacklelaw08_VersOnce.f
 repeat' first
   | (with_reducible exact ih0 _ _ _ _ _ _ _)
   | (with_reducible exact ih1 _ _ _ _ _ _ _ _)
   | (with_reducible exact ih2 _ _ _ _ _ _ _ _)
   | (with_reducible exact ih3 _ _ _ _ _ _ _ _ _)
   | (with_reducible exact ih4 _ _ _ _ _ _ _ _)
   | (with_reducible exact ih5 _ _ _ _ _ _ _ _ _)
   | (with_reducible exact ih6 _ _ _ _ _ _ _ _)
   | (with_reducible exact ih7 _ _ _ _ _ _ _ _ _ _)
   | (with_reducible exact ih8 _ _ _ _ _ _ _ _ _ _ _)
   | (with_reducible exact LeO.refl _)
   | (with_reducible exact LeO.none _)
   | (with_reducible refine LeO.ite ?_ ?_)
   | (with_reducible refine LeO.bind ?_ (fun _ => ?_))
   | exact ih0 _ _ _ _ _ _ _
   | exact ih1 _ _ _ _ _ _ _ _
   | exact ih2 _ _ _ _ _ _ _ _
   | exact ih3 _ _ _ _ _ _ _ _ _
   | exact ih4 _ _ _ _ _ _ _ _
   | exact ih5 _ _ _ _ _ _ _ _ _
   | exact ih6 _ _ _ _ _ _ _ _
   | exact ih7 _ _ _ _ _ _ _ _ _ _
   | exact ih8 _ _ _ _ _ _ _ _ _ _ _
   | exact LeO.none _
   | refine LeO.ite ?_ ?_
   | refine LeO.bind ?_ (fun _ => ?_)
set_option maxHeartbeats 8000000 in
set_option maxRecDepth 100000 in
theorem shacklelaw08_VersOnce.calls (k : Nat) (A0 : Option Addr) (c0 : Nat) (l0 : List Int) (a1_0 : Int) (a1_1 : Int) (A1_2 : Option Addr) (c1_2 : Nat) (l1_2 : List (S29)) (A2_0 : Option Addr) (c2_0 : Nat) (l2_0 : List Int) (a2_1 : Int) (a2_2 : Int) (a2_3 : Int) (a2_4 : Int) (a2_5 : Int) (a2_6 : Int) (a2_7 : Int) (a2_8 : Int) (a2_9 : Int) (a2_10 : Int) (a2_11 : Int) (a2_12 : Int) (a2_13 : Int) (a2_14 : Bool) (a2_15 : Bool) (a2_16 : Bool) (a2_17 : Int) (a2_18 : Int) (a2_19 : Int) (a2_20 : Int) (a2_21 : Int) (a2_22 : Int) (a2_23 : Int) (a2_24 : Int) (a2_25 : Int) (a2_26 : Int) (a2_27 : Int) (a2_28 : Int) (a2_29 : Int) (a2_30 : Int) (a2_31 : Int) (a2_32 : Bool) (a2_33 : Bool) (a2_34 : Bool) (a2_35 : Bool) (a2_36 : Bool) (a3 : Int) (r : Bool) (w : World) (hr0 : Kd.C (Kd.int .u8) w A0 l0.length l0) (hc0 : l0.length ≤ c0) (hr1_2 : Kd.C k29 w A1_2 l1_2.length l1_2) (hc1_2 : l1_2.length ≤ c1_2) (hr2_0 : Kd.C (Kd.int .u64) w A2_0 l2_0.length l2_0) (hc2_0 : l2_0.length ≤ c2_0) (h : shacklelaw08_VersOnce.f k l0 a1_0 a1_1 l1_2 l2_0 a2_1 a2_2 a2_3 a2_4 a2_5 a2_6 a2_7 a2_8 a2_9 a2_10 a2_11 a2_12 a2_13 a2_14 a2_15 a2_16 a2_17 a2_18 a2_19 a2_20 a2_21 a2_22 a2_23 a2_24 a2_25 a2_26 a2_27 a2_28 a2_29 a2_30 a2_31 a2_32 a2_33 a2_34 a2_35 a2_36 a3 = some r) :
  Calls Try.prog 6 #[.slice A0 l0.length c0, .agg #[.int .i64 a1_0, .int .u64 a1_1, .slice A1_2 l1_2.length c1_2], .agg #[.slice A2_0 l2_0.length c2_0, .int .u64 a2_1, .int .u64 a2_2, .int .u64 a2_3, .int .u64 a2_4, .int .u64 a2_5, .int .u64 a2_6, .int .u64 a2_7, .int .u64 a2_8, .int .u64 a2_9, .int .u64 a2_10, .int .u64 a2_11, .int .u64 a2_12, .int .u64 a2_13, .bool a2_14, .bool a2_15, .bool a2_16, .int .u64 a2_17, .int .u64 a2_18, .int .u64 a2_19, .int .u64 a2_20, .int .u64 a2_21, .int .u64 a2_22, .int .u64 a2_23, .int .u64 a2_24, .int .u64 a2_25, .int .u64 a2_26, .int .u64 a2_27, .int .u64 a2_28, .int .u64 a2_29, .int .u64 a2_30, .int .u64 a2_31, .bool a2_32, .bool a2_33, .bool a2_34, .bool a2_35, .bool a2_36], .int .i64 a3] w fun e w' => e = .returned (.bool r) ∧ Below w.heap.size w w' := by
 have hu32 := Try.underlying32
 have hu35 := Try.underlying35
 have hu54 := Try.underlying54
 have hu41 := Try.underlying41
 have HR0 := Aside0.mk hr0
 have HC0 := Aside0.mk hc0
 clear hr0 hc0
 have HR1_2 := Aside0.mk hr1_2
 have HC1_2 := Aside0.mk hc1_2
 clear hr1_2 hc1_2
 have HR2_0 := Aside0.mk hr2_0
 have HC2_0 := Aside0.mk hc2_0
 clear hr2_0 hc2_0
 have HB := Aside0.mk (Below.refl w.heap.size w)
 have H : ((shacklelaw08_up.f).bind fun t103 => ((vers_Read.f l0 a1_0 a1_1 l1_2 l2_0 a2_1 a2_2 a2_3 a2_4 a2_5 a2_6 a2_7 a2_8 a2_9 a2_10 a2_11 a2_12 a2_13 a2_14 a2_15 a2_16 a2_17 a2_18 a2_19 a2_20 a2_21 a2_22 a2_23 a2_24 a2_25 a2_26 a2_27 a2_28 a2_29 a2_30 a2_31 a2_32 a2_33 a2_34 a2_35 a2_36 a3).bind fun bt104 => (if bt104.2.2.2.2.isNone = true then (shacklelaw08_VersOnce.j0 k a3 t103 (!bt104.1) bt104.1 bt104.2.1 bt104.2.2.1 bt104.2.2.2.1) else (shacklelaw08_VersOnce.j0 k a3 t103 true bt104.1 bt104.2.1 bt104.2.2.1 bt104.2.2.2.1)))) = some r := h
 clear h
 replace H := Option.bind_eq_some_iff.mp H
 obtain ⟨t103, A50, H⟩ := H
 replace H : ((vers_Read.f l0 a1_0 a1_1 l1_2 l2_0 a2_1 a2_2 a2_3 a2_4 a2_5 a2_6 a2_7 a2_8 a2_9 a2_10 a2_11 a2_12 a2_13 a2_14 a2_15 a2_16 a2_17 a2_18 a2_19 a2_20 a2_21 a2_22 a2_23 a2_24 a2_25 a2_26 a2_27 a2_28 a2_29 a2_30 a2_31 a2_32 a2_33 a2_34 a2_35 a2_36 a3).bind fun bt104 => (if bt104.2.2.2.2.isNone = true then (shacklelaw08_VersOnce.j0 k a3 t103 (!bt104.1) bt104.1 bt104.2.1 bt104.2.2.1 bt104.2.2.2.1) else (shacklelaw08_VersOnce.j0 k a3 t103 true bt104.1 bt104.2.1 bt104.2.2.1 bt104.2.2.2.1))) = some r := H
 have A5 := Aside0.mk A50
 clear A50
 replace H := Option.bind_eq_some_iff.mp H
 obtain ⟨⟨t104, t105, t108, t111, t114⟩, A60, H⟩ := H
 replace H : (if t114.isNone = true then (shacklelaw08_VersOnce.j0 k a3 t103 (!t104) t104 t105 t108 t111) else (shacklelaw08_VersOnce.j0 k a3 t103 true t104 t105 t108 t111)) = some r := H
 have A6 := Aside0.mk A60
 clear A60
 have HC7 := Aside0.mk H
 clear H
 go_enter Try.func6, Try.ntmps6
 go_upto_region 3 with (first | ((with_reducible refine gate_ (.load 35 (.tmp 6)) rfl ?_); refine wpList_load_row rfl 35 (.tmp 6) rfl gb102 rfl 35 _ (0, 0) _ (by (with_reducible repeat (first | refine blk_drewN ?_ _ | refine blk_drew ?_ | refine blk_alloc ?_ _)); exact BK102.out) Try.underlying35 rfl (by kernel_rfl) ?_) | ((with_reducible refine gate_dst (N := 5) rfl ?_); (try (refine gate_guard (by rfl) ?_; dsimp only)); refine box_event ?hg (N := 5) ?hd (cs := #[.int .i64 a1_0, .int .u64 a1_1, .slice A1_2 l1_2.length c1_2]) (t := 32) ?hr ?_; (case hd => rfl); (case hg => rfl); (case hr => first | (go_simp; done) | (go_simp; rfl)); intro gb101 hg w8 hbox hb; have n0_ := Aside0.mk (below_step (by repeat (first | (with_reducible first | exact HB.out | apply below_alloc | apply pw_below_drewN | apply below_drew1) | exact HB.out)) hb); have n1_ := Aside0.mk (hbox); have n2_ := Aside0.mk ((by rw [hg]; exact (below_size (by repeat (first | (with_reducible first | exact HB.out | apply below_alloc | apply pw_below_drewN | apply below_drew1) | exact HB.out))) : w.heap.size ≤ gb101)); have n3_ := Aside0.mk ((by rw [hg]; exact (below_size (by repeat (first | (with_reducible first | exact HB.out | apply below_alloc | apply pw_below_drewN | apply below_drew1) | exact HB.out))) : w.heap.size ≤ gb101)); clear HB; have HB := n0_; have BK101 := n1_; have GW101 := n2_; have GE101 := n3_; clear n0_ n1_ n2_ n3_; clear hb hbox hg) | ((with_reducible refine gate_dst (N := 6) rfl ?_); (try (refine gate_guard (by rfl) ?_; dsimp only)); refine box_event ?hg (N := 6) ?hd (cs := #[.slice A2_0 l2_0.length c2_0, .int .u64 a2_1, .int .u64 a2_2, .int .u64 a2_3, .int .u64 a2_4, .int .u64 a2_5, .int .u64 a2_6, .int .u64 a2_7, .int .u64 a2_8, .int .u64 a2_9, .int .u64 a2_10, .int .u64 a2_11, .int .u64 a2_12, .int .u64 a2_13, .bool a2_14, .bool a2_15, .bool a2_16, .int .u64 a2_17, .int .u64 a2_18, .int .u64 a2_19, .int .u64 a2_20, .int .u64 a2_21, .int .u64 a2_22, .int .u64 a2_23, .int .u64 a2_24, .int .u64 a2_25, .int .u64 a2_26, .int .u64 a2_27, .int .u64 a2_28, .int .u64 a2_29, .int .u64 a2_30, .int .u64 a2_31, .bool a2_32, .bool a2_33, .bool a2_34, .bool a2_35, .bool a2_36]) (t := 35) ?hr ?_; (case hd => rfl); (case hg => rfl); (case hr => first | (go_simp; done) | (go_simp; rfl)); intro gb102 hg w9 hbox hb; have n0_ := Aside0.mk (blk_below (g := gb101) (o := .cells #[.int .i64 a1_0, .int .u64 a1_1, .slice A1_2 l1_2.length c1_2] 32 (0, 0)) (by (with_reducible repeat (first | refine blk_drewN ?_ _ | refine blk_drew ?_ | refine blk_alloc ?_ _)); exact BK101.out) hb); have n1_ := Aside0.mk (below_step (by repeat (first | (with_reducible first | exact HB.out | apply below_alloc | apply pw_below_drewN | apply below_drew1 | refine below_set ?_ GE101.out) | exact HB.out)) hb); have n2_ := Aside0.mk (hbox); have n3_ := Aside0.mk ((by rw [hg]; exact (below_size (by repeat (first | (with_reducible first | exact HB.out | apply below_alloc | apply pw_below_drewN | apply below_drew1 | refine below_set ?_ GE101.out) | exact HB.out))) : w.heap.size ≤ gb102)); have n4_ := Aside0.mk ((by rw [hg]; exact (below_size (by repeat (first | (with_reducible first | exact HB.out | apply below_alloc | apply pw_below_drewN | apply below_drew1 | refine below_set ?_ GE101.out) | exact HB.out))) : w.heap.size ≤ gb102)); have n5_ := Aside0.mk ((by rw [hg]; exact Nat.ne_of_lt (blk_lt (g := gb101) (o := .cells #[.int .i64 a1_0, .int .u64 a1_1, .slice A1_2 l1_2.length c1_2] 32 (0, 0)) (by (with_reducible repeat (first | refine blk_drewN ?_ _ | refine blk_drew ?_ | refine blk_alloc ?_ _)); exact BK101.out)) : gb101 ≠ gb102)); have n6_ := Aside0.mk ((by rw [hg]; exact Nat.ne_of_gt (blk_lt (g := gb101) (o := .cells #[.int .i64 a1_0, .int .u64 a1_1, .slice A1_2 l1_2.length c1_2] 32 (0, 0)) (by (with_reducible repeat (first | refine blk_drewN ?_ _ | refine blk_drew ?_ | refine blk_alloc ?_ _)); exact BK101.out)) : gb102 ≠ gb101)); clear BK101; clear HB; have BK101 := n0_; have HB := n1_; have BK102 := n2_; have GW102 := n3_; have GE102 := n4_; have NB101_102 := n5_; have NB102_101 := n6_; clear n0_ n1_ n2_ n3_ n4_ n5_ n6_; clear hb hbox hg) | (go_at_call 17; (with_reducible refine (shacklelaw08_up.calls  t103 _ A5.out).mono ?_); rintro e w10 ⟨rfl, hb⟩; have n0_ := Aside0.mk (blk_below (g := gb101) (o := .cells #[.int .i64 a1_0, .int .u64 a1_1, .slice A1_2 l1_2.length c1_2] 32 (0, 0)) (by (with_reducible repeat (first | refine blk_drewN ?_ _ | refine blk_drew ?_ | refine blk_alloc ?_ _)); exact BK101.out) hb); have n1_ := Aside0.mk (blk_below (g := gb102) (o := .cells #[.slice A2_0 l2_0.length c2_0, .int .u64 a2_1, .int .u64 a2_2, .int .u64 a2_3, .int .u64 a2_4, .int .u64 a2_5, .int .u64 a2_6, .int .u64 a2_7, .int .u64 a2_8, .int .u64 a2_9, .int .u64 a2_10, .int .u64 a2_11, .int .u64 a2_12, .int .u64 a2_13, .bool a2_14, .bool a2_15, .bool a2_16, .int .u64 a2_17, .int .u64 a2_18, .int .u64 a2_19, .int .u64 a2_20, .int .u64 a2_21, .int .u64 a2_22, .int .u64 a2_23, .int .u64 a2_24, .int .u64 a2_25, .int .u64 a2_26, .int .u64 a2_27, .int .u64 a2_28, .int .u64 a2_29, .int .u64 a2_30, .int .u64 a2_31, .bool a2_32, .bool a2_33, .bool a2_34, .bool a2_35, .bool a2_36] 35 (0, 0)) (by (with_reducible repeat (first | refine blk_drewN ?_ _ | refine blk_drew ?_ | refine blk_alloc ?_ _)); exact BK102.out) hb); have n2_ := Aside0.mk (below_step (by repeat (first | (with_reducible first | exact HB.out | apply below_alloc | apply pw_below_drewN | apply below_drew1 | refine below_set ?_ GE101.out | refine below_set ?_ GE102.out) | exact HB.out)) hb); clear BK101; clear BK102; clear HB; have BK101 := n0_; have BK102 := n1_; have HB := n2_; clear n0_ n1_ n2_; (try clear hb); (try clear hb2); (try clear hk); (try clear hi); have hnb11 := NB101_102.out; have hnc11 := NB102_101.out; have hcz12_0 : w10.cell? ⟨gb101, 0, none⟩ = some (.int .i64 a1_0) := (blk_cell BK101.out 0).trans rfl; have hcz12_1 : w10.cell? ⟨gb101, 1, none⟩ = some (.int .u64 a1_1) := (blk_cell BK101.out 1).trans rfl; have hcz12_2 : w10.cell? ⟨gb101, 2, none⟩ = some (.slice A1_2 l1_2.length c1_2) := (blk_cell BK101.out 2).trans rfl; have hfz12_0 := blk_frozen BK101.out 0; have hfz12_1 := blk_frozen BK101.out 1; have hfz12_2 := blk_frozen BK101.out 2; have hcz13_0 : w10.cell? ⟨gb102, 0, none⟩ = some (.slice A2_0 l2_0.length c2_0) := (blk_cell BK102.out 0).trans rfl; have hcz13_1 : w10.cell? ⟨gb102, 1, none⟩ = some (.int .u64 a2_1) := (blk_cell BK102.out 1).trans rfl; have hcz13_2 : w10.cell? ⟨gb102, 2, none⟩ = some (.int .u64 a2_2) := (blk_cell BK102.out 2).trans rfl; have hcz13_3 : w10.cell? ⟨gb102, 3, none⟩ = some (.int .u64 a2_3) := (blk_cell BK102.out 3).trans rfl; have hcz13_4 : w10.cell? ⟨gb102, 4, none⟩ = some (.int .u64 a2_4) := (blk_cell BK102.out 4).trans rfl; have hcz13_5 : w10.cell? ⟨gb102, 5, none⟩ = some (.int .u64 a2_5) := (blk_cell BK102.out 5).trans rfl; have hcz13_6 : w10.cell? ⟨gb102, 6, none⟩ = some (.int .u64 a2_6) := (blk_cell BK102.out 6).trans rfl; have hcz13_7 : w10.cell? ⟨gb102, 7, none⟩ = some (.int .u64 a2_7) := (blk_cell BK102.out 7).trans rfl; have hcz13_8 : w10.cell? ⟨gb102, 8, none⟩ = some (.int .u64 a2_8) := (blk_cell BK102.out 8).trans rfl; have hcz13_9 : w10.cell? ⟨gb102, 9, none⟩ = some (.int .u64 a2_9) := (blk_cell BK102.out 9).trans rfl; have hcz13_10 : w10.cell? ⟨gb102, 10, none⟩ = some (.int .u64 a2_10) := (blk_cell BK102.out 10).trans rfl; have hcz13_11 : w10.cell? ⟨gb102, 11, none⟩ = some (.int .u64 a2_11) := (blk_cell BK102.out 11).trans rfl; have hcz13_12 : w10.cell? ⟨gb102, 12, none⟩ = some (.int .u64 a2_12) := (blk_cell BK102.out 12).trans rfl; have hcz13_13 : w10.cell? ⟨gb102, 13, none⟩ = some (.int .u64 a2_13) := (blk_cell BK102.out 13).trans rfl; have hcz13_14 : w10.cell? ⟨gb102, 14, none⟩ = some (.bool a2_14) := (blk_cell BK102.out 14).trans rfl; have hcz13_15 : w10.cell? ⟨gb102, 15, none⟩ = some (.bool a2_15) := (blk_cell BK102.out 15).trans rfl; have hcz13_16 : w10.cell? ⟨gb102, 16, none⟩ = some (.bool a2_16) := (blk_cell BK102.out 16).trans rfl; have hcz13_17 : w10.cell? ⟨gb102, 17, none⟩ = some (.int .u64 a2_17) := (blk_cell BK102.out 17).trans rfl; have hcz13_18 : w10.cell? ⟨gb102, 18, none⟩ = some (.int .u64 a2_18) := (blk_cell BK102.out 18).trans rfl; have hcz13_19 : w10.cell? ⟨gb102, 19, none⟩ = some (.int .u64 a2_19) := (blk_cell BK102.out 19).trans rfl; have hcz13_20 : w10.cell? ⟨gb102, 20, none⟩ = some (.int .u64 a2_20) := (blk_cell BK102.out 20).trans rfl; have hcz13_21 : w10.cell? ⟨gb102, 21, none⟩ = some (.int .u64 a2_21) := (blk_cell BK102.out 21).trans rfl; have hcz13_22 : w10.cell? ⟨gb102, 22, none⟩ = some (.int .u64 a2_22) := (blk_cell BK102.out 22).trans rfl; have hcz13_23 : w10.cell? ⟨gb102, 23, none⟩ = some (.int .u64 a2_23) := (blk_cell BK102.out 23).trans rfl; have hcz13_24 : w10.cell? ⟨gb102, 24, none⟩ = some (.int .u64 a2_24) := (blk_cell BK102.out 24).trans rfl; have hcz13_25 : w10.cell? ⟨gb102, 25, none⟩ = some (.int .u64 a2_25) := (blk_cell BK102.out 25).trans rfl; have hcz13_26 : w10.cell? ⟨gb102, 26, none⟩ = some (.int .u64 a2_26) := (blk_cell BK102.out 26).trans rfl; have hcz13_27 : w10.cell? ⟨gb102, 27, none⟩ = some (.int .u64 a2_27) := (blk_cell BK102.out 27).trans rfl; have hcz13_28 : w10.cell? ⟨gb102, 28, none⟩ = some (.int .u64 a2_28) := (blk_cell BK102.out 28).trans rfl; have hcz13_29 : w10.cell? ⟨gb102, 29, none⟩ = some (.int .u64 a2_29) := (blk_cell BK102.out 29).trans rfl; have hcz13_30 : w10.cell? ⟨gb102, 30, none⟩ = some (.int .u64 a2_30) := (blk_cell BK102.out 30).trans rfl; have hcz13_31 : w10.cell? ⟨gb102, 31, none⟩ = some (.int .u64 a2_31) := (blk_cell BK102.out 31).trans rfl; have hcz13_32 : w10.cell? ⟨gb102, 32, none⟩ = some (.bool a2_32) := (blk_cell BK102.out 32).trans rfl; have hcz13_33 : w10.cell? ⟨gb102, 33, none⟩ = some (.bool a2_33) := (blk_cell BK102.out 33).trans rfl; have hcz13_34 : w10.cell? ⟨gb102, 34, none⟩ = some (.bool a2_34) := (blk_cell BK102.out 34).trans rfl; have hcz13_35 : w10.cell? ⟨gb102, 35, none⟩ = some (.bool a2_35) := (blk_cell BK102.out 35).trans rfl; have hcz13_36 : w10.cell? ⟨gb102, 36, none⟩ = some (.bool a2_36) := (blk_cell BK102.out 36).trans rfl; have hfz13_0 := blk_frozen BK102.out 0; have hfz13_1 := blk_frozen BK102.out 1; have hfz13_2 := blk_frozen BK102.out 2; have hfz13_3 := blk_frozen BK102.out 3; have hfz13_4 := blk_frozen BK102.out 4; have hfz13_5 := blk_frozen BK102.out 5; have hfz13_6 := blk_frozen BK102.out 6; have hfz13_7 := blk_frozen BK102.out 7; have hfz13_8 := blk_frozen BK102.out 8; have hfz13_9 := blk_frozen BK102.out 9; have hfz13_10 := blk_frozen BK102.out 10; have hfz13_11 := blk_frozen BK102.out 11; have hfz13_12 := blk_frozen BK102.out 12; have hfz13_13 := blk_frozen BK102.out 13; have hfz13_14 := blk_frozen BK102.out 14; have hfz13_15 := blk_frozen BK102.out 15; have hfz13_16 := blk_frozen BK102.out 16; have hfz13_17 := blk_frozen BK102.out 17; have hfz13_18 := blk_frozen BK102.out 18; have hfz13_19 := blk_frozen BK102.out 19; have hfz13_20 := blk_frozen BK102.out 20; have hfz13_21 := blk_frozen BK102.out 21; have hfz13_22 := blk_frozen BK102.out 22; have hfz13_23 := blk_frozen BK102.out 23; have hfz13_24 := blk_frozen BK102.out 24; have hfz13_25 := blk_frozen BK102.out 25; have hfz13_26 := blk_frozen BK102.out 26; have hfz13_27 := blk_frozen BK102.out 27; have hfz13_28 := blk_frozen BK102.out 28; have hfz13_29 := blk_frozen BK102.out 29; have hfz13_30 := blk_frozen BK102.out 30; have hfz13_31 := blk_frozen BK102.out 31; have hfz13_32 := blk_frozen BK102.out 32; have hfz13_33 := blk_frozen BK102.out 33; have hfz13_34 := blk_frozen BK102.out 34; have hfz13_35 := blk_frozen BK102.out 35; have hfz13_36 := blk_frozen BK102.out 36) | (go_at_call 18; (with_reducible refine (vers_Read.calls _ _ l0 a1_0 a1_1 _ _ l1_2 _ _ l2_0 a2_1 a2_2 a2_3 a2_4 a2_5 a2_6 a2_7 a2_8 a2_9 a2_10 a2_11 a2_12 a2_13 a2_14 a2_15 a2_16 a2_17 a2_18 a2_19 a2_20 a2_21 a2_22 a2_23 a2_24 a2_25 a2_26 a2_27 a2_28 a2_29 a2_30 a2_31 a2_32 a2_33 a2_34 a2_35 a2_36 a3 t104 t105 t108 t111 t114 _ ?side1 ?side2 ?side3 ?side4 ?side5 ?side6 A6.out).mono ?_); (case side1 => repeat (first | exact (Kd.C_below HR0.out HB.out) | (with_reducible refine Kd.C_alloc ?_ _) | (with_reducible refine Kd.C_drewN ?_ _) | (with_reducible refine Kd.C_drew ?_))); (case side2 => exact HC0.out); (case side3 => repeat (first | exact (Kd.C_below HR1_2.out HB.out) | (with_reducible refine Kd.C_alloc ?_ _) | (with_reducible refine Kd.C_drewN ?_ _) | (with_reducible refine Kd.C_drew ?_))); (case side4 => exact HC1_2.out); (case side5 => repeat (first | exact (Kd.C_below HR2_0.out HB.out) | (with_reducible refine Kd.C_alloc ?_ _) | (with_reducible refine Kd.C_drewN ?_ _) | (with_reducible refine Kd.C_drew ?_))); (case side6 => exact HC2_0.out); rintro e w14 ⟨v106, v109, v112, rfl, ho0, ho1, ho2, hb⟩; have n0_ := Aside0.mk (Kd.R_lower ho0 (below_size (by repeat (first | (with_reducible first | exact HB.out | apply below_alloc | apply pw_below_drewN | apply below_drew1 | refine below_set ?_ GE101.out | refine below_set ?_ GE102.out) | exact HB.out)))); have n1_ := Aside0.mk (Kd.R_lower ho1 (below_size (by repeat (first | (with_reducible first | exact HB.out | apply below_alloc | apply pw_below_drewN | apply below_drew1 | refine below_set ?_ GE101.out | refine below_set ?_ GE102.out) | exact HB.out)))); have n2_ := Aside0.mk (Kd.R_lower ho2 (below_size (by repeat (first | (with_reducible first | exact HB.out | apply below_alloc | apply pw_below_drewN | apply below_drew1 | refine below_set ?_ GE101.out | refine below_set ?_ GE102.out) | exact HB.out)))); have n3_ := Aside0.mk (blk_below (g := gb101) (o := .cells #[.int .i64 a1_0, .int .u64 a1_1, .slice A1_2 l1_2.length c1_2] 32 (0, 0)) (by (with_reducible repeat (first | refine blk_drewN ?_ _ | refine blk_drew ?_ | refine blk_alloc ?_ _)); exact BK101.out) hb); have n4_ := Aside0.mk (blk_below (g := gb102) (o := .cells #[.slice A2_0 l2_0.length c2_0, .int .u64 a2_1, .int .u64 a2_2, .int .u64 a2_3, .int .u64 a2_4, .int .u64 a2_5, .int .u64 a2_6, .int .u64 a2_7, .int .u64 a2_8, .int .u64 a2_9, .int .u64 a2_10, .int .u64 a2_11, .int .u64 a2_12, .int .u64 a2_13, .bool a2_14, .bool a2_15, .bool a2_16, .int .u64 a2_17, .int .u64 a2_18, .int .u64 a2_19, .int .u64 a2_20, .int .u64 a2_21, .int .u64 a2_22, .int .u64 a2_23, .int .u64 a2_24, .int .u64 a2_25, .int .u64 a2_26, .int .u64 a2_27, .int .u64 a2_28, .int .u64 a2_29, .int .u64 a2_30, .int .u64 a2_31, .bool a2_32, .bool a2_33, .bool a2_34, .bool a2_35, .bool a2_36] 35 (0, 0)) (by (with_reducible repeat (first | refine blk_drewN ?_ _ | refine blk_drew ?_ | refine blk_alloc ?_ _)); exact BK102.out) hb); have n5_ := Aside0.mk (below_step (by repeat (first | (with_reducible first | exact HB.out | apply below_alloc | apply pw_below_drewN | apply below_drew1 | refine below_set ?_ GE101.out | refine below_set ?_ GE102.out) | exact HB.out)) hb); clear BK101; clear BK102; clear HB; have HO107 := n0_; have HO110 := n1_; have HO113 := n2_; have BK101 := n3_; have BK102 := n4_; have HB := n5_; clear n0_ n1_ n2_ n3_ n4_ n5_; (try clear hb); (try clear hb2); (try clear hk); (try clear hi); (try clear ho0); (try clear ho1); (try clear ho2); (try simp only [errW_none, errW_some])) | ((with_reducible refine gate_dst (N := 10) rfl ?_); (try (refine gate_guard (by rfl) ?_; dsimp only)); refine box_event ?hg (N := 10) ?hd (cs := #[.bool false, .slice none 0 0, .slice none 0 0, .slice none 0 0]) (t := 54) ?hr ?_; (case hd => rfl); (case hg => rfl); (case hr => first | (go_simp; done) | (go_simp; rfl)); intro gb115 hg w15 hbox hb; have n0_ := Aside0.mk (Kd.R_below (by (with_reducible repeat (first | apply Kd.R_alloc | apply Kd.R_drewN | apply Kd.R_drew)); exact HO107.out) hb); have n1_ := Aside0.mk (Kd.R_below (by (with_reducible repeat (first | apply Kd.R_alloc | apply Kd.R_drewN | apply Kd.R_drew)); exact HO110.out) hb); have n2_ := Aside0.mk (Kd.R_below (by (with_reducible repeat (first | apply Kd.R_alloc | apply Kd.R_drewN | apply Kd.R_drew)); exact HO113.out) hb); have n3_ := Aside0.mk (blk_below (g := gb101) (o := .cells #[.int .i64 a1_0, .int .u64 a1_1, .slice A1_2 l1_2.length c1_2] 32 (0, 0)) (by (with_reducible repeat (first | refine blk_drewN ?_ _ | refine blk_drew ?_ | refine blk_alloc ?_ _)); exact BK101.out) hb); have n4_ := Aside0.mk (blk_below (g := gb102) (o := .cells #[.slice A2_0 l2_0.length c2_0, .int .u64 a2_1, .int .u64 a2_2, .int .u64 a2_3, .int .u64 a2_4, .int .u64 a2_5, .int .u64 a2_6, .int .u64 a2_7, .int .u64 a2_8, .int .u64 a2_9, .int .u64 a2_10, .int .u64 a2_11, .int .u64 a2_12, .int .u64 a2_13, .bool a2_14, .bool a2_15, .bool a2_16, .int .u64 a2_17, .int .u64 a2_18, .int .u64 a2_19, .int .u64 a2_20, .int .u64 a2_21, .int .u64 a2_22, .int .u64 a2_23, .int .u64 a2_24, .int .u64 a2_25, .int .u64 a2_26, .int .u64 a2_27, .int .u64 a2_28, .int .u64 a2_29, .int .u64 a2_30, .int .u64 a2_31, .bool a2_32, .bool a2_33, .bool a2_34, .bool a2_35, .bool a2_36] 35 (0, 0)) (by (with_reducible repeat (first | refine blk_drewN ?_ _ | refine blk_drew ?_ | refine blk_alloc ?_ _)); exact BK102.out) hb); have n5_ := Aside0.mk (below_step (by repeat (first | (with_reducible first | exact HB.out | apply below_alloc | apply pw_below_drewN | apply below_drew1 | refine below_set ?_ GE101.out | refine below_set ?_ GE102.out) | exact HB.out)) hb); have n6_ := Aside0.mk (hbox); have n7_ := Aside0.mk ((by rw [hg]; exact (below_size (by repeat (first | (with_reducible first | exact HB.out | apply below_alloc | apply pw_below_drewN | apply below_drew1 | refine below_set ?_ GE101.out | refine below_set ?_ GE102.out) | exact HB.out))) : w.heap.size ≤ gb115)); have n8_ := Aside0.mk ((by rw [hg]; exact (below_size (by repeat (first | (with_reducible first | exact HB.out | apply below_alloc | apply pw_below_drewN | apply below_drew1 | refine below_set ?_ GE101.out | refine below_set ?_ GE102.out) | exact HB.out))) : w.heap.size ≤ gb115)); have n9_ := Aside0.mk ((by rw [hg]; exact Nat.ne_of_lt (blk_lt (g := gb101) (o := .cells #[.int .i64 a1_0, .int .u64 a1_1, .slice A1_2 l1_2.length c1_2] 32 (0, 0)) (by (with_reducible repeat (first | refine blk_drewN ?_ _ | refine blk_drew ?_ | refine blk_alloc ?_ _)); exact BK101.out)) : gb101 ≠ gb115)); have n10_ := Aside0.mk ((by rw [hg]; exact Nat.ne_of_gt (blk_lt (g := gb101) (o := .cells #[.int .i64 a1_0, .int .u64 a1_1, .slice A1_2 l1_2.length c1_2] 32 (0, 0)) (by (with_reducible repeat (first | refine blk_drewN ?_ _ | refine blk_drew ?_ | refine blk_alloc ?_ _)); exact BK101.out)) : gb115 ≠ gb101)); have n11_ := Aside0.mk ((by rw [hg]; exact Nat.ne_of_lt (blk_lt (g := gb102) (o := .cells #[.slice A2_0 l2_0.length c2_0, .int .u64 a2_1, .int .u64 a2_2, .int .u64 a2_3, .int .u64 a2_4, .int .u64 a2_5, .int .u64 a2_6, .int .u64 a2_7, .int .u64 a2_8, .int .u64 a2_9, .int .u64 a2_10, .int .u64 a2_11, .int .u64 a2_12, .int .u64 a2_13, .bool a2_14, .bool a2_15, .bool a2_16, .int .u64 a2_17, .int .u64 a2_18, .int .u64 a2_19, .int .u64 a2_20, .int .u64 a2_21, .int .u64 a2_22, .int .u64 a2_23, .int .u64 a2_24, .int .u64 a2_25, .int .u64 a2_26, .int .u64 a2_27, .int .u64 a2_28, .int .u64 a2_29, .int .u64 a2_30, .int .u64 a2_31, .bool a2_32, .bool a2_33, .bool a2_34, .bool a2_35, .bool a2_36] 35 (0, 0)) (by (with_reducible repeat (first | refine blk_drewN ?_ _ | refine blk_drew ?_ | refine blk_alloc ?_ _)); exact BK102.out)) : gb102 ≠ gb115)); have n12_ := Aside0.mk ((by rw [hg]; exact Nat.ne_of_gt (blk_lt (g := gb102) (o := .cells #[.slice A2_0 l2_0.length c2_0, .int .u64 a2_1, .int .u64 a2_2, .int .u64 a2_3, .int .u64 a2_4, .int .u64 a2_5, .int .u64 a2_6, .int .u64 a2_7, .int .u64 a2_8, .int .u64 a2_9, .int .u64 a2_10, .int .u64 a2_11, .int .u64 a2_12, .int .u64 a2_13, .bool a2_14, .bool a2_15, .bool a2_16, .int .u64 a2_17, .int .u64 a2_18, .int .u64 a2_19, .int .u64 a2_20, .int .u64 a2_21, .int .u64 a2_22, .int .u64 a2_23, .int .u64 a2_24, .int .u64 a2_25, .int .u64 a2_26, .int .u64 a2_27, .int .u64 a2_28, .int .u64 a2_29, .int .u64 a2_30, .int .u64 a2_31, .bool a2_32, .bool a2_33, .bool a2_34, .bool a2_35, .bool a2_36] 35 (0, 0)) (by (with_reducible repeat (first | refine blk_drewN ?_ _ | refine blk_drew ?_ | refine blk_alloc ?_ _)); exact BK102.out)) : gb115 ≠ gb102)); clear HO107; clear HO110; clear HO113; clear BK101; clear BK102; clear HB; have HO107 := n0_; have HO110 := n1_; have HO113 := n2_; have BK101 := n3_; have BK102 := n4_; have HB := n5_; have BK115 := n6_; have GW115 := n7_; have GE115 := n8_; have NB101_115 := n9_; have NB115_101 := n10_; have NB102_115 := n11_; have NB115_102 := n12_; clear n0_ n1_ n2_ n3_ n4_ n5_ n6_ n7_ n8_ n9_ n10_ n11_ n12_; clear hb hbox hg; have hnb16 := NB115_101.out; have hnc16 := NB101_115.out; have hnb17 := NB115_102.out; have hnc17 := NB102_115.out; have hcz18_0 : w15.cell? ⟨gb115, 0, none⟩ = some (.bool false) := (blk_cell BK115.out 0).trans rfl; have hcz18_1 : w15.cell? ⟨gb115, 1, none⟩ = some (.slice none 0 0) := (blk_cell BK115.out 1).trans rfl; have hcz18_2 : w15.cell? ⟨gb115, 2, none⟩ = some (.slice none 0 0) := (blk_cell BK115.out 2).trans rfl; have hcz18_3 : w15.cell? ⟨gb115, 3, none⟩ = some (.slice none 0 0) := (blk_cell BK115.out 3).trans rfl; have hfz18_0 := blk_frozen BK115.out 0; have hfz18_1 := blk_frozen BK115.out 1; have hfz18_2 := blk_frozen BK115.out 2; have hfz18_3 := blk_frozen BK115.out 3; obtain ⟨Ao19, co19, eo19⟩ := Kd.R_slice HO107.out; subst eo19; obtain ⟨Ao20, co20, eo20⟩ := Kd.R_slice HO110.out; subst eo20; obtain ⟨Ao21, co21, eo21⟩ := Kd.R_slice HO113.out; subst eo21))
 repeat (go_quiet (first | ((with_reducible refine gate_dst (N := 5) rfl ?_); (try (refine gate_guard (by rfl) ?_; dsimp only)); refine box_event ?hg (N := 5) ?hd (cs := #[.int .i64 a1_0, .int .u64 a1_1, .slice A1_2 l1_2.length c1_2]) (t := 32) ?hr ?_; (case hd => rfl); (case hg => rfl); (case hr => first | (go_simp; done) | (go_simp; rfl)); intro gb101 hg w8 hbox hb; have n0_ := Aside0.mk (below_step (by repeat (first | (with_reducible first | exact HB.out | apply below_alloc | apply pw_below_drewN | apply below_drew1) | exact HB.out)) hb); have n1_ := Aside0.mk (hbox); have n2_ := Aside0.mk ((by rw [hg]; exact (below_size (by repeat (first | (with_reducible first | exact HB.out | apply below_alloc | apply pw_below_drewN | apply below_drew1) | exact HB.out))) : w.heap.size ≤ gb101)); have n3_ := Aside0.mk ((by rw [hg]; exact (below_size (by repeat (first | (with_reducible first | exact HB.out | apply below_alloc | apply pw_below_drewN | apply below_drew1) | exact HB.out))) : w.heap.size ≤ gb101)); clear HB; have HB := n0_; have BK101 := n1_; have GW101 := n2_; have GE101 := n3_; clear n0_ n1_ n2_ n3_; clear hb hbox hg) | ((with_reducible refine gate_dst (N := 6) rfl ?_); (try (refine gate_guard (by rfl) ?_; dsimp only)); refine box_event ?hg (N := 6) ?hd (cs := #[.slice A2_0 l2_0.length c2_0, .int .u64 a2_1, .int .u64 a2_2, .int .u64 a2_3, .int .u64 a2_4, .int .u64 a2_5, .int .u64 a2_6, .int .u64 a2_7, .int .u64 a2_8, .int .u64 a2_9, .int .u64 a2_10, .int .u64 a2_11, .int .u64 a2_12, .int .u64 a2_13, .bool a2_14, .bool a2_15, .bool a2_16, .int .u64 a2_17, .int .u64 a2_18, .int .u64 a2_19, .int .u64 a2_20, .int .u64 a2_21, .int .u64 a2_22, .int .u64 a2_23, .int .u64 a2_24, .int .u64 a2_25, .int .u64 a2_26, .int .u64 a2_27, .int .u64 a2_28, .int .u64 a2_29, .int .u64 a2_30, .int .u64 a2_31, .bool a2_32, .bool a2_33, .bool a2_34, .bool a2_35, .bool a2_36]) (t := 35) ?hr ?_; (case hd => rfl); (case hg => rfl); (case hr => first | (go_simp; done) | (go_simp; rfl)); intro gb102 hg w9 hbox hb; have n0_ := Aside0.mk (blk_below (g := gb101) (o := .cells #[.int .i64 a1_0, .int .u64 a1_1, .slice A1_2 l1_2.length c1_2] 32 (0, 0)) (by (with_reducible repeat (first | refine blk_drewN ?_ _ | refine blk_drew ?_ | refine blk_alloc ?_ _)); exact BK101.out) hb); have n1_ := Aside0.mk (below_step (by repeat (first | (with_reducible first | exact HB.out | apply below_alloc | apply pw_below_drewN | apply below_drew1 | refine below_set ?_ GE101.out) | exact HB.out)) hb); have n2_ := Aside0.mk (hbox); have n3_ := Aside0.mk ((by rw [hg]; exact (below_size (by repeat (first | (with_reducible first | exact HB.out | apply below_alloc | apply pw_below_drewN | apply below_drew1 | refine below_set ?_ GE101.out) | exact HB.out))) : w.heap.size ≤ gb102)); have n4_ := Aside0.mk ((by rw [hg]; exact (below_size (by repeat (first | (with_reducible first | exact HB.out | apply below_alloc | apply pw_below_drewN | apply below_drew1 | refine below_set ?_ GE101.out) | exact HB.out))) : w.heap.size ≤ gb102)); have n5_ := Aside0.mk ((by rw [hg]; exact Nat.ne_of_lt (blk_lt (g := gb101) (o := .cells #[.int .i64 a1_0, .int .u64 a1_1, .slice A1_2 l1_2.length c1_2] 32 (0, 0)) (by (with_reducible repeat (first | refine blk_drewN ?_ _ | refine blk_drew ?_ | refine blk_alloc ?_ _)); exact BK101.out)) : gb101 ≠ gb102)); have n6_ := Aside0.mk ((by rw [hg]; exact Nat.ne_of_gt (blk_lt (g := gb101) (o := .cells #[.int .i64 a1_0, .int .u64 a1_1, .slice A1_2 l1_2.length c1_2] 32 (0, 0)) (by (with_reducible repeat (first | refine blk_drewN ?_ _ | refine blk_drew ?_ | refine blk_alloc ?_ _)); exact BK101.out)) : gb102 ≠ gb101)); clear BK101; clear HB; have BK101 := n0_; have HB := n1_; have BK102 := n2_; have GW102 := n3_; have GE102 := n4_; have NB101_102 := n5_; have NB102_101 := n6_; clear n0_ n1_ n2_ n3_ n4_ n5_ n6_; clear hb hbox hg) | (go_at_call 17; (with_reducible refine (shacklelaw08_up.calls  t103 _ A5.out).mono ?_); rintro e w10 ⟨rfl, hb⟩; have n0_ := Aside0.mk (blk_below (g := gb101) (o := .cells #[.int .i64 a1_0, .int .u64 a1_1, .slice A1_2 l1_2.length c1_2] 32 (0, 0)) (by (with_reducible repeat (first | refine blk_drewN ?_ _ | refine blk_drew ?_ | refine blk_alloc ?_ _)); exact BK101.out) hb); have n1_ := Aside0.mk (blk_below (g := gb102) (o := .cells #[.slice A2_0 l2_0.length c2_0, .int .u64 a2_1, .int .u64 a2_2, .int .u64 a2_3, .int .u64 a2_4, .int .u64 a2_5, .int .u64 a2_6, .int .u64 a2_7, .int .u64 a2_8, .int .u64 a2_9, .int .u64 a2_10, .int .u64 a2_11, .int .u64 a2_12, .int .u64 a2_13, .bool a2_14, .bool a2_15, .bool a2_16, .int .u64 a2_17, .int .u64 a2_18, .int .u64 a2_19, .int .u64 a2_20, .int .u64 a2_21, .int .u64 a2_22, .int .u64 a2_23, .int .u64 a2_24, .int .u64 a2_25, .int .u64 a2_26, .int .u64 a2_27, .int .u64 a2_28, .int .u64 a2_29, .int .u64 a2_30, .int .u64 a2_31, .bool a2_32, .bool a2_33, .bool a2_34, .bool a2_35, .bool a2_36] 35 (0, 0)) (by (with_reducible repeat (first | refine blk_drewN ?_ _ | refine blk_drew ?_ | refine blk_alloc ?_ _)); exact BK102.out) hb); have n2_ := Aside0.mk (below_step (by repeat (first | (with_reducible first | exact HB.out | apply below_alloc | apply pw_below_drewN | apply below_drew1 | refine below_set ?_ GE101.out | refine below_set ?_ GE102.out) | exact HB.out)) hb); clear BK101; clear BK102; clear HB; have BK101 := n0_; have BK102 := n1_; have HB := n2_; clear n0_ n1_ n2_; (try clear hb); (try clear hb2); (try clear hk); (try clear hi); have hnb11 := NB101_102.out; have hnc11 := NB102_101.out; have hcz12_0 : w10.cell? ⟨gb101, 0, none⟩ = some (.int .i64 a1_0) := (blk_cell BK101.out 0).trans rfl; have hcz12_1 : w10.cell? ⟨gb101, 1, none⟩ = some (.int .u64 a1_1) := (blk_cell BK101.out 1).trans rfl; have hcz12_2 : w10.cell? ⟨gb101, 2, none⟩ = some (.slice A1_2 l1_2.length c1_2) := (blk_cell BK101.out 2).trans rfl; have hfz12_0 := blk_frozen BK101.out 0; have hfz12_1 := blk_frozen BK101.out 1; have hfz12_2 := blk_frozen BK101.out 2; have hcz13_0 : w10.cell? ⟨gb102, 0, none⟩ = some (.slice A2_0 l2_0.length c2_0) := (blk_cell BK102.out 0).trans rfl; have hcz13_1 : w10.cell? ⟨gb102, 1, none⟩ = some (.int .u64 a2_1) := (blk_cell BK102.out 1).trans rfl; have hcz13_2 : w10.cell? ⟨gb102, 2, none⟩ = some (.int .u64 a2_2) := (blk_cell BK102.out 2).trans rfl; have hcz13_3 : w10.cell? ⟨gb102, 3, none⟩ = some (.int .u64 a2_3) := (blk_cell BK102.out 3).trans rfl; have hcz13_4 : w10.cell? ⟨gb102, 4, none⟩ = some (.int .u64 a2_4) := (blk_cell BK102.out 4).trans rfl; have hcz13_5 : w10.cell? ⟨gb102, 5, none⟩ = some (.int .u64 a2_5) := (blk_cell BK102.out 5).trans rfl; have hcz13_6 : w10.cell? ⟨gb102, 6, none⟩ = some (.int .u64 a2_6) := (blk_cell BK102.out 6).trans rfl; have hcz13_7 : w10.cell? ⟨gb102, 7, none⟩ = some (.int .u64 a2_7) := (blk_cell BK102.out 7).trans rfl; have hcz13_8 : w10.cell? ⟨gb102, 8, none⟩ = some (.int .u64 a2_8) := (blk_cell BK102.out 8).trans rfl; have hcz13_9 : w10.cell? ⟨gb102, 9, none⟩ = some (.int .u64 a2_9) := (blk_cell BK102.out 9).trans rfl; have hcz13_10 : w10.cell? ⟨gb102, 10, none⟩ = some (.int .u64 a2_10) := (blk_cell BK102.out 10).trans rfl; have hcz13_11 : w10.cell? ⟨gb102, 11, none⟩ = some (.int .u64 a2_11) := (blk_cell BK102.out 11).trans rfl; have hcz13_12 : w10.cell? ⟨gb102, 12, none⟩ = some (.int .u64 a2_12) := (blk_cell BK102.out 12).trans rfl; have hcz13_13 : w10.cell? ⟨gb102, 13, none⟩ = some (.int .u64 a2_13) := (blk_cell BK102.out 13).trans rfl; have hcz13_14 : w10.cell? ⟨gb102, 14, none⟩ = some (.bool a2_14) := (blk_cell BK102.out 14).trans rfl; have hcz13_15 : w10.cell? ⟨gb102, 15, none⟩ = some (.bool a2_15) := (blk_cell BK102.out 15).trans rfl; have hcz13_16 : w10.cell? ⟨gb102, 16, none⟩ = some (.bool a2_16) := (blk_cell BK102.out 16).trans rfl; have hcz13_17 : w10.cell? ⟨gb102, 17, none⟩ = some (.int .u64 a2_17) := (blk_cell BK102.out 17).trans rfl; have hcz13_18 : w10.cell? ⟨gb102, 18, none⟩ = some (.int .u64 a2_18) := (blk_cell BK102.out 18).trans rfl; have hcz13_19 : w10.cell? ⟨gb102, 19, none⟩ = some (.int .u64 a2_19) := (blk_cell BK102.out 19).trans rfl; have hcz13_20 : w10.cell? ⟨gb102, 20, none⟩ = some (.int .u64 a2_20) := (blk_cell BK102.out 20).trans rfl; have hcz13_21 : w10.cell? ⟨gb102, 21, none⟩ = some (.int .u64 a2_21) := (blk_cell BK102.out 21).trans rfl; have hcz13_22 : w10.cell? ⟨gb102, 22, none⟩ = some (.int .u64 a2_22) := (blk_cell BK102.out 22).trans rfl; have hcz13_23 : w10.cell? ⟨gb102, 23, none⟩ = some (.int .u64 a2_23) := (blk_cell BK102.out 23).trans rfl; have hcz13_24 : w10.cell? ⟨gb102, 24, none⟩ = some (.int .u64 a2_24) := (blk_cell BK102.out 24).trans rfl; have hcz13_25 : w10.cell? ⟨gb102, 25, none⟩ = some (.int .u64 a2_25) := (blk_cell BK102.out 25).trans rfl; have hcz13_26 : w10.cell? ⟨gb102, 26, none⟩ = some (.int .u64 a2_26) := (blk_cell BK102.out 26).trans rfl; have hcz13_27 : w10.cell? ⟨gb102, 27, none⟩ = some (.int .u64 a2_27) := (blk_cell BK102.out 27).trans rfl; have hcz13_28 : w10.cell? ⟨gb102, 28, none⟩ = some (.int .u64 a2_28) := (blk_cell BK102.out 28).trans rfl; have hcz13_29 : w10.cell? ⟨gb102, 29, none⟩ = some (.int .u64 a2_29) := (blk_cell BK102.out 29).trans rfl; have hcz13_30 : w10.cell? ⟨gb102, 30, none⟩ = some (.int .u64 a2_30) := (blk_cell BK102.out 30).trans rfl; have hcz13_31 : w10.cell? ⟨gb102, 31, none⟩ = some (.int .u64 a2_31) := (blk_cell BK102.out 31).trans rfl; have hcz13_32 : w10.cell? ⟨gb102, 32, none⟩ = some (.bool a2_32) := (blk_cell BK102.out 32).trans rfl; have hcz13_33 : w10.cell? ⟨gb102, 33, none⟩ = some (.bool a2_33) := (blk_cell BK102.out 33).trans rfl; have hcz13_34 : w10.cell? ⟨gb102, 34, none⟩ = some (.bool a2_34) := (blk_cell BK102.out 34).trans rfl; have hcz13_35 : w10.cell? ⟨gb102, 35, none⟩ = some (.bool a2_35) := (blk_cell BK102.out 35).trans rfl; have hcz13_36 : w10.cell? ⟨gb102, 36, none⟩ = some (.bool a2_36) := (blk_cell BK102.out 36).trans rfl; have hfz13_0 := blk_frozen BK102.out 0; have hfz13_1 := blk_frozen BK102.out 1; have hfz13_2 := blk_frozen BK102.out 2; have hfz13_3 := blk_frozen BK102.out 3; have hfz13_4 := blk_frozen BK102.out 4; have hfz13_5 := blk_frozen BK102.out 5; have hfz13_6 := blk_frozen BK102.out 6; have hfz13_7 := blk_frozen BK102.out 7; have hfz13_8 := blk_frozen BK102.out 8; have hfz13_9 := blk_frozen BK102.out 9; have hfz13_10 := blk_frozen BK102.out 10; have hfz13_11 := blk_frozen BK102.out 11; have hfz13_12 := blk_frozen BK102.out 12; have hfz13_13 := blk_frozen BK102.out 13; have hfz13_14 := blk_frozen BK102.out 14; have hfz13_15 := blk_frozen BK102.out 15; have hfz13_16 := blk_frozen BK102.out 16; have hfz13_17 := blk_frozen BK102.out 17; have hfz13_18 := blk_frozen BK102.out 18; have hfz13_19 := blk_frozen BK102.out 19; have hfz13_20 := blk_frozen BK102.out 20; have hfz13_21 := blk_frozen BK102.out 21; have hfz13_22 := blk_frozen BK102.out 22; have hfz13_23 := blk_frozen BK102.out 23; have hfz13_24 := blk_frozen BK102.out 24; have hfz13_25 := blk_frozen BK102.out 25; have hfz13_26 := blk_frozen BK102.out 26; have hfz13_27 := blk_frozen BK102.out 27; have hfz13_28 := blk_frozen BK102.out 28; have hfz13_29 := blk_frozen BK102.out 29; have hfz13_30 := blk_frozen BK102.out 30; have hfz13_31 := blk_frozen BK102.out 31; have hfz13_32 := blk_frozen BK102.out 32; have hfz13_33 := blk_frozen BK102.out 33; have hfz13_34 := blk_frozen BK102.out 34; have hfz13_35 := blk_frozen BK102.out 35; have hfz13_36 := blk_frozen BK102.out 36) | (go_at_call 18; (with_reducible refine (vers_Read.calls _ _ l0 a1_0 a1_1 _ _ l1_2 _ _ l2_0 a2_1 a2_2 a2_3 a2_4 a2_5 a2_6 a2_7 a2_8 a2_9 a2_10 a2_11 a2_12 a2_13 a2_14 a2_15 a2_16 a2_17 a2_18 a2_19 a2_20 a2_21 a2_22 a2_23 a2_24 a2_25 a2_26 a2_27 a2_28 a2_29 a2_30 a2_31 a2_32 a2_33 a2_34 a2_35 a2_36 a3 t104 t105 t108 t111 t114 _ ?side1 ?side2 ?side3 ?side4 ?side5 ?side6 A6.out).mono ?_); (case side1 => repeat (first | exact (Kd.C_below HR0.out HB.out) | (with_reducible refine Kd.C_alloc ?_ _) | (with_reducible refine Kd.C_drewN ?_ _) | (with_reducible refine Kd.C_drew ?_))); (case side2 => exact HC0.out); (case side3 => repeat (first | exact (Kd.C_below HR1_2.out HB.out) | (with_reducible refine Kd.C_alloc ?_ _) | (with_reducible refine Kd.C_drewN ?_ _) | (with_reducible refine Kd.C_drew ?_))); (case side4 => exact HC1_2.out); (case side5 => repeat (first | exact (Kd.C_below HR2_0.out HB.out) | (with_reducible refine Kd.C_alloc ?_ _) | (with_reducible refine Kd.C_drewN ?_ _) | (with_reducible refine Kd.C_drew ?_))); (case side6 => exact HC2_0.out); rintro e w14 ⟨v106, v109, v112, rfl, ho0, ho1, ho2, hb⟩; have n0_ := Aside0.mk (Kd.R_lower ho0 (below_size (by repeat (first | (with_reducible first | exact HB.out | apply below_alloc | apply pw_below_drewN | apply below_drew1 | refine below_set ?_ GE101.out | refine below_set ?_ GE102.out) | exact HB.out)))); have n1_ := Aside0.mk (Kd.R_lower ho1 (below_size (by repeat (first | (with_reducible first | exact HB.out | apply below_alloc | apply pw_below_drewN | apply below_drew1 | refine below_set ?_ GE101.out | refine below_set ?_ GE102.out) | exact HB.out)))); have n2_ := Aside0.mk (Kd.R_lower ho2 (below_size (by repeat (first | (with_reducible first | exact HB.out | apply below_alloc | apply pw_below_drewN | apply below_drew1 | refine below_set ?_ GE101.out | refine below_set ?_ GE102.out) | exact HB.out)))); have n3_ := Aside0.mk (blk_below (g := gb101) (o := .cells #[.int .i64 a1_0, .int .u64 a1_1, .slice A1_2 l1_2.length c1_2] 32 (0, 0)) (by (with_reducible repeat (first | refine blk_drewN ?_ _ | refine blk_drew ?_ | refine blk_alloc ?_ _)); exact BK101.out) hb); have n4_ := Aside0.mk (blk_below (g := gb102) (o := .cells #[.slice A2_0 l2_0.length c2_0, .int .u64 a2_1, .int .u64 a2_2, .int .u64 a2_3, .int .u64 a2_4, .int .u64 a2_5, .int .u64 a2_6, .int .u64 a2_7, .int .u64 a2_8, .int .u64 a2_9, .int .u64 a2_10, .int .u64 a2_11, .int .u64 a2_12, .int .u64 a2_13, .bool a2_14, .bool a2_15, .bool a2_16, .int .u64 a2_17, .int .u64 a2_18, .int .u64 a2_19, .int .u64 a2_20, .int .u64 a2_21, .int .u64 a2_22, .int .u64 a2_23, .int .u64 a2_24, .int .u64 a2_25, .int .u64 a2_26, .int .u64 a2_27, .int .u64 a2_28, .int .u64 a2_29, .int .u64 a2_30, .int .u64 a2_31, .bool a2_32, .bool a2_33, .bool a2_34, .bool a2_35, .bool a2_36] 35 (0, 0)) (by (with_reducible repeat (first | refine blk_drewN ?_ _ | refine blk_drew ?_ | refine blk_alloc ?_ _)); exact BK102.out) hb); have n5_ := Aside0.mk (below_step (by repeat (first | (with_reducible first | exact HB.out | apply below_alloc | apply pw_below_drewN | apply below_drew1 | refine below_set ?_ GE101.out | refine below_set ?_ GE102.out) | exact HB.out)) hb); clear BK101; clear BK102; clear HB; have HO107 := n0_; have HO110 := n1_; have HO113 := n2_; have BK101 := n3_; have BK102 := n4_; have HB := n5_; clear n0_ n1_ n2_ n3_ n4_ n5_; (try clear hb); (try clear hb2); (try clear hk); (try clear hi); (try clear ho0); (try clear ho1); (try clear ho2); (try simp only [errW_none, errW_some])) | ((with_reducible refine gate_dst (N := 10) rfl ?_); (try (refine gate_guard (by rfl) ?_; dsimp only)); refine box_event ?hg (N := 10) ?hd (cs := #[.bool false, .slice none 0 0, .slice none 0 0, .slice none 0 0]) (t := 54) ?hr ?_; (case hd => rfl); (case hg => rfl); (case hr => first | (go_simp; done) | (go_simp; rfl)); intro gb115 hg w15 hbox hb; have n0_ := Aside0.mk (Kd.R_below (by (with_reducible repeat (first | apply Kd.R_alloc | apply Kd.R_drewN | apply Kd.R_drew)); exact HO107.out) hb); have n1_ := Aside0.mk (Kd.R_below (by (with_reducible repeat (first | apply Kd.R_alloc | apply Kd.R_drewN | apply Kd.R_drew)); exact HO110.out) hb); have n2_ := Aside0.mk (Kd.R_below (by (with_reducible repeat (first | apply Kd.R_alloc | apply Kd.R_drewN | apply Kd.R_drew)); exact HO113.out) hb); have n3_ := Aside0.mk (blk_below (g := gb101) (o := .cells #[.int .i64 a1_0, .int .u64 a1_1, .slice A1_2 l1_2.length c1_2] 32 (0, 0)) (by (with_reducible repeat (first | refine blk_drewN ?_ _ | refine blk_drew ?_ | refine blk_alloc ?_ _)); exact BK101.out) hb); have n4_ := Aside0.mk (blk_below (g := gb102) (o := .cells #[.slice A2_0 l2_0.length c2_0, .int .u64 a2_1, .int .u64 a2_2, .int .u64 a2_3, .int .u64 a2_4, .int .u64 a2_5, .int .u64 a2_6, .int .u64 a2_7, .int .u64 a2_8, .int .u64 a2_9, .int .u64 a2_10, .int .u64 a2_11, .int .u64 a2_12, .int .u64 a2_13, .bool a2_14, .bool a2_15, .bool a2_16, .int .u64 a2_17, .int .u64 a2_18, .int .u64 a2_19, .int .u64 a2_20, .int .u64 a2_21, .int .u64 a2_22, .int .u64 a2_23, .int .u64 a2_24, .int .u64 a2_25, .int .u64 a2_26, .int .u64 a2_27, .int .u64 a2_28, .int .u64 a2_29, .int .u64 a2_30, .int .u64 a2_31, .bool a2_32, .bool a2_33, .bool a2_34, .bool a2_35, .bool a2_36] 35 (0, 0)) (by (with_reducible repeat (first | refine blk_drewN ?_ _ | refine blk_drew ?_ | refine blk_alloc ?_ _)); exact BK102.out) hb); have n5_ := Aside0.mk (below_step (by repeat (first | (with_reducible first | exact HB.out | apply below_alloc | apply pw_below_drewN | apply below_drew1 | refine below_set ?_ GE101.out | refine below_set ?_ GE102.out) | exact HB.out)) hb); have n6_ := Aside0.mk (hbox); have n7_ := Aside0.mk ((by rw [hg]; exact (below_size (by repeat (first | (with_reducible first | exact HB.out | apply below_alloc | apply pw_below_drewN | apply below_drew1 | refine below_set ?_ GE101.out | refine below_set ?_ GE102.out) | exact HB.out))) : w.heap.size ≤ gb115)); have n8_ := Aside0.mk ((by rw [hg]; exact (below_size (by repeat (first | (with_reducible first | exact HB.out | apply below_alloc | apply pw_below_drewN | apply below_drew1 | refine below_set ?_ GE101.out | refine below_set ?_ GE102.out) | exact HB.out))) : w.heap.size ≤ gb115)); have n9_ := Aside0.mk ((by rw [hg]; exact Nat.ne_of_lt (blk_lt (g := gb101) (o := .cells #[.int .i64 a1_0, .int .u64 a1_1, .slice A1_2 l1_2.length c1_2] 32 (0, 0)) (by (with_reducible repeat (first | refine blk_drewN ?_ _ | refine blk_drew ?_ | refine blk_alloc ?_ _)); exact BK101.out)) : gb101 ≠ gb115)); have n10_ := Aside0.mk ((by rw [hg]; exact Nat.ne_of_gt (blk_lt (g := gb101) (o := .cells #[.int .i64 a1_0, .int .u64 a1_1, .slice A1_2 l1_2.length c1_2] 32 (0, 0)) (by (with_reducible repeat (first | refine blk_drewN ?_ _ | refine blk_drew ?_ | refine blk_alloc ?_ _)); exact BK101.out)) : gb115 ≠ gb101)); have n11_ := Aside0.mk ((by rw [hg]; exact Nat.ne_of_lt (blk_lt (g := gb102) (o := .cells #[.slice A2_0 l2_0.length c2_0, .int .u64 a2_1, .int .u64 a2_2, .int .u64 a2_3, .int .u64 a2_4, .int .u64 a2_5, .int .u64 a2_6, .int .u64 a2_7, .int .u64 a2_8, .int .u64 a2_9, .int .u64 a2_10, .int .u64 a2_11, .int .u64 a2_12, .int .u64 a2_13, .bool a2_14, .bool a2_15, .bool a2_16, .int .u64 a2_17, .int .u64 a2_18, .int .u64 a2_19, .int .u64 a2_20, .int .u64 a2_21, .int .u64 a2_22, .int .u64 a2_23, .int .u64 a2_24, .int .u64 a2_25, .int .u64 a2_26, .int .u64 a2_27, .int .u64 a2_28, .int .u64 a2_29, .int .u64 a2_30, .int .u64 a2_31, .bool a2_32, .bool a2_33, .bool a2_34, .bool a2_35, .bool a2_36] 35 (0, 0)) (by (with_reducible repeat (first | refine blk_drewN ?_ _ | refine blk_drew ?_ | refine blk_alloc ?_ _)); exact BK102.out)) : gb102 ≠ gb115)); have n12_ := Aside0.mk ((by rw [hg]; exact Nat.ne_of_gt (blk_lt (g := gb102) (o := .cells #[.slice A2_0 l2_0.length c2_0, .int .u64 a2_1, .int .u64 a2_2, .int .u64 a2_3, .int .u64 a2_4, .int .u64 a2_5, .int .u64 a2_6, .int .u64 a2_7, .int .u64 a2_8, .int .u64 a2_9, .int .u64 a2_10, .int .u64 a2_11, .int .u64 a2_12, .int .u64 a2_13, .bool a2_14, .bool a2_15, .bool a2_16, .int .u64 a2_17, .int .u64 a2_18, .int .u64 a2_19, .int .u64 a2_20, .int .u64 a2_21, .int .u64 a2_22, .int .u64 a2_23, .int .u64 a2_24, .int .u64 a2_25, .int .u64 a2_26, .int .u64 a2_27, .int .u64 a2_28, .int .u64 a2_29, .int .u64 a2_30, .int .u64 a2_31, .bool a2_32, .bool a2_33, .bool a2_34, .bool a2_35, .bool a2_36] 35 (0, 0)) (by (with_reducible repeat (first | refine blk_drewN ?_ _ | refine blk_drew ?_ | refine blk_alloc ?_ _)); exact BK102.out)) : gb115 ≠ gb102)); clear HO107; clear HO110; clear HO113; clear BK101; clear BK102; clear HB; have HO107 := n0_; have HO110 := n1_; have HO113 := n2_; have BK101 := n3_; have BK102 := n4_; have HB := n5_; have BK115 := n6_; have GW115 := n7_; have GE115 := n8_; have NB101_115 := n9_; have NB115_101 := n10_; have NB102_115 := n11_; have NB115_102 := n12_; clear n0_ n1_ n2_ n3_ n4_ n5_ n6_ n7_ n8_ n9_ n10_ n11_ n12_; clear hb hbox hg; have hnb16 := NB115_101.out; have hnc16 := NB101_115.out; have hnb17 := NB115_102.out; have hnc17 := NB102_115.out; have hcz18_0 : w15.cell? ⟨gb115, 0, none⟩ = some (.bool false) := (blk_cell BK115.out 0).trans rfl; have hcz18_1 : w15.cell? ⟨gb115, 1, none⟩ = some (.slice none 0 0) := (blk_cell BK115.out 1).trans rfl; have hcz18_2 : w15.cell? ⟨gb115, 2, none⟩ = some (.slice none 0 0) := (blk_cell BK115.out 2).trans rfl; have hcz18_3 : w15.cell? ⟨gb115, 3, none⟩ = some (.slice none 0 0) := (blk_cell BK115.out 3).trans rfl; have hfz18_0 := blk_frozen BK115.out 0; have hfz18_1 := blk_frozen BK115.out 1; have hfz18_2 := blk_frozen BK115.out 2; have hfz18_3 := blk_frozen BK115.out 3; obtain ⟨Ao19, co19, eo19⟩ := Kd.R_slice HO107.out; subst eo19; obtain ⟨Ao20, co20, eo20⟩ := Kd.R_slice HO110.out; subst eo20; obtain ⟨Ao21, co21, eo21⟩ := Kd.R_slice HO113.out; subst eo21)); go_upto_region 3 with (first | ((with_reducible refine gate_ (.load 35 (.tmp 6)) rfl ?_); refine wpList_load_row rfl 35 (.tmp 6) rfl gb102 rfl 35 _ (0, 0) _ (by (with_reducible repeat (first | refine blk_drewN ?_ _ | refine blk_drew ?_ | refine blk_alloc ?_ _)); exact BK102.out) Try.underlying35 rfl (by kernel_rfl) ?_) | ((with_reducible refine gate_dst (N := 5) rfl ?_); (try (refine gate_guard (by rfl) ?_; dsimp only)); refine box_event ?hg (N := 5) ?hd (cs := #[.int .i64 a1_0, .int .u64 a1_1, .slice A1_2 l1_2.length c1_2]) (t := 32) ?hr ?_; (case hd => rfl); (case hg => rfl); (case hr => first | (go_simp; done) | (go_simp; rfl)); intro gb101 hg w8 hbox hb; have n0_ := Aside0.mk (below_step (by repeat (first | (with_reducible first | exact HB.out | apply below_alloc | apply pw_below_drewN | apply below_drew1) | exact HB.out)) hb); have n1_ := Aside0.mk (hbox); have n2_ := Aside0.mk ((by rw [hg]; exact (below_size (by repeat (first | (with_reducible first | exact HB.out | apply below_alloc | apply pw_below_drewN | apply below_drew1) | exact HB.out))) : w.heap.size ≤ gb101)); have n3_ := Aside0.mk ((by rw [hg]; exact (below_size (by repeat (first | (with_reducible first | exact HB.out | apply below_alloc | apply pw_below_drewN | apply below_drew1) | exact HB.out))) : w.heap.size ≤ gb101)); clear HB; have HB := n0_; have BK101 := n1_; have GW101 := n2_; have GE101 := n3_; clear n0_ n1_ n2_ n3_; clear hb hbox hg) | ((with_reducible refine gate_dst (N := 6) rfl ?_); (try (refine gate_guard (by rfl) ?_; dsimp only)); refine box_event ?hg (N := 6) ?hd (cs := #[.slice A2_0 l2_0.length c2_0, .int .u64 a2_1, .int .u64 a2_2, .int .u64 a2_3, .int .u64 a2_4, .int .u64 a2_5, .int .u64 a2_6, .int .u64 a2_7, .int .u64 a2_8, .int .u64 a2_9, .int .u64 a2_10, .int .u64 a2_11, .int .u64 a2_12, .int .u64 a2_13, .bool a2_14, .bool a2_15, .bool a2_16, .int .u64 a2_17, .int .u64 a2_18, .int .u64 a2_19, .int .u64 a2_20, .int .u64 a2_21, .int .u64 a2_22, .int .u64 a2_23, .int .u64 a2_24, .int .u64 a2_25, .int .u64 a2_26, .int .u64 a2_27, .int .u64 a2_28, .int .u64 a2_29, .int .u64 a2_30, .int .u64 a2_31, .bool a2_32, .bool a2_33, .bool a2_34, .bool a2_35, .bool a2_36]) (t := 35) ?hr ?_; (case hd => rfl); (case hg => rfl); (case hr => first | (go_simp; done) | (go_simp; rfl)); intro gb102 hg w9 hbox hb; have n0_ := Aside0.mk (blk_below (g := gb101) (o := .cells #[.int .i64 a1_0, .int .u64 a1_1, .slice A1_2 l1_2.length c1_2] 32 (0, 0)) (by (with_reducible repeat (first | refine blk_drewN ?_ _ | refine blk_drew ?_ | refine blk_alloc ?_ _)); exact BK101.out) hb); have n1_ := Aside0.mk (below_step (by repeat (first | (with_reducible first | exact HB.out | apply below_alloc | apply pw_below_drewN | apply below_drew1 | refine below_set ?_ GE101.out) | exact HB.out)) hb); have n2_ := Aside0.mk (hbox); have n3_ := Aside0.mk ((by rw [hg]; exact (below_size (by repeat (first | (with_reducible first | exact HB.out | apply below_alloc | apply pw_below_drewN | apply below_drew1 | refine below_set ?_ GE101.out) | exact HB.out))) : w.heap.size ≤ gb102)); have n4_ := Aside0.mk ((by rw [hg]; exact (below_size (by repeat (first | (with_reducible first | exact HB.out | apply below_alloc | apply pw_below_drewN | apply below_drew1 | refine below_set ?_ GE101.out) | exact HB.out))) : w.heap.size ≤ gb102)); have n5_ := Aside0.mk ((by rw [hg]; exact Nat.ne_of_lt (blk_lt (g := gb101) (o := .cells #[.int .i64 a1_0, .int .u64 a1_1, .slice A1_2 l1_2.length c1_2] 32 (0, 0)) (by (with_reducible repeat (first | refine blk_drewN ?_ _ | refine blk_drew ?_ | refine blk_alloc ?_ _)); exact BK101.out)) : gb101 ≠ gb102)); have n6_ := Aside0.mk ((by rw [hg]; exact Nat.ne_of_gt (blk_lt (g := gb101) (o := .cells #[.int .i64 a1_0, .int .u64 a1_1, .slice A1_2 l1_2.length c1_2] 32 (0, 0)) (by (with_reducible repeat (first | refine blk_drewN ?_ _ | refine blk_drew ?_ | refine blk_alloc ?_ _)); exact BK101.out)) : gb102 ≠ gb101)); clear BK101; clear HB; have BK101 := n0_; have HB := n1_; have BK102 := n2_; have GW102 := n3_; have GE102 := n4_; have NB101_102 := n5_; have NB102_101 := n6_; clear n0_ n1_ n2_ n3_ n4_ n5_ n6_; clear hb hbox hg) | (go_at_call 17; (with_reducible refine (shacklelaw08_up.calls  t103 _ A5.out).mono ?_); rintro e w10 ⟨rfl, hb⟩; have n0_ := Aside0.mk (blk_below (g := gb101) (o := .cells #[.int .i64 a1_0, .int .u64 a1_1, .slice A1_2 l1_2.length c1_2] 32 (0, 0)) (by (with_reducible repeat (first | refine blk_drewN ?_ _ | refine blk_drew ?_ | refine blk_alloc ?_ _)); exact BK101.out) hb); have n1_ := Aside0.mk (blk_below (g := gb102) (o := .cells #[.slice A2_0 l2_0.length c2_0, .int .u64 a2_1, .int .u64 a2_2, .int .u64 a2_3, .int .u64 a2_4, .int .u64 a2_5, .int .u64 a2_6, .int .u64 a2_7, .int .u64 a2_8, .int .u64 a2_9, .int .u64 a2_10, .int .u64 a2_11, .int .u64 a2_12, .int .u64 a2_13, .bool a2_14, .bool a2_15, .bool a2_16, .int .u64 a2_17, .int .u64 a2_18, .int .u64 a2_19, .int .u64 a2_20, .int .u64 a2_21, .int .u64 a2_22, .int .u64 a2_23, .int .u64 a2_24, .int .u64 a2_25, .int .u64 a2_26, .int .u64 a2_27, .int .u64 a2_28, .int .u64 a2_29, .int .u64 a2_30, .int .u64 a2_31, .bool a2_32, .bool a2_33, .bool a2_34, .bool a2_35, .bool a2_36] 35 (0, 0)) (by (with_reducible repeat (first | refine blk_drewN ?_ _ | refine blk_drew ?_ | refine blk_alloc ?_ _)); exact BK102.out) hb); have n2_ := Aside0.mk (below_step (by repeat (first | (with_reducible first | exact HB.out | apply below_alloc | apply pw_below_drewN | apply below_drew1 | refine below_set ?_ GE101.out | refine below_set ?_ GE102.out) | exact HB.out)) hb); clear BK101; clear BK102; clear HB; have BK101 := n0_; have BK102 := n1_; have HB := n2_; clear n0_ n1_ n2_; (try clear hb); (try clear hb2); (try clear hk); (try clear hi); have hnb11 := NB101_102.out; have hnc11 := NB102_101.out; have hcz12_0 : w10.cell? ⟨gb101, 0, none⟩ = some (.int .i64 a1_0) := (blk_cell BK101.out 0).trans rfl; have hcz12_1 : w10.cell? ⟨gb101, 1, none⟩ = some (.int .u64 a1_1) := (blk_cell BK101.out 1).trans rfl; have hcz12_2 : w10.cell? ⟨gb101, 2, none⟩ = some (.slice A1_2 l1_2.length c1_2) := (blk_cell BK101.out 2).trans rfl; have hfz12_0 := blk_frozen BK101.out 0; have hfz12_1 := blk_frozen BK101.out 1; have hfz12_2 := blk_frozen BK101.out 2; have hcz13_0 : w10.cell? ⟨gb102, 0, none⟩ = some (.slice A2_0 l2_0.length c2_0) := (blk_cell BK102.out 0).trans rfl; have hcz13_1 : w10.cell? ⟨gb102, 1, none⟩ = some (.int .u64 a2_1) := (blk_cell BK102.out 1).trans rfl; have hcz13_2 : w10.cell? ⟨gb102, 2, none⟩ = some (.int .u64 a2_2) := (blk_cell BK102.out 2).trans rfl; have hcz13_3 : w10.cell? ⟨gb102, 3, none⟩ = some (.int .u64 a2_3) := (blk_cell BK102.out 3).trans rfl; have hcz13_4 : w10.cell? ⟨gb102, 4, none⟩ = some (.int .u64 a2_4) := (blk_cell BK102.out 4).trans rfl; have hcz13_5 : w10.cell? ⟨gb102, 5, none⟩ = some (.int .u64 a2_5) := (blk_cell BK102.out 5).trans rfl; have hcz13_6 : w10.cell? ⟨gb102, 6, none⟩ = some (.int .u64 a2_6) := (blk_cell BK102.out 6).trans rfl; have hcz13_7 : w10.cell? ⟨gb102, 7, none⟩ = some (.int .u64 a2_7) := (blk_cell BK102.out 7).trans rfl; have hcz13_8 : w10.cell? ⟨gb102, 8, none⟩ = some (.int .u64 a2_8) := (blk_cell BK102.out 8).trans rfl; have hcz13_9 : w10.cell? ⟨gb102, 9, none⟩ = some (.int .u64 a2_9) := (blk_cell BK102.out 9).trans rfl; have hcz13_10 : w10.cell? ⟨gb102, 10, none⟩ = some (.int .u64 a2_10) := (blk_cell BK102.out 10).trans rfl; have hcz13_11 : w10.cell? ⟨gb102, 11, none⟩ = some (.int .u64 a2_11) := (blk_cell BK102.out 11).trans rfl; have hcz13_12 : w10.cell? ⟨gb102, 12, none⟩ = some (.int .u64 a2_12) := (blk_cell BK102.out 12).trans rfl; have hcz13_13 : w10.cell? ⟨gb102, 13, none⟩ = some (.int .u64 a2_13) := (blk_cell BK102.out 13).trans rfl; have hcz13_14 : w10.cell? ⟨gb102, 14, none⟩ = some (.bool a2_14) := (blk_cell BK102.out 14).trans rfl; have hcz13_15 : w10.cell? ⟨gb102, 15, none⟩ = some (.bool a2_15) := (blk_cell BK102.out 15).trans rfl; have hcz13_16 : w10.cell? ⟨gb102, 16, none⟩ = some (.bool a2_16) := (blk_cell BK102.out 16).trans rfl; have hcz13_17 : w10.cell? ⟨gb102, 17, none⟩ = some (.int .u64 a2_17) := (blk_cell BK102.out 17).trans rfl; have hcz13_18 : w10.cell? ⟨gb102, 18, none⟩ = some (.int .u64 a2_18) := (blk_cell BK102.out 18).trans rfl; have hcz13_19 : w10.cell? ⟨gb102, 19, none⟩ = some (.int .u64 a2_19) := (blk_cell BK102.out 19).trans rfl; have hcz13_20 : w10.cell? ⟨gb102, 20, none⟩ = some (.int .u64 a2_20) := (blk_cell BK102.out 20).trans rfl; have hcz13_21 : w10.cell? ⟨gb102, 21, none⟩ = some (.int .u64 a2_21) := (blk_cell BK102.out 21).trans rfl; have hcz13_22 : w10.cell? ⟨gb102, 22, none⟩ = some (.int .u64 a2_22) := (blk_cell BK102.out 22).trans rfl; have hcz13_23 : w10.cell? ⟨gb102, 23, none⟩ = some (.int .u64 a2_23) := (blk_cell BK102.out 23).trans rfl; have hcz13_24 : w10.cell? ⟨gb102, 24, none⟩ = some (.int .u64 a2_24) := (blk_cell BK102.out 24).trans rfl; have hcz13_25 : w10.cell? ⟨gb102, 25, none⟩ = some (.int .u64 a2_25) := (blk_cell BK102.out 25).trans rfl; have hcz13_26 : w10.cell? ⟨gb102, 26, none⟩ = some (.int .u64 a2_26) := (blk_cell BK102.out 26).trans rfl; have hcz13_27 : w10.cell? ⟨gb102, 27, none⟩ = some (.int .u64 a2_27) := (blk_cell BK102.out 27).trans rfl; have hcz13_28 : w10.cell? ⟨gb102, 28, none⟩ = some (.int .u64 a2_28) := (blk_cell BK102.out 28).trans rfl; have hcz13_29 : w10.cell? ⟨gb102, 29, none⟩ = some (.int .u64 a2_29) := (blk_cell BK102.out 29).trans rfl; have hcz13_30 : w10.cell? ⟨gb102, 30, none⟩ = some (.int .u64 a2_30) := (blk_cell BK102.out 30).trans rfl; have hcz13_31 : w10.cell? ⟨gb102, 31, none⟩ = some (.int .u64 a2_31) := (blk_cell BK102.out 31).trans rfl; have hcz13_32 : w10.cell? ⟨gb102, 32, none⟩ = some (.bool a2_32) := (blk_cell BK102.out 32).trans rfl; have hcz13_33 : w10.cell? ⟨gb102, 33, none⟩ = some (.bool a2_33) := (blk_cell BK102.out 33).trans rfl; have hcz13_34 : w10.cell? ⟨gb102, 34, none⟩ = some (.bool a2_34) := (blk_cell BK102.out 34).trans rfl; have hcz13_35 : w10.cell? ⟨gb102, 35, none⟩ = some (.bool a2_35) := (blk_cell BK102.out 35).trans rfl; have hcz13_36 : w10.cell? ⟨gb102, 36, none⟩ = some (.bool a2_36) := (blk_cell BK102.out 36).trans rfl; have hfz13_0 := blk_frozen BK102.out 0; have hfz13_1 := blk_frozen BK102.out 1; have hfz13_2 := blk_frozen BK102.out 2; have hfz13_3 := blk_frozen BK102.out 3; have hfz13_4 := blk_frozen BK102.out 4; have hfz13_5 := blk_frozen BK102.out 5; have hfz13_6 := blk_frozen BK102.out 6; have hfz13_7 := blk_frozen BK102.out 7; have hfz13_8 := blk_frozen BK102.out 8; have hfz13_9 := blk_frozen BK102.out 9; have hfz13_10 := blk_frozen BK102.out 10; have hfz13_11 := blk_frozen BK102.out 11; have hfz13_12 := blk_frozen BK102.out 12; have hfz13_13 := blk_frozen BK102.out 13; have hfz13_14 := blk_frozen BK102.out 14; have hfz13_15 := blk_frozen BK102.out 15; have hfz13_16 := blk_frozen BK102.out 16; have hfz13_17 := blk_frozen BK102.out 17; have hfz13_18 := blk_frozen BK102.out 18; have hfz13_19 := blk_frozen BK102.out 19; have hfz13_20 := blk_frozen BK102.out 20; have hfz13_21 := blk_frozen BK102.out 21; have hfz13_22 := blk_frozen BK102.out 22; have hfz13_23 := blk_frozen BK102.out 23; have hfz13_24 := blk_frozen BK102.out 24; have hfz13_25 := blk_frozen BK102.out 25; have hfz13_26 := blk_frozen BK102.out 26; have hfz13_27 := blk_frozen BK102.out 27; have hfz13_28 := blk_frozen BK102.out 28; have hfz13_29 := blk_frozen BK102.out 29; have hfz13_30 := blk_frozen BK102.out 30; have hfz13_31 := blk_frozen BK102.out 31; have hfz13_32 := blk_frozen BK102.out 32; have hfz13_33 := blk_frozen BK102.out 33; have hfz13_34 := blk_frozen BK102.out 34; have hfz13_35 := blk_frozen BK102.out 35; have hfz13_36 := blk_frozen BK102.out 36) | (go_at_call 18; (with_reducible refine (vers_Read.calls _ _ l0 a1_0 a1_1 _ _ l1_2 _ _ l2_0 a2_1 a2_2 a2_3 a2_4 a2_5 a2_6 a2_7 a2_8 a2_9 a2_10 a2_11 a2_12 a2_13 a2_14 a2_15 a2_16 a2_17 a2_18 a2_19 a2_20 a2_21 a2_22 a2_23 a2_24 a2_25 a2_26 a2_27 a2_28 a2_29 a2_30 a2_31 a2_32 a2_33 a2_34 a2_35 a2_36 a3 t104 t105 t108 t111 t114 _ ?side1 ?side2 ?side3 ?side4 ?side5 ?side6 A6.out).mono ?_); (case side1 => repeat (first | exact (Kd.C_below HR0.out HB.out) | (with_reducible refine Kd.C_alloc ?_ _) | (with_reducible refine Kd.C_drewN ?_ _) | (with_reducible refine Kd.C_drew ?_))); (case side2 => exact HC0.out); (case side3 => repeat (first | exact (Kd.C_below HR1_2.out HB.out) | (with_reducible refine Kd.C_alloc ?_ _) | (with_reducible refine Kd.C_drewN ?_ _) | (with_reducible refine Kd.C_drew ?_))); (case side4 => exact HC1_2.out); (case side5 => repeat (first | exact (Kd.C_below HR2_0.out HB.out) | (with_reducible refine Kd.C_alloc ?_ _) | (with_reducible refine Kd.C_drewN ?_ _) | (with_reducible refine Kd.C_drew ?_))); (case side6 => exact HC2_0.out); rintro e w14 ⟨v106, v109, v112, rfl, ho0, ho1, ho2, hb⟩; have n0_ := Aside0.mk (Kd.R_lower ho0 (below_size (by repeat (first | (with_reducible first | exact HB.out | apply below_alloc | apply pw_below_drewN | apply below_drew1 | refine below_set ?_ GE101.out | refine below_set ?_ GE102.out) | exact HB.out)))); have n1_ := Aside0.mk (Kd.R_lower ho1 (below_size (by repeat (first | (with_reducible first | exact HB.out | apply below_alloc | apply pw_below_drewN | apply below_drew1 | refine below_set ?_ GE101.out | refine below_set ?_ GE102.out) | exact HB.out)))); have n2_ := Aside0.mk (Kd.R_lower ho2 (below_size (by repeat (first | (with_reducible first | exact HB.out | apply below_alloc | apply pw_below_drewN | apply below_drew1 | refine below_set ?_ GE101.out | refine below_set ?_ GE102.out) | exact HB.out)))); have n3_ := Aside0.mk (blk_below (g := gb101) (o := .cells #[.int .i64 a1_0, .int .u64 a1_1, .slice A1_2 l1_2.length c1_2] 32 (0, 0)) (by (with_reducible repeat (first | refine blk_drewN ?_ _ | refine blk_drew ?_ | refine blk_alloc ?_ _)); exact BK101.out) hb); have n4_ := Aside0.mk (blk_below (g := gb102) (o := .cells #[.slice A2_0 l2_0.length c2_0, .int .u64 a2_1, .int .u64 a2_2, .int .u64 a2_3, .int .u64 a2_4, .int .u64 a2_5, .int .u64 a2_6, .int .u64 a2_7, .int .u64 a2_8, .int .u64 a2_9, .int .u64 a2_10, .int .u64 a2_11, .int .u64 a2_12, .int .u64 a2_13, .bool a2_14, .bool a2_15, .bool a2_16, .int .u64 a2_17, .int .u64 a2_18, .int .u64 a2_19, .int .u64 a2_20, .int .u64 a2_21, .int .u64 a2_22, .int .u64 a2_23, .int .u64 a2_24, .int .u64 a2_25, .int .u64 a2_26, .int .u64 a2_27, .int .u64 a2_28, .int .u64 a2_29, .int .u64 a2_30, .int .u64 a2_31, .bool a2_32, .bool a2_33, .bool a2_34, .bool a2_35, .bool a2_36] 35 (0, 0)) (by (with_reducible repeat (first | refine blk_drewN ?_ _ | refine blk_drew ?_ | refine blk_alloc ?_ _)); exact BK102.out) hb); have n5_ := Aside0.mk (below_step (by repeat (first | (with_reducible first | exact HB.out | apply below_alloc | apply pw_below_drewN | apply below_drew1 | refine below_set ?_ GE101.out | refine below_set ?_ GE102.out) | exact HB.out)) hb); clear BK101; clear BK102; clear HB; have HO107 := n0_; have HO110 := n1_; have HO113 := n2_; have BK101 := n3_; have BK102 := n4_; have HB := n5_; clear n0_ n1_ n2_ n3_ n4_ n5_; (try clear hb); (try clear hb2); (try clear hk); (try clear hi); (try clear ho0); (try clear ho1); (try clear ho2); (try simp only [errW_none, errW_some])) | ((with_reducible refine gate_dst (N := 10) rfl ?_); (try (refine gate_guard (by rfl) ?_; dsimp only)); refine box_event ?hg (N := 10) ?hd (cs := #[.bool false, .slice none 0 0, .slice none 0 0, .slice none 0 0]) (t := 54) ?hr ?_; (case hd => rfl); (case hg => rfl); (case hr => first | (go_simp; done) | (go_simp; rfl)); intro gb115 hg w15 hbox hb; have n0_ := Aside0.mk (Kd.R_below (by (with_reducible repeat (first | apply Kd.R_alloc | apply Kd.R_drewN | apply Kd.R_drew)); exact HO107.out) hb); have n1_ := Aside0.mk (Kd.R_below (by (with_reducible repeat (first | apply Kd.R_alloc | apply Kd.R_drewN | apply Kd.R_drew)); exact HO110.out) hb); have n2_ := Aside0.mk (Kd.R_below (by (with_reducible repeat (first | apply Kd.R_alloc | apply Kd.R_drewN | apply Kd.R_drew)); exact HO113.out) hb); have n3_ := Aside0.mk (blk_below (g := gb101) (o := .cells #[.int .i64 a1_0, .int .u64 a1_1, .slice A1_2 l1_2.length c1_2] 32 (0, 0)) (by (with_reducible repeat (first | refine blk_drewN ?_ _ | refine blk_drew ?_ | refine blk_alloc ?_ _)); exact BK101.out) hb); have n4_ := Aside0.mk (blk_below (g := gb102) (o := .cells #[.slice A2_0 l2_0.length c2_0, .int .u64 a2_1, .int .u64 a2_2, .int .u64 a2_3, .int .u64 a2_4, .int .u64 a2_5, .int .u64 a2_6, .int .u64 a2_7, .int .u64 a2_8, .int .u64 a2_9, .int .u64 a2_10, .int .u64 a2_11, .int .u64 a2_12, .int .u64 a2_13, .bool a2_14, .bool a2_15, .bool a2_16, .int .u64 a2_17, .int .u64 a2_18, .int .u64 a2_19, .int .u64 a2_20, .int .u64 a2_21, .int .u64 a2_22, .int .u64 a2_23, .int .u64 a2_24, .int .u64 a2_25, .int .u64 a2_26, .int .u64 a2_27, .int .u64 a2_28, .int .u64 a2_29, .int .u64 a2_30, .int .u64 a2_31, .bool a2_32, .bool a2_33, .bool a2_34, .bool a2_35, .bool a2_36] 35 (0, 0)) (by (with_reducible repeat (first | refine blk_drewN ?_ _ | refine blk_drew ?_ | refine blk_alloc ?_ _)); exact BK102.out) hb); have n5_ := Aside0.mk (below_step (by repeat (first | (with_reducible first | exact HB.out | apply below_alloc | apply pw_below_drewN | apply below_drew1 | refine below_set ?_ GE101.out | refine below_set ?_ GE102.out) | exact HB.out)) hb); have n6_ := Aside0.mk (hbox); have n7_ := Aside0.mk ((by rw [hg]; exact (below_size (by repeat (first | (with_reducible first | exact HB.out | apply below_alloc | apply pw_below_drewN | apply below_drew1 | refine below_set ?_ GE101.out | refine below_set ?_ GE102.out) | exact HB.out))) : w.heap.size ≤ gb115)); have n8_ := Aside0.mk ((by rw [hg]; exact (below_size (by repeat (first | (with_reducible first | exact HB.out | apply below_alloc | apply pw_below_drewN | apply below_drew1 | refine below_set ?_ GE101.out | refine below_set ?_ GE102.out) | exact HB.out))) : w.heap.size ≤ gb115)); have n9_ := Aside0.mk ((by rw [hg]; exact Nat.ne_of_lt (blk_lt (g := gb101) (o := .cells #[.int .i64 a1_0, .int .u64 a1_1, .slice A1_2 l1_2.length c1_2] 32 (0, 0)) (by (with_reducible repeat (first | refine blk_drewN ?_ _ | refine blk_drew ?_ | refine blk_alloc ?_ _)); exact BK101.out)) : gb101 ≠ gb115)); have n10_ := Aside0.mk ((by rw [hg]; exact Nat.ne_of_gt (blk_lt (g := gb101) (o := .cells #[.int .i64 a1_0, .int .u64 a1_1, .slice A1_2 l1_2.length c1_2] 32 (0, 0)) (by (with_reducible repeat (first | refine blk_drewN ?_ _ | refine blk_drew ?_ | refine blk_alloc ?_ _)); exact BK101.out)) : gb115 ≠ gb101)); have n11_ := Aside0.mk ((by rw [hg]; exact Nat.ne_of_lt (blk_lt (g := gb102) (o := .cells #[.slice A2_0 l2_0.length c2_0, .int .u64 a2_1, .int .u64 a2_2, .int .u64 a2_3, .int .u64 a2_4, .int .u64 a2_5, .int .u64 a2_6, .int .u64 a2_7, .int .u64 a2_8, .int .u64 a2_9, .int .u64 a2_10, .int .u64 a2_11, .int .u64 a2_12, .int .u64 a2_13, .bool a2_14, .bool a2_15, .bool a2_16, .int .u64 a2_17, .int .u64 a2_18, .int .u64 a2_19, .int .u64 a2_20, .int .u64 a2_21, .int .u64 a2_22, .int .u64 a2_23, .int .u64 a2_24, .int .u64 a2_25, .int .u64 a2_26, .int .u64 a2_27, .int .u64 a2_28, .int .u64 a2_29, .int .u64 a2_30, .int .u64 a2_31, .bool a2_32, .bool a2_33, .bool a2_34, .bool a2_35, .bool a2_36] 35 (0, 0)) (by (with_reducible repeat (first | refine blk_drewN ?_ _ | refine blk_drew ?_ | refine blk_alloc ?_ _)); exact BK102.out)) : gb102 ≠ gb115)); have n12_ := Aside0.mk ((by rw [hg]; exact Nat.ne_of_gt (blk_lt (g := gb102) (o := .cells #[.slice A2_0 l2_0.length c2_0, .int .u64 a2_1, .int .u64 a2_2, .int .u64 a2_3, .int .u64 a2_4, .int .u64 a2_5, .int .u64 a2_6, .int .u64 a2_7, .int .u64 a2_8, .int .u64 a2_9, .int .u64 a2_10, .int .u64 a2_11, .int .u64 a2_12, .int .u64 a2_13, .bool a2_14, .bool a2_15, .bool a2_16, .int .u64 a2_17, .int .u64 a2_18, .int .u64 a2_19, .int .u64 a2_20, .int .u64 a2_21, .int .u64 a2_22, .int .u64 a2_23, .int .u64 a2_24, .int .u64 a2_25, .int .u64 a2_26, .int .u64 a2_27, .int .u64 a2_28, .int .u64 a2_29, .int .u64 a2_30, .int .u64 a2_31, .bool a2_32, .bool a2_33, .bool a2_34, .bool a2_35, .bool a2_36] 35 (0, 0)) (by (with_reducible repeat (first | refine blk_drewN ?_ _ | refine blk_drew ?_ | refine blk_alloc ?_ _)); exact BK102.out)) : gb115 ≠ gb102)); clear HO107; clear HO110; clear HO113; clear BK101; clear BK102; clear HB; have HO107 := n0_; have HO110 := n1_; have HO113 := n2_; have BK101 := n3_; have BK102 := n4_; have HB := n5_; have BK115 := n6_; have GW115 := n7_; have GE115 := n8_; have NB101_115 := n9_; have NB115_101 := n10_; have NB102_115 := n11_; have NB115_102 := n12_; clear n0_ n1_ n2_ n3_ n4_ n5_ n6_ n7_ n8_ n9_ n10_ n11_ n12_; clear hb hbox hg; have hnb16 := NB115_101.out; have hnc16 := NB101_115.out; have hnb17 := NB115_102.out; have hnc17 := NB102_115.out; have hcz18_0 : w15.cell? ⟨gb115, 0, none⟩ = some (.bool false) := (blk_cell BK115.out 0).trans rfl; have hcz18_1 : w15.cell? ⟨gb115, 1, none⟩ = some (.slice none 0 0) := (blk_cell BK115.out 1).trans rfl; have hcz18_2 : w15.cell? ⟨gb115, 2, none⟩ = some (.slice none 0 0) := (blk_cell BK115.out 2).trans rfl; have hcz18_3 : w15.cell? ⟨gb115, 3, none⟩ = some (.slice none 0 0) := (blk_cell BK115.out 3).trans rfl; have hfz18_0 := blk_frozen BK115.out 0; have hfz18_1 := blk_frozen BK115.out 1; have hfz18_2 := blk_frozen BK115.out 2; have hfz18_3 := blk_frozen BK115.out 3; obtain ⟨Ao19, co19, eo19⟩ := Kd.R_slice HO107.out; subst eo19; obtain ⟨Ao20, co20, eo20⟩ := Kd.R_slice HO110.out; subst eo20; obtain ⟨Ao21, co21, eo21⟩ := Kd.R_slice HO113.out; subst eo21)))
 (try simp only [Act.put, List.setIfInBounds_toArray, List.set_cons_zero, List.set_cons_succ])
 go_cut [37] (fun v37 wc => ∃ (kq : Nat) (x37_6 : Bool), v37 = .bool x37_6 ∧ Aside0 (shacklelaw08_VersOnce.j0 kq a3 t103 x37_6 t104 t105 t108 t111 = some r) ∧ Aside0 (kq ≤ k) ∧ Aside0 (Kd.R (Kd.int .i64) 3 wc w.heap.size (fun _ => True) (.slice Ao19 t105.length co19) t105) ∧ Aside0 (Kd.R k63 63 wc w.heap.size (fun _ => True) (.slice Ao20 t108.length co20) t108) ∧ Aside0 (Kd.R k66 66 wc w.heap.size (fun _ => True) (.slice Ao21 t111.length co21) t111) ∧ Aside0 (wc.heap[gb101]? = some (.cells #[.int .i64 a1_0, .int .u64 a1_1, (.slice A1_2 l1_2.length c1_2)] 32 (0, 0))) ∧ Aside0 (wc.heap[gb102]? = some (.cells #[(.slice A2_0 l2_0.length c2_0), .int .u64 a2_1, .int .u64 a2_2, .int .u64 a2_3, .int .u64 a2_4, .int .u64 a2_5, .int .u64 a2_6, .int .u64 a2_7, .int .u64 a2_8, .int .u64 a2_9, .int .u64 a2_10, .int .u64 a2_11, .int .u64 a2_12, .int .u64 a2_13, .bool a2_14, .bool a2_15, .bool a2_16, .int .u64 a2_17, .int .u64 a2_18, .int .u64 a2_19, .int .u64 a2_20, .int .u64 a2_21, .int .u64 a2_22, .int .u64 a2_23, .int .u64 a2_24, .int .u64 a2_25, .int .u64 a2_26, .int .u64 a2_27, .int .u64 a2_28, .int .u64 a2_29, .int .u64 a2_30, .int .u64 a2_31, .bool a2_32, .bool a2_33, .bool a2_34, .bool a2_35, .bool a2_36] 35 (0, 0))) ∧ Aside0 (wc.heap[gb115]? = some (.cells #[.bool t104, (.slice Ao19 t105.length co19), (.slice Ao20 t108.length co20), (.slice Ao21 t111.length co21)] 54 (0, 0))) ∧ Aside0 (Below w.heap.size w wc))
 case first =>
  have H := HC7.out
  clear HC7
  rcases t114 with _ | q116
  ·have H1 : (shacklelaw08_VersOnce.j0 k a3 t103 (!t104) t104 t105 t108 t111) = some r := by rw [if_pos (show (none : Option Int).isNone = true by rfl)] at H; exact H
   clear H
   have H := H1
   clear H1
   try simp only [errW_none, errW_some]
   have H' := Aside0.mk H
   clear H
   have hnb22 := NB115_101.out
   have hnc22 := NB101_115.out
   have hnb23 := NB115_102.out
   have hnc23 := NB102_115.out
   have hcz24_0 : w15.cell? ⟨gb115, 0, none⟩ = some (.bool false) := (blk_cell BK115.out 0).trans rfl
   have hcz24_1 : w15.cell? ⟨gb115, 1, none⟩ = some (.slice none 0 0) := (blk_cell BK115.out 1).trans rfl
   have hcz24_2 : w15.cell? ⟨gb115, 2, none⟩ = some (.slice none 0 0) := (blk_cell BK115.out 2).trans rfl
   have hcz24_3 : w15.cell? ⟨gb115, 3, none⟩ = some (.slice none 0 0) := (blk_cell BK115.out 3).trans rfl
   have hfz24_0 := blk_frozen BK115.out 0
   have hfz24_1 := blk_frozen BK115.out 1
   have hfz24_2 := blk_frozen BK115.out 2
   have hfz24_3 := blk_frozen BK115.out 3
   go_wp2
   repeat (go_quiet (fail); try go_wp2)
   go_meet
   case rel => exact ⟨_, (!t104), (by first | rfl | (simp; done) | (simp [*]; done)), H', ⟨by first | omega | exact Nat.le_refl _⟩, ⟨by (with_reducible repeat (first | apply Kd.R_alloc | apply Kd.R_drewN | apply Kd.R_drew)); exact Kd.R_mono (Kd.R_far (p := ⟨gb115, 3, none⟩) (Kd.R_far (p := ⟨gb115, 2, none⟩) (Kd.R_far (p := ⟨gb115, 1, none⟩) (Kd.R_far (p := ⟨gb115, 0, none⟩) (Kd.R_types HO107.out BK115.out (by decide)) (fun _ hk => hk.2) (.bool t104)) (fun _ hk => hk.2) (.slice Ao19 t105.length co19)) (fun _ hk => hk.2) (.slice Ao20 t108.length co20)) (fun _ hk => hk.2) (.slice Ao21 t111.length co21)) (fun _ hk => trivial)⟩, ⟨by (with_reducible repeat (first | apply Kd.R_alloc | apply Kd.R_drewN | apply Kd.R_drew)); exact Kd.R_mono (Kd.R_far (p := ⟨gb115, 3, none⟩) (Kd.R_far (p := ⟨gb115, 2, none⟩) (Kd.R_far (p := ⟨gb115, 1, none⟩) (Kd.R_far (p := ⟨gb115, 0, none⟩) (Kd.R_types HO110.out BK115.out (by decide)) (fun _ hk => hk.2) (.bool t104)) (fun _ hk => hk.2) (.slice Ao19 t105.length co19)) (fun _ hk => hk.2) (.slice Ao20 t108.length co20)) (fun _ hk => hk.2) (.slice Ao21 t111.length co21)) (fun _ hk => trivial)⟩, ⟨by (with_reducible repeat (first | apply Kd.R_alloc | apply Kd.R_drewN | apply Kd.R_drew)); exact Kd.R_mono (Kd.R_far (p := ⟨gb115, 3, none⟩) (Kd.R_far (p := ⟨gb115, 2, none⟩) (Kd.R_far (p := ⟨gb115, 1, none⟩) (Kd.R_far (p := ⟨gb115, 0, none⟩) (Kd.R_types HO113.out BK115.out (by decide)) (fun _ hk => hk.2) (.bool t104)) (fun _ hk => hk.2) (.slice Ao19 t105.length co19)) (fun _ hk => hk.2) (.slice Ao20 t108.length co20)) (fun _ hk => hk.2) (.slice Ao21 t111.length co21)) (fun _ hk => trivial)⟩, ⟨by (with_reducible repeat (first | refine blk_drewN ?_ _ | refine blk_drew ?_ | refine blk_alloc ?_ _)); refine blk_far ?_ NB101_115.out _; (with_reducible repeat (first | refine blk_drewN ?_ _ | refine blk_drew ?_ | refine blk_alloc ?_ _)); refine blk_far ?_ NB101_115.out _; (with_reducible repeat (first | refine blk_drewN ?_ _ | refine blk_drew ?_ | refine blk_alloc ?_ _)); refine blk_far ?_ NB101_115.out _; (with_reducible repeat (first | refine blk_drewN ?_ _ | refine blk_drew ?_ | refine blk_alloc ?_ _)); refine blk_far ?_ NB101_115.out _; (with_reducible repeat (first | refine blk_drewN ?_ _ | refine blk_drew ?_ | refine blk_alloc ?_ _)); exact BK101.out⟩, ⟨by (with_reducible repeat (first | refine blk_drewN ?_ _ | refine blk_drew ?_ | refine blk_alloc ?_ _)); refine blk_far ?_ NB102_115.out _; (with_reducible repeat (first | refine blk_drewN ?_ _ | refine blk_drew ?_ | refine blk_alloc ?_ _)); refine blk_far ?_ NB102_115.out _; (with_reducible repeat (first | refine blk_drewN ?_ _ | refine blk_drew ?_ | refine blk_alloc ?_ _)); refine blk_far ?_ NB102_115.out _; (with_reducible repeat (first | refine blk_drewN ?_ _ | refine blk_drew ?_ | refine blk_alloc ?_ _)); refine blk_far ?_ NB102_115.out _; (with_reducible repeat (first | refine blk_drewN ?_ _ | refine blk_drew ?_ | refine blk_alloc ?_ _)); exact BK102.out⟩, ⟨by (with_reducible repeat (first | refine blk_drewN ?_ _ | refine blk_drew ?_ | refine blk_alloc ?_ _)); refine blk_put (cs := #[.bool t104, .slice Ao19 t105.length co19, .slice Ao20 t108.length co20, .slice none 0 0]) ?_ 3 _ rfl; (with_reducible repeat (first | refine blk_drewN ?_ _ | refine blk_drew ?_ | refine blk_alloc ?_ _)); refine blk_put (cs := #[.bool t104, .slice Ao19 t105.length co19, .slice none 0 0, .slice none 0 0]) ?_ 2 _ rfl; (with_reducible repeat (first | refine blk_drewN ?_ _ | refine blk_drew ?_ | refine blk_alloc ?_ _)); refine blk_put (cs := #[.bool t104, .slice none 0 0, .slice none 0 0, .slice none 0 0]) ?_ 1 _ rfl; (with_reducible repeat (first | refine blk_drewN ?_ _ | refine blk_drew ?_ | refine blk_alloc ?_ _)); refine blk_put (cs := #[.bool false, .slice none 0 0, .slice none 0 0, .slice none 0 0]) ?_ 0 _ rfl; (with_reducible repeat (first | refine blk_drewN ?_ _ | refine blk_drew ?_ | refine blk_alloc ?_ _)); exact BK115.out⟩, ⟨by repeat (first | (with_reducible first | exact HB.out | apply below_alloc | apply pw_below_drewN | apply below_drew1 | refine below_set ?_ GE101.out | refine below_set ?_ GE102.out | refine below_set ?_ GE115.out) | exact HB.out)⟩⟩
  ·have H1 : (shacklelaw08_VersOnce.j0 k a3 t103 true t104 t105 t108 t111) = some r := by rw [if_neg (show ¬ (some q116).isNone = true by simp)] at H; exact H
   clear H
   have H := H1
   clear H1
   try simp only [errW_none, errW_some]
   have H' := Aside0.mk H
   clear H
   go_wp2
   repeat (go_quiet (fail); try go_wp2)
   go_meet
   case rel => exact ⟨_, (true), (by first | rfl | (simp; done) | (simp [*]; done)), H', ⟨by first | omega | exact Nat.le_refl _⟩, ⟨by (with_reducible repeat (first | apply Kd.R_alloc | apply Kd.R_drewN | apply Kd.R_drew)); exact Kd.R_mono (Kd.R_far (p := ⟨gb115, 3, none⟩) (Kd.R_far (p := ⟨gb115, 2, none⟩) (Kd.R_far (p := ⟨gb115, 1, none⟩) (Kd.R_far (p := ⟨gb115, 0, none⟩) (Kd.R_types HO107.out BK115.out (by decide)) (fun _ hk => hk.2) (.bool t104)) (fun _ hk => hk.2) (.slice Ao19 t105.length co19)) (fun _ hk => hk.2) (.slice Ao20 t108.length co20)) (fun _ hk => hk.2) (.slice Ao21 t111.length co21)) (fun _ hk => trivial)⟩, ⟨by (with_reducible repeat (first | apply Kd.R_alloc | apply Kd.R_drewN | apply Kd.R_drew)); exact Kd.R_mono (Kd.R_far (p := ⟨gb115, 3, none⟩) (Kd.R_far (p := ⟨gb115, 2, none⟩) (Kd.R_far (p := ⟨gb115, 1, none⟩) (Kd.R_far (p := ⟨gb115, 0, none⟩) (Kd.R_types HO110.out BK115.out (by decide)) (fun _ hk => hk.2) (.bool t104)) (fun _ hk => hk.2) (.slice Ao19 t105.length co19)) (fun _ hk => hk.2) (.slice Ao20 t108.length co20)) (fun _ hk => hk.2) (.slice Ao21 t111.length co21)) (fun _ hk => trivial)⟩, ⟨by (with_reducible repeat (first | apply Kd.R_alloc | apply Kd.R_drewN | apply Kd.R_drew)); exact Kd.R_mono (Kd.R_far (p := ⟨gb115, 3, none⟩) (Kd.R_far (p := ⟨gb115, 2, none⟩) (Kd.R_far (p := ⟨gb115, 1, none⟩) (Kd.R_far (p := ⟨gb115, 0, none⟩) (Kd.R_types HO113.out BK115.out (by decide)) (fun _ hk => hk.2) (.bool t104)) (fun _ hk => hk.2) (.slice Ao19 t105.length co19)) (fun _ hk => hk.2) (.slice Ao20 t108.length co20)) (fun _ hk => hk.2) (.slice Ao21 t111.length co21)) (fun _ hk => trivial)⟩, ⟨by (with_reducible repeat (first | refine blk_drewN ?_ _ | refine blk_drew ?_ | refine blk_alloc ?_ _)); refine blk_far ?_ NB101_115.out _; (with_reducible repeat (first | refine blk_drewN ?_ _ | refine blk_drew ?_ | refine blk_alloc ?_ _)); refine blk_far ?_ NB101_115.out _; (with_reducible repeat (first | refine blk_drewN ?_ _ | refine blk_drew ?_ | refine blk_alloc ?_ _)); refine blk_far ?_ NB101_115.out _; (with_reducible repeat (first | refine blk_drewN ?_ _ | refine blk_drew ?_ | refine blk_alloc ?_ _)); refine blk_far ?_ NB101_115.out _; (with_reducible repeat (first | refine blk_drewN ?_ _ | refine blk_drew ?_ | refine blk_alloc ?_ _)); exact BK101.out⟩, ⟨by (with_reducible repeat (first | refine blk_drewN ?_ _ | refine blk_drew ?_ | refine blk_alloc ?_ _)); refine blk_far ?_ NB102_115.out _; (with_reducible repeat (first | refine blk_drewN ?_ _ | refine blk_drew ?_ | refine blk_alloc ?_ _)); refine blk_far ?_ NB102_115.out _; (with_reducible repeat (first | refine blk_drewN ?_ _ | refine blk_drew ?_ | refine blk_alloc ?_ _)); refine blk_far ?_ NB102_115.out _; (with_reducible repeat (first | refine blk_drewN ?_ _ | refine blk_drew ?_ | refine blk_alloc ?_ _)); refine blk_far ?_ NB102_115.out _; (with_reducible repeat (first | refine blk_drewN ?_ _ | refine blk_drew ?_ | refine blk_alloc ?_ _)); exact BK102.out⟩, ⟨by (with_reducible repeat (first | refine blk_drewN ?_ _ | refine blk_drew ?_ | refine blk_alloc ?_ _)); refine blk_put (cs := #[.bool t104, .slice Ao19 t105.length co19, .slice Ao20 t108.length co20, .slice none 0 0]) ?_ 3 _ rfl; (with_reducible repeat (first | refine blk_drewN ?_ _ | refine blk_drew ?_ | refine blk_alloc ?_ _)); refine blk_put (cs := #[.bool t104, .slice Ao19 t105.length co19, .slice none 0 0, .slice none 0 0]) ?_ 2 _ rfl; (with_reducible repeat (first | refine blk_drewN ?_ _ | refine blk_drew ?_ | refine blk_alloc ?_ _)); refine blk_put (cs := #[.bool t104, .slice none 0 0, .slice none 0 0, .slice none 0 0]) ?_ 1 _ rfl; (with_reducible repeat (first | refine blk_drewN ?_ _ | refine blk_drew ?_ | refine blk_alloc ?_ _)); refine blk_put (cs := #[.bool false, .slice none 0 0, .slice none 0 0, .slice none 0 0]) ?_ 0 _ rfl; (with_reducible repeat (first | refine blk_drewN ?_ _ | refine blk_drew ?_ | refine blk_alloc ?_ _)); exact BK115.out⟩, ⟨by repeat (first | (with_reducible first | exact HB.out | apply below_alloc | apply pw_below_drewN | apply below_drew1 | refine below_set ?_ GE101.out | refine below_set ?_ GE102.out | refine below_set ?_ GE115.out) | exact HB.out)⟩⟩
 case rest =>
  clear HC7
  try clear c1
  try clear q1
  try clear c2
  try clear p2
  try clear c6
  try clear c11
  try clear q11
  try clear c16
  try clear c17
  try clear c22
  try clear c23
  try clear hcz12_0
  try clear hcz12_1
  try clear hcz12_2
  try clear hcz13_0
  try clear hcz13_1
  try clear hcz13_10
  try clear hcz13_11
  try clear hcz13_12
  try clear hcz13_13
  try clear hcz13_14
  try clear hcz13_15
  try clear hcz13_16
  try clear hcz13_17
  try clear hcz13_18
  try clear hcz13_19
  try clear hcz13_2
  try clear hcz13_20
  try clear hcz13_21
  try clear hcz13_22
  try clear hcz13_23
  try clear hcz13_24
  try clear hcz13_25
  try clear hcz13_26
  try clear hcz13_27
  try clear hcz13_28
  try clear hcz13_29
  try clear hcz13_3
  try clear hcz13_30
  try clear hcz13_31
  try clear hcz13_32
  try clear hcz13_33
  try clear hcz13_34
  try clear hcz13_35
  try clear hcz13_36
  try clear hcz13_4
  try clear hcz13_5
  try clear hcz13_6
  try clear hcz13_7
  try clear hcz13_8
  try clear hcz13_9
  try clear hcz18_0
  try clear hcz18_1
  try clear hcz18_2
  try clear hcz18_3
  try clear hcz24_0
  try clear hcz24_1
  try clear hcz24_2
  try clear hcz24_3
  try clear hfz12_0
  try clear hfz12_1
  try clear hfz12_2
  try clear hfz13_0
  try clear hfz13_1
  try clear hfz13_10
  try clear hfz13_11
  try clear hfz13_12
  try clear hfz13_13
  try clear hfz13_14
  try clear hfz13_15
  try clear hfz13_16
  try clear hfz13_17
  try clear hfz13_18
  try clear hfz13_19
  try clear hfz13_2
  try clear hfz13_20
  try clear hfz13_21
  try clear hfz13_22
  try clear hfz13_23
  try clear hfz13_24
  try clear hfz13_25
  try clear hfz13_26
  try clear hfz13_27
  try clear hfz13_28
  try clear hfz13_29
  try clear hfz13_3
  try clear hfz13_30
  try clear hfz13_31
  try clear hfz13_32
  try clear hfz13_33
  try clear hfz13_34
  try clear hfz13_35
  try clear hfz13_36
  try clear hfz13_4
  try clear hfz13_5
  try clear hfz13_6
  try clear hfz13_7
  try clear hfz13_8
  try clear hfz13_9
  try clear hfz18_0
  try clear hfz18_1
  try clear hfz18_2
  try clear hfz18_3
  try clear hfz24_0
  try clear hfz24_1
  try clear hfz24_2
  try clear hfz24_3
  try clear q116
  obtain ⟨kq, x37_6, rfl, HA, HJ6, HO_116001, HO_116002, HO_116003, BK101, BK102, BK115, HB⟩ := hcut
  cases kq with
  | zero => exact absurd HA.out (by simp [shacklelaw08_VersOnce.j0])
  | succ kj6 =>
   have H := HA.out
   clear HA
   simp only [shacklelaw08_VersOnce.j0] at H
   by_cases c25 : x37_6 = true
   ·subst c25
    have H1 : (if t103 = true then (if (t105.length : Int) = 0 then (if (t108.length : Int) = 0 then (some ((t111.length : Int) == 0)) else (some false)) else (some false)) else (some false)) = some r := by rw [if_pos rfl] at H; exact H
    clear H
    have H := H1
    clear H1
    by_cases c26 : t103 = true
    ·subst c26
     have H1 : (if (t105.length : Int) = 0 then (if (t108.length : Int) = 0 then (some ((t111.length : Int) == 0)) else (some false)) else (some false)) = some r := by rw [if_pos rfl] at H; exact H
     clear H
     have H := H1
     clear H1
     by_cases c27 : (t105.length : Int) = 0
     ·rw [if_pos c27] at H
      have c27b0 : ((t105.length : Int) == 0) = true := beq_iff_eq.mpr c27
      have c27b1 : ((t105.length : Int) != 0) = false := bne_eq_false_iff_eq.mpr c27
      clear c27
      by_cases c28 : (t108.length : Int) = 0
      ·rw [if_pos c28] at H
       have c28b0 : ((t108.length : Int) == 0) = true := beq_iff_eq.mpr c28
       have c28b1 : ((t108.length : Int) != 0) = false := bne_eq_false_iff_eq.mpr c28
       clear c28
       obtain rfl := Option.some.inj H
       have hnb29 := NB115_101.out
       have hnc29 := NB101_115.out
       have hnb30 := NB115_102.out
       have hnc30 := NB102_115.out
       have hcz31_0 : wc.cell? ⟨gb115, 0, none⟩ = some (.bool t104) := (blk_cell BK115.out 0).trans rfl
       have hcz31_1 : wc.cell? ⟨gb115, 1, none⟩ = some (.slice Ao19 t105.length co19) := (blk_cell BK115.out 1).trans rfl
       have hcz31_2 : wc.cell? ⟨gb115, 2, none⟩ = some (.slice Ao20 t108.length co20) := (blk_cell BK115.out 2).trans rfl
       have hcz31_3 : wc.cell? ⟨gb115, 3, none⟩ = some (.slice Ao21 t111.length co21) := (blk_cell BK115.out 3).trans rfl
       have hfz31_0 := blk_frozen BK115.out 0
       have hfz31_1 := blk_frozen BK115.out 1
       have hfz31_2 := blk_frozen BK115.out 2
       have hfz31_3 := blk_frozen BK115.out 3
       go_wp2
       repeat (go_quiet (fail); try go_wp2)
       go_ret
       exact ⟨by first | rfl | (simp [errW_none, errW_some] <;> rfl) | (simp [*, errW_none, errW_some] <;> rfl), by repeat (first | (with_reducible first | exact HB.out | apply below_alloc | apply pw_below_drewN | apply below_drew1 | refine below_set ?_ GE101.out | refine below_set ?_ GE102.out | refine below_set ?_ GE115.out) | exact HB.out)⟩
      ·rw [if_neg c28] at H
       have c28b0 : ((t108.length : Int) == 0) = false := beq_eq_false_iff_ne.mpr c28
       have c28b1 : ((t108.length : Int) != 0) = true := bne_iff_ne.mpr c28
       have c28b2 : ¬ (t108 = []) := fun h_ => c28 (by rw [h_]; rfl)
       obtain rfl := Option.some.inj H
       have hnb32 := NB115_101.out
       have hnc32 := NB101_115.out
       have hnb33 := NB115_102.out
       have hnc33 := NB102_115.out
       have hcz34_0 : wc.cell? ⟨gb115, 0, none⟩ = some (.bool t104) := (blk_cell BK115.out 0).trans rfl
       have hcz34_1 : wc.cell? ⟨gb115, 1, none⟩ = some (.slice Ao19 t105.length co19) := (blk_cell BK115.out 1).trans rfl
       have hcz34_2 : wc.cell? ⟨gb115, 2, none⟩ = some (.slice Ao20 t108.length co20) := (blk_cell BK115.out 2).trans rfl
       have hcz34_3 : wc.cell? ⟨gb115, 3, none⟩ = some (.slice Ao21 t111.length co21) := (blk_cell BK115.out 3).trans rfl
       have hfz34_0 := blk_frozen BK115.out 0
       have hfz34_1 := blk_frozen BK115.out 1
       have hfz34_2 := blk_frozen BK115.out 2
       have hfz34_3 := blk_frozen BK115.out 3
       go_wp2
       repeat (go_quiet (fail); try go_wp2)
       go_ret
       exact ⟨by first | rfl | (simp [errW_none, errW_some] <;> rfl) | (simp [*, errW_none, errW_some] <;> rfl), by repeat (first | (with_reducible first | exact HB.out | apply below_alloc | apply pw_below_drewN | apply below_drew1 | refine below_set ?_ GE101.out | refine below_set ?_ GE102.out | refine below_set ?_ GE115.out) | exact HB.out)⟩
     ·rw [if_neg c27] at H
      have c27b0 : ((t105.length : Int) == 0) = false := beq_eq_false_iff_ne.mpr c27
      have c27b1 : ((t105.length : Int) != 0) = true := bne_iff_ne.mpr c27
      have c27b2 : ¬ (t105 = []) := fun h_ => c27 (by rw [h_]; rfl)
      obtain rfl := Option.some.inj H
      have hnb35 := NB115_101.out
      have hnc35 := NB101_115.out
      have hnb36 := NB115_102.out
      have hnc36 := NB102_115.out
      have hcz37_0 : wc.cell? ⟨gb115, 0, none⟩ = some (.bool t104) := (blk_cell BK115.out 0).trans rfl
      have hcz37_1 : wc.cell? ⟨gb115, 1, none⟩ = some (.slice Ao19 t105.length co19) := (blk_cell BK115.out 1).trans rfl
      have hcz37_2 : wc.cell? ⟨gb115, 2, none⟩ = some (.slice Ao20 t108.length co20) := (blk_cell BK115.out 2).trans rfl
      have hcz37_3 : wc.cell? ⟨gb115, 3, none⟩ = some (.slice Ao21 t111.length co21) := (blk_cell BK115.out 3).trans rfl
      have hfz37_0 := blk_frozen BK115.out 0
      have hfz37_1 := blk_frozen BK115.out 1
      have hfz37_2 := blk_frozen BK115.out 2
      have hfz37_3 := blk_frozen BK115.out 3
      go_wp2
      repeat (go_quiet (fail); try go_wp2)
      go_ret
      exact ⟨by first | rfl | (simp [errW_none, errW_some] <;> rfl) | (simp [*, errW_none, errW_some] <;> rfl), by repeat (first | (with_reducible first | exact HB.out | apply below_alloc | apply pw_below_drewN | apply below_drew1 | refine below_set ?_ GE101.out | refine below_set ?_ GE102.out | refine below_set ?_ GE115.out) | exact HB.out)⟩
    ·replace c26 := Bool.eq_false_iff.mpr c26
     subst c26
     have H1 : (some false) = some r := by rw [if_neg (show ¬ (false = true) by decide)] at H; exact H
     clear H
     have H := H1
     clear H1
     obtain rfl := Option.some.inj H
     go_wp2
     repeat (go_quiet (fail); try go_wp2)
     go_ret
     exact ⟨by first | rfl | (simp [errW_none, errW_some] <;> rfl) | (simp [*, errW_none, errW_some] <;> rfl), by repeat (first | (with_reducible first | exact HB.out | apply below_alloc | apply pw_below_drewN | apply below_drew1 | refine below_set ?_ GE101.out | refine below_set ?_ GE102.out | refine below_set ?_ GE115.out) | exact HB.out)⟩
   ·replace c25 := Bool.eq_false_iff.mpr c25
    subst c25
    have H1 : (shacklelaw08_VersOnce.l0 kj6 a3 t103 ([] : List Int) 0 t104 t105 t108 t111) = some r := by rw [if_neg (show ¬ (false = true) by decide)] at H; exact H
    clear H
    have H := H1
    clear H1
    have H' := Aside0.mk H
    clear H
    go_wp2
    repeat (go_quiet (fail); try go_wp2)
    go_loopg [12, 13] kj6 (fun kq v12 v13 w' => ∃ (x12_2 : List Int) (x13_2 : Int), v13 = .int .i64 x13_2 ∧ Aside0 (shacklelaw08_VersOnce.l0 kq a3 t103 x12_2 x13_2 t104 t105 t108 t111 = some r) ∧ Aside0 (kq ≤ kj6) ∧ Aside0 (Kd.R (Kd.int .i64) 3 w' w.heap.size (fun k_ => some k_ ≠ ((.slice Ao19 t105.length co19) : Value).ownBlock) v12 x12_2) ∧ Aside0 (Kd.R (Kd.int .i64) 3 w' w.heap.size (fun k_ => some k_ ≠ (v12 : Value).ownBlock) (.slice Ao19 t105.length co19) t105) ∧ Aside0 (Kd.R k63 63 w' w.heap.size (fun _ => True) (.slice Ao20 t108.length co20) t108) ∧ Aside0 (Kd.R k66 66 w' w.heap.size (fun _ => True) (.slice Ao21 t111.length co21) t111) ∧ Aside0 (w'.heap[gb101]? = some (.cells #[.int .i64 a1_0, .int .u64 a1_1, (.slice A1_2 l1_2.length c1_2)] 32 (0, 0))) ∧ Aside0 (w'.heap[gb102]? = some (.cells #[(.slice A2_0 l2_0.length c2_0), .int .u64 a2_1, .int .u64 a2_2, .int .u64 a2_3, .int .u64 a2_4, .int .u64 a2_5, .int .u64 a2_6, .int .u64 a2_7, .int .u64 a2_8, .int .u64 a2_9, .int .u64 a2_10, .int .u64 a2_11, .int .u64 a2_12, .int .u64 a2_13, .bool a2_14, .bool a2_15, .bool a2_16, .int .u64 a2_17, .int .u64 a2_18, .int .u64 a2_19, .int .u64 a2_20, .int .u64 a2_21, .int .u64 a2_22, .int .u64 a2_23, .int .u64 a2_24, .int .u64 a2_25, .int .u64 a2_26, .int .u64 a2_27, .int .u64 a2_28, .int .u64 a2_29, .int .u64 a2_30, .int .u64 a2_31, .bool a2_32, .bool a2_33, .bool a2_34, .bool a2_35, .bool a2_36] 35 (0, 0))) ∧ Aside0 (w'.heap[gb115]? = some (.cells #[.bool t104, (.slice Ao19 t105.length co19), (.slice Ao20 t108.length co20), (.slice Ao21 t111.length co21)] 54 (0, 0))) ∧ Aside0 (Below w.heap.size w w'))
    case atStart => exact ⟨(([] : List Int)), (0), (by first | rfl | (simp; done) | (simp [*]; done)), H', ⟨Nat.le_refl _⟩, ⟨by first | exact Kd.R_nil _ _ _ _ _ | exact Kd.N_nil _ _ _ _ _ | exact Kd.V_nil _ _ _ _ _ | exact Kd.Q_nil _ _ _ _ _ | exact Kd.R_nil _ _ _ _ _⟩, ⟨by (with_reducible repeat (first | apply Kd.R_alloc | apply Kd.R_drewN | apply Kd.R_drew)); exact Kd.R_mono HO_116001.out (fun _ hk => (by simp [Value.ownBlock]))⟩, ⟨by (with_reducible repeat (first | apply Kd.R_alloc | apply Kd.R_drewN | apply Kd.R_drew)); exact HO_116002.out⟩, ⟨by (with_reducible repeat (first | apply Kd.R_alloc | apply Kd.R_drewN | apply Kd.R_drew)); exact HO_116003.out⟩, ⟨by (with_reducible repeat (first | refine blk_drewN ?_ _ | refine blk_drew ?_ | refine blk_alloc ?_ _)); exact BK101.out⟩, ⟨by (with_reducible repeat (first | refine blk_drewN ?_ _ | refine blk_drew ?_ | refine blk_alloc ?_ _)); exact BK102.out⟩, ⟨by (with_reducible repeat (first | refine blk_drewN ?_ _ | refine blk_drew ?_ | refine blk_alloc ?_ _)); exact BK115.out⟩, ⟨by repeat (first | (with_reducible first | exact HB.out | apply below_alloc | apply pw_below_drewN | apply below_drew1 | refine below_set ?_ GE101.out | refine below_set ?_ GE102.out | refine below_set ?_ GE115.out) | exact HB.out)⟩⟩
    case round =>
     clear H'
     try clear c1
     try clear q1
     try clear c2
     try clear p2
     try clear c3
     try clear c6
     try clear c11
     try clear q11
     try clear c16
     try clear c17
     try clear c22
     try clear c23
     try clear c25
     try clear c26
     try clear c27
     try clear c27b0
     try clear c27b1
     try clear c27b2
     try clear c28
     try clear c28b0
     try clear c28b1
     try clear c28b2
     try clear c29
     try clear c30
     try clear c32
     try clear c33
     try clear c35
     try clear c36
     try clear hcz12_0
     try clear hcz12_1
     try clear hcz12_2
     try clear hcz13_0
     try clear hcz13_1
     try clear hcz13_10
     try clear hcz13_11
     try clear hcz13_12
     try clear hcz13_13
     try clear hcz13_14
     try clear hcz13_15
     try clear hcz13_16
     try clear hcz13_17
     try clear hcz13_18
     try clear hcz13_19
     try clear hcz13_2
     try clear hcz13_20
     try clear hcz13_21
     try clear hcz13_22
     try clear hcz13_23
     try clear hcz13_24
     try clear hcz13_25
     try clear hcz13_26
     try clear hcz13_27
     try clear hcz13_28
     try clear hcz13_29
     try clear hcz13_3
     try clear hcz13_30
     try clear hcz13_31
     try clear hcz13_32
     try clear hcz13_33
     try clear hcz13_34
     try clear hcz13_35
     try clear hcz13_36
     try clear hcz13_4
     try clear hcz13_5
     try clear hcz13_6
     try clear hcz13_7
     try clear hcz13_8
     try clear hcz13_9
     try clear hcz18_0
     try clear hcz18_1
     try clear hcz18_2
     try clear hcz18_3
     try clear hcz24_0
     try clear hcz24_1
     try clear hcz24_2
     try clear hcz24_3
     try clear hcz31_0
     try clear hcz31_1
     try clear hcz31_2
     try clear hcz31_3
     try clear hcz34_0
     try clear hcz34_1
     try clear hcz34_2
     try clear hcz34_3
     try clear hcz37_0
     try clear hcz37_1
     try clear hcz37_2
     try clear hcz37_3
     try clear hfz12_0
     try clear hfz12_1
     try clear hfz12_2
     try clear hfz13_0
     try clear hfz13_1
     try clear hfz13_10
     try clear hfz13_11
     try clear hfz13_12
     try clear hfz13_13
     try clear hfz13_14
     try clear hfz13_15
     try clear hfz13_16
     try clear hfz13_17
     try clear hfz13_18
     try clear hfz13_19
     try clear hfz13_2
     try clear hfz13_20
     try clear hfz13_21
     try clear hfz13_22
     try clear hfz13_23
     try clear hfz13_24
     try clear hfz13_25
     try clear hfz13_26
     try clear hfz13_27
     try clear hfz13_28
     try clear hfz13_29
     try clear hfz13_3
     try clear hfz13_30
     try clear hfz13_31
     try clear hfz13_32
     try clear hfz13_33
     try clear hfz13_34
     try clear hfz13_35
     try clear hfz13_36
     try clear hfz13_4
     try clear hfz13_5
     try clear hfz13_6
     try clear hfz13_7
     try clear hfz13_8
     try clear hfz13_9
     try clear hfz18_0
     try clear hfz18_1
     try clear hfz18_2
     try clear hfz18_3
     try clear hfz24_0
     try clear hfz24_1
     try clear hfz24_2
     try clear hfz24_3
     try clear hfz31_0
     try clear hfz31_1
     try clear hfz31_2
     try clear hfz31_3
     try clear hfz34_0
     try clear hfz34_1
     try clear hfz34_2
     try clear hfz34_3
     try clear hfz37_0
     try clear hfz37_1
     try clear hfz37_2
     try clear hfz37_3
     try clear p2
     try clear q1
     try clear q11
     try clear q116
     obtain ⟨x12_2, x13_2, rfl, HA, HK2, HO_12, HO_116001, HO_116002, HO_116003, BK101, BK102, BK115, HB⟩ := hrel
     cases gk with
     | zero => exact absurd HA.out (by simp [shacklelaw08_VersOnce.l0])
     | succ k2 =>
      have H := HA.out
      clear HA
      simp only [shacklelaw08_VersOnce.l0] at H
      by_cases c38 : x13_2 < (t108.length : Int)
      ·rw [if_pos c38] at H
       have c38b0 : decide (x13_2 < (t108.length : Int)) = true := decide_eq_true c38
       clear c38
       by_cases c39 : 0 ≤ x13_2
       ·rw [if_pos c39] at H
        have c39b0 : decide (0 ≤ x13_2) = true := decide_eq_true c39
        clear c39
        by_cases c40 : x12_2.length < 17592186044416
        ·rw [if_pos c40] at H
         have LMc40 := Aside0.mk c40
         clear c40
         obtain ⟨y118, hy118⟩ : ∃ y_ : List Int, y_ = (x12_2 ++ [(rd_T63 t108 x13_2).f0]) := ⟨_, rfl⟩
         replace H : (shacklelaw08_VersOnce.l0 k2 a3 t103 y118 (wrap64 (x13_2 + 1)) t104 t105 t108 t111) = some r := by first | (rw [hy118]; with_reducible exact H) | (have H2_ := (Option.bind_some _ _).symm.trans H; rw [hy118]; with_reducible exact H2_) | (have H2_ := (Option.bind_some _ _).symm.trans H; with_reducible exact H2_) | with_reducible exact H | (rw [hy118]; exact H) | exact H
         have Ny118 := Aside0.mk hy118
         clear hy118
         have H' := Aside0.mk H
         clear H
         have hnb41 := NB115_101.out
         have hnc41 := NB101_115.out
         have hnb42 := NB115_102.out
         have hnc42 := NB102_115.out
         have hcz43_0 : wr.cell? ⟨gb115, 0, none⟩ = some (.bool t104) := (blk_cell BK115.out 0).trans rfl
         have hcz43_1 : wr.cell? ⟨gb115, 1, none⟩ = some (.slice Ao19 t105.length co19) := (blk_cell BK115.out 1).trans rfl
         have hcz43_2 : wr.cell? ⟨gb115, 2, none⟩ = some (.slice Ao20 t108.length co20) := (blk_cell BK115.out 2).trans rfl
         have hcz43_3 : wr.cell? ⟨gb115, 3, none⟩ = some (.slice Ao21 t111.length co21) := (blk_cell BK115.out 3).trans rfl
         have hfz43_0 := blk_frozen BK115.out 0
         have hfz43_1 := blk_frozen BK115.out 1
         have hfz43_2 := blk_frozen BK115.out 2
         have hfz43_3 := blk_frozen BK115.out 3
         have p117 : 0 ≤ (x13_2 : Int) := of_decide_eq_true (by assumption)
         have q117 : x13_2 < (t108.length : Int) := of_decide_eq_true (by assumption)
         obtain ⟨ad117, A117_3, c117_3, e117, hx117_0, hx117_1, hx117_2, hx117_3, hl117_3, hi117_3⟩ := at_T63 (Kd.R_reads' HO_116002.out).2.2 x13_2 p117 q117
         cases e117
         obtain ⟨ce117, hce117, hMe117, hcc117⟩ := Kd.R_get HO_116002.out z63 x13_2 p117 (by first | exact q117 | exact of_decide_eq_true (by assumption) | (have e_ := (Kd.R_reads' HO_116002.out).1; omega))
         obtain ⟨ve117_3, rfl, ge117_3⟩ := k63_openM hMe117
         have hv117_3 := hcc117 3 _ rfl
         rw [add_field _ _ 3 (by omega)] at hv117_3
         replace hv117_3 := Option.some.inj (hv117_3.symm.trans hx117_3)
         rw [hv117_3] at ge117_3
         have HL117_3 := Aside0.mk (show Kd.R Kd.string 9 _ _ _ _ ((rd_T63 t108 x13_2).f3) from ge117_3)
         clear hv117_3 ge117_3
         clear hcc117 hce117
         have HR117_3 := Aside0.mk hi117_3
         have HC117_3 := Aside0.mk hl117_3
         clear hi117_3 hl117_3
         replace p117 := eq_true p117
         replace q117 := eq_true q117
         go_wp2_with (first | ((with_reducible refine gate_ (.load 35 (.tmp 6)) rfl ?_); refine wpList_load_row rfl 35 (.tmp 6) rfl gb102 rfl 35 _ (0, 0) _ (by (with_reducible repeat (first | refine blk_drewN ?_ _ | refine blk_drew ?_ | refine blk_alloc ?_ _)); exact BK102.out) Try.underlying35 rfl (by kernel_rfl) ?_) | ((with_reducible refine gate_builtin (b := .append) (xs := #[.tmp 64, .tmp 71]) rfl ?_); (try (refine gate_guard (by rfl) ?_; dsimp only)); at_builtin; refine Kd.R_append (Kd.int .i64) (w0 := w) w.heap.size rfl (.tmp 64) (.tmp 71) 37 3 (.int .i64 0) 8 rfl Try.underlying37 info3 rfl (by decide) (by omega) u12 x12_2 ((rd_T63 t108 x13_2).f0) [.int .i64 ((rd_T63 t108 x13_2).f0)] (fun k_ => some k_ ≠ (.slice Ao19 t105.length co19 : Value).ownBlock) (fun _ => False) rfl rfl ?aP (fun _ hk => hk.elim) ?aF ?aO ?aB ?aS ?aL ?_; (case aP => exact rfl); (case aB => exact (by repeat (first | (with_reducible first | exact HB.out | apply below_alloc | apply pw_below_drewN | apply below_drew1 | refine below_set ?_ GE101.out | refine below_set ?_ GE102.out | refine below_set ?_ GE115.out) | exact HB.out))); (case aF => exact (fun k_ hk => Kd.fresh' (Kd.R_lt (by (with_reducible repeat (first | apply Kd.R_alloc | apply Kd.R_drewN | apply Kd.R_drew)); exact HO_116001.out)) k_ hk)); (case aO => exact (by (with_reducible repeat (first | apply Kd.R_alloc | apply Kd.R_drewN | apply Kd.R_drew)); exact HO_12.out)); (case aS => exact (below_size (by repeat (first | (with_reducible first | exact HB.out | apply below_alloc | apply pw_below_drewN | apply below_drew1 | refine below_set ?_ GE101.out | refine below_set ?_ GE102.out | refine below_set ?_ GE115.out) | exact HB.out)))); (case aL => have := LMc40.out; omega); intro v119 w44 ho hb hg hat; rw [← Ny118.out] at ho; have n0_ := Aside0.mk (Kd.R_after (ok := (fun _ => True)) (by (with_reducible repeat (first | apply Kd.R_alloc | apply Kd.R_drewN | apply Kd.R_drew)); exact Kd.R_mono HO_116001.out (fun _ hk => ⟨trivial, hk⟩)) hg hat); have n1_ := Aside0.mk (Kd.R_over' (by (with_reducible repeat (first | apply Kd.R_alloc | apply Kd.R_drewN | apply Kd.R_drew)); exact HO_116002.out) (Kd.R_typed (by (with_reducible repeat (first | apply Kd.R_alloc | apply Kd.R_drewN | apply Kd.R_drew)); exact HO_12.out)) (by decide) hg); have n2_ := Aside0.mk (Kd.R_over' (by (with_reducible repeat (first | apply Kd.R_alloc | apply Kd.R_drewN | apply Kd.R_drew)); exact HO_116003.out) (Kd.R_typed (by (with_reducible repeat (first | apply Kd.R_alloc | apply Kd.R_drewN | apply Kd.R_drew)); exact HO_12.out)) (by decide) hg); have n3_ := Aside0.mk (blk_grown (g := gb101) (o := .cells #[.int .i64 a1_0, .int .u64 a1_1, .slice A1_2 l1_2.length c1_2] 32 (0, 0)) (by (with_reducible repeat (first | refine blk_drewN ?_ _ | refine blk_drew ?_ | refine blk_alloc ?_ _)); exact BK101.out) hg (Kd.R_ne HO_12.out BK101.out (by decide))); have n4_ := Aside0.mk (blk_grown (g := gb102) (o := .cells #[.slice A2_0 l2_0.length c2_0, .int .u64 a2_1, .int .u64 a2_2, .int .u64 a2_3, .int .u64 a2_4, .int .u64 a2_5, .int .u64 a2_6, .int .u64 a2_7, .int .u64 a2_8, .int .u64 a2_9, .int .u64 a2_10, .int .u64 a2_11, .int .u64 a2_12, .int .u64 a2_13, .bool a2_14, .bool a2_15, .bool a2_16, .int .u64 a2_17, .int .u64 a2_18, .int .u64 a2_19, .int .u64 a2_20, .int .u64 a2_21, .int .u64 a2_22, .int .u64 a2_23, .int .u64 a2_24, .int .u64 a2_25, .int .u64 a2_26, .int .u64 a2_27, .int .u64 a2_28, .int .u64 a2_29, .int .u64 a2_30, .int .u64 a2_31, .bool a2_32, .bool a2_33, .bool a2_34, .bool a2_35, .bool a2_36] 35 (0, 0)) (by (with_reducible repeat (first | refine blk_drewN ?_ _ | refine blk_drew ?_ | refine blk_alloc ?_ _)); exact BK102.out) hg (Kd.R_ne HO_12.out BK102.out (by decide))); have n5_ := Aside0.mk (blk_grown (g := gb115) (o := .cells #[.bool t104, .slice Ao19 t105.length co19, .slice (some ad117) t108.length co20, .slice Ao21 t111.length co21] 54 (0, 0)) (by (with_reducible repeat (first | refine blk_drewN ?_ _ | refine blk_drew ?_ | refine blk_alloc ?_ _)); exact BK115.out) hg (Kd.R_ne HO_12.out BK115.out (by decide))); have n6_ := Aside0.mk (Kd.R_over' (by (with_reducible repeat (first | apply Kd.R_alloc | apply Kd.R_drewN | apply Kd.R_drew)); exact HL117_3.out) (Kd.R_typed (by (with_reducible repeat (first | apply Kd.R_alloc | apply Kd.R_drewN | apply Kd.R_drew)); exact HO_12.out)) (by decide) hg); have n7_ := Aside0.mk (hb); have n8_ := Aside0.mk (ho); clear HO_116001; clear HO_116002; clear HO_116003; clear BK101; clear BK102; clear BK115; clear HL117_3; clear HB; clear HO_12; have HO_116001 := n0_; have HO_116002 := n1_; have HO_116003 := n2_; have BK101 := n3_; have BK102 := n4_; have BK115 := n5_; have HL117_3 := n6_; have HB := n7_; have HO120 := n8_; clear n0_ n1_ n2_ n3_ n4_ n5_ n6_ n7_ n8_; clear ho hb hg hat))
         repeat (go_quiet (first | ((with_reducible refine gate_builtin (b := .append) (xs := #[.tmp 64, .tmp 71]) rfl ?_); (try (refine gate_guard (by rfl) ?_; dsimp only)); at_builtin; refine Kd.R_append (Kd.int .i64) (w0 := w) w.heap.size rfl (.tmp 64) (.tmp 71) 37 3 (.int .i64 0) 8 rfl Try.underlying37 info3 rfl (by decide) (by omega) u12 x12_2 ((rd_T63 t108 x13_2).f0) [.int .i64 ((rd_T63 t108 x13_2).f0)] (fun k_ => some k_ ≠ (.slice Ao19 t105.length co19 : Value).ownBlock) (fun _ => False) rfl rfl ?aP (fun _ hk => hk.elim) ?aF ?aO ?aB ?aS ?aL ?_; (case aP => exact rfl); (case aB => exact (by repeat (first | (with_reducible first | exact HB.out | apply below_alloc | apply pw_below_drewN | apply below_drew1 | refine below_set ?_ GE101.out | refine below_set ?_ GE102.out | refine below_set ?_ GE115.out) | exact HB.out))); (case aF => exact (fun k_ hk => Kd.fresh' (Kd.R_lt (by (with_reducible repeat (first | apply Kd.R_alloc | apply Kd.R_drewN | apply Kd.R_drew)); exact HO_116001.out)) k_ hk)); (case aO => exact (by (with_reducible repeat (first | apply Kd.R_alloc | apply Kd.R_drewN | apply Kd.R_drew)); exact HO_12.out)); (case aS => exact (below_size (by repeat (first | (with_reducible first | exact HB.out | apply below_alloc | apply pw_below_drewN | apply below_drew1 | refine below_set ?_ GE101.out | refine below_set ?_ GE102.out | refine below_set ?_ GE115.out) | exact HB.out)))); (case aL => have := LMc40.out; omega); intro v119 w44 ho hb hg hat; rw [← Ny118.out] at ho; have n0_ := Aside0.mk (Kd.R_after (ok := (fun _ => True)) (by (with_reducible repeat (first | apply Kd.R_alloc | apply Kd.R_drewN | apply Kd.R_drew)); exact Kd.R_mono HO_116001.out (fun _ hk => ⟨trivial, hk⟩)) hg hat); have n1_ := Aside0.mk (Kd.R_over' (by (with_reducible repeat (first | apply Kd.R_alloc | apply Kd.R_drewN | apply Kd.R_drew)); exact HO_116002.out) (Kd.R_typed (by (with_reducible repeat (first | apply Kd.R_alloc | apply Kd.R_drewN | apply Kd.R_drew)); exact HO_12.out)) (by decide) hg); have n2_ := Aside0.mk (Kd.R_over' (by (with_reducible repeat (first | apply Kd.R_alloc | apply Kd.R_drewN | apply Kd.R_drew)); exact HO_116003.out) (Kd.R_typed (by (with_reducible repeat (first | apply Kd.R_alloc | apply Kd.R_drewN | apply Kd.R_drew)); exact HO_12.out)) (by decide) hg); have n3_ := Aside0.mk (blk_grown (g := gb101) (o := .cells #[.int .i64 a1_0, .int .u64 a1_1, .slice A1_2 l1_2.length c1_2] 32 (0, 0)) (by (with_reducible repeat (first | refine blk_drewN ?_ _ | refine blk_drew ?_ | refine blk_alloc ?_ _)); exact BK101.out) hg (Kd.R_ne HO_12.out BK101.out (by decide))); have n4_ := Aside0.mk (blk_grown (g := gb102) (o := .cells #[.slice A2_0 l2_0.length c2_0, .int .u64 a2_1, .int .u64 a2_2, .int .u64 a2_3, .int .u64 a2_4, .int .u64 a2_5, .int .u64 a2_6, .int .u64 a2_7, .int .u64 a2_8, .int .u64 a2_9, .int .u64 a2_10, .int .u64 a2_11, .int .u64 a2_12, .int .u64 a2_13, .bool a2_14, .bool a2_15, .bool a2_16, .int .u64 a2_17, .int .u64 a2_18, .int .u64 a2_19, .int .u64 a2_20, .int .u64 a2_21, .int .u64 a2_22, .int .u64 a2_23, .int .u64 a2_24, .int .u64 a2_25, .int .u64 a2_26, .int .u64 a2_27, .int .u64 a2_28, .int .u64 a2_29, .int .u64 a2_30, .int .u64 a2_31, .bool a2_32, .bool a2_33, .bool a2_34, .bool a2_35, .bool a2_36] 35 (0, 0)) (by (with_reducible repeat (first | refine blk_drewN ?_ _ | refine blk_drew ?_ | refine blk_alloc ?_ _)); exact BK102.out) hg (Kd.R_ne HO_12.out BK102.out (by decide))); have n5_ := Aside0.mk (blk_grown (g := gb115) (o := .cells #[.bool t104, .slice Ao19 t105.length co19, .slice (some ad117) t108.length co20, .slice Ao21 t111.length co21] 54 (0, 0)) (by (with_reducible repeat (first | refine blk_drewN ?_ _ | refine blk_drew ?_ | refine blk_alloc ?_ _)); exact BK115.out) hg (Kd.R_ne HO_12.out BK115.out (by decide))); have n6_ := Aside0.mk (Kd.R_over' (by (with_reducible repeat (first | apply Kd.R_alloc | apply Kd.R_drewN | apply Kd.R_drew)); exact HL117_3.out) (Kd.R_typed (by (with_reducible repeat (first | apply Kd.R_alloc | apply Kd.R_drewN | apply Kd.R_drew)); exact HO_12.out)) (by decide) hg); have n7_ := Aside0.mk (hb); have n8_ := Aside0.mk (ho); clear HO_116001; clear HO_116002; clear HO_116003; clear BK101; clear BK102; clear BK115; clear HL117_3; clear HB; clear HO_12; have HO_116001 := n0_; have HO_116002 := n1_; have HO_116003 := n2_; have BK101 := n3_; have BK102 := n4_; have BK115 := n5_; have HL117_3 := n6_; have HB := n7_; have HO120 := n8_; clear n0_ n1_ n2_ n3_ n4_ n5_ n6_ n7_ n8_; clear ho hb hg hat)); try go_wp2_with (first | ((with_reducible refine gate_ (.load 35 (.tmp 6)) rfl ?_); refine wpList_load_row rfl 35 (.tmp 6) rfl gb102 rfl 35 _ (0, 0) _ (by (with_reducible repeat (first | refine blk_drewN ?_ _ | refine blk_drew ?_ | refine blk_alloc ?_ _)); exact BK102.out) Try.underlying35 rfl (by kernel_rfl) ?_) | ((with_reducible refine gate_builtin (b := .append) (xs := #[.tmp 64, .tmp 71]) rfl ?_); (try (refine gate_guard (by rfl) ?_; dsimp only)); at_builtin; refine Kd.R_append (Kd.int .i64) (w0 := w) w.heap.size rfl (.tmp 64) (.tmp 71) 37 3 (.int .i64 0) 8 rfl Try.underlying37 info3 rfl (by decide) (by omega) u12 x12_2 ((rd_T63 t108 x13_2).f0) [.int .i64 ((rd_T63 t108 x13_2).f0)] (fun k_ => some k_ ≠ (.slice Ao19 t105.length co19 : Value).ownBlock) (fun _ => False) rfl rfl ?aP (fun _ hk => hk.elim) ?aF ?aO ?aB ?aS ?aL ?_; (case aP => exact rfl); (case aB => exact (by repeat (first | (with_reducible first | exact HB.out | apply below_alloc | apply pw_below_drewN | apply below_drew1 | refine below_set ?_ GE101.out | refine below_set ?_ GE102.out | refine below_set ?_ GE115.out) | exact HB.out))); (case aF => exact (fun k_ hk => Kd.fresh' (Kd.R_lt (by (with_reducible repeat (first | apply Kd.R_alloc | apply Kd.R_drewN | apply Kd.R_drew)); exact HO_116001.out)) k_ hk)); (case aO => exact (by (with_reducible repeat (first | apply Kd.R_alloc | apply Kd.R_drewN | apply Kd.R_drew)); exact HO_12.out)); (case aS => exact (below_size (by repeat (first | (with_reducible first | exact HB.out | apply below_alloc | apply pw_below_drewN | apply below_drew1 | refine below_set ?_ GE101.out | refine below_set ?_ GE102.out | refine below_set ?_ GE115.out) | exact HB.out)))); (case aL => have := LMc40.out; omega); intro v119 w44 ho hb hg hat; rw [← Ny118.out] at ho; have n0_ := Aside0.mk (Kd.R_after (ok := (fun _ => True)) (by (with_reducible repeat (first | apply Kd.R_alloc | apply Kd.R_drewN | apply Kd.R_drew)); exact Kd.R_mono HO_116001.out (fun _ hk => ⟨trivial, hk⟩)) hg hat); have n1_ := Aside0.mk (Kd.R_over' (by (with_reducible repeat (first | apply Kd.R_alloc | apply Kd.R_drewN | apply Kd.R_drew)); exact HO_116002.out) (Kd.R_typed (by (with_reducible repeat (first | apply Kd.R_alloc | apply Kd.R_drewN | apply Kd.R_drew)); exact HO_12.out)) (by decide) hg); have n2_ := Aside0.mk (Kd.R_over' (by (with_reducible repeat (first | apply Kd.R_alloc | apply Kd.R_drewN | apply Kd.R_drew)); exact HO_116003.out) (Kd.R_typed (by (with_reducible repeat (first | apply Kd.R_alloc | apply Kd.R_drewN | apply Kd.R_drew)); exact HO_12.out)) (by decide) hg); have n3_ := Aside0.mk (blk_grown (g := gb101) (o := .cells #[.int .i64 a1_0, .int .u64 a1_1, .slice A1_2 l1_2.length c1_2] 32 (0, 0)) (by (with_reducible repeat (first | refine blk_drewN ?_ _ | refine blk_drew ?_ | refine blk_alloc ?_ _)); exact BK101.out) hg (Kd.R_ne HO_12.out BK101.out (by decide))); have n4_ := Aside0.mk (blk_grown (g := gb102) (o := .cells #[.slice A2_0 l2_0.length c2_0, .int .u64 a2_1, .int .u64 a2_2, .int .u64 a2_3, .int .u64 a2_4, .int .u64 a2_5, .int .u64 a2_6, .int .u64 a2_7, .int .u64 a2_8, .int .u64 a2_9, .int .u64 a2_10, .int .u64 a2_11, .int .u64 a2_12, .int .u64 a2_13, .bool a2_14, .bool a2_15, .bool a2_16, .int .u64 a2_17, .int .u64 a2_18, .int .u64 a2_19, .int .u64 a2_20, .int .u64 a2_21, .int .u64 a2_22, .int .u64 a2_23, .int .u64 a2_24, .int .u64 a2_25, .int .u64 a2_26, .int .u64 a2_27, .int .u64 a2_28, .int .u64 a2_29, .int .u64 a2_30, .int .u64 a2_31, .bool a2_32, .bool a2_33, .bool a2_34, .bool a2_35, .bool a2_36] 35 (0, 0)) (by (with_reducible repeat (first | refine blk_drewN ?_ _ | refine blk_drew ?_ | refine blk_alloc ?_ _)); exact BK102.out) hg (Kd.R_ne HO_12.out BK102.out (by decide))); have n5_ := Aside0.mk (blk_grown (g := gb115) (o := .cells #[.bool t104, .slice Ao19 t105.length co19, .slice (some ad117) t108.length co20, .slice Ao21 t111.length co21] 54 (0, 0)) (by (with_reducible repeat (first | refine blk_drewN ?_ _ | refine blk_drew ?_ | refine blk_alloc ?_ _)); exact BK115.out) hg (Kd.R_ne HO_12.out BK115.out (by decide))); have n6_ := Aside0.mk (Kd.R_over' (by (with_reducible repeat (first | apply Kd.R_alloc | apply Kd.R_drewN | apply Kd.R_drew)); exact HL117_3.out) (Kd.R_typed (by (with_reducible repeat (first | apply Kd.R_alloc | apply Kd.R_drewN | apply Kd.R_drew)); exact HO_12.out)) (by decide) hg); have n7_ := Aside0.mk (hb); have n8_ := Aside0.mk (ho); clear HO_116001; clear HO_116002; clear HO_116003; clear BK101; clear BK102; clear BK115; clear HL117_3; clear HB; clear HO_12; have HO_116001 := n0_; have HO_116002 := n1_; have HO_116003 := n2_; have BK101 := n3_; have BK102 := n4_; have BK115 := n5_; have HL117_3 := n6_; have HB := n7_; have HO120 := n8_; clear n0_ n1_ n2_ n3_ n4_ n5_ n6_ n7_ n8_; clear ho hb hg hat)))
         go_roundg k2
         case measure => have := HJ6.out; have := HK2.out; omega
         case rel => exact ⟨(y118), (wrap64 (x13_2 + 1)), (by first | rfl | (simp; done) | (simp [*]; done)), H', ⟨by have := HJ6.out; have := HK2.out; omega⟩, ⟨by (with_reducible repeat (first | apply Kd.R_alloc | apply Kd.R_drewN | apply Kd.R_drew)); exact HO120.out⟩, ⟨by (with_reducible repeat (first | apply Kd.R_alloc | apply Kd.R_drewN | apply Kd.R_drew)); exact Kd.R_mono HO_116001.out (fun _ hk => hk.2)⟩, ⟨by (with_reducible repeat (first | apply Kd.R_alloc | apply Kd.R_drewN | apply Kd.R_drew)); exact HO_116002.out⟩, ⟨by (with_reducible repeat (first | apply Kd.R_alloc | apply Kd.R_drewN | apply Kd.R_drew)); exact HO_116003.out⟩, ⟨by (with_reducible repeat (first | refine blk_drewN ?_ _ | refine blk_drew ?_ | refine blk_alloc ?_ _)); exact BK101.out⟩, ⟨by (with_reducible repeat (first | refine blk_drewN ?_ _ | refine blk_drew ?_ | refine blk_alloc ?_ _)); exact BK102.out⟩, ⟨by (with_reducible repeat (first | refine blk_drewN ?_ _ | refine blk_drew ?_ | refine blk_alloc ?_ _)); exact BK115.out⟩, ⟨by repeat (first | (with_reducible first | exact HB.out | apply below_alloc | apply pw_below_drewN | apply below_drew1 | refine below_set ?_ GE101.out | refine below_set ?_ GE102.out | refine below_set ?_ GE115.out) | exact HB.out)⟩⟩
        ·rw [if_neg c40] at H
         exact absurd H (by simp)
       ·rw [if_neg c39] at H
        exact absurd H (by simp)
      ·rw [if_neg c38] at H
       have c38b0 : decide (x13_2 < (t108.length : Int)) = false := decide_eq_false c38
       clear c38
       have H' := Aside0.mk H
       clear H
       have hnb45 := NB115_101.out
       have hnc45 := NB101_115.out
       have hnb46 := NB115_102.out
       have hnc46 := NB102_115.out
       have hcz47_0 : wr.cell? ⟨gb115, 0, none⟩ = some (.bool t104) := (blk_cell BK115.out 0).trans rfl
       have hcz47_1 : wr.cell? ⟨gb115, 1, none⟩ = some (.slice Ao19 t105.length co19) := (blk_cell BK115.out 1).trans rfl
       have hcz47_2 : wr.cell? ⟨gb115, 2, none⟩ = some (.slice Ao20 t108.length co20) := (blk_cell BK115.out 2).trans rfl
       have hcz47_3 : wr.cell? ⟨gb115, 3, none⟩ = some (.slice Ao21 t111.length co21) := (blk_cell BK115.out 3).trans rfl
       have hfz47_0 := blk_frozen BK115.out 0
       have hfz47_1 := blk_frozen BK115.out 1
       have hfz47_2 := blk_frozen BK115.out 2
       have hfz47_3 := blk_frozen BK115.out 3
       go_wp2
       repeat (go_quiet (fail); try go_wp2)
       go_loopg [12, 14] k2 (fun kq v12 v14 w' => ∃ (x12_3 : List Int) (x14_3 : Int), v14 = .int .i64 x14_3 ∧ Aside0 (shacklelaw08_VersOnce.l1 kq a3 t103 x12_3 x14_3 t104 t105 t108 t111 = some r) ∧ Aside0 (kq ≤ k2) ∧ Aside0 (Kd.R (Kd.int .i64) 3 w' w.heap.size (fun k_ => some k_ ≠ ((.slice Ao19 t105.length co19) : Value).ownBlock) v12 x12_3) ∧ Aside0 (Kd.R (Kd.int .i64) 3 w' w.heap.size (fun k_ => some k_ ≠ (v12 : Value).ownBlock) (.slice Ao19 t105.length co19) t105) ∧ Aside0 (Kd.R k63 63 w' w.heap.size (fun _ => True) (.slice Ao20 t108.length co20) t108) ∧ Aside0 (Kd.R k66 66 w' w.heap.size (fun _ => True) (.slice Ao21 t111.length co21) t111) ∧ Aside0 (w'.heap[gb101]? = some (.cells #[.int .i64 a1_0, .int .u64 a1_1, (.slice A1_2 l1_2.length c1_2)] 32 (0, 0))) ∧ Aside0 (w'.heap[gb102]? = some (.cells #[(.slice A2_0 l2_0.length c2_0), .int .u64 a2_1, .int .u64 a2_2, .int .u64 a2_3, .int .u64 a2_4, .int .u64 a2_5, .int .u64 a2_6, .int .u64 a2_7, .int .u64 a2_8, .int .u64 a2_9, .int .u64 a2_10, .int .u64 a2_11, .int .u64 a2_12, .int .u64 a2_13, .bool a2_14, .bool a2_15, .bool a2_16, .int .u64 a2_17, .int .u64 a2_18, .int .u64 a2_19, .int .u64 a2_20, .int .u64 a2_21, .int .u64 a2_22, .int .u64 a2_23, .int .u64 a2_24, .int .u64 a2_25, .int .u64 a2_26, .int .u64 a2_27, .int .u64 a2_28, .int .u64 a2_29, .int .u64 a2_30, .int .u64 a2_31, .bool a2_32, .bool a2_33, .bool a2_34, .bool a2_35, .bool a2_36] 35 (0, 0))) ∧ Aside0 (w'.heap[gb115]? = some (.cells #[.bool t104, (.slice Ao19 t105.length co19), (.slice Ao20 t108.length co20), (.slice Ao21 t111.length co21)] 54 (0, 0))) ∧ Aside0 (Below w.heap.size w w'))
       case atStart => exact ⟨(x12_2), (0), (by first | rfl | (simp; done) | (simp [*]; done)), H', ⟨Nat.le_refl _⟩, ⟨by (with_reducible repeat (first | apply Kd.R_alloc | apply Kd.R_drewN | apply Kd.R_drew)); exact HO_12.out⟩, ⟨by (with_reducible repeat (first | apply Kd.R_alloc | apply Kd.R_drewN | apply Kd.R_drew)); exact HO_116001.out⟩, ⟨by (with_reducible repeat (first | apply Kd.R_alloc | apply Kd.R_drewN | apply Kd.R_drew)); exact HO_116002.out⟩, ⟨by (with_reducible repeat (first | apply Kd.R_alloc | apply Kd.R_drewN | apply Kd.R_drew)); exact HO_116003.out⟩, ⟨by (with_reducible repeat (first | refine blk_drewN ?_ _ | refine blk_drew ?_ | refine blk_alloc ?_ _)); exact BK101.out⟩, ⟨by (with_reducible repeat (first | refine blk_drewN ?_ _ | refine blk_drew ?_ | refine blk_alloc ?_ _)); exact BK102.out⟩, ⟨by (with_reducible repeat (first | refine blk_drewN ?_ _ | refine blk_drew ?_ | refine blk_alloc ?_ _)); exact BK115.out⟩, ⟨by repeat (first | (with_reducible first | exact HB.out | apply below_alloc | apply pw_below_drewN | apply below_drew1 | refine below_set ?_ GE101.out | refine below_set ?_ GE102.out | refine below_set ?_ GE115.out) | exact HB.out)⟩⟩
       case round =>
        clear H'
        try clear c1
        try clear p1
        try clear q1
        try clear hx1
        try clear c2
        try clear p2
        try clear c3
        try clear c4
        try clear c6
        try clear p6
        try clear c11
        try clear p11
        try clear q11
        try clear hx11
        try clear c16
        try clear c17
        try clear c22
        try clear c23
        try clear c25
        try clear c26
        try clear c27
        try clear c27b0
        try clear c27b1
        try clear c27b2
        try clear c28
        try clear c28b0
        try clear c28b1
        try clear c28b2
        try clear c29
        try clear c30
        try clear c32
        try clear c33
        try clear c35
        try clear c36
        try clear c38
        try clear c38b0
        try clear c39
        try clear c39b0
        try clear c40
        try clear c41
        try clear c42
        try clear c45
        try clear c46
        try clear hcz12_0
        try clear hcz12_1
        try clear hcz12_2
        try clear hcz13_0
        try clear hcz13_1
        try clear hcz13_10
        try clear hcz13_11
        try clear hcz13_12
        try clear hcz13_13
        try clear hcz13_14
        try clear hcz13_15
        try clear hcz13_16
        try clear hcz13_17
        try clear hcz13_18
        try clear hcz13_19
        try clear hcz13_2
        try clear hcz13_20
        try clear hcz13_21
        try clear hcz13_22
        try clear hcz13_23
        try clear hcz13_24
        try clear hcz13_25
        try clear hcz13_26
        try clear hcz13_27
        try clear hcz13_28
        try clear hcz13_29
        try clear hcz13_3
        try clear hcz13_30
        try clear hcz13_31
        try clear hcz13_32
        try clear hcz13_33
        try clear hcz13_34
        try clear hcz13_35
        try clear hcz13_36
        try clear hcz13_4
        try clear hcz13_5
        try clear hcz13_6
        try clear hcz13_7
        try clear hcz13_8
        try clear hcz13_9
        try clear hcz18_0
        try clear hcz18_1
        try clear hcz18_2
        try clear hcz18_3
        try clear hcz24_0
        try clear hcz24_1
        try clear hcz24_2
        try clear hcz24_3
        try clear hcz31_0
        try clear hcz31_1
        try clear hcz31_2
        try clear hcz31_3
        try clear hcz34_0
        try clear hcz34_1
        try clear hcz34_2
        try clear hcz34_3
        try clear hcz37_0
        try clear hcz37_1
        try clear hcz37_2
        try clear hcz37_3
        try clear hcz43_0
        try clear hcz43_1
        try clear hcz43_2
        try clear hcz43_3
        try clear hcz47_0
        try clear hcz47_1
        try clear hcz47_2
        try clear hcz47_3
        try clear hfz12_0
        try clear hfz12_1
        try clear hfz12_2
        try clear hfz13_0
        try clear hfz13_1
        try clear hfz13_10
        try clear hfz13_11
        try clear hfz13_12
        try clear hfz13_13
        try clear hfz13_14
        try clear hfz13_15
        try clear hfz13_16
        try clear hfz13_17
        try clear hfz13_18
        try clear hfz13_19
        try clear hfz13_2
        try clear hfz13_20
        try clear hfz13_21
        try clear hfz13_22
        try clear hfz13_23
        try clear hfz13_24
        try clear hfz13_25
        try clear hfz13_26
        try clear hfz13_27
        try clear hfz13_28
        try clear hfz13_29
        try clear hfz13_3
        try clear hfz13_30
        try clear hfz13_31
        try clear hfz13_32
        try clear hfz13_33
        try clear hfz13_34
        try clear hfz13_35
        try clear hfz13_36
        try clear hfz13_4
        try clear hfz13_5
        try clear hfz13_6
        try clear hfz13_7
        try clear hfz13_8
        try clear hfz13_9
        try clear hfz18_0
        try clear hfz18_1
        try clear hfz18_2
        try clear hfz18_3
        try clear hfz24_0
        try clear hfz24_1
        try clear hfz24_2
        try clear hfz24_3
        try clear hfz31_0
        try clear hfz31_1
        try clear hfz31_2
        try clear hfz31_3
        try clear hfz34_0
        try clear hfz34_1
        try clear hfz34_2
        try clear hfz34_3
        try clear hfz37_0
        try clear hfz37_1
        try clear hfz37_2
        try clear hfz37_3
        try clear hfz43_0
        try clear hfz43_1
        try clear hfz43_2
        try clear hfz43_3
        try clear hfz47_0
        try clear hfz47_1
        try clear hfz47_2
        try clear hfz47_3
        try clear hx117_0
        try clear hx117_1
        try clear hx117_2
        try clear hx117_3
        try clear p117
        try clear p2
        try clear q1
        try clear q11
        try clear q116
        try clear q117
        obtain ⟨x12_3, x14_3, rfl, HA, HK3, HO_12, HO_116001, HO_116002, HO_116003, BK101, BK102, BK115, HB⟩ := hrel
        cases gk with
        | zero => exact absurd HA.out (by simp [shacklelaw08_VersOnce.l1])
        | succ k3 =>
         have H := HA.out
         clear HA
         simp only [shacklelaw08_VersOnce.l1] at H
         by_cases c48 : x14_3 < (t111.length : Int)
         ·rw [if_pos c48] at H
          have c48b0 : decide (x14_3 < (t111.length : Int)) = true := decide_eq_true c48
          clear c48
          have H' := Aside0.mk H
          clear H
          have hnb49 := NB115_101.out
          have hnc49 := NB101_115.out
          have hnb50 := NB115_102.out
          have hnc50 := NB102_115.out
          have hcz51_0 : wr.cell? ⟨gb115, 0, none⟩ = some (.bool t104) := (blk_cell BK115.out 0).trans rfl
          have hcz51_1 : wr.cell? ⟨gb115, 1, none⟩ = some (.slice Ao19 t105.length co19) := (blk_cell BK115.out 1).trans rfl
          have hcz51_2 : wr.cell? ⟨gb115, 2, none⟩ = some (.slice Ao20 t108.length co20) := (blk_cell BK115.out 2).trans rfl
          have hcz51_3 : wr.cell? ⟨gb115, 3, none⟩ = some (.slice Ao21 t111.length co21) := (blk_cell BK115.out 3).trans rfl
          have hfz51_0 := blk_frozen BK115.out 0
          have hfz51_1 := blk_frozen BK115.out 1
          have hfz51_2 := blk_frozen BK115.out 2
          have hfz51_3 := blk_frozen BK115.out 3
          go_wp2
          repeat (go_quiet (fail); try go_wp2)
          go_loopg [12, 15] k3 (fun kq v12 v15 w' => ∃ (x12_4 : List Int) (x15_4 : Int), v15 = .int .i64 x15_4 ∧ Aside0 (shacklelaw08_VersOnce.l2 kq a3 t103 x12_4 x14_3 x15_4 t104 t105 t108 t111 = some r) ∧ Aside0 (kq ≤ k3) ∧ Aside0 (Kd.R (Kd.int .i64) 3 w' w.heap.size (fun k_ => some k_ ≠ ((.slice Ao19 t105.length co19) : Value).ownBlock) v12 x12_4) ∧ Aside0 (Kd.R (Kd.int .i64) 3 w' w.heap.size (fun k_ => some k_ ≠ (v12 : Value).ownBlock) (.slice Ao19 t105.length co19) t105) ∧ Aside0 (Kd.R k63 63 w' w.heap.size (fun _ => True) (.slice Ao20 t108.length co20) t108) ∧ Aside0 (Kd.R k66 66 w' w.heap.size (fun _ => True) (.slice Ao21 t111.length co21) t111) ∧ Aside0 (w'.heap[gb101]? = some (.cells #[.int .i64 a1_0, .int .u64 a1_1, (.slice A1_2 l1_2.length c1_2)] 32 (0, 0))) ∧ Aside0 (w'.heap[gb102]? = some (.cells #[(.slice A2_0 l2_0.length c2_0), .int .u64 a2_1, .int .u64 a2_2, .int .u64 a2_3, .int .u64 a2_4, .int .u64 a2_5, .int .u64 a2_6, .int .u64 a2_7, .int .u64 a2_8, .int .u64 a2_9, .int .u64 a2_10, .int .u64 a2_11, .int .u64 a2_12, .int .u64 a2_13, .bool a2_14, .bool a2_15, .bool a2_16, .int .u64 a2_17, .int .u64 a2_18, .int .u64 a2_19, .int .u64 a2_20, .int .u64 a2_21, .int .u64 a2_22, .int .u64 a2_23, .int .u64 a2_24, .int .u64 a2_25, .int .u64 a2_26, .int .u64 a2_27, .int .u64 a2_28, .int .u64 a2_29, .int .u64 a2_30, .int .u64 a2_31, .bool a2_32, .bool a2_33, .bool a2_34, .bool a2_35, .bool a2_36] 35 (0, 0))) ∧ Aside0 (w'.heap[gb115]? = some (.cells #[.bool t104, (.slice Ao19 t105.length co19), (.slice Ao20 t108.length co20), (.slice Ao21 t111.length co21)] 54 (0, 0))) ∧ Aside0 (Below w.heap.size w w'))
          case atStart => exact ⟨(x12_3), (0), (by first | rfl | (simp; done) | (simp [*]; done)), H', ⟨Nat.le_refl _⟩, ⟨by (with_reducible repeat (first | apply Kd.R_alloc | apply Kd.R_drewN | apply Kd.R_drew)); exact HO_12.out⟩, ⟨by (with_reducible repeat (first | apply Kd.R_alloc | apply Kd.R_drewN | apply Kd.R_drew)); exact HO_116001.out⟩, ⟨by (with_reducible repeat (first | apply Kd.R_alloc | apply Kd.R_drewN | apply Kd.R_drew)); exact HO_116002.out⟩, ⟨by (with_reducible repeat (first | apply Kd.R_alloc | apply Kd.R_drewN | apply Kd.R_drew)); exact HO_116003.out⟩, ⟨by (with_reducible repeat (first | refine blk_drewN ?_ _ | refine blk_drew ?_ | refine blk_alloc ?_ _)); exact BK101.out⟩, ⟨by (with_reducible repeat (first | refine blk_drewN ?_ _ | refine blk_drew ?_ | refine blk_alloc ?_ _)); exact BK102.out⟩, ⟨by (with_reducible repeat (first | refine blk_drewN ?_ _ | refine blk_drew ?_ | refine blk_alloc ?_ _)); exact BK115.out⟩, ⟨by repeat (first | (with_reducible first | exact HB.out | apply below_alloc | apply pw_below_drewN | apply below_drew1 | refine below_set ?_ GE101.out | refine below_set ?_ GE102.out | refine below_set ?_ GE115.out) | exact HB.out)⟩⟩
          case round =>
           clear H'
           try clear c1
           try clear p1
           try clear q1
           try clear hx1
           try clear c2
           try clear p2
           try clear c3
           try clear c4
           try clear c5
           try clear c6
           try clear p6
           try clear c11
           try clear p11
           try clear q11
           try clear hx11
           try clear c16
           try clear c17
           try clear c22
           try clear c23
           try clear c25
           try clear c26
           try clear c27
           try clear c27b0
           try clear c27b1
           try clear c27b2
           try clear c28
           try clear c28b0
           try clear c28b1
           try clear c28b2
           try clear c29
           try clear c30
           try clear c32
           try clear c33
           try clear c35
           try clear c36
           try clear c38
           try clear c38b0
           try clear c39
           try clear c39b0
           try clear c40
           try clear c41
           try clear c42
           try clear c45
           try clear c46
           try clear c48
           try clear c48b0
           try clear c49
           try clear c50
           try clear hcz12_0
           try clear hcz12_1
           try clear hcz12_2
           try clear hcz13_0
           try clear hcz13_1
           try clear hcz13_10
           try clear hcz13_11
           try clear hcz13_12
           try clear hcz13_13
           try clear hcz13_14
           try clear hcz13_15
           try clear hcz13_16
           try clear hcz13_17
           try clear hcz13_18
           try clear hcz13_19
           try clear hcz13_2
           try clear hcz13_20
           try clear hcz13_21
           try clear hcz13_22
           try clear hcz13_23
           try clear hcz13_24
           try clear hcz13_25
           try clear hcz13_26
           try clear hcz13_27
           try clear hcz13_28
           try clear hcz13_29
           try clear hcz13_3
           try clear hcz13_30
           try clear hcz13_31
           try clear hcz13_32
           try clear hcz13_33
           try clear hcz13_34
           try clear hcz13_35
           try clear hcz13_36
           try clear hcz13_4
           try clear hcz13_5
           try clear hcz13_6
           try clear hcz13_7
           try clear hcz13_8
           try clear hcz13_9
           try clear hcz18_0
           try clear hcz18_1
           try clear hcz18_2
           try clear hcz18_3
           try clear hcz24_0
           try clear hcz24_1
           try clear hcz24_2
           try clear hcz24_3
           try clear hcz31_0
           try clear hcz31_1
           try clear hcz31_2
           try clear hcz31_3
           try clear hcz34_0
           try clear hcz34_1
           try clear hcz34_2
           try clear hcz34_3
           try clear hcz37_0
           try clear hcz37_1
           try clear hcz37_2
           try clear hcz37_3
           try clear hcz43_0
           try clear hcz43_1
           try clear hcz43_2
           try clear hcz43_3
           try clear hcz47_0
           try clear hcz47_1
           try clear hcz47_2
           try clear hcz47_3
           try clear hcz51_0
           try clear hcz51_1
           try clear hcz51_2
           try clear hcz51_3
           try clear hfz12_0
           try clear hfz12_1
           try clear hfz12_2
           try clear hfz13_0
           try clear hfz13_1
           try clear hfz13_10
           try clear hfz13_11
           try clear hfz13_12
           try clear hfz13_13
           try clear hfz13_14
           try clear hfz13_15
           try clear hfz13_16
           try clear hfz13_17
           try clear hfz13_18
           try clear hfz13_19
           try clear hfz13_2
           try clear hfz13_20
           try clear hfz13_21
           try clear hfz13_22
           try clear hfz13_23
           try clear hfz13_24
           try clear hfz13_25
           try clear hfz13_26
           try clear hfz13_27
           try clear hfz13_28
           try clear hfz13_29
           try clear hfz13_3
           try clear hfz13_30
           try clear hfz13_31
           try clear hfz13_32
           try clear hfz13_33
           try clear hfz13_34
           try clear hfz13_35
           try clear hfz13_36
           try clear hfz13_4
           try clear hfz13_5
           try clear hfz13_6
           try clear hfz13_7
           try clear hfz13_8
           try clear hfz13_9
           try clear hfz18_0
           try clear hfz18_1
           try clear hfz18_2
           try clear hfz18_3
           try clear hfz24_0
           try clear hfz24_1
           try clear hfz24_2
           try clear hfz24_3
           try clear hfz31_0
           try clear hfz31_1
           try clear hfz31_2
           try clear hfz31_3
           try clear hfz34_0
           try clear hfz34_1
           try clear hfz34_2
           try clear hfz34_3
           try clear hfz37_0
           try clear hfz37_1
           try clear hfz37_2
           try clear hfz37_3
           try clear hfz43_0
           try clear hfz43_1
           try clear hfz43_2
           try clear hfz43_3
           try clear hfz47_0
           try clear hfz47_1
           try clear hfz47_2
           try clear hfz47_3
           try clear hfz51_0
           try clear hfz51_1
           try clear hfz51_2
           try clear hfz51_3
           try clear hx117_0
           try clear hx117_1
           try clear hx117_2
           try clear hx117_3
           try clear p1
           try clear p11
           try clear p117
           try clear p2
           try clear p6
           try clear q1
           try clear q11
           try clear q116
           try clear q117
           obtain ⟨x12_4, x15_4, rfl, HA, HK4, HO_12, HO_116001, HO_116002, HO_116003, BK101, BK102, BK115, HB⟩ := hrel
           cases gk with
           | zero => exact absurd HA.out (by simp [shacklelaw08_VersOnce.l2])
           | succ k4 =>
            have H := HA.out
            clear HA
            simp only [shacklelaw08_VersOnce.l2] at H
            by_cases c52 : 0 ≤ x14_3
            ·rw [if_pos c52] at H
             have c52b0 : decide (0 ≤ x14_3) = true := decide_eq_true c52
             clear c52
             by_cases c53 : x14_3 < (t111.length : Int)
             ·rw [if_pos c53] at H
              have c53b0 : decide (x14_3 < (t111.length : Int)) = true := decide_eq_true c53
              clear c53
              by_cases c54 : x15_4 < (((rd_T66 t111 x14_3).f1).length : Int)
              ·rw [if_pos c54] at H
               have c54b0 : decide (x15_4 < (((rd_T66 t111 x14_3).f1).length : Int)) = true := decide_eq_true c54
               clear c54
               by_cases c55 : 0 ≤ x15_4
               ·rw [if_pos c55] at H
                have c55b0 : decide (0 ≤ x15_4) = true := decide_eq_true c55
                clear c55
                by_cases c56 : x12_4.length < 17592186044416
                ·rw [if_pos c56] at H
                 have LMc56 := Aside0.mk c56
                 clear c56
                 obtain ⟨y124, hy124⟩ : ∃ y_ : List Int, y_ = (x12_4 ++ [(rd_T68 ((rd_T66 t111 x14_3).f1) x15_4).f0]) := ⟨_, rfl⟩
                 replace H : (shacklelaw08_VersOnce.l2 k4 a3 t103 y124 x14_3 (wrap64 (x15_4 + 1)) t104 t105 t108 t111) = some r := by first | (rw [hy124]; with_reducible exact H) | (have H2_ := (Option.bind_some _ _).symm.trans H; rw [hy124]; with_reducible exact H2_) | (have H2_ := (Option.bind_some _ _).symm.trans H; with_reducible exact H2_) | with_reducible exact H | (rw [hy124]; exact H) | exact H
                 have Ny124 := Aside0.mk hy124
                 clear hy124
                 have H' := Aside0.mk H
                 clear H
                 have hnb57 := NB115_101.out
                 have hnc57 := NB101_115.out
                 have hnb58 := NB115_102.out
                 have hnc58 := NB102_115.out
                 have hcz59_0 : wr.cell? ⟨gb115, 0, none⟩ = some (.bool t104) := (blk_cell BK115.out 0).trans rfl
                 have hcz59_1 : wr.cell? ⟨gb115, 1, none⟩ = some (.slice Ao19 t105.length co19) := (blk_cell BK115.out 1).trans rfl
                 have hcz59_2 : wr.cell? ⟨gb115, 2, none⟩ = some (.slice Ao20 t108.length co20) := (blk_cell BK115.out 2).trans rfl
                 have hcz59_3 : wr.cell? ⟨gb115, 3, none⟩ = some (.slice Ao21 t111.length co21) := (blk_cell BK115.out 3).trans rfl
                 have hfz59_0 := blk_frozen BK115.out 0
                 have hfz59_1 := blk_frozen BK115.out 1
                 have hfz59_2 := blk_frozen BK115.out 2
                 have hfz59_3 := blk_frozen BK115.out 3
                 have p121 : 0 ≤ (x14_3 : Int) := of_decide_eq_true (by assumption)
                 have q121 : x14_3 < (t111.length : Int) := of_decide_eq_true (by assumption)
                 obtain ⟨ad121, A121_1, c121_1, e121, hx121_0, hx121_1, hl121_1, hi121_1⟩ := at_T66 (Kd.R_reads' HO_116003.out).2.2 x14_3 p121 q121
                 cases e121
                 obtain ⟨ce121, hce121, hMe121, hcc121⟩ := Kd.R_get HO_116003.out z66 x14_3 p121 (by first | exact q121 | exact of_decide_eq_true (by assumption) | (have e_ := (Kd.R_reads' HO_116003.out).1; omega))
                 obtain ⟨ve121_1, rfl, ge121_1⟩ := k66_openM hMe121
                 have hv121_1 := hcc121 1 _ rfl
                 rw [add_field _ _ 1 (by omega)] at hv121_1
                 replace hv121_1 := Option.some.inj (hv121_1.symm.trans hx121_1)
                 rw [hv121_1] at ge121_1
                 have HL121_1 := Aside0.mk (show Kd.R k68 68 _ _ _ _ ((rd_T66 t111 x14_3).f1) from ge121_1)
                 clear hv121_1 ge121_1
                 clear hcc121 hce121
                 have HR121_1 := Aside0.mk hi121_1
                 have HC121_1 := Aside0.mk hl121_1
                 clear hi121_1 hl121_1
                 replace p121 := eq_true p121
                 replace q121 := eq_true q121
                 have p122 : 0 ≤ (x14_3 : Int) := of_decide_eq_true (by assumption)
                 have q122 : x14_3 < (t111.length : Int) := of_decide_eq_true (by assumption)
                 obtain ⟨ad122, A122_1, c122_1, e122, hx122_0, hx122_1, hl122_1, hi122_1⟩ := at_T66 (Kd.R_reads' HO_116003.out).2.2 x14_3 p122 q122
                 obtain rfl : ad121 = ad122 := (by injection e122)
                 obtain ⟨ce122, hce122, hMe122, hcc122⟩ := Kd.R_get HO_116003.out z66 x14_3 p122 (by first | exact q122 | exact of_decide_eq_true (by assumption) | (have e_ := (Kd.R_reads' HO_116003.out).1; omega))
                 obtain ⟨ve122_1, rfl, ge122_1⟩ := k66_openM hMe122
                 have hv122_1 := hcc122 1 _ rfl
                 rw [add_field _ _ 1 (by omega)] at hv122_1
                 replace hv122_1 := Option.some.inj (hv122_1.symm.trans hx122_1)
                 rw [hv122_1] at ge122_1
                 have HL122_1 := Aside0.mk (show Kd.R k68 68 _ _ _ _ ((rd_T66 t111 x14_3).f1) from ge122_1)
                 clear hv122_1 ge122_1
                 clear hcc122 hce122
                 have HR122_1 := Aside0.mk hi122_1
                 have HC122_1 := Aside0.mk hl122_1
                 clear hi122_1 hl122_1
                 replace p122 := eq_true p122
                 replace q122 := eq_true q122
                 have ea_ := Option.some.inj (hx121_1.symm.trans hx122_1)
                 injection ea_ with ea_ en_ ec_
                 subst ea_
                 subst ec_
                 clear en_
                 have p123 : 0 ≤ (x15_4 : Int) := of_decide_eq_true (by assumption)
                 have q123 : x15_4 < (((rd_T66 t111 x14_3).f1).length : Int) := of_decide_eq_true (by assumption)
                 obtain ⟨ad123, e123, hx123_0, hx123_1, hx123_2⟩ := at_T68 (by repeat (first | (with_reducible exact HR122_1.out) | (with_reducible refine Kd.C_alloc ?_ _) | (with_reducible refine Kd.C_drewN ?_ _) | (with_reducible refine Kd.C_drew ?_) | exact HR122_1.out)) x15_4 p123 q123
                 cases e123
                 replace p123 := eq_true p123
                 replace q123 := eq_true q123
                 go_wp2_with (first | ((with_reducible refine gate_ (.load 35 (.tmp 6)) rfl ?_); refine wpList_load_row rfl 35 (.tmp 6) rfl gb102 rfl 35 _ (0, 0) _ (by (with_reducible repeat (first | refine blk_drewN ?_ _ | refine blk_drew ?_ | refine blk_alloc ?_ _)); exact BK102.out) Try.underlying35 rfl (by kernel_rfl) ?_) | ((with_reducible refine gate_builtin (b := .append) (xs := #[.tmp 91, .tmp 102]) rfl ?_); (try (refine gate_guard (by rfl) ?_; dsimp only)); at_builtin; refine Kd.R_append (Kd.int .i64) (w0 := w) w.heap.size rfl (.tmp 91) (.tmp 102) 37 3 (.int .i64 0) 8 rfl Try.underlying37 info3 rfl (by decide) (by omega) u12 x12_4 ((rd_T68 ((rd_T66 t111 x14_3).f1) x15_4).f0) [.int .i64 ((rd_T68 ((rd_T66 t111 x14_3).f1) x15_4).f0)] (fun k_ => some k_ ≠ (.slice Ao19 t105.length co19 : Value).ownBlock) (fun _ => False) rfl rfl ?aP (fun _ hk => hk.elim) ?aF ?aO ?aB ?aS ?aL ?_; (case aP => exact rfl); (case aB => exact (by repeat (first | (with_reducible first | exact HB.out | apply below_alloc | apply pw_below_drewN | apply below_drew1 | refine below_set ?_ GE101.out | refine below_set ?_ GE102.out | refine below_set ?_ GE115.out) | exact HB.out))); (case aF => exact (fun k_ hk => Kd.fresh' (Kd.R_lt (by (with_reducible repeat (first | apply Kd.R_alloc | apply Kd.R_drewN | apply Kd.R_drew)); exact HO_116001.out)) k_ hk)); (case aO => exact (by (with_reducible repeat (first | apply Kd.R_alloc | apply Kd.R_drewN | apply Kd.R_drew)); exact HO_12.out)); (case aS => exact (below_size (by repeat (first | (with_reducible first | exact HB.out | apply below_alloc | apply pw_below_drewN | apply below_drew1 | refine below_set ?_ GE101.out | refine below_set ?_ GE102.out | refine below_set ?_ GE115.out) | exact HB.out)))); (case aL => have := LMc56.out; omega); intro v125 w60 ho hb hg hat; rw [← Ny124.out] at ho; have n0_ := Aside0.mk (Kd.R_after (ok := (fun _ => True)) (by (with_reducible repeat (first | apply Kd.R_alloc | apply Kd.R_drewN | apply Kd.R_drew)); exact Kd.R_mono HO_116001.out (fun _ hk => ⟨trivial, hk⟩)) hg hat); have n1_ := Aside0.mk (Kd.R_over' (by (with_reducible repeat (first | apply Kd.R_alloc | apply Kd.R_drewN | apply Kd.R_drew)); exact HO_116002.out) (Kd.R_typed (by (with_reducible repeat (first | apply Kd.R_alloc | apply Kd.R_drewN | apply Kd.R_drew)); exact HO_12.out)) (by decide) hg); have n2_ := Aside0.mk (Kd.R_over' (by (with_reducible repeat (first | apply Kd.R_alloc | apply Kd.R_drewN | apply Kd.R_drew)); exact HO_116003.out) (Kd.R_typed (by (with_reducible repeat (first | apply Kd.R_alloc | apply Kd.R_drewN | apply Kd.R_drew)); exact HO_12.out)) (by decide) hg); have n3_ := Aside0.mk (blk_grown (g := gb101) (o := .cells #[.int .i64 a1_0, .int .u64 a1_1, .slice A1_2 l1_2.length c1_2] 32 (0, 0)) (by (with_reducible repeat (first | refine blk_drewN ?_ _ | refine blk_drew ?_ | refine blk_alloc ?_ _)); exact BK101.out) hg (Kd.R_ne HO_12.out BK101.out (by decide))); have n4_ := Aside0.mk (blk_grown (g := gb102) (o := .cells #[.slice A2_0 l2_0.length c2_0, .int .u64 a2_1, .int .u64 a2_2, .int .u64 a2_3, .int .u64 a2_4, .int .u64 a2_5, .int .u64 a2_6, .int .u64 a2_7, .int .u64 a2_8, .int .u64 a2_9, .int .u64 a2_10, .int .u64 a2_11, .int .u64 a2_12, .int .u64 a2_13, .bool a2_14, .bool a2_15, .bool a2_16, .int .u64 a2_17, .int .u64 a2_18, .int .u64 a2_19, .int .u64 a2_20, .int .u64 a2_21, .int .u64 a2_22, .int .u64 a2_23, .int .u64 a2_24, .int .u64 a2_25, .int .u64 a2_26, .int .u64 a2_27, .int .u64 a2_28, .int .u64 a2_29, .int .u64 a2_30, .int .u64 a2_31, .bool a2_32, .bool a2_33, .bool a2_34, .bool a2_35, .bool a2_36] 35 (0, 0)) (by (with_reducible repeat (first | refine blk_drewN ?_ _ | refine blk_drew ?_ | refine blk_alloc ?_ _)); exact BK102.out) hg (Kd.R_ne HO_12.out BK102.out (by decide))); have n5_ := Aside0.mk (blk_grown (g := gb115) (o := .cells #[.bool t104, .slice Ao19 t105.length co19, .slice Ao20 t108.length co20, .slice (some ad121) t111.length co21] 54 (0, 0)) (by (with_reducible repeat (first | refine blk_drewN ?_ _ | refine blk_drew ?_ | refine blk_alloc ?_ _)); exact BK115.out) hg (Kd.R_ne HO_12.out BK115.out (by decide))); have n6_ := Aside0.mk (Kd.R_over' (by (with_reducible repeat (first | apply Kd.R_alloc | apply Kd.R_drewN | apply Kd.R_drew)); exact HL121_1.out) (Kd.R_typed (by (with_reducible repeat (first | apply Kd.R_alloc | apply Kd.R_drewN | apply Kd.R_drew)); exact HO_12.out)) (by decide) hg); have n7_ := Aside0.mk (Kd.R_over' (by (with_reducible repeat (first | apply Kd.R_alloc | apply Kd.R_drewN | apply Kd.R_drew)); exact HL122_1.out) (Kd.R_typed (by (with_reducible repeat (first | apply Kd.R_alloc | apply Kd.R_drewN | apply Kd.R_drew)); exact HO_12.out)) (by decide) hg); have n8_ := Aside0.mk (hb); have n9_ := Aside0.mk (ho); clear HO_116001; clear HO_116002; clear HO_116003; clear BK101; clear BK102; clear BK115; clear HL121_1; clear HL122_1; clear HB; clear HO_12; have HO_116001 := n0_; have HO_116002 := n1_; have HO_116003 := n2_; have BK101 := n3_; have BK102 := n4_; have BK115 := n5_; have HL121_1 := n6_; have HL122_1 := n7_; have HB := n8_; have HO126 := n9_; clear n0_ n1_ n2_ n3_ n4_ n5_ n6_ n7_ n8_ n9_; clear ho hb hg hat))
                 repeat (go_quiet (first | ((with_reducible refine gate_builtin (b := .append) (xs := #[.tmp 91, .tmp 102]) rfl ?_); (try (refine gate_guard (by rfl) ?_; dsimp only)); at_builtin; refine Kd.R_append (Kd.int .i64) (w0 := w) w.heap.size rfl (.tmp 91) (.tmp 102) 37 3 (.int .i64 0) 8 rfl Try.underlying37 info3 rfl (by decide) (by omega) u12 x12_4 ((rd_T68 ((rd_T66 t111 x14_3).f1) x15_4).f0) [.int .i64 ((rd_T68 ((rd_T66 t111 x14_3).f1) x15_4).f0)] (fun k_ => some k_ ≠ (.slice Ao19 t105.length co19 : Value).ownBlock) (fun _ => False) rfl rfl ?aP (fun _ hk => hk.elim) ?aF ?aO ?aB ?aS ?aL ?_; (case aP => exact rfl); (case aB => exact (by repeat (first | (with_reducible first | exact HB.out | apply below_alloc | apply pw_below_drewN | apply below_drew1 | refine below_set ?_ GE101.out | refine below_set ?_ GE102.out | refine below_set ?_ GE115.out) | exact HB.out))); (case aF => exact (fun k_ hk => Kd.fresh' (Kd.R_lt (by (with_reducible repeat (first | apply Kd.R_alloc | apply Kd.R_drewN | apply Kd.R_drew)); exact HO_116001.out)) k_ hk)); (case aO => exact (by (with_reducible repeat (first | apply Kd.R_alloc | apply Kd.R_drewN | apply Kd.R_drew)); exact HO_12.out)); (case aS => exact (below_size (by repeat (first | (with_reducible first | exact HB.out | apply below_alloc | apply pw_below_drewN | apply below_drew1 | refine below_set ?_ GE101.out | refine below_set ?_ GE102.out | refine below_set ?_ GE115.out) | exact HB.out)))); (case aL => have := LMc56.out; omega); intro v125 w60 ho hb hg hat; rw [← Ny124.out] at ho; have n0_ := Aside0.mk (Kd.R_after (ok := (fun _ => True)) (by (with_reducible repeat (first | apply Kd.R_alloc | apply Kd.R_drewN | apply Kd.R_drew)); exact Kd.R_mono HO_116001.out (fun _ hk => ⟨trivial, hk⟩)) hg hat); have n1_ := Aside0.mk (Kd.R_over' (by (with_reducible repeat (first | apply Kd.R_alloc | apply Kd.R_drewN | apply Kd.R_drew)); exact HO_116002.out) (Kd.R_typed (by (with_reducible repeat (first | apply Kd.R_alloc | apply Kd.R_drewN | apply Kd.R_drew)); exact HO_12.out)) (by decide) hg); have n2_ := Aside0.mk (Kd.R_over' (by (with_reducible repeat (first | apply Kd.R_alloc | apply Kd.R_drewN | apply Kd.R_drew)); exact HO_116003.out) (Kd.R_typed (by (with_reducible repeat (first | apply Kd.R_alloc | apply Kd.R_drewN | apply Kd.R_drew)); exact HO_12.out)) (by decide) hg); have n3_ := Aside0.mk (blk_grown (g := gb101) (o := .cells #[.int .i64 a1_0, .int .u64 a1_1, .slice A1_2 l1_2.length c1_2] 32 (0, 0)) (by (with_reducible repeat (first | refine blk_drewN ?_ _ | refine blk_drew ?_ | refine blk_alloc ?_ _)); exact BK101.out) hg (Kd.R_ne HO_12.out BK101.out (by decide))); have n4_ := Aside0.mk (blk_grown (g := gb102) (o := .cells #[.slice A2_0 l2_0.length c2_0, .int .u64 a2_1, .int .u64 a2_2, .int .u64 a2_3, .int .u64 a2_4, .int .u64 a2_5, .int .u64 a2_6, .int .u64 a2_7, .int .u64 a2_8, .int .u64 a2_9, .int .u64 a2_10, .int .u64 a2_11, .int .u64 a2_12, .int .u64 a2_13, .bool a2_14, .bool a2_15, .bool a2_16, .int .u64 a2_17, .int .u64 a2_18, .int .u64 a2_19, .int .u64 a2_20, .int .u64 a2_21, .int .u64 a2_22, .int .u64 a2_23, .int .u64 a2_24, .int .u64 a2_25, .int .u64 a2_26, .int .u64 a2_27, .int .u64 a2_28, .int .u64 a2_29, .int .u64 a2_30, .int .u64 a2_31, .bool a2_32, .bool a2_33, .bool a2_34, .bool a2_35, .bool a2_36] 35 (0, 0)) (by (with_reducible repeat (first | refine blk_drewN ?_ _ | refine blk_drew ?_ | refine blk_alloc ?_ _)); exact BK102.out) hg (Kd.R_ne HO_12.out BK102.out (by decide))); have n5_ := Aside0.mk (blk_grown (g := gb115) (o := .cells #[.bool t104, .slice Ao19 t105.length co19, .slice Ao20 t108.length co20, .slice (some ad121) t111.length co21] 54 (0, 0)) (by (with_reducible repeat (first | refine blk_drewN ?_ _ | refine blk_drew ?_ | refine blk_alloc ?_ _)); exact BK115.out) hg (Kd.R_ne HO_12.out BK115.out (by decide))); have n6_ := Aside0.mk (Kd.R_over' (by (with_reducible repeat (first | apply Kd.R_alloc | apply Kd.R_drewN | apply Kd.R_drew)); exact HL121_1.out) (Kd.R_typed (by (with_reducible repeat (first | apply Kd.R_alloc | apply Kd.R_drewN | apply Kd.R_drew)); exact HO_12.out)) (by decide) hg); have n7_ := Aside0.mk (Kd.R_over' (by (with_reducible repeat (first | apply Kd.R_alloc | apply Kd.R_drewN | apply Kd.R_drew)); exact HL122_1.out) (Kd.R_typed (by (with_reducible repeat (first | apply Kd.R_alloc | apply Kd.R_drewN | apply Kd.R_drew)); exact HO_12.out)) (by decide) hg); have n8_ := Aside0.mk (hb); have n9_ := Aside0.mk (ho); clear HO_116001; clear HO_116002; clear HO_116003; clear BK101; clear BK102; clear BK115; clear HL121_1; clear HL122_1; clear HB; clear HO_12; have HO_116001 := n0_; have HO_116002 := n1_; have HO_116003 := n2_; have BK101 := n3_; have BK102 := n4_; have BK115 := n5_; have HL121_1 := n6_; have HL122_1 := n7_; have HB := n8_; have HO126 := n9_; clear n0_ n1_ n2_ n3_ n4_ n5_ n6_ n7_ n8_ n9_; clear ho hb hg hat)); try go_wp2_with (first | ((with_reducible refine gate_ (.load 35 (.tmp 6)) rfl ?_); refine wpList_load_row rfl 35 (.tmp 6) rfl gb102 rfl 35 _ (0, 0) _ (by (with_reducible repeat (first | refine blk_drewN ?_ _ | refine blk_drew ?_ | refine blk_alloc ?_ _)); exact BK102.out) Try.underlying35 rfl (by kernel_rfl) ?_) | ((with_reducible refine gate_builtin (b := .append) (xs := #[.tmp 91, .tmp 102]) rfl ?_); (try (refine gate_guard (by rfl) ?_; dsimp only)); at_builtin; refine Kd.R_append (Kd.int .i64) (w0 := w) w.heap.size rfl (.tmp 91) (.tmp 102) 37 3 (.int .i64 0) 8 rfl Try.underlying37 info3 rfl (by decide) (by omega) u12 x12_4 ((rd_T68 ((rd_T66 t111 x14_3).f1) x15_4).f0) [.int .i64 ((rd_T68 ((rd_T66 t111 x14_3).f1) x15_4).f0)] (fun k_ => some k_ ≠ (.slice Ao19 t105.length co19 : Value).ownBlock) (fun _ => False) rfl rfl ?aP (fun _ hk => hk.elim) ?aF ?aO ?aB ?aS ?aL ?_; (case aP => exact rfl); (case aB => exact (by repeat (first | (with_reducible first | exact HB.out | apply below_alloc | apply pw_below_drewN | apply below_drew1 | refine below_set ?_ GE101.out | refine below_set ?_ GE102.out | refine below_set ?_ GE115.out) | exact HB.out))); (case aF => exact (fun k_ hk => Kd.fresh' (Kd.R_lt (by (with_reducible repeat (first | apply Kd.R_alloc | apply Kd.R_drewN | apply Kd.R_drew)); exact HO_116001.out)) k_ hk)); (case aO => exact (by (with_reducible repeat (first | apply Kd.R_alloc | apply Kd.R_drewN | apply Kd.R_drew)); exact HO_12.out)); (case aS => exact (below_size (by repeat (first | (with_reducible first | exact HB.out | apply below_alloc | apply pw_below_drewN | apply below_drew1 | refine below_set ?_ GE101.out | refine below_set ?_ GE102.out | refine below_set ?_ GE115.out) | exact HB.out)))); (case aL => have := LMc56.out; omega); intro v125 w60 ho hb hg hat; rw [← Ny124.out] at ho; have n0_ := Aside0.mk (Kd.R_after (ok := (fun _ => True)) (by (with_reducible repeat (first | apply Kd.R_alloc | apply Kd.R_drewN | apply Kd.R_drew)); exact Kd.R_mono HO_116001.out (fun _ hk => ⟨trivial, hk⟩)) hg hat); have n1_ := Aside0.mk (Kd.R_over' (by (with_reducible repeat (first | apply Kd.R_alloc | apply Kd.R_drewN | apply Kd.R_drew)); exact HO_116002.out) (Kd.R_typed (by (with_reducible repeat (first | apply Kd.R_alloc | apply Kd.R_drewN | apply Kd.R_drew)); exact HO_12.out)) (by decide) hg); have n2_ := Aside0.mk (Kd.R_over' (by (with_reducible repeat (first | apply Kd.R_alloc | apply Kd.R_drewN | apply Kd.R_drew)); exact HO_116003.out) (Kd.R_typed (by (with_reducible repeat (first | apply Kd.R_alloc | apply Kd.R_drewN | apply Kd.R_drew)); exact HO_12.out)) (by decide) hg); have n3_ := Aside0.mk (blk_grown (g := gb101) (o := .cells #[.int .i64 a1_0, .int .u64 a1_1, .slice A1_2 l1_2.length c1_2] 32 (0, 0)) (by (with_reducible repeat (first | refine blk_drewN ?_ _ | refine blk_drew ?_ | refine blk_alloc ?_ _)); exact BK101.out) hg (Kd.R_ne HO_12.out BK101.out (by decide))); have n4_ := Aside0.mk (blk_grown (g := gb102) (o := .cells #[.slice A2_0 l2_0.length c2_0, .int .u64 a2_1, .int .u64 a2_2, .int .u64 a2_3, .int .u64 a2_4, .int .u64 a2_5, .int .u64 a2_6, .int .u64 a2_7, .int .u64 a2_8, .int .u64 a2_9, .int .u64 a2_10, .int .u64 a2_11, .int .u64 a2_12, .int .u64 a2_13, .bool a2_14, .bool a2_15, .bool a2_16, .int .u64 a2_17, .int .u64 a2_18, .int .u64 a2_19, .int .u64 a2_20, .int .u64 a2_21, .int .u64 a2_22, .int .u64 a2_23, .int .u64 a2_24, .int .u64 a2_25, .int .u64 a2_26, .int .u64 a2_27, .int .u64 a2_28, .int .u64 a2_29, .int .u64 a2_30, .int .u64 a2_31, .bool a2_32, .bool a2_33, .bool a2_34, .bool a2_35, .bool a2_36] 35 (0, 0)) (by (with_reducible repeat (first | refine blk_drewN ?_ _ | refine blk_drew ?_ | refine blk_alloc ?_ _)); exact BK102.out) hg (Kd.R_ne HO_12.out BK102.out (by decide))); have n5_ := Aside0.mk (blk_grown (g := gb115) (o := .cells #[.bool t104, .slice Ao19 t105.length co19, .slice Ao20 t108.length co20, .slice (some ad121) t111.length co21] 54 (0, 0)) (by (with_reducible repeat (first | refine blk_drewN ?_ _ | refine blk_drew ?_ | refine blk_alloc ?_ _)); exact BK115.out) hg (Kd.R_ne HO_12.out BK115.out (by decide))); have n6_ := Aside0.mk (Kd.R_over' (by (with_reducible repeat (first | apply Kd.R_alloc | apply Kd.R_drewN | apply Kd.R_drew)); exact HL121_1.out) (Kd.R_typed (by (with_reducible repeat (first | apply Kd.R_alloc | apply Kd.R_drewN | apply Kd.R_drew)); exact HO_12.out)) (by decide) hg); have n7_ := Aside0.mk (Kd.R_over' (by (with_reducible repeat (first | apply Kd.R_alloc | apply Kd.R_drewN | apply Kd.R_drew)); exact HL122_1.out) (Kd.R_typed (by (with_reducible repeat (first | apply Kd.R_alloc | apply Kd.R_drewN | apply Kd.R_drew)); exact HO_12.out)) (by decide) hg); have n8_ := Aside0.mk (hb); have n9_ := Aside0.mk (ho); clear HO_116001; clear HO_116002; clear HO_116003; clear BK101; clear BK102; clear BK115; clear HL121_1; clear HL122_1; clear HB; clear HO_12; have HO_116001 := n0_; have HO_116002 := n1_; have HO_116003 := n2_; have BK101 := n3_; have BK102 := n4_; have BK115 := n5_; have HL121_1 := n6_; have HL122_1 := n7_; have HB := n8_; have HO126 := n9_; clear n0_ n1_ n2_ n3_ n4_ n5_ n6_ n7_ n8_ n9_; clear ho hb hg hat)))
                 go_roundg k4
                 case measure => have := HJ6.out; have := HK2.out; have := HK3.out; have := HK4.out; omega
                 case rel => exact ⟨(y124), (wrap64 (x15_4 + 1)), (by first | rfl | (simp; done) | (simp [*]; done)), H', ⟨by have := HJ6.out; have := HK2.out; have := HK3.out; have := HK4.out; omega⟩, ⟨by (with_reducible repeat (first | apply Kd.R_alloc | apply Kd.R_drewN | apply Kd.R_drew)); exact HO126.out⟩, ⟨by (with_reducible repeat (first | apply Kd.R_alloc | apply Kd.R_drewN | apply Kd.R_drew)); exact Kd.R_mono HO_116001.out (fun _ hk => hk.2)⟩, ⟨by (with_reducible repeat (first | apply Kd.R_alloc | apply Kd.R_drewN | apply Kd.R_drew)); exact HO_116002.out⟩, ⟨by (with_reducible repeat (first | apply Kd.R_alloc | apply Kd.R_drewN | apply Kd.R_drew)); exact HO_116003.out⟩, ⟨by (with_reducible repeat (first | refine blk_drewN ?_ _ | refine blk_drew ?_ | refine blk_alloc ?_ _)); exact BK101.out⟩, ⟨by (with_reducible repeat (first | refine blk_drewN ?_ _ | refine blk_drew ?_ | refine blk_alloc ?_ _)); exact BK102.out⟩, ⟨by (with_reducible repeat (first | refine blk_drewN ?_ _ | refine blk_drew ?_ | refine blk_alloc ?_ _)); exact BK115.out⟩, ⟨by repeat (first | (with_reducible first | exact HB.out | apply below_alloc | apply pw_below_drewN | apply below_drew1 | refine below_set ?_ GE101.out | refine below_set ?_ GE102.out | refine below_set ?_ GE115.out) | exact HB.out)⟩⟩
                ·rw [if_neg c56] at H
                 exact absurd H (by simp)
               ·rw [if_neg c55] at H
                exact absurd H (by simp)
              ·rw [if_neg c54] at H
               have c54b0 : decide (x15_4 < (((rd_T66 t111 x14_3).f1).length : Int)) = false := decide_eq_false c54
               clear c54
               have H' := Aside0.mk H
               clear H
               have hnb61 := NB115_101.out
               have hnc61 := NB101_115.out
               have hnb62 := NB115_102.out
               have hnc62 := NB102_115.out
               have hcz63_0 : wr.cell? ⟨gb115, 0, none⟩ = some (.bool t104) := (blk_cell BK115.out 0).trans rfl
               have hcz63_1 : wr.cell? ⟨gb115, 1, none⟩ = some (.slice Ao19 t105.length co19) := (blk_cell BK115.out 1).trans rfl
               have hcz63_2 : wr.cell? ⟨gb115, 2, none⟩ = some (.slice Ao20 t108.length co20) := (blk_cell BK115.out 2).trans rfl
               have hcz63_3 : wr.cell? ⟨gb115, 3, none⟩ = some (.slice Ao21 t111.length co21) := (blk_cell BK115.out 3).trans rfl
               have hfz63_0 := blk_frozen BK115.out 0
               have hfz63_1 := blk_frozen BK115.out 1
               have hfz63_2 := blk_frozen BK115.out 2
               have hfz63_3 := blk_frozen BK115.out 3
               have p121 : 0 ≤ (x14_3 : Int) := of_decide_eq_true (by assumption)
               have q121 : x14_3 < (t111.length : Int) := of_decide_eq_true (by assumption)
               obtain ⟨ad121, A121_1, c121_1, e121, hx121_0, hx121_1, hl121_1, hi121_1⟩ := at_T66 (Kd.R_reads' HO_116003.out).2.2 x14_3 p121 q121
               cases e121
               obtain ⟨ce121, hce121, hMe121, hcc121⟩ := Kd.R_get HO_116003.out z66 x14_3 p121 (by first | exact q121 | exact of_decide_eq_true (by assumption) | (have e_ := (Kd.R_reads' HO_116003.out).1; omega))
               obtain ⟨ve121_1, rfl, ge121_1⟩ := k66_openM hMe121
               have hv121_1 := hcc121 1 _ rfl
               rw [add_field _ _ 1 (by omega)] at hv121_1
               replace hv121_1 := Option.some.inj (hv121_1.symm.trans hx121_1)
               rw [hv121_1] at ge121_1
               have HL121_1 := Aside0.mk (show Kd.R k68 68 _ _ _ _ ((rd_T66 t111 x14_3).f1) from ge121_1)
               clear hv121_1 ge121_1
               clear hcc121 hce121
               have HR121_1 := Aside0.mk hi121_1
               have HC121_1 := Aside0.mk hl121_1
               clear hi121_1 hl121_1
               replace p121 := eq_true p121
               replace q121 := eq_true q121
               go_wp2
               repeat (go_quiet (fail); try go_wp2)
               go_roundg k4
               case measure => have := HJ6.out; have := HK2.out; have := HK3.out; have := HK4.out; omega
               case rel => exact ⟨(x12_4), (wrap64 (x14_3 + 1)), (by first | rfl | (simp; done) | (simp [*]; done)), H', ⟨by have := HJ6.out; have := HK2.out; have := HK3.out; have := HK4.out; omega⟩, ⟨by (with_reducible repeat (first | apply Kd.R_alloc | apply Kd.R_drewN | apply Kd.R_drew)); exact HO_12.out⟩, ⟨by (with_reducible repeat (first | apply Kd.R_alloc | apply Kd.R_drewN | apply Kd.R_drew)); exact HO_116001.out⟩, ⟨by (with_reducible repeat (first | apply Kd.R_alloc | apply Kd.R_drewN | apply Kd.R_drew)); exact HO_116002.out⟩, ⟨by (with_reducible repeat (first | apply Kd.R_alloc | apply Kd.R_drewN | apply Kd.R_drew)); exact HO_116003.out⟩, ⟨by (with_reducible repeat (first | refine blk_drewN ?_ _ | refine blk_drew ?_ | refine blk_alloc ?_ _)); exact BK101.out⟩, ⟨by (with_reducible repeat (first | refine blk_drewN ?_ _ | refine blk_drew ?_ | refine blk_alloc ?_ _)); exact BK102.out⟩, ⟨by (with_reducible repeat (first | refine blk_drewN ?_ _ | refine blk_drew ?_ | refine blk_alloc ?_ _)); exact BK115.out⟩, ⟨by repeat (first | (with_reducible first | exact HB.out | apply below_alloc | apply pw_below_drewN | apply below_drew1 | refine below_set ?_ GE101.out | refine below_set ?_ GE102.out | refine below_set ?_ GE115.out) | exact HB.out)⟩⟩
             ·rw [if_neg c53] at H
              exact absurd H (by simp)
            ·rw [if_neg c52] at H
             exact absurd H (by simp)
         ·rw [if_neg c48] at H
          have c48b0 : decide (x14_3 < (t111.length : Int)) = false := decide_eq_false c48
          clear c48
          have H' := Aside0.mk H
          clear H
          have hnb64 := NB115_101.out
          have hnc64 := NB101_115.out
          have hnb65 := NB115_102.out
          have hnc65 := NB102_115.out
          have hcz66_0 : wr.cell? ⟨gb115, 0, none⟩ = some (.bool t104) := (blk_cell BK115.out 0).trans rfl
          have hcz66_1 : wr.cell? ⟨gb115, 1, none⟩ = some (.slice Ao19 t105.length co19) := (blk_cell BK115.out 1).trans rfl
          have hcz66_2 : wr.cell? ⟨gb115, 2, none⟩ = some (.slice Ao20 t108.length co20) := (blk_cell BK115.out 2).trans rfl
          have hcz66_3 : wr.cell? ⟨gb115, 3, none⟩ = some (.slice Ao21 t111.length co21) := (blk_cell BK115.out 3).trans rfl
          have hfz66_0 := blk_frozen BK115.out 0
          have hfz66_1 := blk_frozen BK115.out 1
          have hfz66_2 := blk_frozen BK115.out 2
          have hfz66_3 := blk_frozen BK115.out 3
          go_wp2
          repeat (go_quiet (fail); try go_wp2)
          go_loopg [16] k3 (fun kq v16 w' => ∃ (x16_4 : Int), v16 = .int .i64 x16_4 ∧ Aside0 (shacklelaw08_VersOnce.l3 kq a3 t103 x12_3 x16_4 t104 t105 t108 t111 = some r) ∧ Aside0 (kq ≤ k3) ∧ Aside0 (Kd.R (Kd.int .i64) 3 w' w.heap.size (fun k_ => some k_ ≠ ((.slice Ao19 t105.length co19) : Value).ownBlock) u12 x12_3) ∧ Aside0 (Kd.R (Kd.int .i64) 3 w' w.heap.size (fun k_ => some k_ ≠ (u12 : Value).ownBlock) (.slice Ao19 t105.length co19) t105) ∧ Aside0 (Kd.R k63 63 w' w.heap.size (fun _ => True) (.slice Ao20 t108.length co20) t108) ∧ Aside0 (Kd.R k66 66 w' w.heap.size (fun _ => True) (.slice Ao21 t111.length co21) t111) ∧ Aside0 (w'.heap[gb101]? = some (.cells #[.int .i64 a1_0, .int .u64 a1_1, (.slice A1_2 l1_2.length c1_2)] 32 (0, 0))) ∧ Aside0 (w'.heap[gb102]? = some (.cells #[(.slice A2_0 l2_0.length c2_0), .int .u64 a2_1, .int .u64 a2_2, .int .u64 a2_3, .int .u64 a2_4, .int .u64 a2_5, .int .u64 a2_6, .int .u64 a2_7, .int .u64 a2_8, .int .u64 a2_9, .int .u64 a2_10, .int .u64 a2_11, .int .u64 a2_12, .int .u64 a2_13, .bool a2_14, .bool a2_15, .bool a2_16, .int .u64 a2_17, .int .u64 a2_18, .int .u64 a2_19, .int .u64 a2_20, .int .u64 a2_21, .int .u64 a2_22, .int .u64 a2_23, .int .u64 a2_24, .int .u64 a2_25, .int .u64 a2_26, .int .u64 a2_27, .int .u64 a2_28, .int .u64 a2_29, .int .u64 a2_30, .int .u64 a2_31, .bool a2_32, .bool a2_33, .bool a2_34, .bool a2_35, .bool a2_36] 35 (0, 0))) ∧ Aside0 (w'.heap[gb115]? = some (.cells #[.bool t104, (.slice Ao19 t105.length co19), (.slice Ao20 t108.length co20), (.slice Ao21 t111.length co21)] 54 (0, 0))) ∧ Aside0 (Below w.heap.size w w'))
          case atStart => exact ⟨(0), (by first | rfl | (simp; done) | (simp [*]; done)), H', ⟨Nat.le_refl _⟩, ⟨by (with_reducible repeat (first | apply Kd.R_alloc | apply Kd.R_drewN | apply Kd.R_drew)); exact HO_12.out⟩, ⟨by (with_reducible repeat (first | apply Kd.R_alloc | apply Kd.R_drewN | apply Kd.R_drew)); exact HO_116001.out⟩, ⟨by (with_reducible repeat (first | apply Kd.R_alloc | apply Kd.R_drewN | apply Kd.R_drew)); exact HO_116002.out⟩, ⟨by (with_reducible repeat (first | apply Kd.R_alloc | apply Kd.R_drewN | apply Kd.R_drew)); exact HO_116003.out⟩, ⟨by (with_reducible repeat (first | refine blk_drewN ?_ _ | refine blk_drew ?_ | refine blk_alloc ?_ _)); exact BK101.out⟩, ⟨by (with_reducible repeat (first | refine blk_drewN ?_ _ | refine blk_drew ?_ | refine blk_alloc ?_ _)); exact BK102.out⟩, ⟨by (with_reducible repeat (first | refine blk_drewN ?_ _ | refine blk_drew ?_ | refine blk_alloc ?_ _)); exact BK115.out⟩, ⟨by repeat (first | (with_reducible first | exact HB.out | apply below_alloc | apply pw_below_drewN | apply below_drew1 | refine below_set ?_ GE101.out | refine below_set ?_ GE102.out | refine below_set ?_ GE115.out) | exact HB.out)⟩⟩
          case round =>
           clear H'
           try clear c1
           try clear p1
           try clear q1
           try clear hx1
           try clear c2
           try clear p2
           try clear c3
           try clear c4
           try clear c5
           try clear c6
           try clear p6
           try clear c11
           try clear p11
           try clear q11
           try clear hx11
           try clear c12
           try clear p12
           try clear q12
           try clear hx12
           try clear c16
           try clear c17
           try clear c22
           try clear c23
           try clear c25
           try clear c26
           try clear c27
           try clear c27b0
           try clear c27b1
           try clear c27b2
           try clear c28
           try clear c28b0
           try clear c28b1
           try clear c28b2
           try clear c29
           try clear c30
           try clear c32
           try clear c33
           try clear c35
           try clear c36
           try clear c38
           try clear c38b0
           try clear c39
           try clear c39b0
           try clear c40
           try clear c41
           try clear c42
           try clear c45
           try clear c46
           try clear c48
           try clear c48b0
           try clear c49
           try clear c50
           try clear c52
           try clear c52b0
           try clear c53
           try clear c53b0
           try clear c54
           try clear c54b0
           try clear c55
           try clear c55b0
           try clear c56
           try clear c57
           try clear c58
           try clear c61
           try clear c62
           try clear c64
           try clear p64
           try clear c65
           try clear hcz12_0
           try clear hcz12_1
           try clear hcz12_2
           try clear hcz13_0
           try clear hcz13_1
           try clear hcz13_10
           try clear hcz13_11
           try clear hcz13_12
           try clear hcz13_13
           try clear hcz13_14
           try clear hcz13_15
           try clear hcz13_16
           try clear hcz13_17
           try clear hcz13_18
           try clear hcz13_19
           try clear hcz13_2
           try clear hcz13_20
           try clear hcz13_21
           try clear hcz13_22
           try clear hcz13_23
           try clear hcz13_24
           try clear hcz13_25
           try clear hcz13_26
           try clear hcz13_27
           try clear hcz13_28
           try clear hcz13_29
           try clear hcz13_3
           try clear hcz13_30
           try clear hcz13_31
           try clear hcz13_32
           try clear hcz13_33
           try clear hcz13_34
           try clear hcz13_35
           try clear hcz13_36
           try clear hcz13_4
           try clear hcz13_5
           try clear hcz13_6
           try clear hcz13_7
           try clear hcz13_8
           try clear hcz13_9
           try clear hcz18_0
           try clear hcz18_1
           try clear hcz18_2
           try clear hcz18_3
           try clear hcz24_0
           try clear hcz24_1
           try clear hcz24_2
           try clear hcz24_3
           try clear hcz31_0
           try clear hcz31_1
           try clear hcz31_2
           try clear hcz31_3
           try clear hcz34_0
           try clear hcz34_1
           try clear hcz34_2
           try clear hcz34_3
           try clear hcz37_0
           try clear hcz37_1
           try clear hcz37_2
           try clear hcz37_3
           try clear hcz43_0
           try clear hcz43_1
           try clear hcz43_2
           try clear hcz43_3
           try clear hcz47_0
           try clear hcz47_1
           try clear hcz47_2
           try clear hcz47_3
           try clear hcz51_0
           try clear hcz51_1
           try clear hcz51_2
           try clear hcz51_3
           try clear hcz59_0
           try clear hcz59_1
           try clear hcz59_2
           try clear hcz59_3
           try clear hcz63_0
           try clear hcz63_1
           try clear hcz63_2
           try clear hcz63_3
           try clear hcz66_0
           try clear hcz66_1
           try clear hcz66_2
           try clear hcz66_3
           try clear hfz12_0
           try clear hfz12_1
           try clear hfz12_2
           try clear hfz13_0
           try clear hfz13_1
           try clear hfz13_10
           try clear hfz13_11
           try clear hfz13_12
           try clear hfz13_13
           try clear hfz13_14
           try clear hfz13_15
           try clear hfz13_16
           try clear hfz13_17
           try clear hfz13_18
           try clear hfz13_19
           try clear hfz13_2
           try clear hfz13_20
           try clear hfz13_21
           try clear hfz13_22
           try clear hfz13_23
           try clear hfz13_24
           try clear hfz13_25
           try clear hfz13_26
           try clear hfz13_27
           try clear hfz13_28
           try clear hfz13_29
           try clear hfz13_3
           try clear hfz13_30
           try clear hfz13_31
           try clear hfz13_32
           try clear hfz13_33
           try clear hfz13_34
           try clear hfz13_35
           try clear hfz13_36
           try clear hfz13_4
           try clear hfz13_5
           try clear hfz13_6
           try clear hfz13_7
           try clear hfz13_8
           try clear hfz13_9
           try clear hfz18_0
           try clear hfz18_1
           try clear hfz18_2
           try clear hfz18_3
           try clear hfz24_0
           try clear hfz24_1
           try clear hfz24_2
           try clear hfz24_3
           try clear hfz31_0
           try clear hfz31_1
           try clear hfz31_2
           try clear hfz31_3
           try clear hfz34_0
           try clear hfz34_1
           try clear hfz34_2
           try clear hfz34_3
           try clear hfz37_0
           try clear hfz37_1
           try clear hfz37_2
           try clear hfz37_3
           try clear hfz43_0
           try clear hfz43_1
           try clear hfz43_2
           try clear hfz43_3
           try clear hfz47_0
           try clear hfz47_1
           try clear hfz47_2
           try clear hfz47_3
           try clear hfz51_0
           try clear hfz51_1
           try clear hfz51_2
           try clear hfz51_3
           try clear hfz59_0
           try clear hfz59_1
           try clear hfz59_2
           try clear hfz59_3
           try clear hfz63_0
           try clear hfz63_1
           try clear hfz63_2
           try clear hfz63_3
           try clear hfz66_0
           try clear hfz66_1
           try clear hfz66_2
           try clear hfz66_3
           try clear hx117_0
           try clear hx117_1
           try clear hx117_2
           try clear hx117_3
           try clear hx121_0
           try clear hx121_1
           try clear hx122_0
           try clear hx122_1
           try clear hx123_0
           try clear hx123_1
           try clear hx123_2
           try clear p1
           try clear p11
           try clear p117
           try clear p121
           try clear p122
           try clear p123
           try clear p2
           try clear p6
           try clear q1
           try clear q11
           try clear q116
           try clear q117
           try clear q121
           try clear q122
           try clear q123
           obtain ⟨x16_4, rfl, HA, HK4, HO_12, HO_116001, HO_116002, HO_116003, BK101, BK102, BK115, HB⟩ := hrel
           cases gk with
           | zero => exact absurd HA.out (by simp [shacklelaw08_VersOnce.l3])
           | succ k4 =>
            have H := HA.out
            clear HA
            simp only [shacklelaw08_VersOnce.l3] at H
            by_cases c67 : x16_4 < (x12_3.length : Int)
            ·rw [if_pos c67] at H
             have c67b0 : decide (x16_4 < (x12_3.length : Int)) = true := decide_eq_true c67
             clear c67
             have H' := Aside0.mk H
             clear H
             obtain ⟨Ao68, co68, eo68⟩ := Kd.R_slice HO_12.out
             subst eo68
             go_wp2
             repeat (go_quiet (fail); try go_wp2)
             go_loopg [17] k4 (fun kq v17 w' => ∃ (x17_5 : Int), v17 = .int .i64 x17_5 ∧ Aside0 (shacklelaw08_VersOnce.l4 kq a3 t103 x12_3 x16_4 x17_5 t104 t105 t108 t111 = some r) ∧ Aside0 (kq ≤ k4) ∧ Aside0 (Kd.R (Kd.int .i64) 3 w' w.heap.size (fun k_ => some k_ ≠ ((.slice Ao19 t105.length co19) : Value).ownBlock) (.slice Ao68 x12_3.length co68) x12_3) ∧ Aside0 (Kd.R (Kd.int .i64) 3 w' w.heap.size (fun k_ => some k_ ≠ ((.slice Ao68 x12_3.length co68) : Value).ownBlock) (.slice Ao19 t105.length co19) t105) ∧ Aside0 (Kd.R k63 63 w' w.heap.size (fun _ => True) (.slice Ao20 t108.length co20) t108) ∧ Aside0 (Kd.R k66 66 w' w.heap.size (fun _ => True) (.slice Ao21 t111.length co21) t111) ∧ Aside0 (w'.heap[gb101]? = some (.cells #[.int .i64 a1_0, .int .u64 a1_1, (.slice A1_2 l1_2.length c1_2)] 32 (0, 0))) ∧ Aside0 (w'.heap[gb102]? = some (.cells #[(.slice A2_0 l2_0.length c2_0), .int .u64 a2_1, .int .u64 a2_2, .int .u64 a2_3, .int .u64 a2_4, .int .u64 a2_5, .int .u64 a2_6, .int .u64 a2_7, .int .u64 a2_8, .int .u64 a2_9, .int .u64 a2_10, .int .u64 a2_11, .int .u64 a2_12, .int .u64 a2_13, .bool a2_14, .bool a2_15, .bool a2_16, .int .u64 a2_17, .int .u64 a2_18, .int .u64 a2_19, .int .u64 a2_20, .int .u64 a2_21, .int .u64 a2_22, .int .u64 a2_23, .int .u64 a2_24, .int .u64 a2_25, .int .u64 a2_26, .int .u64 a2_27, .int .u64 a2_28, .int .u64 a2_29, .int .u64 a2_30, .int .u64 a2_31, .bool a2_32, .bool a2_33, .bool a2_34, .bool a2_35, .bool a2_36] 35 (0, 0))) ∧ Aside0 (w'.heap[gb115]? = some (.cells #[.bool t104, (.slice Ao19 t105.length co19), (.slice Ao20 t108.length co20), (.slice Ao21 t111.length co21)] 54 (0, 0))) ∧ Aside0 (Below w.heap.size w w'))
             case atStart => exact ⟨(0), (by first | rfl | (simp; done) | (simp [*]; done)), H', ⟨Nat.le_refl _⟩, ⟨by (with_reducible repeat (first | apply Kd.R_alloc | apply Kd.R_drewN | apply Kd.R_drew)); exact HO_12.out⟩, ⟨by (with_reducible repeat (first | apply Kd.R_alloc | apply Kd.R_drewN | apply Kd.R_drew)); exact HO_116001.out⟩, ⟨by (with_reducible repeat (first | apply Kd.R_alloc | apply Kd.R_drewN | apply Kd.R_drew)); exact HO_116002.out⟩, ⟨by (with_reducible repeat (first | apply Kd.R_alloc | apply Kd.R_drewN | apply Kd.R_drew)); exact HO_116003.out⟩, ⟨by (with_reducible repeat (first | refine blk_drewN ?_ _ | refine blk_drew ?_ | refine blk_alloc ?_ _)); exact BK101.out⟩, ⟨by (with_reducible repeat (first | refine blk_drewN ?_ _ | refine blk_drew ?_ | refine blk_alloc ?_ _)); exact BK102.out⟩, ⟨by (with_reducible repeat (first | refine blk_drewN ?_ _ | refine blk_drew ?_ | refine blk_alloc ?_ _)); exact BK115.out⟩, ⟨by repeat (first | (with_reducible first | exact HB.out | apply below_alloc | apply pw_below_drewN | apply below_drew1 | refine below_set ?_ GE101.out | refine below_set ?_ GE102.out | refine below_set ?_ GE115.out) | exact HB.out)⟩⟩
             case round =>
              clear H'
              try clear c1
              try clear p1
              try clear q1
              try clear hx1
              try clear c2
              try clear p2
              try clear c3
              try clear c4
              try clear c5
              try clear c6
              try clear p6
              try clear c11
              try clear p11
              try clear q11
              try clear hx11
              try clear c12
              try clear p12
              try clear q12
              try clear hx12
              try clear c16
              try clear c17
              try clear c22
              try clear c23
              try clear c25
              try clear c26
              try clear c27
              try clear c27b0
              try clear c27b1
              try clear c27b2
              try clear c28
              try clear c28b0
              try clear c28b1
              try clear c28b2
              try clear c29
              try clear c30
              try clear c32
              try clear c33
              try clear c35
              try clear c36
              try clear c38
              try clear c38b0
              try clear c39
              try clear c39b0
              try clear c40
              try clear c41
              try clear c42
              try clear c45
              try clear c46
              try clear c48
              try clear c48b0
              try clear c49
              try clear c50
              try clear c52
              try clear c52b0
              try clear c53
              try clear c53b0
              try clear c54
              try clear c54b0
              try clear c55
              try clear c55b0
              try clear c56
              try clear c57
              try clear c58
              try clear c61
              try clear c62
              try clear c64
              try clear p64
              try clear c65
              try clear c67
              try clear c67b0
              try clear hcz12_0
              try clear hcz12_1
              try clear hcz12_2
              try clear hcz13_0
              try clear hcz13_1
              try clear hcz13_10
              try clear hcz13_11
              try clear hcz13_12
              try clear hcz13_13
              try clear hcz13_14
              try clear hcz13_15
              try clear hcz13_16
              try clear hcz13_17
              try clear hcz13_18
              try clear hcz13_19
              try clear hcz13_2
              try clear hcz13_20
              try clear hcz13_21
              try clear hcz13_22
              try clear hcz13_23
              try clear hcz13_24
              try clear hcz13_25
              try clear hcz13_26
              try clear hcz13_27
              try clear hcz13_28
              try clear hcz13_29
              try clear hcz13_3
              try clear hcz13_30
              try clear hcz13_31
              try clear hcz13_32
              try clear hcz13_33
              try clear hcz13_34
              try clear hcz13_35
              try clear hcz13_36
              try clear hcz13_4
              try clear hcz13_5
              try clear hcz13_6
              try clear hcz13_7
              try clear hcz13_8
              try clear hcz13_9
              try clear hcz18_0
              try clear hcz18_1
              try clear hcz18_2
              try clear hcz18_3
              try clear hcz24_0
              try clear hcz24_1
              try clear hcz24_2
              try clear hcz24_3
              try clear hcz31_0
              try clear hcz31_1
              try clear hcz31_2
              try clear hcz31_3
              try clear hcz34_0
              try clear hcz34_1
              try clear hcz34_2
              try clear hcz34_3
              try clear hcz37_0
              try clear hcz37_1
              try clear hcz37_2
              try clear hcz37_3
              try clear hcz43_0
              try clear hcz43_1
              try clear hcz43_2
              try clear hcz43_3
              try clear hcz47_0
              try clear hcz47_1
              try clear hcz47_2
              try clear hcz47_3
              try clear hcz51_0
              try clear hcz51_1
              try clear hcz51_2
              try clear hcz51_3
              try clear hcz59_0
              try clear hcz59_1
              try clear hcz59_2
              try clear hcz59_3
              try clear hcz63_0
              try clear hcz63_1
              try clear hcz63_2
              try clear hcz63_3
              try clear hcz66_0
              try clear hcz66_1
              try clear hcz66_2
              try clear hcz66_3
              try clear hfz12_0
              try clear hfz12_1
              try clear hfz12_2
              try clear hfz13_0
              try clear hfz13_1
              try clear hfz13_10
              try clear hfz13_11
              try clear hfz13_12
              try clear hfz13_13
              try clear hfz13_14
              try clear hfz13_15
              try clear hfz13_16
              try clear hfz13_17
              try clear hfz13_18
              try clear hfz13_19
              try clear hfz13_2
              try clear hfz13_20
              try clear hfz13_21
              try clear hfz13_22
              try clear hfz13_23
              try clear hfz13_24
              try clear hfz13_25
              try clear hfz13_26
              try clear hfz13_27
              try clear hfz13_28
              try clear hfz13_29
              try clear hfz13_3
              try clear hfz13_30
              try clear hfz13_31
              try clear hfz13_32
              try clear hfz13_33
              try clear hfz13_34
              try clear hfz13_35
              try clear hfz13_36
              try clear hfz13_4
              try clear hfz13_5
              try clear hfz13_6
              try clear hfz13_7
              try clear hfz13_8
              try clear hfz13_9
              try clear hfz18_0
              try clear hfz18_1
              try clear hfz18_2
              try clear hfz18_3
              try clear hfz24_0
              try clear hfz24_1
              try clear hfz24_2
              try clear hfz24_3
              try clear hfz31_0
              try clear hfz31_1
              try clear hfz31_2
              try clear hfz31_3
              try clear hfz34_0
              try clear hfz34_1
              try clear hfz34_2
              try clear hfz34_3
              try clear hfz37_0
              try clear hfz37_1
              try clear hfz37_2
              try clear hfz37_3
              try clear hfz43_0
              try clear hfz43_1
              try clear hfz43_2
              try clear hfz43_3
              try clear hfz47_0
              try clear hfz47_1
              try clear hfz47_2
              try clear hfz47_3
              try clear hfz51_0
              try clear hfz51_1
              try clear hfz51_2
              try clear hfz51_3
              try clear hfz59_0
              try clear hfz59_1
              try clear hfz59_2
              try clear hfz59_3
              try clear hfz63_0
              try clear hfz63_1
              try clear hfz63_2
              try clear hfz63_3
              try clear hfz66_0
              try clear hfz66_1
              try clear hfz66_2
              try clear hfz66_3
              try clear hx117_0
              try clear hx117_1
              try clear hx117_2
              try clear hx117_3
              try clear hx121_0
              try clear hx121_1
              try clear hx122_0
              try clear hx122_1
              try clear hx123_0
              try clear hx123_1
              try clear hx123_2
              try clear p1
              try clear p11
              try clear p117
              try clear p12
              try clear p121
              try clear p122
              try clear p123
              try clear p2
              try clear p6
              try clear p64
              try clear q1
              try clear q11
              try clear q116
              try clear q117
              try clear q12
              try clear q121
              try clear q122
              try clear q123
              obtain ⟨x17_5, rfl, HA, HK5, HO_12, HO_116001, HO_116002, HO_116003, BK101, BK102, BK115, HB⟩ := hrel
              cases gk with
              | zero => exact absurd HA.out (by simp [shacklelaw08_VersOnce.l4])
              | succ k5 =>
               have H := HA.out
               clear HA
               simp only [shacklelaw08_VersOnce.l4] at H
               by_cases c69 : x17_5 < x16_4
               ·rw [if_pos c69] at H
                have c69b0 : decide (x17_5 < x16_4) = true := decide_eq_true c69
                clear c69
                by_cases c70 : 0 ≤ x16_4
                ·rw [if_pos c70] at H
                 have c70b0 : decide (0 ≤ x16_4) = true := decide_eq_true c70
                 clear c70
                 by_cases c71 : x16_4 < (x12_3.length : Int)
                 ·rw [if_pos c71] at H
                  have c71b0 : decide (x16_4 < (x12_3.length : Int)) = true := decide_eq_true c71
                  clear c71
                  by_cases c72 : 0 ≤ x17_5
                  ·rw [if_pos c72] at H
                   have c72b0 : decide (0 ≤ x17_5) = true := decide_eq_true c72
                   clear c72
                   by_cases c73 : x17_5 < (x12_3.length : Int)
                   ·rw [if_pos c73] at H
                    have c73b0 : decide (x17_5 < (x12_3.length : Int)) = true := decide_eq_true c73
                    clear c73
                    by_cases c74 : (rd x12_3 x16_4) = (rd x12_3 x17_5)
                    ·rw [if_pos c74] at H
                     have c74b0 : ((rd x12_3 x16_4) == (rd x12_3 x17_5)) = true := beq_iff_eq.mpr c74
                     have c74b1 : ((rd x12_3 x16_4) != (rd x12_3 x17_5)) = false := bne_eq_false_iff_eq.mpr c74
                     clear c74
                     obtain rfl := Option.some.inj H
                     have p127 : 0 ≤ (x16_4 : Int) := of_decide_eq_true (by assumption)
                     have q127 : x16_4 < (x12_3.length : Int) := of_decide_eq_true (by assumption)
                     obtain ⟨ad127, e127, hx127_0⟩ := Kd.at_int (Kd.R_reads' HO_12.out).2.2 x16_4 p127 q127
                     cases e127
                     replace p127 := eq_true p127
                     replace q127 := eq_true q127
                     have p128 : 0 ≤ (x17_5 : Int) := of_decide_eq_true (by assumption)
                     have q128 : x17_5 < (x12_3.length : Int) := of_decide_eq_true (by assumption)
                     obtain ⟨ad128, e128, hx128_0⟩ := Kd.at_int (Kd.R_reads' HO_12.out).2.2 x17_5 p128 q128
                     obtain rfl : ad127 = ad128 := (by injection e128)
                     replace p128 := eq_true p128
                     replace q128 := eq_true q128
                     go_wp2
                     repeat (go_quiet (fail); try go_wp2)
                     go_ret
                     exact ⟨by first | rfl | (simp [errW_none, errW_some] <;> rfl) | (simp [*, errW_none, errW_some] <;> rfl), by repeat (first | (with_reducible first | exact HB.out | apply below_alloc | apply pw_below_drewN | apply below_drew1 | refine below_set ?_ GE101.out | refine below_set ?_ GE102.out | refine below_set ?_ GE115.out) | exact HB.out)⟩
                    ·rw [if_neg c74] at H
                     have c74b0 : ((rd x12_3 x16_4) == (rd x12_3 x17_5)) = false := beq_eq_false_iff_ne.mpr c74
                     have c74b1 : ((rd x12_3 x16_4) != (rd x12_3 x17_5)) = true := bne_iff_ne.mpr c74
                     have H' := Aside0.mk H
                     clear H
                     have p127 : 0 ≤ (x16_4 : Int) := of_decide_eq_true (by assumption)
                     have q127 : x16_4 < (x12_3.length : Int) := of_decide_eq_true (by assumption)
                     obtain ⟨ad127, e127, hx127_0⟩ := Kd.at_int (Kd.R_reads' HO_12.out).2.2 x16_4 p127 q127
                     cases e127
                     replace p127 := eq_true p127
                     replace q127 := eq_true q127
                     have p128 : 0 ≤ (x17_5 : Int) := of_decide_eq_true (by assumption)
                     have q128 : x17_5 < (x12_3.length : Int) := of_decide_eq_true (by assumption)
                     obtain ⟨ad128, e128, hx128_0⟩ := Kd.at_int (Kd.R_reads' HO_12.out).2.2 x17_5 p128 q128
                     obtain rfl : ad127 = ad128 := (by injection e128)
                     replace p128 := eq_true p128
                     replace q128 := eq_true q128
                     go_wp2
                     repeat (go_quiet (fail); try go_wp2)
                     go_roundg k5
                     case measure => have := HJ6.out; have := HK2.out; have := HK3.out; have := HK4.out; have := HK5.out; omega
                     case rel => exact ⟨(wrap64 (x17_5 + 1)), (by first | rfl | (simp; done) | (simp [*]; done)), H', ⟨by have := HJ6.out; have := HK2.out; have := HK3.out; have := HK4.out; have := HK5.out; omega⟩, ⟨by (with_reducible repeat (first | apply Kd.R_alloc | apply Kd.R_drewN | apply Kd.R_drew)); exact HO_12.out⟩, ⟨by (with_reducible repeat (first | apply Kd.R_alloc | apply Kd.R_drewN | apply Kd.R_drew)); exact HO_116001.out⟩, ⟨by (with_reducible repeat (first | apply Kd.R_alloc | apply Kd.R_drewN | apply Kd.R_drew)); exact HO_116002.out⟩, ⟨by (with_reducible repeat (first | apply Kd.R_alloc | apply Kd.R_drewN | apply Kd.R_drew)); exact HO_116003.out⟩, ⟨by (with_reducible repeat (first | refine blk_drewN ?_ _ | refine blk_drew ?_ | refine blk_alloc ?_ _)); exact BK101.out⟩, ⟨by (with_reducible repeat (first | refine blk_drewN ?_ _ | refine blk_drew ?_ | refine blk_alloc ?_ _)); exact BK102.out⟩, ⟨by (with_reducible repeat (first | refine blk_drewN ?_ _ | refine blk_drew ?_ | refine blk_alloc ?_ _)); exact BK115.out⟩, ⟨by repeat (first | (with_reducible first | exact HB.out | apply below_alloc | apply pw_below_drewN | apply below_drew1 | refine below_set ?_ GE101.out | refine below_set ?_ GE102.out | refine below_set ?_ GE115.out) | exact HB.out)⟩⟩
                   ·rw [if_neg c73] at H
                    exact absurd H (by simp)
                  ·rw [if_neg c72] at H
                   exact absurd H (by simp)
                 ·rw [if_neg c71] at H
                  exact absurd H (by simp)
                ·rw [if_neg c70] at H
                 exact absurd H (by simp)
               ·rw [if_neg c69] at H
                have c69b0 : decide (x17_5 < x16_4) = false := decide_eq_false c69
                clear c69
                by_cases c75 : 0 ≤ x16_4
                ·rw [if_pos c75] at H
                 have c75b0 : decide (0 ≤ x16_4) = true := decide_eq_true c75
                 clear c75
                 by_cases c76 : x16_4 < (x12_3.length : Int)
                 ·rw [if_pos c76] at H
                  have c76b0 : decide (x16_4 < (x12_3.length : Int)) = true := decide_eq_true c76
                  clear c76
                  by_cases c77 : (rd x12_3 x16_4) < 1
                  ·rw [if_pos c77] at H
                   have c77b0 : decide ((rd x12_3 x16_4) < 1) = true := decide_eq_true c77
                   clear c77
                   obtain rfl := Option.some.inj H
                   have p129 : 0 ≤ (x16_4 : Int) := of_decide_eq_true (by assumption)
                   have q129 : x16_4 < (x12_3.length : Int) := of_decide_eq_true (by assumption)
                   obtain ⟨ad129, e129, hx129_0⟩ := Kd.at_int (Kd.R_reads' HO_12.out).2.2 x16_4 p129 q129
                   cases e129
                   replace p129 := eq_true p129
                   replace q129 := eq_true q129
                   go_wp2
                   repeat (go_quiet (fail); try go_wp2)
                   go_ret
                   exact ⟨by first | rfl | (simp [errW_none, errW_some] <;> rfl) | (simp [*, errW_none, errW_some] <;> rfl), by repeat (first | (with_reducible first | exact HB.out | apply below_alloc | apply pw_below_drewN | apply below_drew1 | refine below_set ?_ GE101.out | refine below_set ?_ GE102.out | refine below_set ?_ GE115.out) | exact HB.out)⟩
                  ·rw [if_neg c77] at H
                   have c77b0 : decide ((rd x12_3 x16_4) < 1) = false := decide_eq_false c77
                   clear c77
                   by_cases c78 : (rd x12_3 x16_4) > 32767
                   ·rw [if_pos c78] at H
                    have c78b0 : decide (32767 < (rd x12_3 x16_4)) = true := decide_eq_true c78
                    clear c78
                    obtain rfl := Option.some.inj H
                    have p129 : 0 ≤ (x16_4 : Int) := of_decide_eq_true (by assumption)
                    have q129 : x16_4 < (x12_3.length : Int) := of_decide_eq_true (by assumption)
                    obtain ⟨ad129, e129, hx129_0⟩ := Kd.at_int (Kd.R_reads' HO_12.out).2.2 x16_4 p129 q129
                    cases e129
                    replace p129 := eq_true p129
                    replace q129 := eq_true q129
                    have p130 : 0 ≤ (x16_4 : Int) := of_decide_eq_true (by assumption)
                    have q130 : x16_4 < (x12_3.length : Int) := of_decide_eq_true (by assumption)
                    obtain ⟨ad130, e130, hx130_0⟩ := Kd.at_int (Kd.R_reads' HO_12.out).2.2 x16_4 p130 q130
                    obtain rfl : ad129 = ad130 := (by injection e130)
                    replace p130 := eq_true p130
                    replace q130 := eq_true q130
                    go_wp2
                    repeat (go_quiet (fail); try go_wp2)
                    go_ret
                    exact ⟨by first | rfl | (simp [errW_none, errW_some] <;> rfl) | (simp [*, errW_none, errW_some] <;> rfl), by repeat (first | (with_reducible first | exact HB.out | apply below_alloc | apply pw_below_drewN | apply below_drew1 | refine below_set ?_ GE101.out | refine below_set ?_ GE102.out | refine below_set ?_ GE115.out) | exact HB.out)⟩
                   ·rw [if_neg c78] at H
                    have c78b0 : decide (32767 < (rd x12_3 x16_4)) = false := decide_eq_false c78
                    clear c78
                    have H' := Aside0.mk H
                    clear H
                    have p129 : 0 ≤ (x16_4 : Int) := of_decide_eq_true (by assumption)
                    have q129 : x16_4 < (x12_3.length : Int) := of_decide_eq_true (by assumption)
                    obtain ⟨ad129, e129, hx129_0⟩ := Kd.at_int (Kd.R_reads' HO_12.out).2.2 x16_4 p129 q129
                    cases e129
                    replace p129 := eq_true p129
                    replace q129 := eq_true q129
                    have p130 : 0 ≤ (x16_4 : Int) := of_decide_eq_true (by assumption)
                    have q130 : x16_4 < (x12_3.length : Int) := of_decide_eq_true (by assumption)
                    obtain ⟨ad130, e130, hx130_0⟩ := Kd.at_int (Kd.R_reads' HO_12.out).2.2 x16_4 p130 q130
                    obtain rfl : ad129 = ad130 := (by injection e130)
                    replace p130 := eq_true p130
                    replace q130 := eq_true q130
                    go_wp2
                    repeat (go_quiet (fail); try go_wp2)
                    go_roundg k5
                    case measure => have := HJ6.out; have := HK2.out; have := HK3.out; have := HK4.out; have := HK5.out; omega
                    case rel => exact ⟨(wrap64 (x16_4 + 1)), (by first | rfl | (simp; done) | (simp [*]; done)), H', ⟨by have := HJ6.out; have := HK2.out; have := HK3.out; have := HK4.out; have := HK5.out; omega⟩, ⟨by (with_reducible repeat (first | apply Kd.R_alloc | apply Kd.R_drewN | apply Kd.R_drew)); exact HO_12.out⟩, ⟨by (with_reducible repeat (first | apply Kd.R_alloc | apply Kd.R_drewN | apply Kd.R_drew)); exact HO_116001.out⟩, ⟨by (with_reducible repeat (first | apply Kd.R_alloc | apply Kd.R_drewN | apply Kd.R_drew)); exact HO_116002.out⟩, ⟨by (with_reducible repeat (first | apply Kd.R_alloc | apply Kd.R_drewN | apply Kd.R_drew)); exact HO_116003.out⟩, ⟨by (with_reducible repeat (first | refine blk_drewN ?_ _ | refine blk_drew ?_ | refine blk_alloc ?_ _)); exact BK101.out⟩, ⟨by (with_reducible repeat (first | refine blk_drewN ?_ _ | refine blk_drew ?_ | refine blk_alloc ?_ _)); exact BK102.out⟩, ⟨by (with_reducible repeat (first | refine blk_drewN ?_ _ | refine blk_drew ?_ | refine blk_alloc ?_ _)); exact BK115.out⟩, ⟨by repeat (first | (with_reducible first | exact HB.out | apply below_alloc | apply pw_below_drewN | apply below_drew1 | refine below_set ?_ GE101.out | refine below_set ?_ GE102.out | refine below_set ?_ GE115.out) | exact HB.out)⟩⟩
                 ·rw [if_neg c76] at H
                  exact absurd H (by simp)
                ·rw [if_neg c75] at H
                 exact absurd H (by simp)
            ·rw [if_neg c67] at H
             have c67b0 : decide (x16_4 < (x12_3.length : Int)) = false := decide_eq_false c67
             clear c67
             have H' := Aside0.mk H
             clear H
             obtain ⟨Ao79, co79, eo79⟩ := Kd.R_slice HO_12.out
             subst eo79
             go_wp2
             repeat (go_quiet (fail); try go_wp2)
             go_loopg [18] k4 (fun kq v18 w' => ∃ (x18_5 : Int), v18 = .int .i64 x18_5 ∧ Aside0 (shacklelaw08_VersOnce.l5 kq a3 t103 x12_3 x18_5 t104 t105 t108 t111 = some r) ∧ Aside0 (kq ≤ k4) ∧ Aside0 (Kd.R (Kd.int .i64) 3 w' w.heap.size (fun k_ => some k_ ≠ ((.slice Ao19 t105.length co19) : Value).ownBlock) (.slice Ao79 x12_3.length co79) x12_3) ∧ Aside0 (Kd.R (Kd.int .i64) 3 w' w.heap.size (fun k_ => some k_ ≠ ((.slice Ao79 x12_3.length co79) : Value).ownBlock) (.slice Ao19 t105.length co19) t105) ∧ Aside0 (Kd.R k63 63 w' w.heap.size (fun _ => True) (.slice Ao20 t108.length co20) t108) ∧ Aside0 (Kd.R k66 66 w' w.heap.size (fun _ => True) (.slice Ao21 t111.length co21) t111) ∧ Aside0 (w'.heap[gb101]? = some (.cells #[.int .i64 a1_0, .int .u64 a1_1, (.slice A1_2 l1_2.length c1_2)] 32 (0, 0))) ∧ Aside0 (w'.heap[gb102]? = some (.cells #[(.slice A2_0 l2_0.length c2_0), .int .u64 a2_1, .int .u64 a2_2, .int .u64 a2_3, .int .u64 a2_4, .int .u64 a2_5, .int .u64 a2_6, .int .u64 a2_7, .int .u64 a2_8, .int .u64 a2_9, .int .u64 a2_10, .int .u64 a2_11, .int .u64 a2_12, .int .u64 a2_13, .bool a2_14, .bool a2_15, .bool a2_16, .int .u64 a2_17, .int .u64 a2_18, .int .u64 a2_19, .int .u64 a2_20, .int .u64 a2_21, .int .u64 a2_22, .int .u64 a2_23, .int .u64 a2_24, .int .u64 a2_25, .int .u64 a2_26, .int .u64 a2_27, .int .u64 a2_28, .int .u64 a2_29, .int .u64 a2_30, .int .u64 a2_31, .bool a2_32, .bool a2_33, .bool a2_34, .bool a2_35, .bool a2_36] 35 (0, 0))) ∧ Aside0 (w'.heap[gb115]? = some (.cells #[.bool t104, (.slice Ao19 t105.length co19), (.slice Ao20 t108.length co20), (.slice Ao21 t111.length co21)] 54 (0, 0))) ∧ Aside0 (Below w.heap.size w w'))
             case atStart => exact ⟨(0), (by first | rfl | (simp; done) | (simp [*]; done)), H', ⟨Nat.le_refl _⟩, ⟨by (with_reducible repeat (first | apply Kd.R_alloc | apply Kd.R_drewN | apply Kd.R_drew)); exact HO_12.out⟩, ⟨by (with_reducible repeat (first | apply Kd.R_alloc | apply Kd.R_drewN | apply Kd.R_drew)); exact HO_116001.out⟩, ⟨by (with_reducible repeat (first | apply Kd.R_alloc | apply Kd.R_drewN | apply Kd.R_drew)); exact HO_116002.out⟩, ⟨by (with_reducible repeat (first | apply Kd.R_alloc | apply Kd.R_drewN | apply Kd.R_drew)); exact HO_116003.out⟩, ⟨by (with_reducible repeat (first | refine blk_drewN ?_ _ | refine blk_drew ?_ | refine blk_alloc ?_ _)); exact BK101.out⟩, ⟨by (with_reducible repeat (first | refine blk_drewN ?_ _ | refine blk_drew ?_ | refine blk_alloc ?_ _)); exact BK102.out⟩, ⟨by (with_reducible repeat (first | refine blk_drewN ?_ _ | refine blk_drew ?_ | refine blk_alloc ?_ _)); exact BK115.out⟩, ⟨by repeat (first | (with_reducible first | exact HB.out | apply below_alloc | apply pw_below_drewN | apply below_drew1 | refine below_set ?_ GE101.out | refine below_set ?_ GE102.out | refine below_set ?_ GE115.out) | exact HB.out)⟩⟩
             case round =>
              clear H'
              try clear c1
              try clear p1
              try clear q1
              try clear hx1
              try clear c2
              try clear p2
              try clear c3
              try clear c4
              try clear c5
              try clear c6
              try clear p6
              try clear c7
              try clear c11
              try clear p11
              try clear q11
              try clear hx11
              try clear c12
              try clear p12
              try clear q12
              try clear hx12
              try clear p13
              try clear q13
              try clear hx13
              try clear c16
              try clear c17
              try clear c22
              try clear c23
              try clear c25
              try clear c26
              try clear c27
              try clear c27b0
              try clear c27b1
              try clear c27b2
              try clear c28
              try clear c28b0
              try clear c28b1
              try clear c28b2
              try clear c29
              try clear c30
              try clear c32
              try clear c33
              try clear c35
              try clear c36
              try clear c38
              try clear c38b0
              try clear c39
              try clear c39b0
              try clear c40
              try clear c41
              try clear c42
              try clear c45
              try clear c46
              try clear c48
              try clear c48b0
              try clear c49
              try clear c50
              try clear c52
              try clear c52b0
              try clear c53
              try clear c53b0
              try clear c54
              try clear c54b0
              try clear c55
              try clear c55b0
              try clear c56
              try clear c57
              try clear c58
              try clear c61
              try clear c62
              try clear c64
              try clear p64
              try clear c65
              try clear c67
              try clear c67b0
              try clear c69
              try clear c69b0
              try clear c70
              try clear c70b0
              try clear c71
              try clear c71b0
              try clear c72
              try clear c72b0
              try clear c73
              try clear c73b0
              try clear c74
              try clear c74b0
              try clear c74b1
              try clear c75
              try clear c75b0
              try clear c76
              try clear c76b0
              try clear c77
              try clear c77b0
              try clear c78
              try clear c78b0
              try clear hcz12_0
              try clear hcz12_1
              try clear hcz12_2
              try clear hcz13_0
              try clear hcz13_1
              try clear hcz13_10
              try clear hcz13_11
              try clear hcz13_12
              try clear hcz13_13
              try clear hcz13_14
              try clear hcz13_15
              try clear hcz13_16
              try clear hcz13_17
              try clear hcz13_18
              try clear hcz13_19
              try clear hcz13_2
              try clear hcz13_20
              try clear hcz13_21
              try clear hcz13_22
              try clear hcz13_23
              try clear hcz13_24
              try clear hcz13_25
              try clear hcz13_26
              try clear hcz13_27
              try clear hcz13_28
              try clear hcz13_29
              try clear hcz13_3
              try clear hcz13_30
              try clear hcz13_31
              try clear hcz13_32
              try clear hcz13_33
              try clear hcz13_34
              try clear hcz13_35
              try clear hcz13_36
              try clear hcz13_4
              try clear hcz13_5
              try clear hcz13_6
              try clear hcz13_7
              try clear hcz13_8
              try clear hcz13_9
              try clear hcz18_0
              try clear hcz18_1
              try clear hcz18_2
              try clear hcz18_3
              try clear hcz24_0
              try clear hcz24_1
              try clear hcz24_2
              try clear hcz24_3
              try clear hcz31_0
              try clear hcz31_1
              try clear hcz31_2
              try clear hcz31_3
              try clear hcz34_0
              try clear hcz34_1
              try clear hcz34_2
              try clear hcz34_3
              try clear hcz37_0
              try clear hcz37_1
              try clear hcz37_2
              try clear hcz37_3
              try clear hcz43_0
              try clear hcz43_1
              try clear hcz43_2
              try clear hcz43_3
              try clear hcz47_0
              try clear hcz47_1
              try clear hcz47_2
              try clear hcz47_3
              try clear hcz51_0
              try clear hcz51_1
              try clear hcz51_2
              try clear hcz51_3
              try clear hcz59_0
              try clear hcz59_1
              try clear hcz59_2
              try clear hcz59_3
              try clear hcz63_0
              try clear hcz63_1
              try clear hcz63_2
              try clear hcz63_3
              try clear hcz66_0
              try clear hcz66_1
              try clear hcz66_2
              try clear hcz66_3
              try clear hfz12_0
              try clear hfz12_1
              try clear hfz12_2
              try clear hfz13_0
              try clear hfz13_1
              try clear hfz13_10
              try clear hfz13_11
              try clear hfz13_12
              try clear hfz13_13
              try clear hfz13_14
              try clear hfz13_15
              try clear hfz13_16
              try clear hfz13_17
              try clear hfz13_18
              try clear hfz13_19
              try clear hfz13_2
              try clear hfz13_20
              try clear hfz13_21
              try clear hfz13_22
              try clear hfz13_23
              try clear hfz13_24
              try clear hfz13_25
              try clear hfz13_26
              try clear hfz13_27
              try clear hfz13_28
              try clear hfz13_29
              try clear hfz13_3
              try clear hfz13_30
              try clear hfz13_31
              try clear hfz13_32
              try clear hfz13_33
              try clear hfz13_34
              try clear hfz13_35
              try clear hfz13_36
              try clear hfz13_4
              try clear hfz13_5
              try clear hfz13_6
              try clear hfz13_7
              try clear hfz13_8
              try clear hfz13_9
              try clear hfz18_0
              try clear hfz18_1
              try clear hfz18_2
              try clear hfz18_3
              try clear hfz24_0
              try clear hfz24_1
              try clear hfz24_2
              try clear hfz24_3
              try clear hfz31_0
              try clear hfz31_1
              try clear hfz31_2
              try clear hfz31_3
              try clear hfz34_0
              try clear hfz34_1
              try clear hfz34_2
              try clear hfz34_3
              try clear hfz37_0
              try clear hfz37_1
              try clear hfz37_2
              try clear hfz37_3
              try clear hfz43_0
              try clear hfz43_1
              try clear hfz43_2
              try clear hfz43_3
              try clear hfz47_0
              try clear hfz47_1
              try clear hfz47_2
              try clear hfz47_3
              try clear hfz51_0
              try clear hfz51_1
              try clear hfz51_2
              try clear hfz51_3
              try clear hfz59_0
              try clear hfz59_1
              try clear hfz59_2
              try clear hfz59_3
              try clear hfz63_0
              try clear hfz63_1
              try clear hfz63_2
              try clear hfz63_3
              try clear hfz66_0
              try clear hfz66_1
              try clear hfz66_2
              try clear hfz66_3
              try clear hx117_0
              try clear hx117_1
              try clear hx117_2
              try clear hx117_3
              try clear hx121_0
              try clear hx121_1
              try clear hx122_0
              try clear hx122_1
              try clear hx123_0
              try clear hx123_1
              try clear hx123_2
              try clear hx127_0
              try clear hx128_0
              try clear hx129_0
              try clear hx130_0
              try clear p1
              try clear p11
              try clear p117
              try clear p12
              try clear p121
              try clear p122
              try clear p123
              try clear p127
              try clear p128
              try clear p129
              try clear p130
              try clear p2
              try clear p6
              try clear p64
              try clear q1
              try clear q11
              try clear q116
              try clear q117
              try clear q12
              try clear q121
              try clear q122
              try clear q123
              try clear q127
              try clear q128
              try clear q129
              try clear q130
              obtain ⟨x18_5, rfl, HA, HK5, HO_12, HO_116001, HO_116002, HO_116003, BK101, BK102, BK115, HB⟩ := hrel
              cases gk with
              | zero => exact absurd HA.out (by simp [shacklelaw08_VersOnce.l5])
              | succ k5 =>
               have H := HA.out
               clear HA
               simp only [shacklelaw08_VersOnce.l5] at H
               by_cases c80 : x18_5 < (t105.length : Int)
               ·rw [if_pos c80] at H
                have c80b0 : decide (x18_5 < (t105.length : Int)) = true := decide_eq_true c80
                clear c80
                by_cases c81 : 0 ≤ x18_5
                ·rw [if_pos c81] at H
                 have c81b0 : decide (0 ≤ x18_5) = true := decide_eq_true c81
                 clear c81
                 have HC82 := Aside0.mk H
                 clear H
                 have hnb83 := NB115_101.out
                 have hnc83 := NB101_115.out
                 have hnb84 := NB115_102.out
                 have hnc84 := NB102_115.out
                 have hcz85_0 : wr.cell? ⟨gb115, 0, none⟩ = some (.bool t104) := (blk_cell BK115.out 0).trans rfl
                 have hcz85_1 : wr.cell? ⟨gb115, 1, none⟩ = some (.slice Ao19 t105.length co19) := (blk_cell BK115.out 1).trans rfl
                 have hcz85_2 : wr.cell? ⟨gb115, 2, none⟩ = some (.slice Ao20 t108.length co20) := (blk_cell BK115.out 2).trans rfl
                 have hcz85_3 : wr.cell? ⟨gb115, 3, none⟩ = some (.slice Ao21 t111.length co21) := (blk_cell BK115.out 3).trans rfl
                 have hfz85_0 := blk_frozen BK115.out 0
                 have hfz85_1 := blk_frozen BK115.out 1
                 have hfz85_2 := blk_frozen BK115.out 2
                 have hfz85_3 := blk_frozen BK115.out 3
                 have p131 : 0 ≤ (x18_5 : Int) := of_decide_eq_true (by assumption)
                 have q131 : x18_5 < (t105.length : Int) := of_decide_eq_true (by assumption)
                 obtain ⟨ad131, e131, hx131_0⟩ := Kd.at_int (Kd.R_reads' HO_116001.out).2.2 x18_5 p131 q131
                 cases e131
                 replace p131 := eq_true p131
                 replace q131 := eq_true q131
                 go_upto_region 31 with (fail)
                 repeat (go_quiet (fail); go_upto_region 31 with (fail))
                 go_cut [20] (fun v20 wc => ∃ (kq : Nat) (x20_81 : Bool), v20 = .bool x20_81 ∧ Aside0 (shacklelaw08_VersOnce.j7 kq a3 t103 x12_3 x18_5 (Int.tmod (rd t105 x18_5) 32768) x20_81 t104 t105 t108 t111 = some r) ∧ Aside0 (kq ≤ k5) ∧ Aside0 (Kd.R (Kd.int .i64) 3 wc w.heap.size (fun k_ => some k_ ≠ ((.slice (some ad131) t105.length co19) : Value).ownBlock) (.slice Ao79 x12_3.length co79) x12_3) ∧ Aside0 (Kd.R (Kd.int .i64) 3 wc w.heap.size (fun k_ => some k_ ≠ ((.slice Ao79 x12_3.length co79) : Value).ownBlock) (.slice (some ad131) t105.length co19) t105) ∧ Aside0 (Kd.R k63 63 wc w.heap.size (fun _ => True) (.slice Ao20 t108.length co20) t108) ∧ Aside0 (Kd.R k66 66 wc w.heap.size (fun _ => True) (.slice Ao21 t111.length co21) t111) ∧ Aside0 (wc.heap[gb101]? = some (.cells #[.int .i64 a1_0, .int .u64 a1_1, (.slice A1_2 l1_2.length c1_2)] 32 (0, 0))) ∧ Aside0 (wc.heap[gb102]? = some (.cells #[(.slice A2_0 l2_0.length c2_0), .int .u64 a2_1, .int .u64 a2_2, .int .u64 a2_3, .int .u64 a2_4, .int .u64 a2_5, .int .u64 a2_6, .int .u64 a2_7, .int .u64 a2_8, .int .u64 a2_9, .int .u64 a2_10, .int .u64 a2_11, .int .u64 a2_12, .int .u64 a2_13, .bool a2_14, .bool a2_15, .bool a2_16, .int .u64 a2_17, .int .u64 a2_18, .int .u64 a2_19, .int .u64 a2_20, .int .u64 a2_21, .int .u64 a2_22, .int .u64 a2_23, .int .u64 a2_24, .int .u64 a2_25, .int .u64 a2_26, .int .u64 a2_27, .int .u64 a2_28, .int .u64 a2_29, .int .u64 a2_30, .int .u64 a2_31, .bool a2_32, .bool a2_33, .bool a2_34, .bool a2_35, .bool a2_36] 35 (0, 0))) ∧ Aside0 (wc.heap[gb115]? = some (.cells #[.bool t104, (.slice (some ad131) t105.length co19), (.slice Ao20 t108.length co20), (.slice Ao21 t111.length co21)] 54 (0, 0))) ∧ Aside0 (Below w.heap.size w wc))
                 case first =>
                  have H := HC82.out
                  clear HC82
                  by_cases c86 : (Int.tmod (rd t105 x18_5) 32768) = 0
                  ·rw [if_pos c86] at H
                   have c86b0 : ((Int.tmod (rd t105 x18_5) 32768) == 0) = true := beq_iff_eq.mpr c86
                   have c86b1 : ((Int.tmod (rd t105 x18_5) 32768) != 0) = false := bne_eq_false_iff_eq.mpr c86
                   clear c86
                   (first | rw [c86b0] | (simp only [i64_w, i32_w]; rw [c86b0]) | skip)
                   have H' := Aside0.mk H
                   clear H
                   go_wp2
                   repeat (go_quiet (fail); try go_wp2)
                   go_meet
                   case rel => exact ⟨_, (true), (by first | rfl | (simp; done) | (simp [*]; done)), H', ⟨by have := HJ6.out; have := HK2.out; have := HK3.out; have := HK4.out; have := HK5.out; first | omega | exact Nat.le_refl _⟩, ⟨by (with_reducible repeat (first | apply Kd.R_alloc | apply Kd.R_drewN | apply Kd.R_drew)); exact HO_12.out⟩, ⟨by (with_reducible repeat (first | apply Kd.R_alloc | apply Kd.R_drewN | apply Kd.R_drew)); exact HO_116001.out⟩, ⟨by (with_reducible repeat (first | apply Kd.R_alloc | apply Kd.R_drewN | apply Kd.R_drew)); exact HO_116002.out⟩, ⟨by (with_reducible repeat (first | apply Kd.R_alloc | apply Kd.R_drewN | apply Kd.R_drew)); exact HO_116003.out⟩, ⟨by (with_reducible repeat (first | refine blk_drewN ?_ _ | refine blk_drew ?_ | refine blk_alloc ?_ _)); exact BK101.out⟩, ⟨by (with_reducible repeat (first | refine blk_drewN ?_ _ | refine blk_drew ?_ | refine blk_alloc ?_ _)); exact BK102.out⟩, ⟨by (with_reducible repeat (first | refine blk_drewN ?_ _ | refine blk_drew ?_ | refine blk_alloc ?_ _)); exact BK115.out⟩, ⟨by repeat (first | (with_reducible first | exact HB.out | apply below_alloc | apply pw_below_drewN | apply below_drew1 | refine below_set ?_ GE101.out | refine below_set ?_ GE102.out | refine below_set ?_ GE115.out) | exact HB.out)⟩⟩
                  ·rw [if_neg c86] at H
                   have c86b0 : ((Int.tmod (rd t105 x18_5) 32768) == 0) = false := beq_eq_false_iff_ne.mpr c86
                   have c86b1 : ((Int.tmod (rd t105 x18_5) 32768) != 0) = true := bne_iff_ne.mpr c86
                   (first | rw [c86b0] | (simp only [i64_w, i32_w]; rw [c86b0]) | skip)
                   have H' := Aside0.mk H
                   clear H
                   go_wp2
                   repeat (go_quiet (fail); try go_wp2)
                   go_meet
                   case rel => exact ⟨_, (((Int.tmod (rd t105 x18_5) 32768) == 1)), (by first | rfl | (simp; done) | (simp [*]; done)), H', ⟨by have := HJ6.out; have := HK2.out; have := HK3.out; have := HK4.out; have := HK5.out; first | omega | exact Nat.le_refl _⟩, ⟨by (with_reducible repeat (first | apply Kd.R_alloc | apply Kd.R_drewN | apply Kd.R_drew)); exact HO_12.out⟩, ⟨by (with_reducible repeat (first | apply Kd.R_alloc | apply Kd.R_drewN | apply Kd.R_drew)); exact HO_116001.out⟩, ⟨by (with_reducible repeat (first | apply Kd.R_alloc | apply Kd.R_drewN | apply Kd.R_drew)); exact HO_116002.out⟩, ⟨by (with_reducible repeat (first | apply Kd.R_alloc | apply Kd.R_drewN | apply Kd.R_drew)); exact HO_116003.out⟩, ⟨by (with_reducible repeat (first | refine blk_drewN ?_ _ | refine blk_drew ?_ | refine blk_alloc ?_ _)); exact BK101.out⟩, ⟨by (with_reducible repeat (first | refine blk_drewN ?_ _ | refine blk_drew ?_ | refine blk_alloc ?_ _)); exact BK102.out⟩, ⟨by (with_reducible repeat (first | refine blk_drewN ?_ _ | refine blk_drew ?_ | refine blk_alloc ?_ _)); exact BK115.out⟩, ⟨by repeat (first | (with_reducible first | exact HB.out | apply below_alloc | apply pw_below_drewN | apply below_drew1 | refine below_set ?_ GE101.out | refine below_set ?_ GE102.out | refine below_set ?_ GE115.out) | exact HB.out)⟩⟩
                 case rest =>
                  clear HC82
                  try clear c1
                  try clear p1
                  try clear q1
                  try clear hx1
                  try clear c2
                  try clear p2
                  try clear c3
                  try clear c4
                  try clear c5
                  try clear c6
                  try clear p6
                  try clear c7
                  try clear c8
                  try clear c11
                  try clear p11
                  try clear q11
                  try clear hx11
                  try clear c12
                  try clear p12
                  try clear q12
                  try clear hx12
                  try clear p13
                  try clear q13
                  try clear hx13
                  try clear c16
                  try clear c17
                  try clear c22
                  try clear c23
                  try clear c25
                  try clear c26
                  try clear c27
                  try clear c27b0
                  try clear c27b1
                  try clear c27b2
                  try clear c28
                  try clear c28b0
                  try clear c28b1
                  try clear c28b2
                  try clear c29
                  try clear c30
                  try clear c32
                  try clear c33
                  try clear c35
                  try clear c36
                  try clear c38
                  try clear c38b0
                  try clear c39
                  try clear c39b0
                  try clear c40
                  try clear c41
                  try clear c42
                  try clear c45
                  try clear c46
                  try clear c48
                  try clear c48b0
                  try clear c49
                  try clear c50
                  try clear c52
                  try clear c52b0
                  try clear c53
                  try clear c53b0
                  try clear c54
                  try clear c54b0
                  try clear c55
                  try clear c55b0
                  try clear c56
                  try clear c57
                  try clear c58
                  try clear c61
                  try clear c62
                  try clear c64
                  try clear p64
                  try clear c65
                  try clear c67
                  try clear c67b0
                  try clear c69
                  try clear c69b0
                  try clear c70
                  try clear c70b0
                  try clear c71
                  try clear c71b0
                  try clear c72
                  try clear c72b0
                  try clear c73
                  try clear c73b0
                  try clear c74
                  try clear c74b0
                  try clear c74b1
                  try clear c75
                  try clear c75b0
                  try clear c76
                  try clear c76b0
                  try clear c77
                  try clear c77b0
                  try clear c78
                  try clear c78b0
                  try clear c80
                  try clear c80b0
                  try clear c81
                  try clear c81b0
                  try clear c83
                  try clear c84
                  try clear c86
                  try clear c86b0
                  try clear c86b1
                  try clear hcz12_0
                  try clear hcz12_1
                  try clear hcz12_2
                  try clear hcz13_0
                  try clear hcz13_1
                  try clear hcz13_10
                  try clear hcz13_11
                  try clear hcz13_12
                  try clear hcz13_13
                  try clear hcz13_14
                  try clear hcz13_15
                  try clear hcz13_16
                  try clear hcz13_17
                  try clear hcz13_18
                  try clear hcz13_19
                  try clear hcz13_2
                  try clear hcz13_20
                  try clear hcz13_21
                  try clear hcz13_22
                  try clear hcz13_23
                  try clear hcz13_24
                  try clear hcz13_25
                  try clear hcz13_26
                  try clear hcz13_27
                  try clear hcz13_28
                  try clear hcz13_29
                  try clear hcz13_3
                  try clear hcz13_30
                  try clear hcz13_31
                  try clear hcz13_32
                  try clear hcz13_33
                  try clear hcz13_34
                  try clear hcz13_35
                  try clear hcz13_36
                  try clear hcz13_4
                  try clear hcz13_5
                  try clear hcz13_6
                  try clear hcz13_7
                  try clear hcz13_8
                  try clear hcz13_9
                  try clear hcz18_0
                  try clear hcz18_1
                  try clear hcz18_2
                  try clear hcz18_3
                  try clear hcz24_0
                  try clear hcz24_1
                  try clear hcz24_2
                  try clear hcz24_3
                  try clear hcz31_0
                  try clear hcz31_1
                  try clear hcz31_2
                  try clear hcz31_3
                  try clear hcz34_0
                  try clear hcz34_1
                  try clear hcz34_2
                  try clear hcz34_3
                  try clear hcz37_0
                  try clear hcz37_1
                  try clear hcz37_2
                  try clear hcz37_3
                  try clear hcz43_0
                  try clear hcz43_1
                  try clear hcz43_2
                  try clear hcz43_3
                  try clear hcz47_0
                  try clear hcz47_1
                  try clear hcz47_2
                  try clear hcz47_3
                  try clear hcz51_0
                  try clear hcz51_1
                  try clear hcz51_2
                  try clear hcz51_3
                  try clear hcz59_0
                  try clear hcz59_1
                  try clear hcz59_2
                  try clear hcz59_3
                  try clear hcz63_0
                  try clear hcz63_1
                  try clear hcz63_2
                  try clear hcz63_3
                  try clear hcz66_0
                  try clear hcz66_1
                  try clear hcz66_2
                  try clear hcz66_3
                  try clear hcz85_0
                  try clear hcz85_1
                  try clear hcz85_2
                  try clear hcz85_3
                  try clear hfz12_0
                  try clear hfz12_1
                  try clear hfz12_2
                  try clear hfz13_0
                  try clear hfz13_1
                  try clear hfz13_10
                  try clear hfz13_11
                  try clear hfz13_12
                  try clear hfz13_13
                  try clear hfz13_14
                  try clear hfz13_15
                  try clear hfz13_16
                  try clear hfz13_17
                  try clear hfz13_18
                  try clear hfz13_19
                  try clear hfz13_2
                  try clear hfz13_20
                  try clear hfz13_21
                  try clear hfz13_22
                  try clear hfz13_23
                  try clear hfz13_24
                  try clear hfz13_25
                  try clear hfz13_26
                  try clear hfz13_27
                  try clear hfz13_28
                  try clear hfz13_29
                  try clear hfz13_3
                  try clear hfz13_30
                  try clear hfz13_31
                  try clear hfz13_32
                  try clear hfz13_33
                  try clear hfz13_34
                  try clear hfz13_35
                  try clear hfz13_36
                  try clear hfz13_4
                  try clear hfz13_5
                  try clear hfz13_6
                  try clear hfz13_7
                  try clear hfz13_8
                  try clear hfz13_9
                  try clear hfz18_0
                  try clear hfz18_1
                  try clear hfz18_2
                  try clear hfz18_3
                  try clear hfz24_0
                  try clear hfz24_1
                  try clear hfz24_2
                  try clear hfz24_3
                  try clear hfz31_0
                  try clear hfz31_1
                  try clear hfz31_2
                  try clear hfz31_3
                  try clear hfz34_0
                  try clear hfz34_1
                  try clear hfz34_2
                  try clear hfz34_3
                  try clear hfz37_0
                  try clear hfz37_1
                  try clear hfz37_2
                  try clear hfz37_3
                  try clear hfz43_0
                  try clear hfz43_1
                  try clear hfz43_2
                  try clear hfz43_3
                  try clear hfz47_0
                  try clear hfz47_1
                  try clear hfz47_2
                  try clear hfz47_3
                  try clear hfz51_0
                  try clear hfz51_1
                  try clear hfz51_2
                  try clear hfz51_3
                  try clear hfz59_0
                  try clear hfz59_1
                  try clear hfz59_2
                  try clear hfz59_3
                  try clear hfz63_0
                  try clear hfz63_1
                  try clear hfz63_2
                  try clear hfz63_3
                  try clear hfz66_0
                  try clear hfz66_1
                  try clear hfz66_2
                  try clear hfz66_3
                  try clear hfz85_0
                  try clear hfz85_1
                  try clear hfz85_2
                  try clear hfz85_3
                  try clear hx117_0
                  try clear hx117_1
                  try clear hx117_2
                  try clear hx117_3
                  try clear hx121_0
                  try clear hx121_1
                  try clear hx122_0
                  try clear hx122_1
                  try clear hx123_0
                  try clear hx123_1
                  try clear hx123_2
                  try clear hx127_0
                  try clear hx128_0
                  try clear hx129_0
                  try clear hx130_0
                  try clear hx131_0
                  try clear p1
                  try clear p11
                  try clear p117
                  try clear p12
                  try clear p121
                  try clear p122
                  try clear p123
                  try clear p127
                  try clear p128
                  try clear p129
                  try clear p13
                  try clear p130
                  try clear p131
                  try clear p2
                  try clear p6
                  try clear p64
                  try clear q1
                  try clear q11
                  try clear q116
                  try clear q117
                  try clear q12
                  try clear q121
                  try clear q122
                  try clear q123
                  try clear q127
                  try clear q128
                  try clear q129
                  try clear q13
                  try clear q130
                  try clear q131
                  obtain ⟨kq, x20_81, rfl, HA, HJ81, HO_12, HO_116001, HO_116002, HO_116003, BK101, BK102, BK115, HB⟩ := hcut
                  cases kq with
                  | zero => exact absurd HA.out (by simp [shacklelaw08_VersOnce.j7])
                  | succ kj81 =>
                   have H := HA.out
                   clear HA
                   simp only [shacklelaw08_VersOnce.j7] at H
                   have H' := Aside0.mk H
                   clear H
                   go_wp2
                   repeat (go_quiet (fail); try go_wp2)
                   go_loopg [20, 21] kj81 (fun kq v20 v21 w' => ∃ (x20_7 : Bool) (x21_7 : Int), v20 = .bool x20_7 ∧ v21 = .int .i64 x21_7 ∧ Aside0 (shacklelaw08_VersOnce.l6 kq a3 t103 x12_3 x18_5 (Int.tmod (rd t105 x18_5) 32768) x20_7 x21_7 t104 t105 t108 t111 = some r) ∧ Aside0 (kq ≤ kj81) ∧ Aside0 (Kd.R (Kd.int .i64) 3 w' w.heap.size (fun k_ => some k_ ≠ ((.slice (some ad131) t105.length co19) : Value).ownBlock) (.slice Ao79 x12_3.length co79) x12_3) ∧ Aside0 (Kd.R (Kd.int .i64) 3 w' w.heap.size (fun k_ => some k_ ≠ ((.slice Ao79 x12_3.length co79) : Value).ownBlock) (.slice (some ad131) t105.length co19) t105) ∧ Aside0 (Kd.R k63 63 w' w.heap.size (fun _ => True) (.slice Ao20 t108.length co20) t108) ∧ Aside0 (Kd.R k66 66 w' w.heap.size (fun _ => True) (.slice Ao21 t111.length co21) t111) ∧ Aside0 (w'.heap[gb101]? = some (.cells #[.int .i64 a1_0, .int .u64 a1_1, (.slice A1_2 l1_2.length c1_2)] 32 (0, 0))) ∧ Aside0 (w'.heap[gb102]? = some (.cells #[(.slice A2_0 l2_0.length c2_0), .int .u64 a2_1, .int .u64 a2_2, .int .u64 a2_3, .int .u64 a2_4, .int .u64 a2_5, .int .u64 a2_6, .int .u64 a2_7, .int .u64 a2_8, .int .u64 a2_9, .int .u64 a2_10, .int .u64 a2_11, .int .u64 a2_12, .int .u64 a2_13, .bool a2_14, .bool a2_15, .bool a2_16, .int .u64 a2_17, .int .u64 a2_18, .int .u64 a2_19, .int .u64 a2_20, .int .u64 a2_21, .int .u64 a2_22, .int .u64 a2_23, .int .u64 a2_24, .int .u64 a2_25, .int .u64 a2_26, .int .u64 a2_27, .int .u64 a2_28, .int .u64 a2_29, .int .u64 a2_30, .int .u64 a2_31, .bool a2_32, .bool a2_33, .bool a2_34, .bool a2_35, .bool a2_36] 35 (0, 0))) ∧ Aside0 (w'.heap[gb115]? = some (.cells #[.bool t104, (.slice (some ad131) t105.length co19), (.slice Ao20 t108.length co20), (.slice Ao21 t111.length co21)] 54 (0, 0))) ∧ Aside0 (Below w.heap.size w w'))
                   case atStart => exact ⟨(x20_81), (0), (by first | rfl | (simp; done) | (simp [*]; done)), (by first | rfl | (simp; done) | (simp [*]; done)), H', ⟨Nat.le_refl _⟩, ⟨by (with_reducible repeat (first | apply Kd.R_alloc | apply Kd.R_drewN | apply Kd.R_drew)); exact HO_12.out⟩, ⟨by (with_reducible repeat (first | apply Kd.R_alloc | apply Kd.R_drewN | apply Kd.R_drew)); exact HO_116001.out⟩, ⟨by (with_reducible repeat (first | apply Kd.R_alloc | apply Kd.R_drewN | apply Kd.R_drew)); exact HO_116002.out⟩, ⟨by (with_reducible repeat (first | apply Kd.R_alloc | apply Kd.R_drewN | apply Kd.R_drew)); exact HO_116003.out⟩, ⟨by (with_reducible repeat (first | refine blk_drewN ?_ _ | refine blk_drew ?_ | refine blk_alloc ?_ _)); exact BK101.out⟩, ⟨by (with_reducible repeat (first | refine blk_drewN ?_ _ | refine blk_drew ?_ | refine blk_alloc ?_ _)); exact BK102.out⟩, ⟨by (with_reducible repeat (first | refine blk_drewN ?_ _ | refine blk_drew ?_ | refine blk_alloc ?_ _)); exact BK115.out⟩, ⟨by repeat (first | (with_reducible first | exact HB.out | apply below_alloc | apply pw_below_drewN | apply below_drew1 | refine below_set ?_ GE101.out | refine below_set ?_ GE102.out | refine below_set ?_ GE115.out) | exact HB.out)⟩⟩
                   case round =>
                    clear H'
                    try clear c1
                    try clear p1
                    try clear q1
                    try clear hx1
                    try clear c2
                    try clear p2
                    try clear c3
                    try clear c4
                    try clear c5
                    try clear c6
                    try clear p6
                    try clear c7
                    try clear c8
                    try clear c11
                    try clear p11
                    try clear q11
                    try clear hx11
                    try clear c12
                    try clear p12
                    try clear q12
                    try clear hx12
                    try clear p13
                    try clear q13
                    try clear hx13
                    try clear c16
                    try clear c17
                    try clear c22
                    try clear c23
                    try clear c25
                    try clear c26
                    try clear c27
                    try clear c27b0
                    try clear c27b1
                    try clear c27b2
                    try clear c28
                    try clear c28b0
                    try clear c28b1
                    try clear c28b2
                    try clear c29
                    try clear c30
                    try clear c32
                    try clear c33
                    try clear c35
                    try clear c36
                    try clear c38
                    try clear c38b0
                    try clear c39
                    try clear c39b0
                    try clear c40
                    try clear c41
                    try clear c42
                    try clear c45
                    try clear c46
                    try clear c48
                    try clear c48b0
                    try clear c49
                    try clear c50
                    try clear c52
                    try clear c52b0
                    try clear c53
                    try clear c53b0
                    try clear c54
                    try clear c54b0
                    try clear c55
                    try clear c55b0
                    try clear c56
                    try clear c57
                    try clear c58
                    try clear c61
                    try clear c62
                    try clear c64
                    try clear p64
                    try clear c65
                    try clear c67
                    try clear c67b0
                    try clear c69
                    try clear c69b0
                    try clear c70
                    try clear c70b0
                    try clear c71
                    try clear c71b0
                    try clear c72
                    try clear c72b0
                    try clear c73
                    try clear c73b0
                    try clear c74
                    try clear c74b0
                    try clear c74b1
                    try clear c75
                    try clear c75b0
                    try clear c76
                    try clear c76b0
                    try clear c77
                    try clear c77b0
                    try clear c78
                    try clear c78b0
                    try clear c80
                    try clear c80b0
                    try clear c81
                    try clear c81b0
                    try clear c83
                    try clear c84
                    try clear c86
                    try clear c86b0
                    try clear c86b1
                    try clear hcz12_0
                    try clear hcz12_1
                    try clear hcz12_2
                    try clear hcz13_0
                    try clear hcz13_1
                    try clear hcz13_10
                    try clear hcz13_11
                    try clear hcz13_12
                    try clear hcz13_13
                    try clear hcz13_14
                    try clear hcz13_15
                    try clear hcz13_16
                    try clear hcz13_17
                    try clear hcz13_18
                    try clear hcz13_19
                    try clear hcz13_2
                    try clear hcz13_20
                    try clear hcz13_21
                    try clear hcz13_22
                    try clear hcz13_23
                    try clear hcz13_24
                    try clear hcz13_25
                    try clear hcz13_26
                    try clear hcz13_27
                    try clear hcz13_28
                    try clear hcz13_29
                    try clear hcz13_3
                    try clear hcz13_30
                    try clear hcz13_31
                    try clear hcz13_32
                    try clear hcz13_33
                    try clear hcz13_34
                    try clear hcz13_35
                    try clear hcz13_36
                    try clear hcz13_4
                    try clear hcz13_5
                    try clear hcz13_6
                    try clear hcz13_7
                    try clear hcz13_8
                    try clear hcz13_9
                    try clear hcz18_0
                    try clear hcz18_1
                    try clear hcz18_2
                    try clear hcz18_3
                    try clear hcz24_0
                    try clear hcz24_1
                    try clear hcz24_2
                    try clear hcz24_3
                    try clear hcz31_0
                    try clear hcz31_1
                    try clear hcz31_2
                    try clear hcz31_3
                    try clear hcz34_0
                    try clear hcz34_1
                    try clear hcz34_2
                    try clear hcz34_3
                    try clear hcz37_0
                    try clear hcz37_1
                    try clear hcz37_2
                    try clear hcz37_3
                    try clear hcz43_0
                    try clear hcz43_1
                    try clear hcz43_2
                    try clear hcz43_3
                    try clear hcz47_0
                    try clear hcz47_1
                    try clear hcz47_2
                    try clear hcz47_3
                    try clear hcz51_0
                    try clear hcz51_1
                    try clear hcz51_2
                    try clear hcz51_3
                    try clear hcz59_0
                    try clear hcz59_1
                    try clear hcz59_2
                    try clear hcz59_3
                    try clear hcz63_0
                    try clear hcz63_1
                    try clear hcz63_2
                    try clear hcz63_3
                    try clear hcz66_0
                    try clear hcz66_1
                    try clear hcz66_2
                    try clear hcz66_3
                    try clear hcz85_0
                    try clear hcz85_1
                    try clear hcz85_2
                    try clear hcz85_3
                    try clear hfz12_0
                    try clear hfz12_1
                    try clear hfz12_2
                    try clear hfz13_0
                    try clear hfz13_1
                    try clear hfz13_10
                    try clear hfz13_11
                    try clear hfz13_12
                    try clear hfz13_13
                    try clear hfz13_14
                    try clear hfz13_15
                    try clear hfz13_16
                    try clear hfz13_17
                    try clear hfz13_18
                    try clear hfz13_19
                    try clear hfz13_2
                    try clear hfz13_20
                    try clear hfz13_21
                    try clear hfz13_22
                    try clear hfz13_23
                    try clear hfz13_24
                    try clear hfz13_25
                    try clear hfz13_26
                    try clear hfz13_27
                    try clear hfz13_28
                    try clear hfz13_29
                    try clear hfz13_3
                    try clear hfz13_30
                    try clear hfz13_31
                    try clear hfz13_32
                    try clear hfz13_33
                    try clear hfz13_34
                    try clear hfz13_35
                    try clear hfz13_36
                    try clear hfz13_4
                    try clear hfz13_5
                    try clear hfz13_6
                    try clear hfz13_7
                    try clear hfz13_8
                    try clear hfz13_9
                    try clear hfz18_0
                    try clear hfz18_1
                    try clear hfz18_2
                    try clear hfz18_3
                    try clear hfz24_0
                    try clear hfz24_1
                    try clear hfz24_2
                    try clear hfz24_3
                    try clear hfz31_0
                    try clear hfz31_1
                    try clear hfz31_2
                    try clear hfz31_3
                    try clear hfz34_0
                    try clear hfz34_1
                    try clear hfz34_2
                    try clear hfz34_3
                    try clear hfz37_0
                    try clear hfz37_1
                    try clear hfz37_2
                    try clear hfz37_3
                    try clear hfz43_0
                    try clear hfz43_1
                    try clear hfz43_2
                    try clear hfz43_3
                    try clear hfz47_0
                    try clear hfz47_1
                    try clear hfz47_2
                    try clear hfz47_3
                    try clear hfz51_0
                    try clear hfz51_1
                    try clear hfz51_2
                    try clear hfz51_3
                    try clear hfz59_0
                    try clear hfz59_1
                    try clear hfz59_2
                    try clear hfz59_3
                    try clear hfz63_0
                    try clear hfz63_1
                    try clear hfz63_2
                    try clear hfz63_3
                    try clear hfz66_0
                    try clear hfz66_1
                    try clear hfz66_2
                    try clear hfz66_3
                    try clear hfz85_0
                    try clear hfz85_1
                    try clear hfz85_2
                    try clear hfz85_3
                    try clear hx117_0
                    try clear hx117_1
                    try clear hx117_2
                    try clear hx117_3
                    try clear hx121_0
                    try clear hx121_1
                    try clear hx122_0
                    try clear hx122_1
                    try clear hx123_0
                    try clear hx123_1
                    try clear hx123_2
                    try clear hx127_0
                    try clear hx128_0
                    try clear hx129_0
                    try clear hx130_0
                    try clear hx131_0
                    try clear p1
                    try clear p11
                    try clear p117
                    try clear p12
                    try clear p121
                    try clear p122
                    try clear p123
                    try clear p127
                    try clear p128
                    try clear p129
                    try clear p13
                    try clear p130
                    try clear p131
                    try clear p2
                    try clear p6
                    try clear p64
                    try clear q1
                    try clear q11
                    try clear q116
                    try clear q117
                    try clear q12
                    try clear q121
                    try clear q122
                    try clear q123
                    try clear q127
                    try clear q128
                    try clear q129
                    try clear q13
                    try clear q130
                    try clear q131
                    obtain ⟨x20_7, x21_7, rfl, rfl, HA, HK7, HO_12, HO_116001, HO_116002, HO_116003, BK101, BK102, BK115, HB⟩ := hrel
                    cases gk with
                    | zero => exact absurd HA.out (by simp [shacklelaw08_VersOnce.l6])
                    | succ k7 =>
                     have H := HA.out
                     clear HA
                     simp only [shacklelaw08_VersOnce.l6] at H
                     by_cases c87 : x21_7 < (x12_3.length : Int)
                     ·rw [if_pos c87] at H
                      have c87b0 : decide (x21_7 < (x12_3.length : Int)) = true := decide_eq_true c87
                      clear c87
                      by_cases c88 : x20_7 = true
                      ·subst c88
                       have H1 : (shacklelaw08_VersOnce.l6 k7 a3 t103 x12_3 x18_5 (Int.tmod (rd t105 x18_5) 32768) true (wrap64 (x21_7 + 1)) t104 t105 t108 t111) = some r := by rw [if_pos rfl] at H; exact H
                       clear H
                       have H := H1
                       clear H1
                       have H' := Aside0.mk H
                       clear H
                       go_wp2
                       repeat (go_quiet (fail); try go_wp2)
                       go_roundg k7
                       case measure => have := HJ6.out; have := HK2.out; have := HK3.out; have := HK4.out; have := HK5.out; have := HJ81.out; have := HK7.out; omega
                       case rel => exact ⟨(true), (wrap64 (x21_7 + 1)), (by first | rfl | (simp; done) | (simp [*]; done)), (by first | rfl | (simp; done) | (simp [*]; done)), H', ⟨by have := HJ6.out; have := HK2.out; have := HK3.out; have := HK4.out; have := HK5.out; have := HJ81.out; have := HK7.out; omega⟩, ⟨by (with_reducible repeat (first | apply Kd.R_alloc | apply Kd.R_drewN | apply Kd.R_drew)); exact HO_12.out⟩, ⟨by (with_reducible repeat (first | apply Kd.R_alloc | apply Kd.R_drewN | apply Kd.R_drew)); exact HO_116001.out⟩, ⟨by (with_reducible repeat (first | apply Kd.R_alloc | apply Kd.R_drewN | apply Kd.R_drew)); exact HO_116002.out⟩, ⟨by (with_reducible repeat (first | apply Kd.R_alloc | apply Kd.R_drewN | apply Kd.R_drew)); exact HO_116003.out⟩, ⟨by (with_reducible repeat (first | refine blk_drewN ?_ _ | refine blk_drew ?_ | refine blk_alloc ?_ _)); exact BK101.out⟩, ⟨by (with_reducible repeat (first | refine blk_drewN ?_ _ | refine blk_drew ?_ | refine blk_alloc ?_ _)); exact BK102.out⟩, ⟨by (with_reducible repeat (first | refine blk_drewN ?_ _ | refine blk_drew ?_ | refine blk_alloc ?_ _)); exact BK115.out⟩, ⟨by repeat (first | (with_reducible first | exact HB.out | apply below_alloc | apply pw_below_drewN | apply below_drew1 | refine below_set ?_ GE101.out | refine below_set ?_ GE102.out | refine below_set ?_ GE115.out) | exact HB.out)⟩⟩
                      ·replace c88 := Bool.eq_false_iff.mpr c88
                       subst c88
                       have H1 : (if 0 ≤ x21_7 then (shacklelaw08_VersOnce.l6 k7 a3 t103 x12_3 x18_5 (Int.tmod (rd t105 x18_5) 32768) ((rd x12_3 x21_7) == (Int.tmod (rd t105 x18_5) 32768)) (wrap64 (x21_7 + 1)) t104 t105 t108 t111) else (none)) = some r := by rw [if_neg (show ¬ (false = true) by decide)] at H; exact H
                       clear H
                       have H := H1
                       clear H1
                       by_cases c89 : 0 ≤ x21_7
                       ·rw [if_pos c89] at H
                        have c89b0 : decide (0 ≤ x21_7) = true := decide_eq_true c89
                        clear c89
                        have H' := Aside0.mk H
                        clear H
                        have p132 : 0 ≤ (x21_7 : Int) := of_decide_eq_true (by assumption)
                        have q132 : x21_7 < (x12_3.length : Int) := of_decide_eq_true (by assumption)
                        obtain ⟨ad132, e132, hx132_0⟩ := Kd.at_int (Kd.R_reads' HO_12.out).2.2 x21_7 p132 q132
                        cases e132
                        replace p132 := eq_true p132
                        replace q132 := eq_true q132
                        go_wp2
                        repeat (go_quiet (fail); try go_wp2)
                        go_roundg k7
                        case measure => have := HJ6.out; have := HK2.out; have := HK3.out; have := HK4.out; have := HK5.out; have := HJ81.out; have := HK7.out; omega
                        case rel => exact ⟨(((rd x12_3 x21_7) == (Int.tmod (rd t105 x18_5) 32768))), (wrap64 (x21_7 + 1)), (by first | rfl | (simp; done) | (simp [*]; done)), (by first | rfl | (simp; done) | (simp [*]; done)), H', ⟨by have := HJ6.out; have := HK2.out; have := HK3.out; have := HK4.out; have := HK5.out; have := HJ81.out; have := HK7.out; omega⟩, ⟨by (with_reducible repeat (first | apply Kd.R_alloc | apply Kd.R_drewN | apply Kd.R_drew)); exact HO_12.out⟩, ⟨by (with_reducible repeat (first | apply Kd.R_alloc | apply Kd.R_drewN | apply Kd.R_drew)); exact HO_116001.out⟩, ⟨by (with_reducible repeat (first | apply Kd.R_alloc | apply Kd.R_drewN | apply Kd.R_drew)); exact HO_116002.out⟩, ⟨by (with_reducible repeat (first | apply Kd.R_alloc | apply Kd.R_drewN | apply Kd.R_drew)); exact HO_116003.out⟩, ⟨by (with_reducible repeat (first | refine blk_drewN ?_ _ | refine blk_drew ?_ | refine blk_alloc ?_ _)); exact BK101.out⟩, ⟨by (with_reducible repeat (first | refine blk_drewN ?_ _ | refine blk_drew ?_ | refine blk_alloc ?_ _)); exact BK102.out⟩, ⟨by (with_reducible repeat (first | refine blk_drewN ?_ _ | refine blk_drew ?_ | refine blk_alloc ?_ _)); exact BK115.out⟩, ⟨by repeat (first | (with_reducible first | exact HB.out | apply below_alloc | apply pw_below_drewN | apply below_drew1 | refine below_set ?_ GE101.out | refine below_set ?_ GE102.out | refine below_set ?_ GE115.out) | exact HB.out)⟩⟩
                       ·rw [if_neg c89] at H
                        exact absurd H (by simp)
                     ·rw [if_neg c87] at H
                      have c87b0 : decide (x21_7 < (x12_3.length : Int)) = false := decide_eq_false c87
                      clear c87
                      by_cases c90 : x20_7 = true
                      ·subst c90
                       have H1 : (shacklelaw08_VersOnce.l5 k7 a3 t103 x12_3 (wrap64 (x18_5 + 1)) t104 t105 t108 t111) = some r := by rw [if_pos rfl] at H; exact H
                       clear H
                       have H := H1
                       clear H1
                       have H' := Aside0.mk H
                       clear H
                       go_wp2
                       repeat (go_quiet (fail); try go_wp2)
                       go_roundg k7
                       case measure => have := HJ6.out; have := HK2.out; have := HK3.out; have := HK4.out; have := HK5.out; have := HJ81.out; have := HK7.out; omega
                       case rel => exact ⟨(wrap64 (x18_5 + 1)), (by first | rfl | (simp; done) | (simp [*]; done)), H', ⟨by have := HJ6.out; have := HK2.out; have := HK3.out; have := HK4.out; have := HK5.out; have := HJ81.out; have := HK7.out; omega⟩, ⟨by (with_reducible repeat (first | apply Kd.R_alloc | apply Kd.R_drewN | apply Kd.R_drew)); exact HO_12.out⟩, ⟨by (with_reducible repeat (first | apply Kd.R_alloc | apply Kd.R_drewN | apply Kd.R_drew)); exact HO_116001.out⟩, ⟨by (with_reducible repeat (first | apply Kd.R_alloc | apply Kd.R_drewN | apply Kd.R_drew)); exact HO_116002.out⟩, ⟨by (with_reducible repeat (first | apply Kd.R_alloc | apply Kd.R_drewN | apply Kd.R_drew)); exact HO_116003.out⟩, ⟨by (with_reducible repeat (first | refine blk_drewN ?_ _ | refine blk_drew ?_ | refine blk_alloc ?_ _)); exact BK101.out⟩, ⟨by (with_reducible repeat (first | refine blk_drewN ?_ _ | refine blk_drew ?_ | refine blk_alloc ?_ _)); exact BK102.out⟩, ⟨by (with_reducible repeat (first | refine blk_drewN ?_ _ | refine blk_drew ?_ | refine blk_alloc ?_ _)); exact BK115.out⟩, ⟨by repeat (first | (with_reducible first | exact HB.out | apply below_alloc | apply pw_below_drewN | apply below_drew1 | refine below_set ?_ GE101.out | refine below_set ?_ GE102.out | refine below_set ?_ GE115.out) | exact HB.out)⟩⟩
                      ·replace c90 := Bool.eq_false_iff.mpr c90
                       subst c90
                       have H1 : (some false) = some r := by rw [if_neg (show ¬ (false = true) by decide)] at H; exact H
                       clear H
                       have H := H1
                       clear H1
                       obtain rfl := Option.some.inj H
                       go_wp2
                       repeat (go_quiet (fail); try go_wp2)
                       go_ret
                       exact ⟨by first | rfl | (simp [errW_none, errW_some] <;> rfl) | (simp [*, errW_none, errW_some] <;> rfl), by repeat (first | (with_reducible first | exact HB.out | apply below_alloc | apply pw_below_drewN | apply below_drew1 | refine below_set ?_ GE101.out | refine below_set ?_ GE102.out | refine below_set ?_ GE115.out) | exact HB.out)⟩
                ·rw [if_neg c81] at H
                 exact absurd H (by simp)
               ·rw [if_neg c80] at H
                have c80b0 : decide (x18_5 < (t105.length : Int)) = false := decide_eq_false c80
                clear c80
                by_cases c91 : t103 = true
                ·subst c91
                 have H1 : (some ((t105.length : Int) == a3)) = some r := by rw [if_pos rfl] at H; exact H
                 clear H
                 have H := H1
                 clear H1
                 obtain rfl := Option.some.inj H
                 have hnb92 := NB115_101.out
                 have hnc92 := NB101_115.out
                 have hnb93 := NB115_102.out
                 have hnc93 := NB102_115.out
                 have hcz94_0 : wr.cell? ⟨gb115, 0, none⟩ = some (.bool t104) := (blk_cell BK115.out 0).trans rfl
                 have hcz94_1 : wr.cell? ⟨gb115, 1, none⟩ = some (.slice Ao19 t105.length co19) := (blk_cell BK115.out 1).trans rfl
                 have hcz94_2 : wr.cell? ⟨gb115, 2, none⟩ = some (.slice Ao20 t108.length co20) := (blk_cell BK115.out 2).trans rfl
                 have hcz94_3 : wr.cell? ⟨gb115, 3, none⟩ = some (.slice Ao21 t111.length co21) := (blk_cell BK115.out 3).trans rfl
                 have hfz94_0 := blk_frozen BK115.out 0
                 have hfz94_1 := blk_frozen BK115.out 1
                 have hfz94_2 := blk_frozen BK115.out 2
                 have hfz94_3 := blk_frozen BK115.out 3
                 go_wp2
                 repeat (go_quiet (fail); try go_wp2)
                 go_ret
                 exact ⟨by first | rfl | (simp [errW_none, errW_some] <;> rfl) | (simp [*, errW_none, errW_some] <;> rfl), by repeat (first | (with_reducible first | exact HB.out | apply below_alloc | apply pw_below_drewN | apply below_drew1 | refine below_set ?_ GE101.out | refine below_set ?_ GE102.out | refine below_set ?_ GE115.out) | exact HB.out)⟩
                ·replace c91 := Bool.eq_false_iff.mpr c91
                 subst c91
                 have H1 : (some false) = some r := by rw [if_neg (show ¬ (false = true) by decide)] at H; exact H
                 clear H
                 have H := H1
                 clear H1
                 obtain rfl := Option.some.inj H
                 have hnb95 := NB115_101.out
                 have hnc95 := NB101_115.out
                 have hnb96 := NB115_102.out
                 have hnc96 := NB102_115.out
                 have hcz97_0 : wr.cell? ⟨gb115, 0, none⟩ = some (.bool t104) := (blk_cell BK115.out 0).trans rfl
                 have hcz97_1 : wr.cell? ⟨gb115, 1, none⟩ = some (.slice Ao19 t105.length co19) := (blk_cell BK115.out 1).trans rfl
                 have hcz97_2 : wr.cell? ⟨gb115, 2, none⟩ = some (.slice Ao20 t108.length co20) := (blk_cell BK115.out 2).trans rfl
                 have hcz97_3 : wr.cell? ⟨gb115, 3, none⟩ = some (.slice Ao21 t111.length co21) := (blk_cell BK115.out 3).trans rfl
                 have hfz97_0 := blk_frozen BK115.out 0
                 have hfz97_1 := blk_frozen BK115.out 1
                 have hfz97_2 := blk_frozen BK115.out 2
                 have hfz97_3 := blk_frozen BK115.out 3
                 go_wp2
                 repeat (go_quiet (fail); try go_wp2)
                 go_ret
                 exact ⟨by first | rfl | (simp [errW_none, errW_some] <;> rfl) | (simp [*, errW_none, errW_some] <;> rfl), by repeat (first | (with_reducible first | exact HB.out | apply below_alloc | apply pw_below_drewN | apply below_drew1 | refine below_set ?_ GE101.out | refine below_set ?_ GE102.out | refine below_set ?_ GE115.out) | exact HB.out)⟩
end Go.Proofs.Ythopdoamajjojaa.QVersW
