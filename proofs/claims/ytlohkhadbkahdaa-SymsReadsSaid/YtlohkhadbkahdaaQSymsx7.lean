-- Laid by wip/hook.py (this session's own program) out of the translation; with contracts that were written by hand.
import Derived.Test.YtlohkhadbkahdaaQSymsx0
namespace Go.Proofs.Ytlohkhadbkahdaa.QSyms
open Go.RowKit Go.Proofs.YtlohkhadbkahdaaW.PrintWords Go.Proofs.YtlohkhadbkahdaaW.PrintLast Go.Proofs.YtlohkhadbkahdaaW.PrintMore
attribute [local go_sem] max2_int min2_int max_two min_two max_three min_three max_four min_four   -- for this text's walks alone
set_option linter.unusedVariables false
set_option linter.unusedSimpArgs false

attribute [local go_sem] eqErr_ii neErr_ii eqErr_ni neErr_ni
/-! ### shackleref06_Text: function 15 -/
mutual
def shackleref06_Text.j1 : Nat → List Int → Int → Int → Option (ByteArray × Int)
 | 0, _, _, _ => none
 | k + 1, x0, x1, x6 => if x6 = (IntKind.u64.wrap ((x0.length : Int))) then (some ((⟨#[]⟩ : ByteArray), 4)) else (if (IntKind.u64.wrap (x6 - x1)) > 255 then (some ((⟨#[]⟩ : ByteArray), 2)) else (if 0 ≤ x1 then (if x1 ≤ x6 then (if x6 ≤ (x0.length : Int) then (some (strOfNums ((x0.take (x6 : Int).toNat).drop (x1 : Int).toNat), 0)) else (none)) else (none)) else (none)))
def shackleref06_Text.l0 : Nat → List Int → Int → Int → Option (ByteArray × Int)
 | 0, _, _, _ => none
 | k + 1, x0, x1, x6 => if x6 < (IntKind.u64.wrap ((x0.length : Int))) then (if 0 ≤ x6 then (if x6 < (x0.length : Int) then (if (rd x0 x6) = 0 then (shackleref06_Text.j1 k x0 x1 x6) else (shackleref06_Text.l0 k x0 x1 (IntKind.u64.wrap (x6 + 1)))) else (none)) else (none)) else (shackleref06_Text.j1 k x0 x1 x6)
end
def shackleref06_Text.f (k : Nat) (l0 : List Int) (a1 : Int) : Option (ByteArray × Int) := if a1 ≥ (IntKind.u64.wrap ((l0.length : Int))) then (some ((⟨#[]⟩ : ByteArray), 4)) else (shackleref06_Text.l0 k l0 a1 a1)
theorem shackleref06_Text.mono_l : ∀ k, (∀ y0 y1 y2, LeO (shackleref06_Text.j1 k y0 y1 y2) (shackleref06_Text.j1 (k + 1) y0 y1 y2)) ∧ (∀ y0 y1 y2, LeO (shackleref06_Text.l0 k y0 y1 y2) (shackleref06_Text.l0 (k + 1) y0 y1 y2))
 | 0 => ⟨fun _ _ _ r h => by simp [shackleref06_Text.j1] at h, fun _ _ _ r h => by simp [shackleref06_Text.l0] at h⟩
 | k + 1 => by
  obtain ⟨ih0, ih1⟩ := shackleref06_Text.mono_l k
  refine ⟨?_, ?_⟩
  ·intro y0 y1 y2
   unfold shackleref06_Text.j1
   repeat' first
   | (with_reducible exact ih0 _ _ _)
   | (with_reducible exact ih1 _ _ _)
   | (with_reducible exact LeO.refl _)
   | (with_reducible exact LeO.none _)
   | (with_reducible refine LeO.ite ?_ ?_)
   | (with_reducible refine LeO.bind ?_ (fun _ => ?_))
   | exact ih0 _ _ _
   | exact ih1 _ _ _
   | exact LeO.none _
   | refine LeO.ite ?_ ?_
   | refine LeO.bind ?_ (fun _ => ?_)
  ·intro y0 y1 y2
   unfold shackleref06_Text.l0
   repeat' first
   | (with_reducible exact ih0 _ _ _)
   | (with_reducible exact ih1 _ _ _)
   | (with_reducible exact LeO.refl _)
   | (with_reducible exact LeO.none _)
   | (with_reducible refine LeO.ite ?_ ?_)
   | (with_reducible refine LeO.bind ?_ (fun _ => ?_))
   | exact ih0 _ _ _
   | exact ih1 _ _ _
   | exact LeO.none _
   | refine LeO.ite ?_ ?_
   | refine LeO.bind ?_ (fun _ => ?_)
theorem shackleref06_Text.mono : ∀ a0 a1 k, LeO (shackleref06_Text.f k a0 a1) (shackleref06_Text.f (k + 1) a0 a1) := by
 intro a0 a1 k
 obtain ⟨ih0, ih1⟩ := shackleref06_Text.mono_l k
 unfold shackleref06_Text.f
 repeat' first
   | (with_reducible exact ih0 _ _ _)
   | (with_reducible exact ih1 _ _ _)
   | (with_reducible exact LeO.refl _)
   | (with_reducible exact LeO.none _)
   | (with_reducible refine LeO.ite ?_ ?_)
   | (with_reducible refine LeO.bind ?_ (fun _ => ?_))
   | exact ih0 _ _ _
   | exact ih1 _ _ _
   | exact LeO.none _
   | refine LeO.ite ?_ ?_
   | refine LeO.bind ?_ (fun _ => ?_)
set_option maxHeartbeats 8000000 in
set_option maxRecDepth 100000 in
theorem shackleref06_Text.calls (k : Nat) (A0 : Option Addr) (c0 : Nat) (l0 : List Int) (a1 : Int) (r1 : ByteArray) (r2 : Int) (w : World) (hr0 : Kd.C (Kd.int .u8) w A0 l0.length l0) (hc0 : l0.length ≤ c0) (h : shackleref06_Text.f k l0 a1 = some (r1, r2)) :
  Calls Try.prog 15 #[.slice A0 l0.length c0, .int .u64 a1] w fun e w' => e = .returned (.tuple #[.string r1, .int .i64 r2]) ∧ Drawn0 w w' := by
 have HR0 := Aside0.mk hr0
 have HC0 := Aside0.mk hc0
 clear hr0 hc0
 have H : (if a1 ≥ (IntKind.u64.wrap ((l0.length : Int))) then (some ((⟨#[]⟩ : ByteArray), 4)) else (shackleref06_Text.l0 k l0 a1 a1)) = some (r1, r2) := h
 clear h
 by_cases c3 : a1 ≥ (IntKind.u64.wrap ((l0.length : Int)))
 ·rw [if_pos c3] at H
  have c3b0 : decide ((IntKind.u64.wrap ((l0.length : Int))) ≤ a1) = true := decide_eq_true c3
  clear c3
  simp only [Option.some.injEq, Prod.mk.injEq] at H
  obtain ⟨rfl, rfl⟩ := H
  go_enter Try.func15, Try.ntmps15
  go_wp2
  go_ret2
  exact ⟨by first | rfl | (simp; done) | (simp [*]; done), by repeat (first | exact Drawn0.refl _ | apply Drawn0.step)⟩
 ·rw [if_neg c3] at H
  have c3b0 : decide ((IntKind.u64.wrap ((l0.length : Int))) ≤ a1) = false := decide_eq_false c3
  clear c3
  have HC4 := Aside0.mk H
  clear H
  go_enter Try.func15, Try.ntmps15
  go_upto_block 0 with (fail)
  go_cut [6] (fun v6 wc => ∃ (kq : Nat) (x6_3 : Int), v6 = .int .u64 x6_3 ∧ Aside0 (shackleref06_Text.j1 kq l0 a1 x6_3 = some (r1, r2)) ∧ Aside0 (kq ≤ k) ∧ Drawn0 w wc)
  case first =>
   have H := HC4.out
   clear HC4
   have H' := Aside0.mk H
   clear H
   go_wp2
   go_loopg [6] k (fun kq v6 w' => ∃ (x6_1 : Int), v6 = .int .u64 x6_1 ∧ Aside0 (shackleref06_Text.l0 kq l0 a1 x6_1 = some (r1, r2)) ∧ Aside0 (kq ≤ k) ∧ Drawn0 w w')
   case atStart => exact ⟨(a1), (by first | rfl | (simp; done) | (simp [*]; done)), H', ⟨Nat.le_refl _⟩, by repeat (first | exact Drawn0.refl _ | apply Drawn0.step)⟩
   case round =>
    clear H'
    try clear c1
    try clear p2
    try clear c3
    try clear c3b0
    obtain ⟨x6_1, rfl, HA, HK1, ⟨m1, rfl⟩⟩ := hrel
    cases gk with
    | zero => exact absurd HA.out (by simp [shackleref06_Text.l0])
    | succ k1 =>
     have H := HA.out
     clear HA
     simp only [shackleref06_Text.l0] at H
     by_cases c5 : x6_1 < (IntKind.u64.wrap ((l0.length : Int)))
     ·rw [if_pos c5] at H
      have c5b0 : decide (x6_1 < (IntKind.u64.wrap ((l0.length : Int)))) = true := decide_eq_true c5
      clear c5
      (first | rw [c5b0] | (simp only [i64_w, i32_w]; rw [c5b0]) | skip)
      by_cases c6 : 0 ≤ x6_1
      ·rw [if_pos c6] at H
       have c6b0 : decide (0 ≤ x6_1) = true := decide_eq_true c6
       clear c6
       by_cases c7 : x6_1 < (l0.length : Int)
       ·rw [if_pos c7] at H
        have c7b0 : decide (x6_1 < (l0.length : Int)) = true := decide_eq_true c7
        clear c7
        by_cases c8 : (rd l0 x6_1) = 0
        ·rw [if_pos c8] at H
         have c8b0 : ((rd l0 x6_1) == 0) = true := beq_iff_eq.mpr c8
         have c8b1 : ((rd l0 x6_1) != 0) = false := bne_eq_false_iff_eq.mpr c8
         clear c8
         have H' := Aside0.mk H
         clear H
         have p216 : 0 ≤ (x6_1 : Int) := of_decide_eq_true (by assumption)
         have q216 : x6_1 < (l0.length : Int) := of_decide_eq_true (by assumption)
         obtain ⟨ad216, e216, hx216_0⟩ := Kd.at_int HR0.out x6_1 p216 q216
         cases e216
         replace p216 := eq_true p216
         replace q216 := eq_true q216
         go_wp2
         go_meet
         case rel => exact ⟨_, (x6_1), (by first | rfl | (simp; done) | (simp [*]; done)), H', ⟨by have := HK1.out; first | omega | exact Nat.le_refl _⟩, by repeat (first | exact Drawn0.refl _ | apply Drawn0.step)⟩
        ·rw [if_neg c8] at H
         have c8b0 : ((rd l0 x6_1) == 0) = false := beq_eq_false_iff_ne.mpr c8
         have c8b1 : ((rd l0 x6_1) != 0) = true := bne_iff_ne.mpr c8
         have H' := Aside0.mk H
         clear H
         have p216 : 0 ≤ (x6_1 : Int) := of_decide_eq_true (by assumption)
         have q216 : x6_1 < (l0.length : Int) := of_decide_eq_true (by assumption)
         obtain ⟨ad216, e216, hx216_0⟩ := Kd.at_int HR0.out x6_1 p216 q216
         cases e216
         replace p216 := eq_true p216
         replace q216 := eq_true q216
         go_wp2
         go_roundg k1
         case measure => have := HK1.out; omega
         case rel => exact ⟨(IntKind.u64.wrap (x6_1 + 1)), (by first | rfl | (simp; done) | (simp [*]; done)), H', ⟨by have := HK1.out; omega⟩, by repeat (first | exact Drawn0.refl _ | apply Drawn0.step)⟩
       ·rw [if_neg c7] at H
        exact absurd H (by simp)
      ·rw [if_neg c6] at H
       exact absurd H (by simp)
     ·rw [if_neg c5] at H
      have c5b0 : decide (x6_1 < (IntKind.u64.wrap ((l0.length : Int)))) = false := decide_eq_false c5
      clear c5
      (first | rw [c5b0] | (simp only [i64_w, i32_w]; rw [c5b0]) | skip)
      have H' := Aside0.mk H
      clear H
      go_wp2
      go_meet
      case rel => exact ⟨_, (x6_1), (by first | rfl | (simp; done) | (simp [*]; done)), H', ⟨by have := HK1.out; first | omega | exact Nat.le_refl _⟩, by repeat (first | exact Drawn0.refl _ | apply Drawn0.step)⟩
  case rest =>
   clear HC4
   try clear c1
   try clear p2
   try clear q2
   try clear hx2
   try clear c3
   try clear c3b0
   try clear c5
   try clear c5b0
   try clear c6
   try clear c6b0
   try clear c7
   try clear c7b0
   try clear c8
   try clear c8b0
   try clear c8b1
   try clear hx216_0
   try clear p2
   try clear p216
   try clear q216
   obtain ⟨kq, x6_3, rfl, HA, HJ3, ⟨mc3, rfl⟩⟩ := hcut
   cases kq with
   | zero => exact absurd HA.out (by simp [shackleref06_Text.j1])
   | succ kj3 =>
    have H := HA.out
    clear HA
    simp only [shackleref06_Text.j1] at H
    by_cases c9 : x6_3 = (IntKind.u64.wrap ((l0.length : Int)))
    ·rw [if_pos c9] at H
     have c9b0 : (x6_3 == (IntKind.u64.wrap ((l0.length : Int)))) = true := beq_iff_eq.mpr c9
     have c9b1 : (x6_3 != (IntKind.u64.wrap ((l0.length : Int)))) = false := bne_eq_false_iff_eq.mpr c9
     clear c9
     simp only [Option.some.injEq, Prod.mk.injEq] at H
     obtain ⟨rfl, rfl⟩ := H
     go_wp2
     go_ret2
     exact ⟨by first | rfl | (simp; done) | (simp [*]; done), by repeat (first | exact Drawn0.refl _ | apply Drawn0.step)⟩
    ·rw [if_neg c9] at H
     have c9b0 : (x6_3 == (IntKind.u64.wrap ((l0.length : Int)))) = false := beq_eq_false_iff_ne.mpr c9
     have c9b1 : (x6_3 != (IntKind.u64.wrap ((l0.length : Int)))) = true := bne_iff_ne.mpr c9
     by_cases c10 : (IntKind.u64.wrap (x6_3 - a1)) > 255
     ·rw [if_pos c10] at H
      have c10b0 : decide (255 < (IntKind.u64.wrap (x6_3 - a1))) = true := decide_eq_true c10
      clear c10
      simp only [Option.some.injEq, Prod.mk.injEq] at H
      obtain ⟨rfl, rfl⟩ := H
      go_wp2
      go_ret2
      exact ⟨by first | rfl | (simp; done) | (simp [*]; done), by repeat (first | exact Drawn0.refl _ | apply Drawn0.step)⟩
     ·rw [if_neg c10] at H
      have c10b0 : decide (255 < (IntKind.u64.wrap (x6_3 - a1))) = false := decide_eq_false c10
      clear c10
      by_cases c11 : 0 ≤ a1
      ·rw [if_pos c11] at H
       have c11b0 := eq_true c11
       have c11b1 : decide (0 ≤ a1) = true := decide_eq_true c11
       clear c11
       by_cases c12 : a1 ≤ x6_3
       ·rw [if_pos c12] at H
        have c12b0 := eq_true c12
        have c12b1 : decide (a1 ≤ x6_3) = true := decide_eq_true c12
        clear c12
        by_cases c13 : x6_3 ≤ (l0.length : Int)
        ·rw [if_pos c13] at H
         have c13b0 := eq_true c13
         have c13b1 : decide (x6_3 ≤ (l0.length : Int)) = true := decide_eq_true c13
         clear c13
         simp only [Option.some.injEq, Prod.mk.injEq] at H
         obtain ⟨rfl, rfl⟩ := H
         obtain ⟨i014, hi014, _, hsz14, _⟩ := info_parts info5
         obtain ⟨A14, hcut14, hA14, hC14⟩ := print_mid_of (P := Try.prog) (Value.int .u8) 0 22 5 .u64 .u64 Try.underlying22 hi014 hsz14 A0 c0 l0 a1 x6_3 (of_decide_eq_true (by assumption)) (by first | omega | exact of_decide_eq_true (by assumption)) (of_decide_eq_true (by assumption)) HC0.out
         have HR217 := Aside0.mk (Kd.C_of_reads (h1 := fun _ => rfl) (hA14 _ (Kd.reads_of_C HR0.out)))
         have HC217 := Aside0.mk hC14
         clear hA14 hC14 hi014 hsz14
         have hcv15 := Kd.C_string (P := Try.prog) (A := A14) (c := (c0 - a1.toNat)) Try.underlying22 Try.underlying5 Try.underlying9 HR217.out
         have hcm16 := fun m_ : Nat => Kd.C_string (P := Try.prog) (A := A14) (c := (c0 - a1.toNat)) Try.underlying22 Try.underlying5 Try.underlying9 (Kd.C_drewN HR217.out m_)
         (try rw [show ((l0.take (x6_3 : Int).toNat).drop (a1 : Int).toNat).length = (x6_3.toNat - a1.toNat) from (by rw [List.length_drop, List.length_take]; have h_ : (x6_3 : Int) ≤ (l0.length : Int) := of_decide_eq_true (by assumption); omega)] at hcv15)
         (try rw [show ((l0.take (x6_3 : Int).toNat).drop (a1 : Int).toNat).length = (x6_3.toNat - a1.toNat) from (by rw [List.length_drop, List.length_take]; have h_ : (x6_3 : Int) ≤ (l0.length : Int) := of_decide_eq_true (by assumption); omega)] at hcm16)
         go_wp2
         go_ret2
         exact ⟨by first | rfl | (simp; done) | (simp [*]; done), by repeat (first | exact Drawn0.refl _ | apply Drawn0.step)⟩
        ·rw [if_neg c13] at H
         exact absurd H (by simp)
       ·rw [if_neg c12] at H
        exact absurd H (by simp)
      ·rw [if_neg c11] at H
       exact absurd H (by simp)

/-! ### shackleref05_Number: function 50 -/
def shackleref05_Number.l0 : Nat → List Int → Int → Int → Option (Int)
 | 0, _, _, _ => none
 | k + 1, x0, x3, x4 => if x4 ≥ 0 then (if 0 ≤ x4 then (if x4 < (x0.length : Int) then (shackleref05_Number.l0 k x0 (IntKind.u64.wrap ((IntKind.u64.wrap (256 * x3)) + (IntKind.u64.wrap (rd x0 x4)))) (wrap64 (x4 - 1))) else (none)) else (none)) else (some x3)
def shackleref05_Number.f (k : Nat) (l0 : List Int) : Option (Int) := shackleref05_Number.l0 k l0 0 (wrap64 ((l0.length : Int) - 1))
theorem shackleref05_Number.mono_l : ∀ k, (∀ y0 y1 y2, LeO (shackleref05_Number.l0 k y0 y1 y2) (shackleref05_Number.l0 (k + 1) y0 y1 y2))
 | 0 => fun _ _ _ r h => by simp [shackleref05_Number.l0] at h
 | k + 1 => by
  have ih0 := shackleref05_Number.mono_l k
  ·intro y0 y1 y2
   unfold shackleref05_Number.l0
   repeat' first
   | (with_reducible exact ih0 _ _ _)
   | (with_reducible exact LeO.refl _)
   | (with_reducible exact LeO.none _)
   | (with_reducible refine LeO.ite ?_ ?_)
   | (with_reducible refine LeO.bind ?_ (fun _ => ?_))
   | exact ih0 _ _ _
   | exact LeO.none _
   | refine LeO.ite ?_ ?_
   | refine LeO.bind ?_ (fun _ => ?_)
theorem shackleref05_Number.mono : ∀ a0 k, LeO (shackleref05_Number.f k a0) (shackleref05_Number.f (k + 1) a0) := by
 intro a0 k
 have ih0 := shackleref05_Number.mono_l k
 unfold shackleref05_Number.f
 repeat' first
   | (with_reducible exact ih0 _ _ _)
   | (with_reducible exact LeO.refl _)
   | (with_reducible exact LeO.none _)
   | (with_reducible refine LeO.ite ?_ ?_)
   | (with_reducible refine LeO.bind ?_ (fun _ => ?_))
   | exact ih0 _ _ _
   | exact LeO.none _
   | refine LeO.ite ?_ ?_
   | refine LeO.bind ?_ (fun _ => ?_)
set_option maxHeartbeats 8000000 in
set_option maxRecDepth 100000 in
theorem shackleref05_Number.calls (k : Nat) (A0 : Option Addr) (c0 : Nat) (l0 : List Int) (r : Int) (w : World) (hr0 : Kd.C (Kd.int .u8) w A0 l0.length l0) (hc0 : l0.length ≤ c0) (h : shackleref05_Number.f k l0 = some r) :
  Calls Try.prog 50 #[.slice A0 l0.length c0] w fun e w' => e = .returned (.int .u64 r) ∧ Drawn0 w w' := by
 have HR0 := Aside0.mk hr0
 have HC0 := Aside0.mk hc0
 clear hr0 hc0
 have H : (shackleref05_Number.l0 k l0 0 (wrap64 ((l0.length : Int) - 1))) = some r := h
 clear h
 have H' := Aside0.mk H
 clear H
 go_enter Try.func50, Try.ntmps50
 go_wp2
 go_loopg [3, 4] k (fun kq v3 v4 w' => ∃ (x3_1 : Int) (x4_1 : Int), v3 = .int .u64 x3_1 ∧ v4 = .int .i64 x4_1 ∧ Aside0 (shackleref05_Number.l0 kq l0 x3_1 x4_1 = some r) ∧ Aside0 (kq ≤ k) ∧ Drawn0 w w')
 case atStart => exact ⟨(0), (wrap64 ((l0.length : Int) - 1)), (by first | rfl | (simp; done) | (simp [*]; done)), (by first | rfl | (simp; done) | (simp [*]; done)), H', ⟨Nat.le_refl _⟩, by repeat (first | exact Drawn0.refl _ | apply Drawn0.step)⟩
 case round =>
  clear H'
  obtain ⟨x3_1, x4_1, rfl, rfl, HA, HK1, ⟨m1, rfl⟩⟩ := hrel
  cases gk with
  | zero => exact absurd HA.out (by simp [shackleref05_Number.l0])
  | succ k1 =>
   have H := HA.out
   clear HA
   simp only [shackleref05_Number.l0] at H
   by_cases c2 : x4_1 ≥ 0
   ·rw [if_pos c2] at H
    have c2b0 : decide (0 ≤ x4_1) = true := decide_eq_true c2
    clear c2
    by_cases c3 : 0 ≤ x4_1
    ·rw [if_pos c3] at H
     have c3b0 : decide (0 ≤ x4_1) = true := decide_eq_true c3
     clear c3
     by_cases c4 : x4_1 < (l0.length : Int)
     ·rw [if_pos c4] at H
      have c4b0 : decide (x4_1 < (l0.length : Int)) = true := decide_eq_true c4
      clear c4
      have H' := Aside0.mk H
      clear H
      have p218 : 0 ≤ (x4_1 : Int) := of_decide_eq_true (by assumption)
      have q218 : x4_1 < (l0.length : Int) := of_decide_eq_true (by assumption)
      obtain ⟨ad218, e218, hx218_0⟩ := Kd.at_int HR0.out x4_1 p218 q218
      cases e218
      replace p218 := eq_true p218
      replace q218 := eq_true q218
      go_wp2
      go_roundg k1
      case measure => have := HK1.out; omega
      case rel => exact ⟨(IntKind.u64.wrap ((IntKind.u64.wrap (256 * x3_1)) + (IntKind.u64.wrap (rd l0 x4_1)))), (wrap64 (x4_1 - 1)), (by first | rfl | (simp; done) | (simp [*]; done)), (by first | rfl | (simp; done) | (simp [*]; done)), H', ⟨by have := HK1.out; omega⟩, by repeat (first | exact Drawn0.refl _ | apply Drawn0.step)⟩
     ·rw [if_neg c4] at H
      exact absurd H (by simp)
    ·rw [if_neg c3] at H
     exact absurd H (by simp)
   ·rw [if_neg c2] at H
    have c2b0 : decide (0 ≤ x4_1) = false := decide_eq_false c2
    clear c2
    obtain rfl := Option.some.inj H
    go_wp2
    go_ret
    exact ⟨by first | rfl | (simp; done) | (simp [*]; done), by repeat (first | exact Drawn0.refl _ | apply Drawn0.step)⟩

end Go.Proofs.Ytlohkhadbkahdaa.QSyms
