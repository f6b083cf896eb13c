import Derived.Test.YthopdoamajjojaaQVersx0
namespace Go.Proofs.Ythopdoamajjojaa.QVers
open Go.RowKit Go.Proofs.YthopdoamajjojaaW.PrintWords Go.Proofs.YthopdoamajjojaaW.PrintLast Go.Proofs.YthopdoamajjojaaW.PrintMore
attribute [local go_sem] max2_int min2_int max_two min_two max_three min_three max_four min_four
set_option linter.unusedVariables false
set_option linter.unusedSimpArgs false
attribute [local go_sem] eqErr_ii neErr_ii eqErr_ni neErr_ni
def shackleref07_Sysv.l0 : Nat → ByteArray → Int → Int → Option (Int)
 | 0, _, _, _ => none
 | k + 1, x0, x3, x4 => if x4 < (x0.size : Int) then (if 0 ≤ x4 then (shackleref07_Sysv.l0 k x0 (Int.tmod (Go.bits .xor .u32 ((((16 * x3) % 4294967296) + ((bt x0 x4) % 4294967296)) % 4294967296) ((((((16 * x3) % 4294967296) + ((bt x0 x4) % 4294967296)) % 4294967296) / 268435456) * 16)) 268435456) (wrap64 (x4 + 1))) else (none)) else (some x3)
def shackleref07_Sysv.f (k : Nat) (a0 : ByteArray) : Option (Int) := shackleref07_Sysv.l0 k a0 0 0
theorem shackleref07_Sysv.mono_l : ∀ k, (∀ y0 y1 y2, LeO (shackleref07_Sysv.l0 k y0 y1 y2) (shackleref07_Sysv.l0 (k + 1) y0 y1 y2))
 | 0 => fun _ _ _ r h => by simp [shackleref07_Sysv.l0] at h
 | k + 1 => by
  have ih0 := shackleref07_Sysv.mono_l k
  ·intro y0 y1 y2
   unfold shackleref07_Sysv.l0
   repeat' first
   | (with_reducible exact ih0 _ _ _)
   | (with_reducible exact LeO.refl _)
   | (with_reducible exact LeO.none _)
   | (with_reducible refine LeO.ite ?_ ?_)
   | (with_reducible refine LeO.bind ?_ (fun _ => ?_))
   | exact ih0 _ _ _
   | exact LeO.none _
   | refine LeO.ite ?_ ?_
   | refine LeO.bind ?_ (fun _ => ?_)
theorem shackleref07_Sysv.mono : ∀ a0 k, LeO (shackleref07_Sysv.f k a0) (shackleref07_Sysv.f (k + 1) a0) := by
 intro a0 k
 have ih0 := shackleref07_Sysv.mono_l k
 unfold shackleref07_Sysv.f
 repeat' first
   | (with_reducible exact ih0 _ _ _)
   | (with_reducible exact LeO.refl _)
   | (with_reducible exact LeO.none _)
   | (with_reducible refine LeO.ite ?_ ?_)
   | (with_reducible refine LeO.bind ?_ (fun _ => ?_))
   | exact ih0 _ _ _
   | exact LeO.none _
   | refine LeO.ite ?_ ?_
   | refine LeO.bind ?_ (fun _ => ?_)
set_option maxHeartbeats 8000000 in
set_option maxRecDepth 100000 in
theorem shackleref07_Sysv.calls (k : Nat) (a0 : ByteArray) (r : Int) (w : World) (h : shackleref07_Sysv.f k a0 = some r) :
  Calls Try.prog 65 #[.string a0] w fun e w' => e = .returned (.int .u32 r) ∧ Drawn0 w w' := by
 have H : (shackleref07_Sysv.l0 k a0 0 0) = some r := h
 clear h
 have H' := Aside0.mk H
 clear H
 go_enter Try.func65, Try.ntmps65
 go_wp2
 go_loopg [3, 4] k (fun kq v3 v4 w' => ∃ (x3_1 : Int) (x4_1 : Int), v3 = .int .u32 x3_1 ∧ v4 = .int .i64 x4_1 ∧ Aside0 (shackleref07_Sysv.l0 kq a0 x3_1 x4_1 = some r) ∧ Aside0 (kq ≤ k) ∧ Drawn0 w w')
 case atStart => exact ⟨(0), (0), (by first | rfl | (simp; done) | (simp [*]; done)), (by first | rfl | (simp; done) | (simp [*]; done)), H', ⟨Nat.le_refl _⟩, by repeat (first | exact Drawn0.refl _ | apply Drawn0.step)⟩
 case round =>
  clear H'
  obtain ⟨x3_1, x4_1, rfl, rfl, HA, HK1, ⟨m1, rfl⟩⟩ := hrel
  cases gk with
  | zero => exact absurd HA.out (by simp [shackleref07_Sysv.l0])
  | succ k1 =>
   have H := HA.out
   clear HA
   simp only [shackleref07_Sysv.l0] at H
   by_cases c2 : x4_1 < (a0.size : Int)
   ·rw [if_pos c2] at H
    have c2b0 : decide (x4_1 < (a0.size : Int)) = true := decide_eq_true c2
    clear c2
    by_cases c3 : 0 ≤ x4_1
    ·rw [if_pos c3] at H
     have c3b0 : decide (0 ≤ x4_1) = true := decide_eq_true c3
     clear c3
     have H' := Aside0.mk H
     clear H
     have p4 : 0 ≤ (x4_1 : Int) := of_decide_eq_true (by assumption)
     have q4 : x4_1 < (a0.size : Int) := of_decide_eq_true (by assumption)
     have hx4 := bt_at a0 x4_1
     replace p4 := eq_true p4
     replace q4 := eq_true q4
     go_wp2
     go_roundg k1
     case measure => have := HK1.out; omega
     case rel => exact ⟨(Int.tmod (Go.bits .xor .u32 ((((16 * x3_1) % 4294967296) + ((bt a0 x4_1) % 4294967296)) % 4294967296) ((((((16 * x3_1) % 4294967296) + ((bt a0 x4_1) % 4294967296)) % 4294967296) / 268435456) * 16)) 268435456), (wrap64 (x4_1 + 1)), (by first | rfl | (simp; done) | (simp [*]; done)), (by first | rfl | (simp; done) | (simp [*]; done)), H', ⟨by have := HK1.out; omega⟩, by repeat (first | exact Drawn0.refl _ | apply Drawn0.step)⟩
    ·rw [if_neg c3] at H
     exact absurd H (by simp)
   ·rw [if_neg c2] at H
    have c2b0 : decide (x4_1 < (a0.size : Int)) = false := decide_eq_false c2
    clear c2
    obtain rfl := Option.some.inj H
    go_wp2
    go_ret
    exact ⟨by first | rfl | (simp; done) | (simp [*]; done), by repeat (first | exact Drawn0.refl _ | apply Drawn0.step)⟩
def shackleref07_Same.l0 : Nat → List Int → List Int → Int → Option (Bool)
 | 0, _, _, _ => none
 | k + 1, x0, x1, x5 => if x5 < (x0.length : Int) then (if 0 ≤ x5 then (if x5 < (x1.length : Int) then (if (rd x0 x5) = (rd x1 x5) then (shackleref07_Same.l0 k x0 x1 (wrap64 (x5 + 1))) else (some false)) else (none)) else (none)) else (some true)
def shackleref07_Same.f (k : Nat) (l0 : List Int) (l1 : List Int) : Option (Bool) := if (l0.length : Int) = (l1.length : Int) then (shackleref07_Same.l0 k l0 l1 0) else (some false)
theorem shackleref07_Same.mono_l : ∀ k, (∀ y0 y1 y2, LeO (shackleref07_Same.l0 k y0 y1 y2) (shackleref07_Same.l0 (k + 1) y0 y1 y2))
 | 0 => fun _ _ _ r h => by simp [shackleref07_Same.l0] at h
 | k + 1 => by
  have ih0 := shackleref07_Same.mono_l k
  ·intro y0 y1 y2
   unfold shackleref07_Same.l0
   repeat' first
   | (with_reducible exact ih0 _ _ _)
   | (with_reducible exact LeO.refl _)
   | (with_reducible exact LeO.none _)
   | (with_reducible refine LeO.ite ?_ ?_)
   | (with_reducible refine LeO.bind ?_ (fun _ => ?_))
   | exact ih0 _ _ _
   | exact LeO.none _
   | refine LeO.ite ?_ ?_
   | refine LeO.bind ?_ (fun _ => ?_)
theorem shackleref07_Same.mono : ∀ a0 a1 k, LeO (shackleref07_Same.f k a0 a1) (shackleref07_Same.f (k + 1) a0 a1) := by
 intro a0 a1 k
 have ih0 := shackleref07_Same.mono_l k
 unfold shackleref07_Same.f
 repeat' first
   | (with_reducible exact ih0 _ _ _)
   | (with_reducible exact LeO.refl _)
   | (with_reducible exact LeO.none _)
   | (with_reducible refine LeO.ite ?_ ?_)
   | (with_reducible refine LeO.bind ?_ (fun _ => ?_))
   | exact ih0 _ _ _
   | exact LeO.none _
   | refine LeO.ite ?_ ?_
   | refine LeO.bind ?_ (fun _ => ?_)
set_option maxHeartbeats 8000000 in
set_option maxRecDepth 100000 in
theorem shackleref07_Same.calls (k : Nat) (A0 : Option Addr) (c0 : Nat) (l0 : List Int) (A1 : Option Addr) (c1 : Nat) (l1 : List Int) (r : Bool) (w : World) (hr0 : Kd.C (Kd.int .i64) w A0 l0.length l0) (hc0 : l0.length ≤ c0) (hr1 : Kd.C (Kd.int .i64) w A1 l1.length l1) (hc1 : l1.length ≤ c1) (h : shackleref07_Same.f k l0 l1 = some r) :
  Calls Try.prog 14 #[.slice A0 l0.length c0, .slice A1 l1.length c1] w fun e w' => e = .returned (.bool r) ∧ Drawn0 w w' := by
 have HR0 := Aside0.mk hr0
 have HC0 := Aside0.mk hc0
 clear hr0 hc0
 have HR1 := Aside0.mk hr1
 have HC1 := Aside0.mk hc1
 clear hr1 hc1
 have H : (if (l0.length : Int) = (l1.length : Int) then (shackleref07_Same.l0 k l0 l1 0) else (some false)) = some r := h
 clear h
 by_cases c3 : (l0.length : Int) = (l1.length : Int)
 ·rw [if_pos c3] at H
  have c3b0 : ((l0.length : Int) == (l1.length : Int)) = true := beq_iff_eq.mpr c3
  have c3b1 : ((l0.length : Int) != (l1.length : Int)) = false := bne_eq_false_iff_eq.mpr c3
  have c3b2 : (l0.length == l1.length) = true := by first | simpa using c3 | (simp at c3 ⊢; omega)
  clear c3
  have H' := Aside0.mk H
  clear H
  go_enter Try.func14, Try.ntmps14
  go_wp2
  repeat (go_quiet (fail); try go_wp2)
  go_loopg [5] k (fun kq v5 w' => ∃ (x5_1 : Int), v5 = .int .i64 x5_1 ∧ Aside0 (shackleref07_Same.l0 kq l0 l1 x5_1 = some r) ∧ Aside0 (kq ≤ k) ∧ Drawn0 w w')
  case atStart => exact ⟨(0), (by first | rfl | (simp; done) | (simp [*]; done)), H', ⟨Nat.le_refl _⟩, by repeat (first | exact Drawn0.refl _ | apply Drawn0.step)⟩
  case round =>
   clear H'
   try clear c1
   try clear p2
   try clear c3
   try clear c3b0
   try clear c3b1
   try clear c3b2
   obtain ⟨x5_1, rfl, HA, HK1, ⟨m1, rfl⟩⟩ := hrel
   cases gk with
   | zero => exact absurd HA.out (by simp [shackleref07_Same.l0])
   | succ k1 =>
    have H := HA.out
    clear HA
    simp only [shackleref07_Same.l0] at H
    by_cases c4 : x5_1 < (l0.length : Int)
    ·rw [if_pos c4] at H
     have c4b0 : decide (x5_1 < (l0.length : Int)) = true := decide_eq_true c4
     clear c4
     by_cases c5 : 0 ≤ x5_1
     ·rw [if_pos c5] at H
      have c5b0 : decide (0 ≤ x5_1) = true := decide_eq_true c5
      clear c5
      by_cases c6 : x5_1 < (l1.length : Int)
      ·rw [if_pos c6] at H
       have c6b0 : decide (x5_1 < (l1.length : Int)) = true := decide_eq_true c6
       clear c6
       by_cases c7 : (rd l0 x5_1) = (rd l1 x5_1)
       ·rw [if_pos c7] at H
        have c7b0 : ((rd l0 x5_1) == (rd l1 x5_1)) = true := beq_iff_eq.mpr c7
        have c7b1 : ((rd l0 x5_1) != (rd l1 x5_1)) = false := bne_eq_false_iff_eq.mpr c7
        clear c7
        have H' := Aside0.mk H
        clear H
        have p200 : 0 ≤ (x5_1 : Int) := of_decide_eq_true (by assumption)
        have q200 : x5_1 < (l0.length : Int) := of_decide_eq_true (by assumption)
        obtain ⟨ad200, e200, hx200_0⟩ := Kd.at_int HR0.out x5_1 p200 q200
        cases e200
        replace p200 := eq_true p200
        replace q200 := eq_true q200
        have p201 : 0 ≤ (x5_1 : Int) := of_decide_eq_true (by assumption)
        have q201 : x5_1 < (l1.length : Int) := of_decide_eq_true (by assumption)
        obtain ⟨ad201, e201, hx201_0⟩ := Kd.at_int HR1.out x5_1 p201 q201
        cases e201
        replace p201 := eq_true p201
        replace q201 := eq_true q201
        go_wp2
        repeat (go_quiet (fail); try go_wp2)
        go_roundg k1
        case measure => have := HK1.out; omega
        case rel => exact ⟨(wrap64 (x5_1 + 1)), (by first | rfl | (simp; done) | (simp [*]; done)), H', ⟨by have := HK1.out; omega⟩, by repeat (first | exact Drawn0.refl _ | apply Drawn0.step)⟩
       ·rw [if_neg c7] at H
        have c7b0 : ((rd l0 x5_1) == (rd l1 x5_1)) = false := beq_eq_false_iff_ne.mpr c7
        have c7b1 : ((rd l0 x5_1) != (rd l1 x5_1)) = true := bne_iff_ne.mpr c7
        obtain rfl := Option.some.inj H
        have p200 : 0 ≤ (x5_1 : Int) := of_decide_eq_true (by assumption)
        have q200 : x5_1 < (l0.length : Int) := of_decide_eq_true (by assumption)
        obtain ⟨ad200, e200, hx200_0⟩ := Kd.at_int HR0.out x5_1 p200 q200
        cases e200
        replace p200 := eq_true p200
        replace q200 := eq_true q200
        have p201 : 0 ≤ (x5_1 : Int) := of_decide_eq_true (by assumption)
        have q201 : x5_1 < (l1.length : Int) := of_decide_eq_true (by assumption)
        obtain ⟨ad201, e201, hx201_0⟩ := Kd.at_int HR1.out x5_1 p201 q201
        cases e201
        replace p201 := eq_true p201
        replace q201 := eq_true q201
        go_wp2
        repeat (go_quiet (fail); try go_wp2)
        go_ret
        exact ⟨by first | rfl | (simp; done) | (simp [*]; done), by repeat (first | exact Drawn0.refl _ | apply Drawn0.step)⟩
      ·rw [if_neg c6] at H
       exact absurd H (by simp)
     ·rw [if_neg c5] at H
      exact absurd H (by simp)
    ·rw [if_neg c4] at H
     have c4b0 : decide (x5_1 < (l0.length : Int)) = false := decide_eq_false c4
     clear c4
     obtain rfl := Option.some.inj H
     go_wp2
     repeat (go_quiet (fail); try go_wp2)
     go_ret
     exact ⟨by first | rfl | (simp; done) | (simp [*]; done), by repeat (first | exact Drawn0.refl _ | apply Drawn0.step)⟩
 ·rw [if_neg c3] at H
  have c3b0 : ((l0.length : Int) == (l1.length : Int)) = false := beq_eq_false_iff_ne.mpr c3
  have c3b1 : ((l0.length : Int) != (l1.length : Int)) = true := bne_iff_ne.mpr c3
  have c3b2 : (l0.length == l1.length) = false := by first | simpa using c3 | (simp at c3 ⊢; omega)
  obtain rfl := Option.some.inj H
  go_enter Try.func14, Try.ntmps14
  go_wp2
  repeat (go_quiet (fail); try go_wp2)
  go_ret
  exact ⟨by first | rfl | (simp; done) | (simp [*]; done), by repeat (first | exact Drawn0.refl _ | apply Drawn0.step)⟩
def shackleref08_texts.l0 : Nat → List ByteArray → List ByteArray → Int → Option (Bool)
 | 0, _, _, _ => none
 | k + 1, x0, x1, x5 => if x5 < (x0.length : Int) then (if 0 ≤ x5 then (if x5 < (x1.length : Int) then (if (rdOf ByteArray.empty x0 x5).toList = (rdOf ByteArray.empty x1 x5).toList then (shackleref08_texts.l0 k x0 x1 (wrap64 (x5 + 1))) else (some false)) else (none)) else (none)) else (some true)
def shackleref08_texts.f (k : Nat) (l0 : List ByteArray) (l1 : List ByteArray) : Option (Bool) := if (l0.length : Int) = (l1.length : Int) then (shackleref08_texts.l0 k l0 l1 0) else (some false)
theorem shackleref08_texts.mono_l : ∀ k, (∀ y0 y1 y2, LeO (shackleref08_texts.l0 k y0 y1 y2) (shackleref08_texts.l0 (k + 1) y0 y1 y2))
 | 0 => fun _ _ _ r h => by simp [shackleref08_texts.l0] at h
 | k + 1 => by
  have ih0 := shackleref08_texts.mono_l k
  ·intro y0 y1 y2
   unfold shackleref08_texts.l0
   repeat' first
   | (with_reducible exact ih0 _ _ _)
   | (with_reducible exact LeO.refl _)
   | (with_reducible exact LeO.none _)
   | (with_reducible refine LeO.ite ?_ ?_)
   | (with_reducible refine LeO.bind ?_ (fun _ => ?_))
   | exact ih0 _ _ _
   | exact LeO.none _
   | refine LeO.ite ?_ ?_
   | refine LeO.bind ?_ (fun _ => ?_)
theorem shackleref08_texts.mono : ∀ a0 a1 k, LeO (shackleref08_texts.f k a0 a1) (shackleref08_texts.f (k + 1) a0 a1) := by
 intro a0 a1 k
 have ih0 := shackleref08_texts.mono_l k
 unfold shackleref08_texts.f
 repeat' first
   | (with_reducible exact ih0 _ _ _)
   | (with_reducible exact LeO.refl _)
   | (with_reducible exact LeO.none _)
   | (with_reducible refine LeO.ite ?_ ?_)
   | (with_reducible refine LeO.bind ?_ (fun _ => ?_))
   | exact ih0 _ _ _
   | exact LeO.none _
   | refine LeO.ite ?_ ?_
   | refine LeO.bind ?_ (fun _ => ?_)
set_option maxHeartbeats 8000000 in
set_option maxRecDepth 100000 in
theorem shackleref08_texts.calls (k : Nat) (A0 : Option Addr) (c0 : Nat) (l0 : List ByteArray) (A1 : Option Addr) (c1 : Nat) (l1 : List ByteArray) (r : Bool) (w : World) (hr0 : Kd.C Kd.string w A0 l0.length l0) (hc0 : l0.length ≤ c0) (hr1 : Kd.C Kd.string w A1 l1.length l1) (hc1 : l1.length ≤ c1) (h : shackleref08_texts.f k l0 l1 = some r) :
  Calls Try.prog 46 #[.slice A0 l0.length c0, .slice A1 l1.length c1] w fun e w' => e = .returned (.bool r) ∧ Drawn0 w w' := by
 have HR0 := Aside0.mk hr0
 have HC0 := Aside0.mk hc0
 clear hr0 hc0
 have HR1 := Aside0.mk hr1
 have HC1 := Aside0.mk hc1
 clear hr1 hc1
 have H : (if (l0.length : Int) = (l1.length : Int) then (shackleref08_texts.l0 k l0 l1 0) else (some false)) = some r := h
 clear h
 by_cases c3 : (l0.length : Int) = (l1.length : Int)
 ·rw [if_pos c3] at H
  have c3b0 : ((l0.length : Int) == (l1.length : Int)) = true := beq_iff_eq.mpr c3
  have c3b1 : ((l0.length : Int) != (l1.length : Int)) = false := bne_eq_false_iff_eq.mpr c3
  have c3b2 : (l0.length == l1.length) = true := by first | simpa using c3 | (simp at c3 ⊢; omega)
  clear c3
  have H' := Aside0.mk H
  clear H
  go_enter Try.func46, Try.ntmps46
  go_wp2
  repeat (go_quiet (fail); try go_wp2)
  go_loopg [5] k (fun kq v5 w' => ∃ (x5_1 : Int), v5 = .int .i64 x5_1 ∧ Aside0 (shackleref08_texts.l0 kq l0 l1 x5_1 = some r) ∧ Aside0 (kq ≤ k) ∧ Drawn0 w w')
  case atStart => exact ⟨(0), (by first | rfl | (simp; done) | (simp [*]; done)), H', ⟨Nat.le_refl _⟩, by repeat (first | exact Drawn0.refl _ | apply Drawn0.step)⟩
  case round =>
   clear H'
   try clear c1
   try clear p2
   try clear c3
   try clear c3b0
   try clear c3b1
   try clear c3b2
   obtain ⟨x5_1, rfl, HA, HK1, ⟨m1, rfl⟩⟩ := hrel
   cases gk with
   | zero => exact absurd HA.out (by simp [shackleref08_texts.l0])
   | succ k1 =>
    have H := HA.out
    clear HA
    simp only [shackleref08_texts.l0] at H
    by_cases c4 : x5_1 < (l0.length : Int)
    ·rw [if_pos c4] at H
     have c4b0 : decide (x5_1 < (l0.length : Int)) = true := decide_eq_true c4
     clear c4
     by_cases c5 : 0 ≤ x5_1
     ·rw [if_pos c5] at H
      have c5b0 : decide (0 ≤ x5_1) = true := decide_eq_true c5
      clear c5
      by_cases c6 : x5_1 < (l1.length : Int)
      ·rw [if_pos c6] at H
       have c6b0 : decide (x5_1 < (l1.length : Int)) = true := decide_eq_true c6
       clear c6
       by_cases c7 : (rdOf ByteArray.empty l0 x5_1).toList = (rdOf ByteArray.empty l1 x5_1).toList
       ·rw [if_pos c7] at H
        have c7b0 : ((rdOf ByteArray.empty l0 x5_1).toList == (rdOf ByteArray.empty l1 x5_1).toList) = true := beq_iff_eq.mpr c7
        have c7b1 : ((rdOf ByteArray.empty l0 x5_1).toList != (rdOf ByteArray.empty l1 x5_1).toList) = false := bne_eq_false_iff_eq.mpr c7
        clear c7
        have H' := Aside0.mk H
        clear H
        have p202 : 0 ≤ (x5_1 : Int) := of_decide_eq_true (by assumption)
        have q202 : x5_1 < (l0.length : Int) := of_decide_eq_true (by assumption)
        obtain ⟨ad202, e202, hx202_0⟩ := Kd.at_string HR0.out x5_1 p202 q202
        cases e202
        replace p202 := eq_true p202
        replace q202 := eq_true q202
        have p203 : 0 ≤ (x5_1 : Int) := of_decide_eq_true (by assumption)
        have q203 : x5_1 < (l1.length : Int) := of_decide_eq_true (by assumption)
        obtain ⟨ad203, e203, hx203_0⟩ := Kd.at_string HR1.out x5_1 p203 q203
        cases e203
        replace p203 := eq_true p203
        replace q203 := eq_true q203
        go_wp2
        repeat (go_quiet (fail); try go_wp2)
        go_roundg k1
        case measure => have := HK1.out; omega
        case rel => exact ⟨(wrap64 (x5_1 + 1)), (by first | rfl | (simp; done) | (simp [*]; done)), H', ⟨by have := HK1.out; omega⟩, by repeat (first | exact Drawn0.refl _ | apply Drawn0.step)⟩
       ·rw [if_neg c7] at H
        have c7b0 : ((rdOf ByteArray.empty l0 x5_1).toList == (rdOf ByteArray.empty l1 x5_1).toList) = false := beq_eq_false_iff_ne.mpr c7
        have c7b1 : ((rdOf ByteArray.empty l0 x5_1).toList != (rdOf ByteArray.empty l1 x5_1).toList) = true := bne_iff_ne.mpr c7
        obtain rfl := Option.some.inj H
        have p202 : 0 ≤ (x5_1 : Int) := of_decide_eq_true (by assumption)
        have q202 : x5_1 < (l0.length : Int) := of_decide_eq_true (by assumption)
        obtain ⟨ad202, e202, hx202_0⟩ := Kd.at_string HR0.out x5_1 p202 q202
        cases e202
        replace p202 := eq_true p202
        replace q202 := eq_true q202
        have p203 : 0 ≤ (x5_1 : Int) := of_decide_eq_true (by assumption)
        have q203 : x5_1 < (l1.length : Int) := of_decide_eq_true (by assumption)
        obtain ⟨ad203, e203, hx203_0⟩ := Kd.at_string HR1.out x5_1 p203 q203
        cases e203
        replace p203 := eq_true p203
        replace q203 := eq_true q203
        go_wp2
        repeat (go_quiet (fail); try go_wp2)
        go_ret
        exact ⟨by first | rfl | (simp; done) | (simp [*]; done), by repeat (first | exact Drawn0.refl _ | apply Drawn0.step)⟩
      ·rw [if_neg c6] at H
       exact absurd H (by simp)
     ·rw [if_neg c5] at H
      exact absurd H (by simp)
    ·rw [if_neg c4] at H
     have c4b0 : decide (x5_1 < (l0.length : Int)) = false := decide_eq_false c4
     clear c4
     obtain rfl := Option.some.inj H
     go_wp2
     repeat (go_quiet (fail); try go_wp2)
     go_ret
     exact ⟨by first | rfl | (simp; done) | (simp [*]; done), by repeat (first | exact Drawn0.refl _ | apply Drawn0.step)⟩
 ·rw [if_neg c3] at H
  have c3b0 : ((l0.length : Int) == (l1.length : Int)) = false := beq_eq_false_iff_ne.mpr c3
  have c3b1 : ((l0.length : Int) != (l1.length : Int)) = true := bne_iff_ne.mpr c3
  have c3b2 : (l0.length == l1.length) = false := by first | simpa using c3 | (simp at c3 ⊢; omega)
  obtain rfl := Option.some.inj H
  go_enter Try.func46, Try.ntmps46
  go_wp2
  repeat (go_quiet (fail); try go_wp2)
  go_ret
  exact ⟨by first | rfl | (simp; done) | (simp [*]; done), by repeat (first | exact Drawn0.refl _ | apply Drawn0.step)⟩
def shacklelaw00_further.f (a0 : Option Int) : Option (Int) := if a0.isNone = true then (some (-1)) else (if (a0.getD 0) = 16 then (some 16) else (if (a0.getD 0) = 17 then (some 17) else (if (a0.getD 0) = 18 then (some 18) else (if (a0.getD 0) = 19 then (some 19) else (if (a0.getD 0) = 20 then (some 20) else (if (a0.getD 0) = 21 then (some 21) else (if (a0.getD 0) = 22 then (some 22) else (if (a0.getD 0) = 23 then (some 23) else (if (a0.getD 0) = 24 then (some 24) else (if (a0.getD 0) = 25 then (some 25) else (if (a0.getD 0) = 26 then (some 26) else (if (a0.getD 0) = 27 then (some 27) else (if (a0.getD 0) = 28 then (some 28) else (if (a0.getD 0) = 29 then (some 29) else (if (a0.getD 0) = 30 then (some 30) else (some (-1)))))))))))))))))
set_option maxHeartbeats 8000000 in
set_option maxRecDepth 100000 in
theorem shacklelaw00_further.calls (a0 : Option Int) (r : Int) (w : World) (h : shacklelaw00_further.f a0 = some r) :
  Calls Try.prog 47 #[errW a0] w fun e w' => e = .returned (.int .i64 r) ∧ Drawn0 w w' := by
 have hu41 := Try.underlying41
 have hu97 := Try.underlying97
 have H : (if a0.isNone = true then (some (-1)) else (if (a0.getD 0) = 16 then (some 16) else (if (a0.getD 0) = 17 then (some 17) else (if (a0.getD 0) = 18 then (some 18) else (if (a0.getD 0) = 19 then (some 19) else (if (a0.getD 0) = 20 then (some 20) else (if (a0.getD 0) = 21 then (some 21) else (if (a0.getD 0) = 22 then (some 22) else (if (a0.getD 0) = 23 then (some 23) else (if (a0.getD 0) = 24 then (some 24) else (if (a0.getD 0) = 25 then (some 25) else (if (a0.getD 0) = 26 then (some 26) else (if (a0.getD 0) = 27 then (some 27) else (if (a0.getD 0) = 28 then (some 28) else (if (a0.getD 0) = 29 then (some 29) else (if (a0.getD 0) = 30 then (some 30) else (some (-1)))))))))))))))))) = some r := h
 clear h
 rcases a0 with _ | q218
 ·have H1 : (some (-1)) = some r := by rw [if_pos (show (none : Option Int).isNone = true by rfl)] at H; exact H
  clear H
  have H := H1
  clear H1
  simp only [errW_none, errW_some]
  obtain rfl := Option.some.inj H
  go_enter Try.func47, Try.ntmps47
  go_wp2
  go_ret
  exact ⟨by first | rfl | (simp; done) | (simp [*]; done), by repeat (first | exact Drawn0.refl _ | apply Drawn0.step)⟩
 ·have H1 : (if q218 = 16 then (some 16) else (if q218 = 17 then (some 17) else (if q218 = 18 then (some 18) else (if q218 = 19 then (some 19) else (if q218 = 20 then (some 20) else (if q218 = 21 then (some 21) else (if q218 = 22 then (some 22) else (if q218 = 23 then (some 23) else (if q218 = 24 then (some 24) else (if q218 = 25 then (some 25) else (if q218 = 26 then (some 26) else (if q218 = 27 then (some 27) else (if q218 = 28 then (some 28) else (if q218 = 29 then (some 29) else (if q218 = 30 then (some 30) else (some (-1))))))))))))))))) = some r := by rw [if_neg (show ¬ (some q218).isNone = true by simp)] at H; exact H
  clear H
  have H := H1
  clear H1
  simp only [errW_none, errW_some]
  by_cases c2 : q218 = 16
  ·rw [if_pos c2] at H
   have c2b0 : (q218 == 16) = true := beq_iff_eq.mpr c2
   have c2b1 : (q218 != 16) = false := bne_eq_false_iff_eq.mpr c2
   clear c2
   obtain rfl := Option.some.inj H
   go_enter Try.func47, Try.ntmps47
   go_wp2
   go_ret
   exact ⟨by first | rfl | (simp; done) | (simp [*]; done), by repeat (first | exact Drawn0.refl _ | apply Drawn0.step)⟩
  ·rw [if_neg c2] at H
   have c2b0 : (q218 == 16) = false := beq_eq_false_iff_ne.mpr c2
   have c2b1 : (q218 != 16) = true := bne_iff_ne.mpr c2
   by_cases c3 : q218 = 17
   ·rw [if_pos c3] at H
    have c3b0 : (q218 == 17) = true := beq_iff_eq.mpr c3
    have c3b1 : (q218 != 17) = false := bne_eq_false_iff_eq.mpr c3
    clear c3
    obtain rfl := Option.some.inj H
    go_enter Try.func47, Try.ntmps47
    go_wp2
    go_ret
    exact ⟨by first | rfl | (simp; done) | (simp [*]; done), by repeat (first | exact Drawn0.refl _ | apply Drawn0.step)⟩
   ·rw [if_neg c3] at H
    have c3b0 : (q218 == 17) = false := beq_eq_false_iff_ne.mpr c3
    have c3b1 : (q218 != 17) = true := bne_iff_ne.mpr c3
    by_cases c4 : q218 = 18
    ·rw [if_pos c4] at H
     have c4b0 : (q218 == 18) = true := beq_iff_eq.mpr c4
     have c4b1 : (q218 != 18) = false := bne_eq_false_iff_eq.mpr c4
     clear c4
     obtain rfl := Option.some.inj H
     go_enter Try.func47, Try.ntmps47
     go_wp2
     go_ret
     exact ⟨by first | rfl | (simp; done) | (simp [*]; done), by repeat (first | exact Drawn0.refl _ | apply Drawn0.step)⟩
    ·rw [if_neg c4] at H
     have c4b0 : (q218 == 18) = false := beq_eq_false_iff_ne.mpr c4
     have c4b1 : (q218 != 18) = true := bne_iff_ne.mpr c4
     by_cases c5 : q218 = 19
     ·rw [if_pos c5] at H
      have c5b0 : (q218 == 19) = true := beq_iff_eq.mpr c5
      have c5b1 : (q218 != 19) = false := bne_eq_false_iff_eq.mpr c5
      clear c5
      obtain rfl := Option.some.inj H
      go_enter Try.func47, Try.ntmps47
      go_wp2
      go_ret
      exact ⟨by first | rfl | (simp; done) | (simp [*]; done), by repeat (first | exact Drawn0.refl _ | apply Drawn0.step)⟩
     ·rw [if_neg c5] at H
      have c5b0 : (q218 == 19) = false := beq_eq_false_iff_ne.mpr c5
      have c5b1 : (q218 != 19) = true := bne_iff_ne.mpr c5
      by_cases c6 : q218 = 20
      ·rw [if_pos c6] at H
       have c6b0 : (q218 == 20) = true := beq_iff_eq.mpr c6
       have c6b1 : (q218 != 20) = false := bne_eq_false_iff_eq.mpr c6
       clear c6
       obtain rfl := Option.some.inj H
       go_enter Try.func47, Try.ntmps47
       go_wp2
       go_ret
       exact ⟨by first | rfl | (simp; done) | (simp [*]; done), by repeat (first | exact Drawn0.refl _ | apply Drawn0.step)⟩
      ·rw [if_neg c6] at H
       have c6b0 : (q218 == 20) = false := beq_eq_false_iff_ne.mpr c6
       have c6b1 : (q218 != 20) = true := bne_iff_ne.mpr c6
       by_cases c7 : q218 = 21
       ·rw [if_pos c7] at H
        have c7b0 : (q218 == 21) = true := beq_iff_eq.mpr c7
        have c7b1 : (q218 != 21) = false := bne_eq_false_iff_eq.mpr c7
        clear c7
        obtain rfl := Option.some.inj H
        go_enter Try.func47, Try.ntmps47
        go_wp2
        go_ret
        exact ⟨by first | rfl | (simp; done) | (simp [*]; done), by repeat (first | exact Drawn0.refl _ | apply Drawn0.step)⟩
       ·rw [if_neg c7] at H
        have c7b0 : (q218 == 21) = false := beq_eq_false_iff_ne.mpr c7
        have c7b1 : (q218 != 21) = true := bne_iff_ne.mpr c7
        by_cases c8 : q218 = 22
        ·rw [if_pos c8] at H
         have c8b0 : (q218 == 22) = true := beq_iff_eq.mpr c8
         have c8b1 : (q218 != 22) = false := bne_eq_false_iff_eq.mpr c8
         clear c8
         obtain rfl := Option.some.inj H
         go_enter Try.func47, Try.ntmps47
         go_wp2
         go_ret
         exact ⟨by first | rfl | (simp; done) | (simp [*]; done), by repeat (first | exact Drawn0.refl _ | apply Drawn0.step)⟩
        ·rw [if_neg c8] at H
         have c8b0 : (q218 == 22) = false := beq_eq_false_iff_ne.mpr c8
         have c8b1 : (q218 != 22) = true := bne_iff_ne.mpr c8
         by_cases c9 : q218 = 23
         ·rw [if_pos c9] at H
          have c9b0 : (q218 == 23) = true := beq_iff_eq.mpr c9
          have c9b1 : (q218 != 23) = false := bne_eq_false_iff_eq.mpr c9
          clear c9
          obtain rfl := Option.some.inj H
          go_enter Try.func47, Try.ntmps47
          go_wp2
          go_ret
          exact ⟨by first | rfl | (simp; done) | (simp [*]; done), by repeat (first | exact Drawn0.refl _ | apply Drawn0.step)⟩
         ·rw [if_neg c9] at H
          have c9b0 : (q218 == 23) = false := beq_eq_false_iff_ne.mpr c9
          have c9b1 : (q218 != 23) = true := bne_iff_ne.mpr c9
          by_cases c10 : q218 = 24
          ·rw [if_pos c10] at H
           have c10b0 : (q218 == 24) = true := beq_iff_eq.mpr c10
           have c10b1 : (q218 != 24) = false := bne_eq_false_iff_eq.mpr c10
           clear c10
           obtain rfl := Option.some.inj H
           go_enter Try.func47, Try.ntmps47
           go_wp2
           go_ret
           exact ⟨by first | rfl | (simp; done) | (simp [*]; done), by repeat (first | exact Drawn0.refl _ | apply Drawn0.step)⟩
          ·rw [if_neg c10] at H
           have c10b0 : (q218 == 24) = false := beq_eq_false_iff_ne.mpr c10
           have c10b1 : (q218 != 24) = true := bne_iff_ne.mpr c10
           by_cases c11 : q218 = 25
           ·rw [if_pos c11] at H
            have c11b0 : (q218 == 25) = true := beq_iff_eq.mpr c11
            have c11b1 : (q218 != 25) = false := bne_eq_false_iff_eq.mpr c11
            clear c11
            obtain rfl := Option.some.inj H
            go_enter Try.func47, Try.ntmps47
            go_wp2
            go_ret
            exact ⟨by first | rfl | (simp; done) | (simp [*]; done), by repeat (first | exact Drawn0.refl _ | apply Drawn0.step)⟩
           ·rw [if_neg c11] at H
            have c11b0 : (q218 == 25) = false := beq_eq_false_iff_ne.mpr c11
            have c11b1 : (q218 != 25) = true := bne_iff_ne.mpr c11
            by_cases c12 : q218 = 26
            ·rw [if_pos c12] at H
             have c12b0 : (q218 == 26) = true := beq_iff_eq.mpr c12
             have c12b1 : (q218 != 26) = false := bne_eq_false_iff_eq.mpr c12
             clear c12
             obtain rfl := Option.some.inj H
             go_enter Try.func47, Try.ntmps47
             go_wp2
             go_ret
             exact ⟨by first | rfl | (simp; done) | (simp [*]; done), by repeat (first | exact Drawn0.refl _ | apply Drawn0.step)⟩
            ·rw [if_neg c12] at H
             have c12b0 : (q218 == 26) = false := beq_eq_false_iff_ne.mpr c12
             have c12b1 : (q218 != 26) = true := bne_iff_ne.mpr c12
             by_cases c13 : q218 = 27
             ·rw [if_pos c13] at H
              have c13b0 : (q218 == 27) = true := beq_iff_eq.mpr c13
              have c13b1 : (q218 != 27) = false := bne_eq_false_iff_eq.mpr c13
              clear c13
              obtain rfl := Option.some.inj H
              go_enter Try.func47, Try.ntmps47
              go_wp2
              go_ret
              exact ⟨by first | rfl | (simp; done) | (simp [*]; done), by repeat (first | exact Drawn0.refl _ | apply Drawn0.step)⟩
             ·rw [if_neg c13] at H
              have c13b0 : (q218 == 27) = false := beq_eq_false_iff_ne.mpr c13
              have c13b1 : (q218 != 27) = true := bne_iff_ne.mpr c13
              by_cases c14 : q218 = 28
              ·rw [if_pos c14] at H
               have c14b0 : (q218 == 28) = true := beq_iff_eq.mpr c14
               have c14b1 : (q218 != 28) = false := bne_eq_false_iff_eq.mpr c14
               clear c14
               obtain rfl := Option.some.inj H
               go_enter Try.func47, Try.ntmps47
               go_wp2
               go_ret
               exact ⟨by first | rfl | (simp; done) | (simp [*]; done), by repeat (first | exact Drawn0.refl _ | apply Drawn0.step)⟩
              ·rw [if_neg c14] at H
               have c14b0 : (q218 == 28) = false := beq_eq_false_iff_ne.mpr c14
               have c14b1 : (q218 != 28) = true := bne_iff_ne.mpr c14
               by_cases c15 : q218 = 29
               ·rw [if_pos c15] at H
                have c15b0 : (q218 == 29) = true := beq_iff_eq.mpr c15
                have c15b1 : (q218 != 29) = false := bne_eq_false_iff_eq.mpr c15
                clear c15
                obtain rfl := Option.some.inj H
                go_enter Try.func47, Try.ntmps47
                go_wp2
                go_ret
                exact ⟨by first | rfl | (simp; done) | (simp [*]; done), by repeat (first | exact Drawn0.refl _ | apply Drawn0.step)⟩
               ·rw [if_neg c15] at H
                have c15b0 : (q218 == 29) = false := beq_eq_false_iff_ne.mpr c15
                have c15b1 : (q218 != 29) = true := bne_iff_ne.mpr c15
                by_cases c16 : q218 = 30
                ·rw [if_pos c16] at H
                 have c16b0 : (q218 == 30) = true := beq_iff_eq.mpr c16
                 have c16b1 : (q218 != 30) = false := bne_eq_false_iff_eq.mpr c16
                 clear c16
                 obtain rfl := Option.some.inj H
                 go_enter Try.func47, Try.ntmps47
                 go_wp2
                 go_ret
                 exact ⟨by first | rfl | (simp; done) | (simp [*]; done), by repeat (first | exact Drawn0.refl _ | apply Drawn0.step)⟩
                ·rw [if_neg c16] at H
                 have c16b0 : (q218 == 30) = false := beq_eq_false_iff_ne.mpr c16
                 have c16b1 : (q218 != 30) = true := bne_iff_ne.mpr c16
                 obtain rfl := Option.some.inj H
                 go_enter Try.func47, Try.ntmps47
                 go_wp2
                 go_ret
                 exact ⟨by first | rfl | (simp; done) | (simp [*]; done), by repeat (first | exact Drawn0.refl _ | apply Drawn0.step)⟩
def shacklelaw00_Code.f (a0 : Option Int) : Option (Int) := if a0.isNone = true then (some 0) else (if (a0.getD 0) = 1 then (some 1) else (if (a0.getD 0) = 2 then (some 2) else (if (a0.getD 0) = 3 then (some 3) else (if (a0.getD 0) = 4 then (some 4) else (if (a0.getD 0) = 5 then (some 5) else (if (a0.getD 0) = 6 then (some 6) else (if (a0.getD 0) = 7 then (some 7) else (if (a0.getD 0) = 8 then (some 8) else (if (a0.getD 0) = 9 then (some 9) else (if (a0.getD 0) = 10 then (some 10) else (if (a0.getD 0) = 11 then (some 11) else (if (a0.getD 0) = 12 then (some 12) else (if (a0.getD 0) = 13 then (some 13) else (if (a0.getD 0) = 14 then (some 14) else (if (a0.getD 0) = 15 then (some 15) else ((shacklelaw00_further.f (some (a0.getD 0))).bind fun t220 => (some t220)))))))))))))))))
set_option maxHeartbeats 8000000 in
set_option maxRecDepth 100000 in
theorem shacklelaw00_Code.calls (a0 : Option Int) (r : Int) (w : World) (h : shacklelaw00_Code.f a0 = some r) :
  Calls Try.prog 21 #[errW a0] w fun e w' => e = .returned (.int .i64 r) ∧ Drawn0 w w' := by
 have hu41 := Try.underlying41
 have hu97 := Try.underlying97
 have H : (if a0.isNone = true then (some 0) else (if (a0.getD 0) = 1 then (some 1) else (if (a0.getD 0) = 2 then (some 2) else (if (a0.getD 0) = 3 then (some 3) else (if (a0.getD 0) = 4 then (some 4) else (if (a0.getD 0) = 5 then (some 5) else (if (a0.getD 0) = 6 then (some 6) else (if (a0.getD 0) = 7 then (some 7) else (if (a0.getD 0) = 8 then (some 8) else (if (a0.getD 0) = 9 then (some 9) else (if (a0.getD 0) = 10 then (some 10) else (if (a0.getD 0) = 11 then (some 11) else (if (a0.getD 0) = 12 then (some 12) else (if (a0.getD 0) = 13 then (some 13) else (if (a0.getD 0) = 14 then (some 14) else (if (a0.getD 0) = 15 then (some 15) else ((shacklelaw00_further.f (some (a0.getD 0))).bind fun t220 => (some t220)))))))))))))))))) = some r := h
 clear h
 rcases a0 with _ | q219
 ·have H1 : (some 0) = some r := by rw [if_pos (show (none : Option Int).isNone = true by rfl)] at H; exact H
  clear H
  have H := H1
  clear H1
  simp only [errW_none, errW_some]
  obtain rfl := Option.some.inj H
  go_enter Try.func21, Try.ntmps21
  go_wp2
  go_ret
  exact ⟨by first | rfl | (simp; done) | (simp [*]; done), by repeat (first | exact Drawn0.refl _ | apply Drawn0.step)⟩
 ·have H1 : (if q219 = 1 then (some 1) else (if q219 = 2 then (some 2) else (if q219 = 3 then (some 3) else (if q219 = 4 then (some 4) else (if q219 = 5 then (some 5) else (if q219 = 6 then (some 6) else (if q219 = 7 then (some 7) else (if q219 = 8 then (some 8) else (if q219 = 9 then (some 9) else (if q219 = 10 then (some 10) else (if q219 = 11 then (some 11) else (if q219 = 12 then (some 12) else (if q219 = 13 then (some 13) else (if q219 = 14 then (some 14) else (if q219 = 15 then (some 15) else ((shacklelaw00_further.f (some q219)).bind fun t220 => (some t220))))))))))))))))) = some r := by rw [if_neg (show ¬ (some q219).isNone = true by simp)] at H; exact H
  clear H
  have H := H1
  clear H1
  simp only [errW_none, errW_some]
  by_cases c2 : q219 = 1
  ·rw [if_pos c2] at H
   have c2b0 : (q219 == 1) = true := beq_iff_eq.mpr c2
   have c2b1 : (q219 != 1) = false := bne_eq_false_iff_eq.mpr c2
   clear c2
   obtain rfl := Option.some.inj H
   go_enter Try.func21, Try.ntmps21
   go_wp2
   go_ret
   exact ⟨by first | rfl | (simp; done) | (simp [*]; done), by repeat (first | exact Drawn0.refl _ | apply Drawn0.step)⟩
  ·rw [if_neg c2] at H
   have c2b0 : (q219 == 1) = false := beq_eq_false_iff_ne.mpr c2
   have c2b1 : (q219 != 1) = true := bne_iff_ne.mpr c2
   by_cases c3 : q219 = 2
   ·rw [if_pos c3] at H
    have c3b0 : (q219 == 2) = true := beq_iff_eq.mpr c3
    have c3b1 : (q219 != 2) = false := bne_eq_false_iff_eq.mpr c3
    clear c3
    obtain rfl := Option.some.inj H
    go_enter Try.func21, Try.ntmps21
    go_wp2
    go_ret
    exact ⟨by first | rfl | (simp; done) | (simp [*]; done), by repeat (first | exact Drawn0.refl _ | apply Drawn0.step)⟩
   ·rw [if_neg c3] at H
    have c3b0 : (q219 == 2) = false := beq_eq_false_iff_ne.mpr c3
    have c3b1 : (q219 != 2) = true := bne_iff_ne.mpr c3
    by_cases c4 : q219 = 3
    ·rw [if_pos c4] at H
     have c4b0 : (q219 == 3) = true := beq_iff_eq.mpr c4
     have c4b1 : (q219 != 3) = false := bne_eq_false_iff_eq.mpr c4
     clear c4
     obtain rfl := Option.some.inj H
     go_enter Try.func21, Try.ntmps21
     go_wp2
     go_ret
     exact ⟨by first | rfl | (simp; done) | (simp [*]; done), by repeat (first | exact Drawn0.refl _ | apply Drawn0.step)⟩
    ·rw [if_neg c4] at H
     have c4b0 : (q219 == 3) = false := beq_eq_false_iff_ne.mpr c4
     have c4b1 : (q219 != 3) = true := bne_iff_ne.mpr c4
     by_cases c5 : q219 = 4
     ·rw [if_pos c5] at H
      have c5b0 : (q219 == 4) = true := beq_iff_eq.mpr c5
      have c5b1 : (q219 != 4) = false := bne_eq_false_iff_eq.mpr c5
      clear c5
      obtain rfl := Option.some.inj H
      go_enter Try.func21, Try.ntmps21
      go_wp2
      go_ret
      exact ⟨by first | rfl | (simp; done) | (simp [*]; done), by repeat (first | exact Drawn0.refl _ | apply Drawn0.step)⟩
     ·rw [if_neg c5] at H
      have c5b0 : (q219 == 4) = false := beq_eq_false_iff_ne.mpr c5
      have c5b1 : (q219 != 4) = true := bne_iff_ne.mpr c5
      by_cases c6 : q219 = 5
      ·rw [if_pos c6] at H
       have c6b0 : (q219 == 5) = true := beq_iff_eq.mpr c6
       have c6b1 : (q219 != 5) = false := bne_eq_false_iff_eq.mpr c6
       clear c6
       obtain rfl := Option.some.inj H
       go_enter Try.func21, Try.ntmps21
       go_wp2
       go_ret
       exact ⟨by first | rfl | (simp; done) | (simp [*]; done), by repeat (first | exact Drawn0.refl _ | apply Drawn0.step)⟩
      ·rw [if_neg c6] at H
       have c6b0 : (q219 == 5) = false := beq_eq_false_iff_ne.mpr c6
       have c6b1 : (q219 != 5) = true := bne_iff_ne.mpr c6
       by_cases c7 : q219 = 6
       ·rw [if_pos c7] at H
        have c7b0 : (q219 == 6) = true := beq_iff_eq.mpr c7
        have c7b1 : (q219 != 6) = false := bne_eq_false_iff_eq.mpr c7
        clear c7
        obtain rfl := Option.some.inj H
        go_enter Try.func21, Try.ntmps21
        go_wp2
        go_ret
        exact ⟨by first | rfl | (simp; done) | (simp [*]; done), by repeat (first | exact Drawn0.refl _ | apply Drawn0.step)⟩
       ·rw [if_neg c7] at H
        have c7b0 : (q219 == 6) = false := beq_eq_false_iff_ne.mpr c7
        have c7b1 : (q219 != 6) = true := bne_iff_ne.mpr c7
        by_cases c8 : q219 = 7
        ·rw [if_pos c8] at H
         have c8b0 : (q219 == 7) = true := beq_iff_eq.mpr c8
         have c8b1 : (q219 != 7) = false := bne_eq_false_iff_eq.mpr c8
         clear c8
         obtain rfl := Option.some.inj H
         go_enter Try.func21, Try.ntmps21
         go_wp2
         go_ret
         exact ⟨by first | rfl | (simp; done) | (simp [*]; done), by repeat (first | exact Drawn0.refl _ | apply Drawn0.step)⟩
        ·rw [if_neg c8] at H
         have c8b0 : (q219 == 7) = false := beq_eq_false_iff_ne.mpr c8
         have c8b1 : (q219 != 7) = true := bne_iff_ne.mpr c8
         by_cases c9 : q219 = 8
         ·rw [if_pos c9] at H
          have c9b0 : (q219 == 8) = true := beq_iff_eq.mpr c9
          have c9b1 : (q219 != 8) = false := bne_eq_false_iff_eq.mpr c9
          clear c9
          obtain rfl := Option.some.inj H
          go_enter Try.func21, Try.ntmps21
          go_wp2
          go_ret
          exact ⟨by first | rfl | (simp; done) | (simp [*]; done), by repeat (first | exact Drawn0.refl _ | apply Drawn0.step)⟩
         ·rw [if_neg c9] at H
          have c9b0 : (q219 == 8) = false := beq_eq_false_iff_ne.mpr c9
          have c9b1 : (q219 != 8) = true := bne_iff_ne.mpr c9
          by_cases c10 : q219 = 9
          ·rw [if_pos c10] at H
           have c10b0 : (q219 == 9) = true := beq_iff_eq.mpr c10
           have c10b1 : (q219 != 9) = false := bne_eq_false_iff_eq.mpr c10
           clear c10
           obtain rfl := Option.some.inj H
           go_enter Try.func21, Try.ntmps21
           go_wp2
           go_ret
           exact ⟨by first | rfl | (simp; done) | (simp [*]; done), by repeat (first | exact Drawn0.refl _ | apply Drawn0.step)⟩
          ·rw [if_neg c10] at H
           have c10b0 : (q219 == 9) = false := beq_eq_false_iff_ne.mpr c10
           have c10b1 : (q219 != 9) = true := bne_iff_ne.mpr c10
           by_cases c11 : q219 = 10
           ·rw [if_pos c11] at H
            have c11b0 : (q219 == 10) = true := beq_iff_eq.mpr c11
            have c11b1 : (q219 != 10) = false := bne_eq_false_iff_eq.mpr c11
            clear c11
            obtain rfl := Option.some.inj H
            go_enter Try.func21, Try.ntmps21
            go_wp2
            go_ret
            exact ⟨by first | rfl | (simp; done) | (simp [*]; done), by repeat (first | exact Drawn0.refl _ | apply Drawn0.step)⟩
           ·rw [if_neg c11] at H
            have c11b0 : (q219 == 10) = false := beq_eq_false_iff_ne.mpr c11
            have c11b1 : (q219 != 10) = true := bne_iff_ne.mpr c11
            by_cases c12 : q219 = 11
            ·rw [if_pos c12] at H
             have c12b0 : (q219 == 11) = true := beq_iff_eq.mpr c12
             have c12b1 : (q219 != 11) = false := bne_eq_false_iff_eq.mpr c12
             clear c12
             obtain rfl := Option.some.inj H
             go_enter Try.func21, Try.ntmps21
             go_wp2
             go_ret
             exact ⟨by first | rfl | (simp; done) | (simp [*]; done), by repeat (first | exact Drawn0.refl _ | apply Drawn0.step)⟩
            ·rw [if_neg c12] at H
             have c12b0 : (q219 == 11) = false := beq_eq_false_iff_ne.mpr c12
             have c12b1 : (q219 != 11) = true := bne_iff_ne.mpr c12
             by_cases c13 : q219 = 12
             ·rw [if_pos c13] at H
              have c13b0 : (q219 == 12) = true := beq_iff_eq.mpr c13
              have c13b1 : (q219 != 12) = false := bne_eq_false_iff_eq.mpr c13
              clear c13
              obtain rfl := Option.some.inj H
              go_enter Try.func21, Try.ntmps21
              go_wp2
              go_ret
              exact ⟨by first | rfl | (simp; done) | (simp [*]; done), by repeat (first | exact Drawn0.refl _ | apply Drawn0.step)⟩
             ·rw [if_neg c13] at H
              have c13b0 : (q219 == 12) = false := beq_eq_false_iff_ne.mpr c13
              have c13b1 : (q219 != 12) = true := bne_iff_ne.mpr c13
              by_cases c14 : q219 = 13
              ·rw [if_pos c14] at H
               have c14b0 : (q219 == 13) = true := beq_iff_eq.mpr c14
               have c14b1 : (q219 != 13) = false := bne_eq_false_iff_eq.mpr c14
               clear c14
               obtain rfl := Option.some.inj H
               go_enter Try.func21, Try.ntmps21
               go_wp2
               go_ret
               exact ⟨by first | rfl | (simp; done) | (simp [*]; done), by repeat (first | exact Drawn0.refl _ | apply Drawn0.step)⟩
              ·rw [if_neg c14] at H
               have c14b0 : (q219 == 13) = false := beq_eq_false_iff_ne.mpr c14
               have c14b1 : (q219 != 13) = true := bne_iff_ne.mpr c14
               by_cases c15 : q219 = 14
               ·rw [if_pos c15] at H
                have c15b0 : (q219 == 14) = true := beq_iff_eq.mpr c15
                have c15b1 : (q219 != 14) = false := bne_eq_false_iff_eq.mpr c15
                clear c15
                obtain rfl := Option.some.inj H
                go_enter Try.func21, Try.ntmps21
                go_wp2
                go_ret
                exact ⟨by first | rfl | (simp; done) | (simp [*]; done), by repeat (first | exact Drawn0.refl _ | apply Drawn0.step)⟩
               ·rw [if_neg c15] at H
                have c15b0 : (q219 == 14) = false := beq_eq_false_iff_ne.mpr c15
                have c15b1 : (q219 != 14) = true := bne_iff_ne.mpr c15
                by_cases c16 : q219 = 15
                ·rw [if_pos c16] at H
                 have c16b0 : (q219 == 15) = true := beq_iff_eq.mpr c16
                 have c16b1 : (q219 != 15) = false := bne_eq_false_iff_eq.mpr c16
                 clear c16
                 obtain rfl := Option.some.inj H
                 go_enter Try.func21, Try.ntmps21
                 go_wp2
                 go_ret
                 exact ⟨by first | rfl | (simp; done) | (simp [*]; done), by repeat (first | exact Drawn0.refl _ | apply Drawn0.step)⟩
                ·rw [if_neg c16] at H
                 have c16b0 : (q219 == 15) = false := beq_eq_false_iff_ne.mpr c16
                 have c16b1 : (q219 != 15) = true := bne_iff_ne.mpr c16
                 replace H := Option.bind_eq_some_iff.mp H
                 obtain ⟨t220, A170, H⟩ := H
                 replace H : (some t220) = some r := H
                 have A17 := Aside0.mk A170
                 clear A170
                 obtain rfl := Option.some.inj H
                 have CA17 := fun W => shacklelaw00_further.calls (some q219) t220 W A17.out
                 try simp only [errW_none, errW_some] at CA17
                 go_enter Try.func21, Try.ntmps21
                 go_wp2_with (first | (go_at_call 47; (with_reducible refine (CA17 _).mono ?_); rintro e w' ⟨rfl, ⟨nd, rfl⟩⟩))
                 go_ret
                 exact ⟨by first | rfl | (simp; done) | (simp [*]; done), by repeat (first | exact Drawn0.refl _ | apply Drawn0.step)⟩
end Go.Proofs.Ythopdoamajjojaa.QVers
