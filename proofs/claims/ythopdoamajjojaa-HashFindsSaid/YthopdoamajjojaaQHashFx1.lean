-- Laid by wip/hook.py (this session's own program) out of the translation; with contracts that were written by hand.
import Derived.Test.YthopdoamajjojaaQHashFx0
namespace Go.Proofs.Ythopdoamajjojaa.QHashF
open Go.RowKit Go.Proofs.YthopdoamajjojaaW.PrintWords Go.Proofs.YthopdoamajjojaaW.PrintLast Go.Proofs.YthopdoamajjojaaW.PrintMore
attribute [local go_sem] max2_int min2_int max_two min_two max_three min_three max_four min_four   -- for this text's walks alone
set_option linter.unusedVariables false
set_option linter.unusedSimpArgs false

/-! ### hash_Gnu: function 15 -/
def hash_Gnu.l0 : Nat → ByteArray → Int → Int → Int → Option (Int)
 | 0, _, _, _, _ => none
 | k + 1, x0, x3, x6, x7 => if x7 < x6 then (if 0 ≤ x7 then (if x7 < (x0.size : Int) then (hash_Gnu.l0 k x0 ((((x3 * 33) % 4294967296) + ((bt x0 x7) % 4294967296)) % 4294967296) x6 (wrap64 (x7 + 1))) else (none)) else (none)) else (some x3)
def hash_Gnu.f (k : Nat) (a0 : ByteArray) : Option (Int) := hash_Gnu.l0 k a0 5381 (a0.size : Int) 0
theorem hash_Gnu.mono_l : ∀ k, (∀ y0 y1 y2 y3, LeO (hash_Gnu.l0 k y0 y1 y2 y3) (hash_Gnu.l0 (k + 1) y0 y1 y2 y3))
 | 0 => fun _ _ _ _ r h => by simp [hash_Gnu.l0] at h
 | k + 1 => by
  have ih0 := hash_Gnu.mono_l k
  ·intro y0 y1 y2 y3
   unfold hash_Gnu.l0
   repeat' first
   | (with_reducible exact ih0 _ _ _ _)
   | (with_reducible exact LeO.refl _)
   | (with_reducible exact LeO.none _)
   | (with_reducible refine LeO.ite ?_ ?_)
   | (with_reducible refine LeO.bind ?_ (fun _ => ?_))
   | exact ih0 _ _ _ _
   | exact LeO.none _
   | refine LeO.ite ?_ ?_
   | refine LeO.bind ?_ (fun _ => ?_)
theorem hash_Gnu.mono : ∀ a0 k, LeO (hash_Gnu.f k a0) (hash_Gnu.f (k + 1) a0) := by
 intro a0 k
 have ih0 := hash_Gnu.mono_l k
 unfold hash_Gnu.f
 repeat' first
   | (with_reducible exact ih0 _ _ _ _)
   | (with_reducible exact LeO.refl _)
   | (with_reducible exact LeO.none _)
   | (with_reducible refine LeO.ite ?_ ?_)
   | (with_reducible refine LeO.bind ?_ (fun _ => ?_))
   | exact ih0 _ _ _ _
   | exact LeO.none _
   | refine LeO.ite ?_ ?_
   | refine LeO.bind ?_ (fun _ => ?_)
set_option maxHeartbeats 8000000 in
set_option maxRecDepth 100000 in
theorem hash_Gnu.calls (k : Nat) (a0 : ByteArray) (r : Int) (w : World) (h : hash_Gnu.f k a0 = some r) :
  Calls Try.prog 15 #[.string a0] w fun e w' => e = .returned (.int .u32 r) ∧ Drawn0 w w' := by
 have H : (hash_Gnu.l0 k a0 5381 (a0.size : Int) 0) = some r := h
 clear h
 have H' := Aside0.mk H
 clear H
 go_enter Try.func15, Try.ntmps15
 go_wp2
 go_loopg [3, 7] k (fun kq v3 v7 w' => ∃ (x3_1 : Int) (x7_1 : Int), v3 = .int .u32 x3_1 ∧ v7 = .int .i64 x7_1 ∧ Aside0 (hash_Gnu.l0 kq a0 x3_1 (a0.size : Int) x7_1 = some r) ∧ Aside0 (kq ≤ k) ∧ Drawn0 w w')
 case atStart => exact ⟨(5381), (0), (by first | rfl | (simp; done) | (simp [*]; done)), (by first | rfl | (simp; done) | (simp [*]; done)), H', ⟨Nat.le_refl _⟩, by repeat (first | exact Drawn0.refl _ | apply Drawn0.step)⟩
 case round =>
  clear H'
  try clear c1
  obtain ⟨x3_1, x7_1, rfl, rfl, HA, HK1, ⟨m1, rfl⟩⟩ := hrel
  cases gk with
  | zero => exact absurd HA.out (by simp [hash_Gnu.l0])
  | succ k1 =>
   have H := HA.out
   clear HA
   simp only [hash_Gnu.l0] at H
   by_cases c2 : x7_1 < (a0.size : Int)
   ·rw [if_pos c2] at H
    have c2b0 : decide (x7_1 < (a0.size : Int)) = true := decide_eq_true c2
    clear c2
    by_cases c3 : 0 ≤ x7_1
    ·rw [if_pos c3] at H
     have c3b0 : decide (0 ≤ x7_1) = true := decide_eq_true c3
     clear c3
     by_cases c4 : x7_1 < (a0.size : Int)
     ·rw [if_pos c4] at H
      have c4b0 : decide (x7_1 < (a0.size : Int)) = true := decide_eq_true c4
      clear c4
      have H' := Aside0.mk H
      clear H
      have p5 : 0 ≤ (x7_1 : Int) := of_decide_eq_true (by assumption)
      have q5 : x7_1 < (a0.size : Int) := of_decide_eq_true (by assumption)
      have hx5 := bt_at a0 x7_1
      replace p5 := eq_true p5
      replace q5 := eq_true q5
      go_wp2
      go_roundg k1
      case measure => have := HK1.out; omega
      case rel => exact ⟨((((x3_1 * 33) % 4294967296) + ((bt a0 x7_1) % 4294967296)) % 4294967296), (wrap64 (x7_1 + 1)), (by first | rfl | (simp; done) | (simp [*]; done)), (by first | rfl | (simp; done) | (simp [*]; done)), H', ⟨by have := HK1.out; omega⟩, by repeat (first | exact Drawn0.refl _ | apply Drawn0.step)⟩
     ·rw [if_neg c4] at H
      exact absurd H (by simp)
    ·rw [if_neg c3] at H
     exact absurd H (by simp)
   ·rw [if_neg c2] at H
    have c2b0 : decide (x7_1 < (a0.size : Int)) = false := decide_eq_false c2
    clear c2
    obtain rfl := Option.some.inj H
    go_wp2
    go_ret
    exact ⟨by first | rfl | (simp; done) | (simp [*]; done), by repeat (first | exact Drawn0.refl _ | apply Drawn0.step)⟩

/-! ### hash_Sysv: function 24 -/
def hash_Sysv.l0 : Nat → ByteArray → Int → Int → Int → Option (Int)
 | 0, _, _, _, _ => none
 | k + 1, x0, x3, x7, x8 => if x8 < x7 then (if 0 ≤ x8 then (if x8 < (x0.size : Int) then (hash_Sysv.l0 k x0 (Go.bits .andNot .u32 (Go.bits .xor .u32 ((((x3 * 16) % 4294967296) + ((bt x0 x8) % 4294967296)) % 4294967296) ((Go.bits .and .u32 ((((x3 * 16) % 4294967296) + ((bt x0 x8) % 4294967296)) % 4294967296) 4026531840) / 16777216)) (Go.bits .and .u32 ((((x3 * 16) % 4294967296) + ((bt x0 x8) % 4294967296)) % 4294967296) 4026531840)) x7 (wrap64 (x8 + 1))) else (none)) else (none)) else (some x3)
def hash_Sysv.f (k : Nat) (a0 : ByteArray) : Option (Int) := hash_Sysv.l0 k a0 0 (a0.size : Int) 0
theorem hash_Sysv.mono_l : ∀ k, (∀ y0 y1 y2 y3, LeO (hash_Sysv.l0 k y0 y1 y2 y3) (hash_Sysv.l0 (k + 1) y0 y1 y2 y3))
 | 0 => fun _ _ _ _ r h => by simp [hash_Sysv.l0] at h
 | k + 1 => by
  have ih0 := hash_Sysv.mono_l k
  ·intro y0 y1 y2 y3
   unfold hash_Sysv.l0
   repeat' first
   | (with_reducible exact ih0 _ _ _ _)
   | (with_reducible exact LeO.refl _)
   | (with_reducible exact LeO.none _)
   | (with_reducible refine LeO.ite ?_ ?_)
   | (with_reducible refine LeO.bind ?_ (fun _ => ?_))
   | exact ih0 _ _ _ _
   | exact LeO.none _
   | refine LeO.ite ?_ ?_
   | refine LeO.bind ?_ (fun _ => ?_)
theorem hash_Sysv.mono : ∀ a0 k, LeO (hash_Sysv.f k a0) (hash_Sysv.f (k + 1) a0) := by
 intro a0 k
 have ih0 := hash_Sysv.mono_l k
 unfold hash_Sysv.f
 repeat' first
   | (with_reducible exact ih0 _ _ _ _)
   | (with_reducible exact LeO.refl _)
   | (with_reducible exact LeO.none _)
   | (with_reducible refine LeO.ite ?_ ?_)
   | (with_reducible refine LeO.bind ?_ (fun _ => ?_))
   | exact ih0 _ _ _ _
   | exact LeO.none _
   | refine LeO.ite ?_ ?_
   | refine LeO.bind ?_ (fun _ => ?_)
set_option maxHeartbeats 8000000 in
set_option maxRecDepth 100000 in
theorem hash_Sysv.calls (k : Nat) (a0 : ByteArray) (r : Int) (w : World) (h : hash_Sysv.f k a0 = some r) :
  Calls Try.prog 24 #[.string a0] w fun e w' => e = .returned (.int .u32 r) ∧ Drawn0 w w' := by
 have H : (hash_Sysv.l0 k a0 0 (a0.size : Int) 0) = some r := h
 clear h
 have H' := Aside0.mk H
 clear H
 go_enter Try.func24, Try.ntmps24
 go_wp2
 go_loopg [3, 8] k (fun kq v3 v8 w' => ∃ (x3_1 : Int) (x8_1 : Int), v3 = .int .u32 x3_1 ∧ v8 = .int .i64 x8_1 ∧ Aside0 (hash_Sysv.l0 kq a0 x3_1 (a0.size : Int) x8_1 = some r) ∧ Aside0 (kq ≤ k) ∧ Drawn0 w w')
 case atStart => exact ⟨(0), (0), (by first | rfl | (simp; done) | (simp [*]; done)), (by first | rfl | (simp; done) | (simp [*]; done)), H', ⟨Nat.le_refl _⟩, by repeat (first | exact Drawn0.refl _ | apply Drawn0.step)⟩
 case round =>
  clear H'
  obtain ⟨x3_1, x8_1, rfl, rfl, HA, HK1, ⟨m1, rfl⟩⟩ := hrel
  cases gk with
  | zero => exact absurd HA.out (by simp [hash_Sysv.l0])
  | succ k1 =>
   have H := HA.out
   clear HA
   simp only [hash_Sysv.l0] at H
   by_cases c2 : x8_1 < (a0.size : Int)
   ·rw [if_pos c2] at H
    have c2b0 : decide (x8_1 < (a0.size : Int)) = true := decide_eq_true c2
    clear c2
    by_cases c3 : 0 ≤ x8_1
    ·rw [if_pos c3] at H
     have c3b0 : decide (0 ≤ x8_1) = true := decide_eq_true c3
     clear c3
     by_cases c4 : x8_1 < (a0.size : Int)
     ·rw [if_pos c4] at H
      have c4b0 : decide (x8_1 < (a0.size : Int)) = true := decide_eq_true c4
      clear c4
      have H' := Aside0.mk H
      clear H
      have p5 : 0 ≤ (x8_1 : Int) := of_decide_eq_true (by assumption)
      have q5 : x8_1 < (a0.size : Int) := of_decide_eq_true (by assumption)
      have hx5 := bt_at a0 x8_1
      replace p5 := eq_true p5
      replace q5 := eq_true q5
      go_wp2
      go_roundg k1
      case measure => have := HK1.out; omega
      case rel => exact ⟨(Go.bits .andNot .u32 (Go.bits .xor .u32 ((((x3_1 * 16) % 4294967296) + ((bt a0 x8_1) % 4294967296)) % 4294967296) ((Go.bits .and .u32 ((((x3_1 * 16) % 4294967296) + ((bt a0 x8_1) % 4294967296)) % 4294967296) 4026531840) / 16777216)) (Go.bits .and .u32 ((((x3_1 * 16) % 4294967296) + ((bt a0 x8_1) % 4294967296)) % 4294967296) 4026531840)), (wrap64 (x8_1 + 1)), (by first | rfl | (simp; done) | (simp [*]; done)), (by first | rfl | (simp; done) | (simp [*]; done)), H', ⟨by have := HK1.out; omega⟩, by repeat (first | exact Drawn0.refl _ | apply Drawn0.step)⟩
     ·rw [if_neg c4] at H
      exact absurd H (by simp)
    ·rw [if_neg c3] at H
     exact absurd H (by simp)
   ·rw [if_neg c2] at H
    have c2b0 : decide (x8_1 < (a0.size : Int)) = false := decide_eq_false c2
    clear c2
    obtain rfl := Option.some.inj H
    go_wp2
    go_ret
    exact ⟨by first | rfl | (simp; done) | (simp [*]; done), by repeat (first | exact Drawn0.refl _ | apply Drawn0.step)⟩

/-! ### shacklelaw07_up: function 10 -/
def shacklelaw07_up.f (k : Nat)  : Option (Bool) := (hash_Sysv.f k (⟨#[112, 114, 105, 110, 116, 102]⟩ : ByteArray)).bind fun t101 => (if t101 = 125371814 then ((hash_Gnu.f k (⟨#[112, 114, 105, 110, 116, 102]⟩ : ByteArray)).bind fun t102 => (if t102 = 359345080 then ((hash_Sysv.f k (⟨#[]⟩ : ByteArray)).bind fun t103 => (if t103 = 0 then ((hash_Gnu.f k (⟨#[]⟩ : ByteArray)).bind fun t104 => (some (t104 == 5381))) else (some false))) else (some false))) else (some false))
theorem shacklelaw07_up.mono : ∀ k, LeO (shacklelaw07_up.f k ) (shacklelaw07_up.f (k + 1) ) := by
 intro  k
 unfold shacklelaw07_up.f
 repeat' first
   | (with_reducible exact hash_Gnu.mono _ _)
   | (with_reducible exact hash_Sysv.mono _ _)
   | (with_reducible exact LeO.refl _)
   | (with_reducible exact LeO.none _)
   | (with_reducible refine LeO.ite ?_ ?_)
   | (with_reducible refine LeO.bind ?_ (fun _ => ?_))
   | exact hash_Gnu.mono _ _
   | exact hash_Sysv.mono _ _
   | exact LeO.none _
   | refine LeO.ite ?_ ?_
   | refine LeO.bind ?_ (fun _ => ?_)
set_option maxHeartbeats 8000000 in
set_option maxRecDepth 100000 in
theorem shacklelaw07_up.calls (k : Nat)  (r : Bool) (w : World) (h : shacklelaw07_up.f k  = some r) :
  Calls Try.prog 10 #[] w fun e w' => e = .returned (.bool r) ∧ Drawn0 w w' := by
 have H : ((hash_Sysv.f k (⟨#[112, 114, 105, 110, 116, 102]⟩ : ByteArray)).bind fun t101 => (if t101 = 125371814 then ((hash_Gnu.f k (⟨#[112, 114, 105, 110, 116, 102]⟩ : ByteArray)).bind fun t102 => (if t102 = 359345080 then ((hash_Sysv.f k (⟨#[]⟩ : ByteArray)).bind fun t103 => (if t103 = 0 then ((hash_Gnu.f k (⟨#[]⟩ : ByteArray)).bind fun t104 => (some (t104 == 5381))) else (some false))) else (some false))) else (some false))) = some r := h
 clear h
 replace H := Option.bind_eq_some_iff.mp H
 obtain ⟨t101, A10, H⟩ := H
 replace H : (if t101 = 125371814 then ((hash_Gnu.f k (⟨#[112, 114, 105, 110, 116, 102]⟩ : ByteArray)).bind fun t102 => (if t102 = 359345080 then ((hash_Sysv.f k (⟨#[]⟩ : ByteArray)).bind fun t103 => (if t103 = 0 then ((hash_Gnu.f k (⟨#[]⟩ : ByteArray)).bind fun t104 => (some (t104 == 5381))) else (some false))) else (some false))) else (some false)) = some r := H
 have A1 := Aside0.mk A10
 clear A10
 by_cases c2 : t101 = 125371814
 ·rw [if_pos c2] at H
  have c2b0 : (t101 == 125371814) = true := beq_iff_eq.mpr c2
  have c2b1 : (t101 != 125371814) = false := bne_eq_false_iff_eq.mpr c2
  clear c2
  replace H := Option.bind_eq_some_iff.mp H
  obtain ⟨t102, A30, H⟩ := H
  replace H : (if t102 = 359345080 then ((hash_Sysv.f k (⟨#[]⟩ : ByteArray)).bind fun t103 => (if t103 = 0 then ((hash_Gnu.f k (⟨#[]⟩ : ByteArray)).bind fun t104 => (some (t104 == 5381))) else (some false))) else (some false)) = some r := H
  have A3 := Aside0.mk A30
  clear A30
  by_cases c4 : t102 = 359345080
  ·rw [if_pos c4] at H
   have c4b0 : (t102 == 359345080) = true := beq_iff_eq.mpr c4
   have c4b1 : (t102 != 359345080) = false := bne_eq_false_iff_eq.mpr c4
   clear c4
   replace H := Option.bind_eq_some_iff.mp H
   obtain ⟨t103, A50, H⟩ := H
   replace H : (if t103 = 0 then ((hash_Gnu.f k (⟨#[]⟩ : ByteArray)).bind fun t104 => (some (t104 == 5381))) else (some false)) = some r := H
   have A5 := Aside0.mk A50
   clear A50
   by_cases c6 : t103 = 0
   ·rw [if_pos c6] at H
    have c6b0 : (t103 == 0) = true := beq_iff_eq.mpr c6
    have c6b1 : (t103 != 0) = false := bne_eq_false_iff_eq.mpr c6
    clear c6
    replace H := Option.bind_eq_some_iff.mp H
    obtain ⟨t104, A70, H⟩ := H
    replace H : (some (t104 == 5381)) = some r := H
    have A7 := Aside0.mk A70
    clear A70
    obtain rfl := Option.some.inj H
    go_enter Try.func10, Try.ntmps10
    go_wp2_with (first | ((with_reducible refine gate_callee (f := 24) rfl ?_); refine goesL_ (some 1) rfl rfl Try.func24 (by kernel_rfl) rfl #[.string (⟨#[112, 114, 105, 110, 116, 102]⟩ : ByteArray)] rfl (by (try simp only [List.map_toArray, List.map_cons, List.map_nil]); first | done | rfl | (simp only [List.length_drop, List.length_take]; rfl)) ?_; (with_reducible refine (hash_Sysv.calls k (⟨#[112, 114, 105, 110, 116, 102]⟩ : ByteArray) t101 _ A1.out).mono ?_); rintro e w' ⟨rfl, ⟨nd, rfl⟩⟩; refine ⟨_, rfl, ?_⟩) | (go_at_call 15; (with_reducible refine (hash_Gnu.calls k (⟨#[112, 114, 105, 110, 116, 102]⟩ : ByteArray) t102 _ A3.out).mono ?_); rintro e w' ⟨rfl, ⟨nd, rfl⟩⟩) | (go_at_call 24; (with_reducible refine (hash_Sysv.calls k (⟨#[]⟩ : ByteArray) t103 _ A5.out).mono ?_); rintro e w' ⟨rfl, ⟨nd, rfl⟩⟩) | (go_at_call 15; (with_reducible refine (hash_Gnu.calls k (⟨#[]⟩ : ByteArray) t104 _ A7.out).mono ?_); rintro e w' ⟨rfl, ⟨nd, rfl⟩⟩))
    go_ret
    exact ⟨by first | rfl | (simp; done) | (simp [*]; done), by repeat (first | exact Drawn0.refl _ | apply Drawn0.step)⟩
   ·rw [if_neg c6] at H
    have c6b0 : (t103 == 0) = false := beq_eq_false_iff_ne.mpr c6
    have c6b1 : (t103 != 0) = true := bne_iff_ne.mpr c6
    obtain rfl := Option.some.inj H
    go_enter Try.func10, Try.ntmps10
    go_wp2_with (first | ((with_reducible refine gate_callee (f := 24) rfl ?_); refine goesL_ (some 1) rfl rfl Try.func24 (by kernel_rfl) rfl #[.string (⟨#[112, 114, 105, 110, 116, 102]⟩ : ByteArray)] rfl (by (try simp only [List.map_toArray, List.map_cons, List.map_nil]); first | done | rfl | (simp only [List.length_drop, List.length_take]; rfl)) ?_; (with_reducible refine (hash_Sysv.calls k (⟨#[112, 114, 105, 110, 116, 102]⟩ : ByteArray) t101 _ A1.out).mono ?_); rintro e w' ⟨rfl, ⟨nd, rfl⟩⟩; refine ⟨_, rfl, ?_⟩) | (go_at_call 15; (with_reducible refine (hash_Gnu.calls k (⟨#[112, 114, 105, 110, 116, 102]⟩ : ByteArray) t102 _ A3.out).mono ?_); rintro e w' ⟨rfl, ⟨nd, rfl⟩⟩) | (go_at_call 24; (with_reducible refine (hash_Sysv.calls k (⟨#[]⟩ : ByteArray) t103 _ A5.out).mono ?_); rintro e w' ⟨rfl, ⟨nd, rfl⟩⟩))
    go_ret
    exact ⟨by first | rfl | (simp; done) | (simp [*]; done), by repeat (first | exact Drawn0.refl _ | apply Drawn0.step)⟩
  ·rw [if_neg c4] at H
   have c4b0 : (t102 == 359345080) = false := beq_eq_false_iff_ne.mpr c4
   have c4b1 : (t102 != 359345080) = true := bne_iff_ne.mpr c4
   obtain rfl := Option.some.inj H
   go_enter Try.func10, Try.ntmps10
   go_wp2_with (first | ((with_reducible refine gate_callee (f := 24) rfl ?_); refine goesL_ (some 1) rfl rfl Try.func24 (by kernel_rfl) rfl #[.string (⟨#[112, 114, 105, 110, 116, 102]⟩ : ByteArray)] rfl (by (try simp only [List.map_toArray, List.map_cons, List.map_nil]); first | done | rfl | (simp only [List.length_drop, List.length_take]; rfl)) ?_; (with_reducible refine (hash_Sysv.calls k (⟨#[112, 114, 105, 110, 116, 102]⟩ : ByteArray) t101 _ A1.out).mono ?_); rintro e w' ⟨rfl, ⟨nd, rfl⟩⟩; refine ⟨_, rfl, ?_⟩) | (go_at_call 15; (with_reducible refine (hash_Gnu.calls k (⟨#[112, 114, 105, 110, 116, 102]⟩ : ByteArray) t102 _ A3.out).mono ?_); rintro e w' ⟨rfl, ⟨nd, rfl⟩⟩))
   go_ret
   exact ⟨by first | rfl | (simp; done) | (simp [*]; done), by repeat (first | exact Drawn0.refl _ | apply Drawn0.step)⟩
 ·rw [if_neg c2] at H
  have c2b0 : (t101 == 125371814) = false := beq_eq_false_iff_ne.mpr c2
  have c2b1 : (t101 != 125371814) = true := bne_iff_ne.mpr c2
  obtain rfl := Option.some.inj H
  go_enter Try.func10, Try.ntmps10
  go_wp2_with (first | ((with_reducible refine gate_callee (f := 24) rfl ?_); refine goesL_ (some 1) rfl rfl Try.func24 (by kernel_rfl) rfl #[.string (⟨#[112, 114, 105, 110, 116, 102]⟩ : ByteArray)] rfl (by (try simp only [List.map_toArray, List.map_cons, List.map_nil]); first | done | rfl | (simp only [List.length_drop, List.length_take]; rfl)) ?_; (with_reducible refine (hash_Sysv.calls k (⟨#[112, 114, 105, 110, 116, 102]⟩ : ByteArray) t101 _ A1.out).mono ?_); rintro e w' ⟨rfl, ⟨nd, rfl⟩⟩; refine ⟨_, rfl, ?_⟩))
  go_ret
  exact ⟨by first | rfl | (simp; done) | (simp [*]; done), by repeat (first | exact Drawn0.refl _ | apply Drawn0.step)⟩

/-! ### shacklelaw07_four: function 29 -/
mutual
def shacklelaw07_four.l0 : Nat → List Int → List Int → Int → Option (List Int)
 | 0, _, _, _ => none
 | k + 1, x0, x3, x4 => if x4 < (x0.length : Int) then (if 0 ≤ x4 then (shacklelaw07_four.l1 k x0 x3 x4 (rd x0 x4) 0) else (none)) else (some x3)
def shacklelaw07_four.l1 : Nat → List Int → List Int → Int → Int → Int → Option (List Int)
 | 0, _, _, _, _, _ => none
 | k + 1, x0, x3, x4, x5, x6 => if x6 < 4 then (if x3.length < 140737488355328 then (shacklelaw07_four.l1 k x0 (x3 ++ [(Int.tmod x5 256) % 256]) x4 ((Int.tdiv x5 256) % 4294967296) (wrap64 (x6 + 1))) else (none)) else (shacklelaw07_four.l0 k x0 x3 (wrap64 (x4 + 1)))
end
def shacklelaw07_four.f (k : Nat) (l0 : List Int) : Option (List Int) := shacklelaw07_four.l0 k l0 ([] : List Int) 0
theorem shacklelaw07_four.mono_l : ∀ k, (∀ y0 y1 y2, LeO (shacklelaw07_four.l0 k y0 y1 y2) (shacklelaw07_four.l0 (k + 1) y0 y1 y2)) ∧ (∀ y0 y1 y2 y3 y4, LeO (shacklelaw07_four.l1 k y0 y1 y2 y3 y4) (shacklelaw07_four.l1 (k + 1) y0 y1 y2 y3 y4))
 | 0 => ⟨fun _ _ _ r h => by simp [shacklelaw07_four.l0] at h, fun _ _ _ _ _ r h => by simp [shacklelaw07_four.l1] at h⟩
 | k + 1 => by
  obtain ⟨ih0, ih1⟩ := shacklelaw07_four.mono_l k
  refine ⟨?_, ?_⟩
  ·intro y0 y1 y2
   unfold shacklelaw07_four.l0
   repeat' first
   | (with_reducible exact ih0 _ _ _)
   | (with_reducible exact ih1 _ _ _ _ _)
   | (with_reducible exact LeO.refl _)
   | (with_reducible exact LeO.none _)
   | (with_reducible refine LeO.ite ?_ ?_)
   | (with_reducible refine LeO.bind ?_ (fun _ => ?_))
   | exact ih0 _ _ _
   | exact ih1 _ _ _ _ _
   | exact LeO.none _
   | refine LeO.ite ?_ ?_
   | refine LeO.bind ?_ (fun _ => ?_)
  ·intro y0 y1 y2 y3 y4
   unfold shacklelaw07_four.l1
   repeat' first
   | (with_reducible exact ih0 _ _ _)
   | (with_reducible exact ih1 _ _ _ _ _)
   | (with_reducible exact LeO.refl _)
   | (with_reducible exact LeO.none _)
   | (with_reducible refine LeO.ite ?_ ?_)
   | (with_reducible refine LeO.bind ?_ (fun _ => ?_))
   | exact ih0 _ _ _
   | exact ih1 _ _ _ _ _
   | exact LeO.none _
   | refine LeO.ite ?_ ?_
   | refine LeO.bind ?_ (fun _ => ?_)
theorem shacklelaw07_four.mono : ∀ a0 k, LeO (shacklelaw07_four.f k a0) (shacklelaw07_four.f (k + 1) a0) := by
 intro a0 k
 obtain ⟨ih0, ih1⟩ := shacklelaw07_four.mono_l k
 unfold shacklelaw07_four.f
 repeat' first
   | (with_reducible exact ih0 _ _ _)
   | (with_reducible exact ih1 _ _ _ _ _)
   | (with_reducible exact LeO.refl _)
   | (with_reducible exact LeO.none _)
   | (with_reducible refine LeO.ite ?_ ?_)
   | (with_reducible refine LeO.bind ?_ (fun _ => ?_))
   | exact ih0 _ _ _
   | exact ih1 _ _ _ _ _
   | exact LeO.none _
   | refine LeO.ite ?_ ?_
   | refine LeO.bind ?_ (fun _ => ?_)
set_option maxHeartbeats 8000000 in
set_option maxRecDepth 100000 in
theorem shacklelaw07_four.calls (k : Nat) (A0 : Option Addr) (c0 : Nat) (l0 : List Int) (r : List Int) (w : World) (hr0 : Kd.C (Kd.int .u32) w A0 l0.length l0) (hc0 : l0.length ≤ c0) (h : shacklelaw07_four.f k l0 = some r) :
  Calls Try.prog 29 #[.slice A0 l0.length c0] w fun e w' => ∃ v0_ : Value, e = .returned (v0_) ∧ Kd.R (Kd.int .u8) 5 w' w.heap.size (fun _ => True) v0_ r ∧ Below w.heap.size w w' := by
 have HR0 := Aside0.mk hr0
 have HC0 := Aside0.mk hc0
 clear hr0 hc0
 have HB := Aside0.mk (Below.refl w.heap.size w)
 have H : (shacklelaw07_four.l0 k l0 ([] : List Int) 0) = some r := h
 clear h
 have H' := Aside0.mk H
 clear H
 go_enter Try.func29, Try.ntmps29
 go_wp2
 go_loopg [3, 4] k (fun kq v3 v4 w' => ∃ (x3_1 : List Int) (x4_1 : Int), v4 = .int .i64 x4_1 ∧ Aside0 (shacklelaw07_four.l0 kq l0 x3_1 x4_1 = some r) ∧ Aside0 (kq ≤ k) ∧ Aside0 (Kd.R (Kd.int .u8) 5 w' w.heap.size (fun _ => True) v3 x3_1) ∧ Aside0 (Below w.heap.size w w'))
 case atStart => exact ⟨(([] : List Int)), (0), (by first | rfl | (simp; done) | (simp [*]; done)), H', ⟨Nat.le_refl _⟩, ⟨by first | exact Kd.R_nil _ _ _ _ _ | exact Kd.N_nil _ _ _ _ _ | exact Kd.V_nil _ _ _ _ _ | exact Kd.Q_nil _ _ _ _ _ | exact Kd.S_nil _ _ _ _ _⟩, ⟨by repeat (first | (with_reducible first | exact HB.out | apply below_alloc | apply pw_below_drewN | apply below_drew1) | exact HB.out)⟩⟩
 case round =>
  clear H'
  obtain ⟨x3_1, x4_1, rfl, HA, HK1, HO_3, HB⟩ := hrel
  cases gk with
  | zero => exact absurd HA.out (by simp [shacklelaw07_four.l0])
  | succ k1 =>
   have H := HA.out
   clear HA
   simp only [shacklelaw07_four.l0] at H
   by_cases c2 : x4_1 < (l0.length : Int)
   ·rw [if_pos c2] at H
    have c2b0 : decide (x4_1 < (l0.length : Int)) = true := decide_eq_true c2
    clear c2
    by_cases c3 : 0 ≤ x4_1
    ·rw [if_pos c3] at H
     have c3b0 : decide (0 ≤ x4_1) = true := decide_eq_true c3
     clear c3
     have H' := Aside0.mk H
     clear H
     have p105 : 0 ≤ (x4_1 : Int) := of_decide_eq_true (by assumption)
     have q105 : x4_1 < (l0.length : Int) := of_decide_eq_true (by assumption)
     obtain ⟨ad105, e105, hx105_0⟩ := Kd.at_int HR0.out x4_1 p105 q105
     cases e105
     replace hx105_0 := (HB.out.cell (World.block_lt_of_cell? w _ hx105_0)).trans hx105_0
     replace p105 := eq_true p105
     replace q105 := eq_true q105
     go_wp2
     go_loopg [3, 5, 6] k1 (fun kq v3 v5 v6 w' => ∃ (x3_2 : List Int) (x5_2 : Int) (x6_2 : Int), v5 = .int .u32 x5_2 ∧ v6 = .int .i64 x6_2 ∧ Aside0 (shacklelaw07_four.l1 kq l0 x3_2 x4_1 x5_2 x6_2 = some r) ∧ Aside0 (kq ≤ k1) ∧ Aside0 (Kd.R (Kd.int .u8) 5 w' w.heap.size (fun _ => True) v3 x3_2) ∧ Aside0 (Below w.heap.size w w'))
     case atStart => exact ⟨(x3_1), (rd l0 x4_1), (0), (by first | rfl | (simp; done) | (simp [*]; done)), (by first | rfl | (simp; done) | (simp [*]; done)), H', ⟨Nat.le_refl _⟩, ⟨by (with_reducible repeat (first | apply Kd.R_alloc | apply Kd.R_drewN | apply Kd.R_drew)); exact HO_3.out⟩, ⟨by repeat (first | (with_reducible first | exact HB.out | apply below_alloc | apply pw_below_drewN | apply below_drew1) | exact HB.out)⟩⟩
     case round =>
      clear H'
      try clear p1
      try clear q1
      try clear hx1
      try clear c2
      try clear c2b0
      try clear p2
      try clear c3
      try clear c3b0
      try clear hx105_0
      try clear p105
      try clear q105
      obtain ⟨x3_2, x5_2, x6_2, rfl, rfl, HA, HK2, HO_3, HB⟩ := hrel
      cases gk with
      | zero => exact absurd HA.out (by simp [shacklelaw07_four.l1])
      | succ k2 =>
       have H := HA.out
       clear HA
       simp only [shacklelaw07_four.l1] at H
       by_cases c4 : x6_2 < 4
       ·rw [if_pos c4] at H
        have c4b0 : decide (x6_2 < 4) = true := decide_eq_true c4
        clear c4
        by_cases c5 : x3_2.length < 140737488355328
        ·rw [if_pos c5] at H
         have LMc5 := Aside0.mk c5
         clear c5
         obtain ⟨y106, hy106⟩ : ∃ y_ : List Int, y_ = (x3_2 ++ [(Int.tmod x5_2 256) % 256]) := ⟨_, rfl⟩
         replace H : (shacklelaw07_four.l1 k2 l0 y106 x4_1 ((Int.tdiv x5_2 256) % 4294967296) (wrap64 (x6_2 + 1))) = some r := by first | (rw [hy106]; with_reducible exact H) | (have H2_ := (Option.bind_some _ _).symm.trans H; rw [hy106]; with_reducible exact H2_) | (have H2_ := (Option.bind_some _ _).symm.trans H; with_reducible exact H2_) | with_reducible exact H | (rw [hy106]; exact H) | exact H
         have Ny106 := Aside0.mk hy106
         clear hy106
         have H' := Aside0.mk H
         clear H
         go_wp2_with (first | ((with_reducible refine gate_builtin (b := .append) (xs := #[.tmp 21, .tmp 25]) rfl ?_); at_builtin; refine Kd.R_append (Kd.int .u8) (w0 := w) w.heap.size rfl (.tmp 21) (.tmp 25) 24 5 (.int .u8 0) 1 rfl Try.underlying24 info5 rfl (by decide) (by omega) u3 x3_2 ((Int.tmod x5_2 256) % 256) [.int .u8 ((Int.tmod x5_2 256) % 256)] (fun _ => True) (fun _ => False) rfl rfl ?aP (fun _ hk => hk.elim) ?aF ?aO ?aB ?aS ?aL ?_; (case aP => exact rfl); (case aB => exact (by repeat (first | (with_reducible first | exact HB.out | apply below_alloc | apply pw_below_drewN | apply below_drew1) | exact HB.out))); (case aF => exact (fun _ _ => trivial)); (case aO => exact (by (with_reducible repeat (first | apply Kd.R_alloc | apply Kd.R_drewN | apply Kd.R_drew)); exact HO_3.out)); (case aS => exact (below_size (by repeat (first | (with_reducible first | exact HB.out | apply below_alloc | apply pw_below_drewN | apply below_drew1) | exact HB.out)))); (case aL => have := LMc5.out; omega); intro v107 w6 ho hb hg hat; rw [← Ny106.out] at ho; have n0_ := Aside0.mk (hb); have n1_ := Aside0.mk (ho); clear HB; clear HO_3; have HB := n0_; have HO108 := n1_; clear n0_ n1_; clear ho hb hg hat))
         go_roundg k2
         case measure => have := HK1.out; have := HK2.out; omega
         case rel => exact ⟨(y106), ((Int.tdiv x5_2 256) % 4294967296), (wrap64 (x6_2 + 1)), (by first | rfl | (simp; done) | (simp [*]; done)), (by first | rfl | (simp; done) | (simp [*]; done)), H', ⟨by have := HK1.out; have := HK2.out; omega⟩, ⟨by (with_reducible repeat (first | apply Kd.R_alloc | apply Kd.R_drewN | apply Kd.R_drew)); exact HO108.out⟩, ⟨by repeat (first | (with_reducible first | exact HB.out | apply below_alloc | apply pw_below_drewN | apply below_drew1) | exact HB.out)⟩⟩
        ·rw [if_neg c5] at H
         exact absurd H (by simp)
       ·rw [if_neg c4] at H
        have c4b0 : decide (x6_2 < 4) = false := decide_eq_false c4
        clear c4
        have H' := Aside0.mk H
        clear H
        go_wp2
        go_roundg k2
        case measure => have := HK1.out; have := HK2.out; omega
        case rel => exact ⟨(x3_2), (wrap64 (x4_1 + 1)), (by first | rfl | (simp; done) | (simp [*]; done)), H', ⟨by have := HK1.out; have := HK2.out; omega⟩, ⟨by (with_reducible repeat (first | apply Kd.R_alloc | apply Kd.R_drewN | apply Kd.R_drew)); exact HO_3.out⟩, ⟨by repeat (first | (with_reducible first | exact HB.out | apply below_alloc | apply pw_below_drewN | apply below_drew1) | exact HB.out)⟩⟩
    ·rw [if_neg c3] at H
     exact absurd H (by simp)
   ·rw [if_neg c2] at H
    have c2b0 : decide (x4_1 < (l0.length : Int)) = false := decide_eq_false c2
    clear c2
    obtain rfl := Option.some.inj H
    go_wp2
    go_ret
    exact ⟨_, by first | rfl | (simp [errW_none, errW_some] <;> rfl) | (simp [*, errW_none, errW_some] <;> rfl), by (with_reducible repeat (first | apply Kd.R_alloc | apply Kd.R_drewN | apply Kd.R_drew)); exact HO_3.out, by repeat (first | (with_reducible first | exact HB.out | apply below_alloc | apply pw_below_drewN | apply below_drew1) | exact HB.out)⟩

/-! ### shacklelaw07_first: function 11 -/
def shacklelaw07_first.l0 : Nat → List ByteArray → Int → List Int → Int → Option (List Int)
 | 0, _, _, _, _ => none
 | k + 1, x0, x1, x5, x6 => if x6 > 0 then (if 0 ≤ x6 then (if x6 < (x0.length : Int) then ((hash_Sysv.f k (rdOf ByteArray.empty x0 x6)).bind fun t115 => (if x1 = 0 then (none) else (if 0 ≤ ((2 + (Int.tmod t115 x1)) % 4294967296) then (if ((2 + (Int.tmod t115 x1)) % 4294967296) < (x5.length : Int) then (if 0 ≤ (wrap64 ((wrap64 (2 + (wrap64 (x1)))) + x6)) then (if (wrap64 ((wrap64 (2 + (wrap64 (x1)))) + x6)) < (x5.length : Int) then (shacklelaw07_first.l0 k x0 x1 ((x5.set ((wrap64 ((wrap64 (2 + (wrap64 (x1)))) + x6)) : Int).toNat (rd x5 ((2 + (Int.tmod t115 x1)) % 4294967296))).set (((2 + (Int.tmod t115 x1)) % 4294967296) : Int).toNat ((x6) % 4294967296)) (wrap64 (x6 - 1))) else (none)) else (none)) else (none)) else (none)))) else (none)) else (none)) else ((shacklelaw07_four.f k x5).bind fun t119 => (some t119))
def shacklelaw07_first.f (k : Nat) (l0 : List ByteArray) (a1 : Int) : Option (List Int) := if 0 ≤ (wrap64 ((wrap64 (2 + (wrap64 (a1)))) + (l0.length : Int))) then (if (wrap64 ((wrap64 (2 + (wrap64 (a1)))) + (l0.length : Int)) : Int).toNat ≤ 70368744177664 then ((some (List.replicate (wrap64 ((wrap64 (2 + (wrap64 (a1)))) + (l0.length : Int)) : Int).toNat 0 : List Int)).bind fun y109 => (if 0 < (y109.length : Int) then (if 1 < (y109.length : Int) then (shacklelaw07_first.l0 k l0 a1 ((y109.set (0 : Int).toNat a1).set (1 : Int).toNat (((l0.length : Int)) % 4294967296)) (wrap64 ((l0.length : Int) - 1))) else (none)) else (none))) else (none)) else (none)
theorem shacklelaw07_first.mono_l : ∀ k, (∀ y0 y1 y2 y3, LeO (shacklelaw07_first.l0 k y0 y1 y2 y3) (shacklelaw07_first.l0 (k + 1) y0 y1 y2 y3))
 | 0 => fun _ _ _ _ r h => by simp [shacklelaw07_first.l0] at h
 | k + 1 => by
  have ih0 := shacklelaw07_first.mono_l k
  ·intro y0 y1 y2 y3
   unfold shacklelaw07_first.l0
   repeat' first
   | (with_reducible exact ih0 _ _ _ _)
   | (with_reducible exact hash_Sysv.mono _ _)
   | (with_reducible exact shacklelaw07_four.mono _ _)
   | (with_reducible exact LeO.refl _)
   | (with_reducible exact LeO.none _)
   | (with_reducible refine LeO.ite ?_ ?_)
   | (with_reducible refine LeO.bind ?_ (fun _ => ?_))
   | exact ih0 _ _ _ _
   | exact hash_Sysv.mono _ _
   | exact shacklelaw07_four.mono _ _
   | exact LeO.none _
   | refine LeO.ite ?_ ?_
   | refine LeO.bind ?_ (fun _ => ?_)
theorem shacklelaw07_first.mono : ∀ a0 a1 k, LeO (shacklelaw07_first.f k a0 a1) (shacklelaw07_first.f (k + 1) a0 a1) := by
 intro a0 a1 k
 have ih0 := shacklelaw07_first.mono_l k
 unfold shacklelaw07_first.f
 repeat' first
   | (with_reducible exact ih0 _ _ _ _)
   | (with_reducible exact hash_Sysv.mono _ _)
   | (with_reducible exact shacklelaw07_four.mono _ _)
   | (with_reducible exact LeO.refl _)
   | (with_reducible exact LeO.none _)
   | (with_reducible refine LeO.ite ?_ ?_)
   | (with_reducible refine LeO.bind ?_ (fun _ => ?_))
   | exact ih0 _ _ _ _
   | exact hash_Sysv.mono _ _
   | exact shacklelaw07_four.mono _ _
   | exact LeO.none _
   | refine LeO.ite ?_ ?_
   | refine LeO.bind ?_ (fun _ => ?_)
set_option maxHeartbeats 8000000 in
set_option maxRecDepth 100000 in
theorem shacklelaw07_first.calls (k : Nat) (A0 : Option Addr) (c0 : Nat) (l0 : List ByteArray) (a1 : Int) (r : List Int) (w : World) (hr0 : Kd.C Kd.string w A0 l0.length l0) (hc0 : l0.length ≤ c0) (h : shacklelaw07_first.f k l0 a1 = some r) :
  Calls Try.prog 11 #[.slice A0 l0.length c0, .int .u32 a1] w fun e w' => ∃ v0_ : Value, e = .returned (v0_) ∧ Kd.R (Kd.int .u8) 5 w' w.heap.size (fun _ => True) v0_ r ∧ Below w.heap.size w w' := by
 have HR0 := Aside0.mk hr0
 have HC0 := Aside0.mk hc0
 clear hr0 hc0
 have HB := Aside0.mk (Below.refl w.heap.size w)
 have H : (if 0 ≤ (wrap64 ((wrap64 (2 + (wrap64 (a1)))) + (l0.length : Int))) then (if (wrap64 ((wrap64 (2 + (wrap64 (a1)))) + (l0.length : Int)) : Int).toNat ≤ 70368744177664 then ((some (List.replicate (wrap64 ((wrap64 (2 + (wrap64 (a1)))) + (l0.length : Int)) : Int).toNat 0 : List Int)).bind fun y109 => (if 0 < (y109.length : Int) then (if 1 < (y109.length : Int) then (shacklelaw07_first.l0 k l0 a1 ((y109.set (0 : Int).toNat a1).set (1 : Int).toNat (((l0.length : Int)) % 4294967296)) (wrap64 ((l0.length : Int) - 1))) else (none)) else (none))) else (none)) else (none)) = some r := h
 clear h
 obtain ⟨ji3, hji3⟩ : ∃ j_ : Int, (wrap64 ((wrap64 (2 + (wrap64 (a1)))) + (l0.length : Int))) = j_ := ⟨_, rfl⟩
 replace H : (if 0 ≤ (ji3) then (if (ji3 : Int).toNat ≤ 70368744177664 then ((some (List.replicate (ji3 : Int).toNat 0 : List Int)).bind fun y109 => (if 0 < (y109.length : Int) then (if 1 < (y109.length : Int) then (shacklelaw07_first.l0 k l0 a1 ((y109.set (0 : Int).toNat a1).set (1 : Int).toNat (((l0.length : Int)) % 4294967296)) (wrap64 ((l0.length : Int) - 1))) else (none)) else (none))) else (none)) else (none)) = some r := by first | (rw [hji3] at H; exact H) | (simp only [hji3] at H ⊢; exact H)
 have hji3w : (IntKind.i64.wrap ((wrap64 (2 + (wrap64 (a1)))) + (l0.length : Int))) = ji3 := (i64_w _).trans hji3
 by_cases c4 : 0 ≤ (ji3)
 ·rw [if_pos c4] at H
  have c4b0 := eq_true c4
  have c4b1 : decide (0 ≤ (ji3)) = true := decide_eq_true c4
  clear c4
  by_cases c5 : (ji3 : Int).toNat ≤ 70368744177664
  ·rw [if_pos c5] at H
   have c5b0 := eq_true c5
   have c5b1 : decide ((ji3 : Int).toNat ≤ 70368744177664) = true := decide_eq_true c5
   clear c5
   obtain ⟨y109, hy109⟩ : ∃ y_ : List Int, y_ = (List.replicate (ji3 : Int).toNat 0) := ⟨_, rfl⟩
   replace H : (if 0 < (y109.length : Int) then (if 1 < (y109.length : Int) then (shacklelaw07_first.l0 k l0 a1 ((y109.set (0 : Int).toNat a1).set (1 : Int).toNat (((l0.length : Int)) % 4294967296)) (wrap64 ((l0.length : Int) - 1))) else (none)) else (none)) = some r := by first | (rw [hy109]; with_reducible exact H) | (have H2_ := (Option.bind_some _ _).symm.trans H; rw [hy109]; with_reducible exact H2_) | (have H2_ := (Option.bind_some _ _).symm.trans H; with_reducible exact H2_) | with_reducible exact H | (rw [hy109]; exact H) | exact H
   have Ny109 := Aside0.mk hy109
   clear hy109
   by_cases c6 : 0 < (y109.length : Int)
   ·rw [if_pos c6] at H
    have c6b0 : decide (0 < (y109.length : Int)) = true := decide_eq_true c6
    have c6b1 : decide (0 < y109.length) = true := decide_eq_true (by omega)
    clear c6
    obtain ⟨y112, hy112⟩ : ∃ y_ : List Int, y_ = (y109.set (0 : Int).toNat a1) := ⟨_, rfl⟩
    replace H : (if 1 < (y109.length : Int) then (shacklelaw07_first.l0 k l0 a1 (y112.set (1 : Int).toNat (((l0.length : Int)) % 4294967296)) (wrap64 ((l0.length : Int) - 1))) else (none)) = some r := by first | (rw [hy112]; with_reducible exact H) | (have H2_ := (Option.bind_some _ _).symm.trans H; rw [hy112]; with_reducible exact H2_) | (have H2_ := (Option.bind_some _ _).symm.trans H; with_reducible exact H2_) | with_reducible exact H | (rw [hy112]; exact H) | exact H
    have Ny112 := Aside0.mk hy112
    clear hy112
    by_cases c8 : 1 < (y109.length : Int)
    ·rw [if_pos c8] at H
     have c8b0 : decide (1 < (y109.length : Int)) = true := decide_eq_true c8
     have c8b1 : decide (1 < y109.length) = true := decide_eq_true (by omega)
     clear c8
     obtain ⟨y113, hy113⟩ : ∃ y_ : List Int, y_ = (y112.set (1 : Int).toNat (((l0.length : Int)) % 4294967296)) := ⟨_, rfl⟩
     replace H : (shacklelaw07_first.l0 k l0 a1 y113 (wrap64 ((l0.length : Int) - 1))) = some r := by first | (rw [hy113]; with_reducible exact H) | (have H2_ := (Option.bind_some _ _).symm.trans H; rw [hy113]; with_reducible exact H2_) | (have H2_ := (Option.bind_some _ _).symm.trans H; with_reducible exact H2_) | with_reducible exact H | (rw [hy113]; exact H) | exact H
     have Ny113 := Aside0.mk hy113
     clear hy113
     have H' := Aside0.mk H
     clear H
     go_enter Try.func11, Try.ntmps11
     go_wp2_with (first | ((with_reducible refine gate_dst (N := 14) rfl ?_); refine Kd.R_make (Kd.int .u32) _ 26 rfl (N := 14) rfl 83 _ _ rfl ji3 rfl rfl Try.underlying83 (.int .u32 0) 4 info26 rfl (by decide) (by omega) 0 (ok := fun _ => True) (okp := fun _ => True) rfl (fun _ hk => hk) trivial (of_decide_eq_true (by assumption)) (Nat.le_trans (Nat.mul_le_mul_right _ (of_decide_eq_true (by assumption) : ji3.toNat ≤ 70368744177664)) (by omega)) (Below.refl _ _) (Nat.le_refl _) ?_; intro v110 w10 ho11 hb hg_ hnew_; clear hg_ hnew_; (first | rw [← Ny109.out] at ho11 | (simp only [Int.reduceToNat] at ho11; rw [← Ny109.out] at ho11)); have n0_ := Aside0.mk (Kd.R_lower ho11 (below_size (by repeat (first | (with_reducible first | exact HB.out | apply below_alloc | apply pw_below_drewN | apply below_drew1) | exact HB.out)))); have n1_ := Aside0.mk (below_step (by repeat (first | (with_reducible first | exact HB.out | apply below_alloc | apply pw_below_drewN | apply below_drew1) | exact HB.out)) hb); clear HB; have HO111 := n0_; have HB := n1_; clear n0_ n1_; clear hb ho11; have p7 : 0 ≤ (0 : Int) := (by omega); have q7 : (0 : Int) < ((y109.length : Int) : Int) := of_decide_eq_true (by assumption); have qi7 : (0 < y109.length) = True := eq_true (by omega); obtain ⟨go7, co7, eo7, gb7, gl7, cl7, HG7⟩ := Kd.R_form HO111.out (by omega); (first | cases eo7 | (injection eo7 with ea_ en_ ec_; (first | subst ea_ | (injection ea_ with ea_; subst ea_)); subst ec_; clear en_)); have GB7 := Aside0.mk gb7; have GG7 := Aside0.mk HG7; clear gb7 gl7 HG7; obtain ⟨hx7_0, hf7_0⟩ := Kd.R_celln 0 HO111.out (0 : Int) p7 q7; (try rw [show ((0 : Int)).toNat = 0 from rfl] at hx7_0); (try simp only [Nat.reduceMul, Nat.zero_mul, Nat.zero_add, Nat.reduceAdd] at hx7_0); (try rw [show ((0 : Int)).toNat = 0 from rfl] at hf7_0); (try simp only [Nat.reduceMul, Nat.zero_mul, Nat.zero_add, Nat.reduceAdd] at hf7_0); replace p7 := eq_true p7; replace q7 := eq_true q7; obtain ⟨hy12_, hz12_⟩ := Kd.R_celln 0 HO111.out (0 : Int) (by omega) (of_decide_eq_true (by assumption)); (try simp only [Int.reduceToNat, Int.toNat_zero, Int.toNat_ofNat, Nat.reduceMul, Nat.zero_mul, Nat.zero_add] at hy12_ hz12_); (try rw [show ((0 : Int)).toNat = 0 from rfl] at hy12_); (try rw [show ((0 : Int)).toNat = 0 from rfl] at hz12_); have HP12 := Kd.R_putg HO111.out (0 : Int) a1) | ((with_reducible refine gate_store (t := 26) (p := 17) rfl ?_); refine store_event (t := 26) (p := 17) (v := ?vo_w13) (w1 := (w10.setCell ⟨go7, (0 : Int).toNat, none⟩ (.int .u32 a1))) ?hg ?ho ?hn ?hr ?_; (case ho => rfl); (case hg => rfl); (case hn => rfl); (case hr => first | (go_simp; done) | (go_simp; rfl)); intro w13 hw; have hg : w10.grownBy w13 (some go7) := (by rw [hw]; exact HP12.2); have hp_ : Kd.R (Kd.int .u32) 26 w13 w.heap.size (fun _ => True) (.slice (some ⟨go7, 0, none⟩) y109.length co7) y112 := (by rw [hw, Ny112.out]; exact HP12.1); clear HP12; have n0_ := Aside0.mk (hp_); have n1_ := Aside0.mk ((by rw [hw]; exact below_set (HB.out) GB7.out : Below w.heap.size w w13)); clear HO111; clear HB; have HO111 := n0_; have HB := n1_; clear n0_ n1_; clear hg hw hp_; have p9 : 0 ≤ (1 : Int) := (by omega); have q9 : (1 : Int) < ((y109.length : Int) : Int) := of_decide_eq_true (by assumption); have qi9 : (1 < y109.length) = True := eq_true (by omega); obtain ⟨hx9_0, hf9_0⟩ := Kd.R_celln 0 HO111.out (1 : Int) p9 q9; (try rw [show ((1 : Int)).toNat = 1 from rfl] at hx9_0); (try simp only [Nat.reduceMul, Nat.zero_mul, Nat.zero_add, Nat.reduceAdd] at hx9_0); (try rw [show ((1 : Int)).toNat = 1 from rfl] at hf9_0); (try simp only [Nat.reduceMul, Nat.zero_mul, Nat.zero_add, Nat.reduceAdd] at hf9_0); replace p9 := eq_true p9; replace q9 := eq_true q9; obtain ⟨hy14_, hz14_⟩ := Kd.R_celln 0 HO111.out (1 : Int) (by omega) (of_decide_eq_true (by assumption)); (try simp only [Int.reduceToNat, Int.toNat_zero, Int.toNat_ofNat, Nat.reduceMul, Nat.zero_mul, Nat.zero_add] at hy14_ hz14_); (try rw [show ((1 : Int)).toNat = 1 from rfl] at hy14_); (try rw [show ((1 : Int)).toNat = 1 from rfl] at hz14_); have HP14 := Kd.R_putg HO111.out (1 : Int) (((l0.length : Int)) % 4294967296)) | ((with_reducible refine gate_store (t := 26) (p := 22) rfl ?_); refine store_event (t := 26) (p := 22) (v := ?vo_w15) (w1 := (w13.setCell ⟨go7, (1 : Int).toNat, none⟩ (.int .u32 (((l0.length : Int)) % 4294967296)))) ?hg ?ho ?hn ?hr ?_; (case ho => rfl); (case hg => rfl); (case hn => rfl); (case hr => first | (go_simp; done) | (go_simp; rfl)); intro w15 hw; have hg : w13.grownBy w15 (some go7) := (by rw [hw]; exact HP14.2); have hp_ : Kd.R (Kd.int .u32) 26 w15 w.heap.size (fun _ => True) (.slice (some ⟨go7, 0, none⟩) y109.length co7) y113 := (by rw [hw, Ny113.out]; exact HP14.1); clear HP14; have n0_ := Aside0.mk (hp_); have n1_ := Aside0.mk ((by rw [hw]; exact below_set (HB.out) GB7.out : Below w.heap.size w w15)); clear HO111; clear HB; have HO111 := n0_; have HB := n1_; clear n0_ n1_; clear hg hw hp_))
     go_loopg [6] k (fun kq v6 w' => ∃ (x5_1 : List Int) (x6_1 : Int), v6 = .int .i64 x6_1 ∧ Aside0 (shacklelaw07_first.l0 kq l0 a1 x5_1 x6_1 = some r) ∧ Aside0 (kq ≤ k) ∧ Aside0 (Kd.R (Kd.int .u32) 26 w' w.heap.size (fun _ => True) (.slice (some ⟨go7, 0, none⟩) y109.length co7) x5_1) ∧ Aside0 (Below w.heap.size w w'))
     case atStart => exact ⟨(y113), (wrap64 ((l0.length : Int) - 1)), (by first | rfl | (simp; done) | (simp [*]; done)), H', ⟨Nat.le_refl _⟩, ⟨by (with_reducible repeat (first | apply Kd.R_alloc | apply Kd.R_drewN | apply Kd.R_drew)); exact HO111.out⟩, ⟨by repeat (first | (with_reducible first | exact HB.out | apply below_alloc | apply pw_below_drewN | apply below_drew1) | exact HB.out)⟩⟩
     case round =>
      clear H'
      try clear c1
      try clear p2
      try clear c4
      try clear c4b0
      try clear c4b1
      try clear c5
      try clear c5b0
      try clear c5b1
      try clear c6
      try clear c6b0
      try clear c6b1
      try clear p6
      try clear p7
      try clear q7
      try clear hx7
      try clear qi7
      try clear hf7
      try clear c8
      try clear c8b0
      try clear c8b1
      try clear p9
      try clear q9
      try clear hx9
      try clear qi9
      try clear hf9
      try clear c11
      try clear hx7_0
      try clear hx9_0
      try clear p7
      try clear p9
      try clear q7
      try clear q9
      obtain ⟨x5_1, x6_1, rfl, HA, HK1, HO_5, HB⟩ := hrel
      have hl5_1 := (Kd.R_reads' HO_5.out).1
      rw [hl5_1] at HO_5
      (try simp only [hl5_1])
      cases gk with
      | zero => exact absurd HA.out (by simp [shacklelaw07_first.l0])
      | succ k1 =>
       have H := HA.out
       clear HA
       simp only [shacklelaw07_first.l0] at H
       by_cases c16 : x6_1 > 0
       ·rw [if_pos c16] at H
        have c16b0 : decide (0 < x6_1) = true := decide_eq_true c16
        clear c16
        by_cases c17 : 0 ≤ x6_1
        ·rw [if_pos c17] at H
         have c17b0 : decide (0 ≤ x6_1) = true := decide_eq_true c17
         clear c17
         by_cases c18 : x6_1 < (l0.length : Int)
         ·rw [if_pos c18] at H
          have c18b0 : decide (x6_1 < (l0.length : Int)) = true := decide_eq_true c18
          have c18r0 := c18b0
          (try simp only [hl5_1] at c18r0)
          clear c18
          replace H := Option.bind_eq_some_iff.mp H
          obtain ⟨t115, A190, H⟩ := H
          replace H : (if a1 = 0 then (none) else (if 0 ≤ ((2 + (Int.tmod t115 a1)) % 4294967296) then (if ((2 + (Int.tmod t115 a1)) % 4294967296) < (x5_1.length : Int) then (if 0 ≤ (wrap64 ((wrap64 (2 + (wrap64 (a1)))) + x6_1)) then (if (wrap64 ((wrap64 (2 + (wrap64 (a1)))) + x6_1)) < (x5_1.length : Int) then (shacklelaw07_first.l0 k1 l0 a1 ((x5_1.set ((wrap64 ((wrap64 (2 + (wrap64 (a1)))) + x6_1)) : Int).toNat (rd x5_1 ((2 + (Int.tmod t115 a1)) % 4294967296))).set (((2 + (Int.tmod t115 a1)) % 4294967296) : Int).toNat ((x6_1) % 4294967296)) (wrap64 (x6_1 - 1))) else (none)) else (none)) else (none)) else (none))) = some r := H
          have A19 := Aside0.mk A190
          clear A190
          by_cases c20 : a1 = 0
          ·rw [if_pos c20] at H
           exact absurd H (by simp)
          ·rw [if_neg c20] at H
           have c20b0 : (a1 == 0) = false := beq_eq_false_iff_ne.mpr c20
           have c20b1 : (a1 != 0) = true := bne_iff_ne.mpr c20
           obtain ⟨ji21, hji21⟩ : ∃ j_ : Int, ((2 + (Int.tmod t115 a1)) % 4294967296) = j_ := ⟨_, rfl⟩
           replace H : (if 0 ≤ (ji21) then (if (ji21) < (x5_1.length : Int) then (if 0 ≤ (wrap64 ((wrap64 (2 + (wrap64 (a1)))) + x6_1)) then (if (wrap64 ((wrap64 (2 + (wrap64 (a1)))) + x6_1)) < (x5_1.length : Int) then (shacklelaw07_first.l0 k1 l0 a1 ((x5_1.set ((wrap64 ((wrap64 (2 + (wrap64 (a1)))) + x6_1)) : Int).toNat (rd x5_1 (ji21))).set ((ji21) : Int).toNat ((x6_1) % 4294967296)) (wrap64 (x6_1 - 1))) else (none)) else (none)) else (none)) else (none)) = some r := by first | (rw [hji21] at H; exact H) | (simp only [hji21] at H ⊢; exact H)
           (try rw [hji21] at A19)
           have hji21w : (IntKind.u32.wrap (2 + (Int.tmod t115 a1))) = ji21 := by simp only [IntKind.wrap_u8, IntKind.wrap_u32]; exact hji21
           by_cases c22 : 0 ≤ (ji21)
           ·rw [if_pos c22] at H
            have c22b0 : decide (0 ≤ (ji21)) = true := decide_eq_true c22
            clear c22
            by_cases c23 : (ji21) < (x5_1.length : Int)
            ·rw [if_pos c23] at H
             have c23b0 : decide ((ji21) < (x5_1.length : Int)) = true := decide_eq_true c23
             have c23r0 := c23b0
             (try simp only [hl5_1] at c23r0)
             clear c23
             obtain ⟨ji24, hji24⟩ : ∃ j_ : Int, (wrap64 ((wrap64 (2 + (wrap64 (a1)))) + x6_1)) = j_ := ⟨_, rfl⟩
             replace H : (if 0 ≤ (ji24) then (if (ji24) < (x5_1.length : Int) then (shacklelaw07_first.l0 k1 l0 a1 ((x5_1.set ((ji24) : Int).toNat (rd x5_1 (ji21))).set ((ji21) : Int).toNat ((x6_1) % 4294967296)) (wrap64 (x6_1 - 1))) else (none)) else (none)) = some r := by first | (rw [hji24] at H; exact H) | (simp only [hji24] at H ⊢; exact H)
             (try rw [hji24] at A19)
             have hji24w : (IntKind.i64.wrap ((wrap64 (2 + (wrap64 (a1)))) + x6_1)) = ji24 := (i64_w _).trans hji24
             by_cases c25 : 0 ≤ (ji24)
             ·rw [if_pos c25] at H
              have c25b0 : decide (0 ≤ (ji24)) = true := decide_eq_true c25
              clear c25
              by_cases c26 : (ji24) < (x5_1.length : Int)
              ·rw [if_pos c26] at H
               have c26b0 : decide ((ji24) < (x5_1.length : Int)) = true := decide_eq_true c26
               have c26r0 := c26b0
               (try simp only [hl5_1] at c26r0)
               clear c26
               obtain ⟨y117, hy117⟩ : ∃ y_ : List Int, y_ = (x5_1.set ((ji24) : Int).toNat (rd x5_1 (ji21))) := ⟨_, rfl⟩
               replace H : (shacklelaw07_first.l0 k1 l0 a1 (y117.set ((ji21) : Int).toNat ((x6_1) % 4294967296)) (wrap64 (x6_1 - 1))) = some r := by first | (rw [hy117]; with_reducible exact H) | (have H2_ := (Option.bind_some _ _).symm.trans H; rw [hy117]; with_reducible exact H2_) | (have H2_ := (Option.bind_some _ _).symm.trans H; with_reducible exact H2_) | with_reducible exact H | (rw [hy117]; exact H) | exact H
               have Ny117 := Aside0.mk hy117
               clear hy117
               obtain ⟨y118, hy118⟩ : ∃ y_ : List Int, y_ = (y117.set ((ji21) : Int).toNat ((x6_1) % 4294967296)) := ⟨_, rfl⟩
               replace H : (shacklelaw07_first.l0 k1 l0 a1 y118 (wrap64 (x6_1 - 1))) = some r := by first | (rw [hy118]; with_reducible exact H) | (have H2_ := (Option.bind_some _ _).symm.trans H; rw [hy118]; with_reducible exact H2_) | (have H2_ := (Option.bind_some _ _).symm.trans H; with_reducible exact H2_) | with_reducible exact H | (rw [hy118]; exact H) | exact H
               have Ny118 := Aside0.mk hy118
               clear hy118
               have H' := Aside0.mk H
               clear H
               have p114 : 0 ≤ (x6_1 : Int) := of_decide_eq_true (by assumption)
               have q114 : x6_1 < (l0.length : Int) := of_decide_eq_true (by assumption)
               obtain ⟨ad114, e114, hx114_0⟩ := Kd.at_string HR0.out x6_1 p114 q114
               cases e114
               replace hx114_0 := (HB.out.cell (World.block_lt_of_cell? w _ hx114_0)).trans hx114_0
               replace p114 := eq_true p114
               replace q114 := eq_true q114
               go_wp2_with (first | ((with_reducible refine gate_callee (f := 24) rfl ?_); refine goesL_ (some 34) rfl rfl Try.func24 (by kernel_rfl) rfl #[.string (rdOf ByteArray.empty l0 x6_1)] rfl (by (try simp only [List.map_toArray, List.map_cons, List.map_nil]); first | done | rfl | (simp only [List.length_drop, List.length_take]; rfl)) ?_; (with_reducible refine (hash_Sysv.calls k1 (rdOf ByteArray.empty l0 x6_1) t115 _ A19.out).mono ?_); rintro e w' ⟨rfl, ⟨nd, rfl⟩⟩; refine ⟨_, rfl, ?_⟩; (try (rw [drewN_self wr]; generalize hq_ : World.drewN wr _ = wr; have n0_ : Aside0 (Kd.R (Kd.int .u32) 26 wr w.heap.size (fun _ => True) (.slice (some ⟨go7, 0, none⟩) x5_1.length co7) x5_1) := ⟨by rw [← hq_]; exact (by (with_reducible repeat (first | apply Kd.R_alloc | apply Kd.R_drewN | apply Kd.R_drew)); exact HO_5.out)⟩; have n1_ : Aside0 (Below w.heap.size w wr) := ⟨by rw [← hq_]; exact (by repeat (first | (with_reducible first | exact HB.out | apply below_alloc | apply pw_below_drewN | apply below_drew1) | exact HB.out))⟩; clear HO_5 HB hq_; have HO_5 := n0_; have HB := n1_; clear n0_ n1_)); have p116 : 0 ≤ ((ji21) : Int) := of_decide_eq_true (by assumption); have q116 : (ji21) < (x5_1.length : Int) := of_decide_eq_true (by assumption); obtain ⟨ad116, e116, hx116_0⟩ := Kd.at_int (Kd.R_reads' HO_5.out).2.2 (ji21) p116 q116; obtain rfl : (⟨go7, 0, none⟩ : Addr) = ad116 := (by injection e116); (first | simp only [add_plain] at hx116_0 | simp only [add_at] at hx116_0 | simp only [Addr.add, Nat.zero_add] at hx116_0 | skip); replace p116 := eq_true p116; replace q116 := eq_true q116; have p27 : 0 ≤ ((ji24) : Int) := of_decide_eq_true (by assumption); have q27 : ((ji24) : Int) < ((x5_1.length : Int) : Int) := of_decide_eq_true (by assumption); obtain ⟨hx27_0, hf27_0⟩ := Kd.R_celln 0 HO_5.out ((ji24) : Int) p27 q27; replace p27 := eq_true p27; replace q27 := eq_true q27; obtain ⟨hy29_, hz29_⟩ := Kd.R_celln 0 HO_5.out ((ji24) : Int) (of_decide_eq_true (by assumption)) (of_decide_eq_true (by assumption)); have HP29 := Kd.R_putg HO_5.out ((ji24) : Int) (rd x5_1 (ji21))) | ((with_reducible refine gate_store (t := 26) (p := 48) rfl ?_); refine store_event (t := 26) (p := 48) (v := ?vo_w30) (w1 := (wr.setCell ⟨go7, ((ji24) : Int).toNat, none⟩ (.int .u32 (rd x5_1 (ji21))))) ?hg ?ho ?hn ?hr ?_; (case ho => rfl); (case hg => rfl); (case hn => rfl); (case hr => first | (go_simp; done) | (go_simp; rfl)); intro w30 hw; have hg : wr.grownBy w30 (some go7) := (by rw [hw]; exact HP29.2); have hp_ : Kd.R (Kd.int .u32) 26 w30 w.heap.size (fun _ => True) (.slice (some ⟨go7, 0, none⟩) x5_1.length co7) y117 := (by rw [hw, Ny117.out]; exact HP29.1); clear HP29; have n0_ := Aside0.mk (hp_); have n1_ := Aside0.mk ((by rw [hw]; exact below_set (HB.out) GB7.out : Below w.heap.size w w30)); clear HO_5; clear HB; have HO_5 := n0_; have HB := n1_; clear n0_ n1_; clear hg hw hp_; have p28 : 0 ≤ ((ji21) : Int) := of_decide_eq_true (by assumption); have q28 : ((ji21) : Int) < ((x5_1.length : Int) : Int) := of_decide_eq_true (by assumption); obtain ⟨hx28_0, hf28_0⟩ := Kd.R_celln 0 HO_5.out ((ji21) : Int) p28 q28; replace p28 := eq_true p28; replace q28 := eq_true q28; obtain ⟨hy31_, hz31_⟩ := Kd.R_celln 0 HO_5.out ((ji21) : Int) (of_decide_eq_true (by assumption)) (of_decide_eq_true (by assumption)); have HP31 := Kd.R_putg HO_5.out ((ji21) : Int) ((x6_1) % 4294967296)) | ((with_reducible refine gate_store (t := 26) (p := 53) rfl ?_); refine store_event (t := 26) (p := 53) (v := ?vo_w32) (w1 := (w30.setCell ⟨go7, ((ji21) : Int).toNat, none⟩ (.int .u32 ((x6_1) % 4294967296)))) ?hg ?ho ?hn ?hr ?_; (case ho => rfl); (case hg => rfl); (case hn => rfl); (case hr => first | (go_simp; done) | (go_simp; rfl)); intro w32 hw; have hg : w30.grownBy w32 (some go7) := (by rw [hw]; exact HP31.2); have hp_ : Kd.R (Kd.int .u32) 26 w32 w.heap.size (fun _ => True) (.slice (some ⟨go7, 0, none⟩) x5_1.length co7) y118 := (by rw [hw, Ny118.out]; exact HP31.1); clear HP31; have n0_ := Aside0.mk (hp_); have n1_ := Aside0.mk ((by rw [hw]; exact below_set (HB.out) GB7.out : Below w.heap.size w w32)); clear HO_5; clear HB; have HO_5 := n0_; have HB := n1_; clear n0_ n1_; clear hg hw hp_))
               (try simp only [← hl5_1])
               go_roundg k1
               case measure => have := HK1.out; omega
               case rel => exact ⟨(y118), (wrap64 (x6_1 - 1)), (by first | rfl | (simp; done) | (simp [*]; done)), H', ⟨by have := HK1.out; omega⟩, ⟨by (try simp only [hl5_1]); (with_reducible repeat (first | apply Kd.R_alloc | apply Kd.R_drewN | apply Kd.R_drew)); exact HO_5.out⟩, ⟨by repeat (first | (with_reducible first | exact HB.out | apply below_alloc | apply pw_below_drewN | apply below_drew1) | exact HB.out)⟩⟩
              ·rw [if_neg c26] at H
               exact absurd H (by simp)
             ·rw [if_neg c25] at H
              exact absurd H (by simp)
            ·rw [if_neg c23] at H
             exact absurd H (by simp)
           ·rw [if_neg c22] at H
            exact absurd H (by simp)
         ·rw [if_neg c18] at H
          exact absurd H (by simp)
        ·rw [if_neg c17] at H
         exact absurd H (by simp)
       ·rw [if_neg c16] at H
        have c16b0 : decide (0 < x6_1) = false := decide_eq_false c16
        clear c16
        replace H := Option.bind_eq_some_iff.mp H
        obtain ⟨t119, A330, H⟩ := H
        replace H : (some t119) = some r := H
        have A33 := Aside0.mk A330
        clear A330
        obtain rfl := Option.some.inj H
        go_wp2_with (first | ((with_reducible refine gate_callee (f := 29) rfl ?_); refine goesL_ (some 55) rfl rfl Try.func29 (by kernel_rfl) rfl #[.slice (some ⟨go7, 0, none⟩) x5_1.length co7] rfl (by (try simp only [List.map_toArray, List.map_cons, List.map_nil]); first | done | rfl | (simp only [List.length_drop, List.length_take]; rfl)) ?_; (with_reducible refine (shacklelaw07_four.calls k1 _ _ x5_1 t119 _ ?side1 ?side2 A33.out).mono ?_); (case side1 => repeat (first | exact (Kd.R_reads' HO_5.out).2.2 | (with_reducible refine Kd.C_alloc ?_ _) | (with_reducible refine Kd.C_drewN ?_ _) | (with_reducible refine Kd.C_drew ?_))); (case side2 => exact (Kd.R_reads' HO_5.out).2.1); rintro e w34 ⟨v120, rfl, ho0, hb⟩; refine ⟨_, rfl, ?_⟩; have n0_ := Aside0.mk (Kd.R_below (by (with_reducible repeat (first | apply Kd.R_alloc | apply Kd.R_drewN | apply Kd.R_drew)); exact HO_5.out) hb); have n1_ := Aside0.mk (Kd.R_lower ho0 (below_size (by repeat (first | (with_reducible first | exact HB.out | apply below_alloc | apply pw_below_drewN | apply below_drew1) | exact HB.out)))); have n2_ := Aside0.mk (below_step (by repeat (first | (with_reducible first | exact HB.out | apply below_alloc | apply pw_below_drewN | apply below_drew1) | exact HB.out)) hb); clear HO_5; clear HB; have HO_5 := n0_; have HO121 := n1_; have HB := n2_; clear n0_ n1_ n2_; (try clear hb); (try clear hb2); (try clear hk); (try clear hi); (try clear ho0)))
        go_ret
        exact ⟨_, by first | rfl | (simp [errW_none, errW_some] <;> rfl) | (simp only [← hji3]; first | rfl | (simp [errW_none, errW_some] <;> rfl)) | (simp [*, errW_none, errW_some] <;> rfl), by (with_reducible repeat (first | apply Kd.R_alloc | apply Kd.R_drewN | apply Kd.R_drew)); exact HO121.out, by repeat (first | (with_reducible first | exact HB.out | apply below_alloc | apply pw_below_drewN | apply below_drew1) | exact HB.out)⟩
    ·rw [if_neg c8] at H
     exact absurd H (by simp)
   ·rw [if_neg c6] at H
    exact absurd H (by simp)
  ·rw [if_neg c5] at H
   exact absurd H (by simp)
 ·rw [if_neg c4] at H
  exact absurd H (by simp)

end Go.Proofs.Ythopdoamajjojaa.QHashF
