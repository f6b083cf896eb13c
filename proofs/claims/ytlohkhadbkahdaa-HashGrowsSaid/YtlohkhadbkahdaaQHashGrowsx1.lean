-- Laid by wip/hook.py (this session's own program) out of the translation; with contracts that were written by hand.
import Derived.Test.YtlohkhadbkahdaaQHashGrowsx0
namespace Go.Proofs.Ytlohkhadbkahdaa.QHashGrows
open Go.RowKit Go.Proofs.YtlohkhadbkahdaaW.PrintWords Go.Proofs.YtlohkhadbkahdaaW.PrintLast Go.Proofs.YtlohkhadbkahdaaW.PrintMore
attribute [local go_sem] max2_int min2_int max_two min_two max_three min_three max_four min_four   -- for this text's walks alone
set_option linter.unusedVariables false
set_option linter.unusedSimpArgs false

/-! ### hash_Sysv: function 18 -/
def hash_Sysv.l0 : Nat → ByteArray → Int → Int → Int → Option (Int)
  | 0, _, _, _, _ => none
  | k + 1, x0, x3, x7, x8 => if x8 < x7 then (if 0 ≤ x8 then (if x8 < (x0.size : Int) then (hash_Sysv.l0 k x0 (Go.bits .andNot .u32 (Go.bits .xor .u32 ((((x3 * 16) % 4294967296) + ((bt x0 x8) % 4294967296)) % 4294967296) ((Go.bits .and .u32 ((((x3 * 16) % 4294967296) + ((bt x0 x8) % 4294967296)) % 4294967296) 4026531840) / 16777216)) (Go.bits .and .u32 ((((x3 * 16) % 4294967296) + ((bt x0 x8) % 4294967296)) % 4294967296) 4026531840)) x7 (wrap64 (x8 + 1))) else (none)) else (none)) else (some x3)
def hash_Sysv.f (k : Nat) (a0 : ByteArray) : Option (Int) := hash_Sysv.l0 k a0 0 (a0.size : Int) 0
theorem hash_Sysv.mono_l : ∀ k, (∀ y0 y1 y2 y3, LeO (hash_Sysv.l0 k y0 y1 y2 y3) (hash_Sysv.l0 (k + 1) y0 y1 y2 y3))
  | 0 => fun _ _ _ _ r h => by simp [hash_Sysv.l0] at h
  | k + 1 => by
    have ih0 := hash_Sysv.mono_l k
    · intro y0 y1 y2 y3
      unfold hash_Sysv.l0
      repeat' first
      | (with_reducible exact ih0 _ _ _ _)
      | (with_reducible exact LeO.refl _)
      | (with_reducible exact LeO.none _)
      | (with_reducible refine LeO.ite ?_ ?_)
      | (with_reducible refine LeO.bind ?_ (fun _ => ?_))
      | exact ih0 _ _ _ _
      | exact LeO.none _
      | refine LeO.ite ?_ ?_
      | refine LeO.bind ?_ (fun _ => ?_)
theorem hash_Sysv.mono : ∀ a0 k, LeO (hash_Sysv.f k a0) (hash_Sysv.f (k + 1) a0) := by
  intro a0 k
  have ih0 := hash_Sysv.mono_l k
  unfold hash_Sysv.f
  repeat' first
      | (with_reducible exact ih0 _ _ _ _)
      | (with_reducible exact LeO.refl _)
      | (with_reducible exact LeO.none _)
      | (with_reducible refine LeO.ite ?_ ?_)
      | (with_reducible refine LeO.bind ?_ (fun _ => ?_))
      | exact ih0 _ _ _ _
      | exact LeO.none _
      | refine LeO.ite ?_ ?_
      | refine LeO.bind ?_ (fun _ => ?_)
set_option maxHeartbeats 8000000 in
set_option maxRecDepth 100000 in
theorem hash_Sysv.calls (k : Nat) (a0 : ByteArray) (r : Int) (w : World) (h : hash_Sysv.f k a0 = some r) :
    Calls Try.prog 18 #[.string a0] w fun e w' => e = .returned (.int .u32 r) ∧ Drawn0 w w' := by
  have H : (hash_Sysv.l0 k a0 0 (a0.size : Int) 0) = some r := h
  clear h
  have H' := Aside0.mk H
  clear H
  go_enter Try.func18, Try.ntmps18
  go_wp2
  go_loopg [3, 8] k (fun kq v3 v8 w' => ∃ (x3_1 : Int) (x8_1 : Int), v3 = .int .u32 x3_1 ∧ v8 = .int .i64 x8_1 ∧ Aside0 (hash_Sysv.l0 kq a0 x3_1 (a0.size : Int) x8_1 = some r) ∧ Aside0 (kq ≤ k) ∧ Drawn0 w w')
  case atStart => exact ⟨(0), (0), (by first | rfl | (simp; done) | (simp [*]; done)), (by first | rfl | (simp; done) | (simp [*]; done)), H', ⟨Nat.le_refl _⟩, by repeat (first | exact Drawn0.refl _ | apply Drawn0.step)⟩
  case round =>
    clear H'
    try clear c1
    obtain ⟨x3_1, x8_1, rfl, rfl, HA, HK1, ⟨m1, rfl⟩⟩ := hrel
    cases gk with
    | zero => exact absurd HA.out (by simp [hash_Sysv.l0])
    | succ k1 =>
      have H := HA.out
      clear HA
      simp only [hash_Sysv.l0] at H
      by_cases c2 : x8_1 < (a0.size : Int)
      · rw [if_pos c2] at H
        have c2b0 : decide (x8_1 < (a0.size : Int)) = true := decide_eq_true c2
        clear c2
        by_cases c3 : 0 ≤ x8_1
        · rw [if_pos c3] at H
          have c3b0 : decide (0 ≤ x8_1) = true := decide_eq_true c3
          clear c3
          by_cases c4 : x8_1 < (a0.size : Int)
          · rw [if_pos c4] at H
            have c4b0 : decide (x8_1 < (a0.size : Int)) = true := decide_eq_true c4
            clear c4
            have H' := Aside0.mk H
            clear H
            have p5 : 0 ≤ (x8_1 : Int) := of_decide_eq_true (by first | (with_reducible assumption) | assumption)
            have q5 : x8_1 < (a0.size : Int) := of_decide_eq_true (by first | (with_reducible assumption) | assumption)
            have hx5 := bt_at a0 x8_1
            replace p5 := eq_true p5
            replace q5 := eq_true q5
            go_wp2
            go_roundg k1
            case measure => have := HK1.out; omega
            case rel => exact ⟨(Go.bits .andNot .u32 (Go.bits .xor .u32 ((((x3_1 * 16) % 4294967296) + ((bt a0 x8_1) % 4294967296)) % 4294967296) ((Go.bits .and .u32 ((((x3_1 * 16) % 4294967296) + ((bt a0 x8_1) % 4294967296)) % 4294967296) 4026531840) / 16777216)) (Go.bits .and .u32 ((((x3_1 * 16) % 4294967296) + ((bt a0 x8_1) % 4294967296)) % 4294967296) 4026531840)), (wrap64 (x8_1 + 1)), (by first | rfl | (simp; done) | (simp [*]; done)), (by first | rfl | (simp; done) | (simp [*]; done)), H', ⟨by have := HK1.out; omega⟩, by repeat (first | exact Drawn0.refl _ | apply Drawn0.step)⟩
          · rw [if_neg c4] at H
            exact absurd H (by simp)
        · rw [if_neg c3] at H
          exact absurd H (by simp)
      · rw [if_neg c2] at H
        have c2b0 : decide (x8_1 < (a0.size : Int)) = false := decide_eq_false c2
        clear c2
        obtain rfl := Option.some.inj H
        go_wp2
        go_ret
        exact ⟨by first | rfl | (simp; done) | (simp [*]; done), by repeat (first | exact Drawn0.refl _ | apply Drawn0.step)⟩

/-! ### hash_Gnu: function 20 -/
def hash_Gnu.l0 : Nat → ByteArray → Int → Int → Int → Option (Int)
  | 0, _, _, _, _ => none
  | k + 1, x0, x3, x6, x7 => if x7 < x6 then (if 0 ≤ x7 then (if x7 < (x0.size : Int) then (hash_Gnu.l0 k x0 ((((x3 * 33) % 4294967296) + ((bt x0 x7) % 4294967296)) % 4294967296) x6 (wrap64 (x7 + 1))) else (none)) else (none)) else (some x3)
def hash_Gnu.f (k : Nat) (a0 : ByteArray) : Option (Int) := hash_Gnu.l0 k a0 5381 (a0.size : Int) 0
theorem hash_Gnu.mono_l : ∀ k, (∀ y0 y1 y2 y3, LeO (hash_Gnu.l0 k y0 y1 y2 y3) (hash_Gnu.l0 (k + 1) y0 y1 y2 y3))
  | 0 => fun _ _ _ _ r h => by simp [hash_Gnu.l0] at h
  | k + 1 => by
    have ih0 := hash_Gnu.mono_l k
    · intro y0 y1 y2 y3
      unfold hash_Gnu.l0
      repeat' first
      | (with_reducible exact ih0 _ _ _ _)
      | (with_reducible exact LeO.refl _)
      | (with_reducible exact LeO.none _)
      | (with_reducible refine LeO.ite ?_ ?_)
      | (with_reducible refine LeO.bind ?_ (fun _ => ?_))
      | exact ih0 _ _ _ _
      | exact LeO.none _
      | refine LeO.ite ?_ ?_
      | refine LeO.bind ?_ (fun _ => ?_)
theorem hash_Gnu.mono : ∀ a0 k, LeO (hash_Gnu.f k a0) (hash_Gnu.f (k + 1) a0) := by
  intro a0 k
  have ih0 := hash_Gnu.mono_l k
  unfold hash_Gnu.f
  repeat' first
      | (with_reducible exact ih0 _ _ _ _)
      | (with_reducible exact LeO.refl _)
      | (with_reducible exact LeO.none _)
      | (with_reducible refine LeO.ite ?_ ?_)
      | (with_reducible refine LeO.bind ?_ (fun _ => ?_))
      | exact ih0 _ _ _ _
      | exact LeO.none _
      | refine LeO.ite ?_ ?_
      | refine LeO.bind ?_ (fun _ => ?_)
set_option maxHeartbeats 8000000 in
set_option maxRecDepth 100000 in
theorem hash_Gnu.calls (k : Nat) (a0 : ByteArray) (r : Int) (w : World) (h : hash_Gnu.f k a0 = some r) :
    Calls Try.prog 20 #[.string a0] w fun e w' => e = .returned (.int .u32 r) ∧ Drawn0 w w' := by
  have H : (hash_Gnu.l0 k a0 5381 (a0.size : Int) 0) = some r := h
  clear h
  have H' := Aside0.mk H
  clear H
  go_enter Try.func20, Try.ntmps20
  go_wp2
  go_loopg [3, 7] k (fun kq v3 v7 w' => ∃ (x3_1 : Int) (x7_1 : Int), v3 = .int .u32 x3_1 ∧ v7 = .int .i64 x7_1 ∧ Aside0 (hash_Gnu.l0 kq a0 x3_1 (a0.size : Int) x7_1 = some r) ∧ Aside0 (kq ≤ k) ∧ Drawn0 w w')
  case atStart => exact ⟨(5381), (0), (by first | rfl | (simp; done) | (simp [*]; done)), (by first | rfl | (simp; done) | (simp [*]; done)), H', ⟨Nat.le_refl _⟩, by repeat (first | exact Drawn0.refl _ | apply Drawn0.step)⟩
  case round =>
    clear H'
    obtain ⟨x3_1, x7_1, rfl, rfl, HA, HK1, ⟨m1, rfl⟩⟩ := hrel
    cases gk with
    | zero => exact absurd HA.out (by simp [hash_Gnu.l0])
    | succ k1 =>
      have H := HA.out
      clear HA
      simp only [hash_Gnu.l0] at H
      by_cases c2 : x7_1 < (a0.size : Int)
      · rw [if_pos c2] at H
        have c2b0 : decide (x7_1 < (a0.size : Int)) = true := decide_eq_true c2
        clear c2
        by_cases c3 : 0 ≤ x7_1
        · rw [if_pos c3] at H
          have c3b0 : decide (0 ≤ x7_1) = true := decide_eq_true c3
          clear c3
          by_cases c4 : x7_1 < (a0.size : Int)
          · rw [if_pos c4] at H
            have c4b0 : decide (x7_1 < (a0.size : Int)) = true := decide_eq_true c4
            clear c4
            have H' := Aside0.mk H
            clear H
            have p5 : 0 ≤ (x7_1 : Int) := of_decide_eq_true (by first | (with_reducible assumption) | assumption)
            have q5 : x7_1 < (a0.size : Int) := of_decide_eq_true (by first | (with_reducible assumption) | assumption)
            have hx5 := bt_at a0 x7_1
            replace p5 := eq_true p5
            replace q5 := eq_true q5
            go_wp2
            go_roundg k1
            case measure => have := HK1.out; omega
            case rel => exact ⟨((((x3_1 * 33) % 4294967296) + ((bt a0 x7_1) % 4294967296)) % 4294967296), (wrap64 (x7_1 + 1)), (by first | rfl | (simp; done) | (simp [*]; done)), (by first | rfl | (simp; done) | (simp [*]; done)), H', ⟨by have := HK1.out; omega⟩, by repeat (first | exact Drawn0.refl _ | apply Drawn0.step)⟩
          · rw [if_neg c4] at H
            exact absurd H (by simp)
        · rw [if_neg c3] at H
          exact absurd H (by simp)
      · rw [if_neg c2] at H
        have c2b0 : decide (x7_1 < (a0.size : Int)) = false := decide_eq_false c2
        clear c2
        obtain rfl := Option.some.inj H
        go_wp2
        go_ret
        exact ⟨by first | rfl | (simp; done) | (simp [*]; done), by repeat (first | exact Drawn0.refl _ | apply Drawn0.step)⟩

/-! ### shacklelaw07_up: function 17 -/
def shacklelaw07_up.f (k : Nat)  : Option (Bool) := (hash_Sysv.f k (⟨#[112, 114, 105, 110, 116, 102]⟩ : ByteArray)).bind fun t101 => (if t101 = 125371814 then ((hash_Gnu.f k (⟨#[112, 114, 105, 110, 116, 102]⟩ : ByteArray)).bind fun t102 => (if t102 = 359345080 then ((hash_Sysv.f k (⟨#[]⟩ : ByteArray)).bind fun t103 => (if t103 = 0 then ((hash_Gnu.f k (⟨#[]⟩ : ByteArray)).bind fun t104 => (some (t104 == 5381))) else (some false))) else (some false))) else (some false))
theorem shacklelaw07_up.mono : ∀ k, LeO (shacklelaw07_up.f k ) (shacklelaw07_up.f (k + 1) ) := by
  intro  k
  unfold shacklelaw07_up.f
  repeat' first
      | (with_reducible exact hash_Gnu.mono _ _)
      | (with_reducible exact hash_Sysv.mono _ _)
      | (with_reducible exact LeO.refl _)
      | (with_reducible exact LeO.none _)
      | (with_reducible refine LeO.ite ?_ ?_)
      | (with_reducible refine LeO.bind ?_ (fun _ => ?_))
      | exact hash_Gnu.mono _ _
      | exact hash_Sysv.mono _ _
      | exact LeO.none _
      | refine LeO.ite ?_ ?_
      | refine LeO.bind ?_ (fun _ => ?_)
set_option maxHeartbeats 8000000 in
set_option maxRecDepth 100000 in
theorem shacklelaw07_up.calls (k : Nat)  (r : Bool) (w : World) (h : shacklelaw07_up.f k  = some r) :
    Calls Try.prog 17 #[] w fun e w' => e = .returned (.bool r) ∧ Drawn0 w w' := by
  have H : ((hash_Sysv.f k (⟨#[112, 114, 105, 110, 116, 102]⟩ : ByteArray)).bind fun t101 => (if t101 = 125371814 then ((hash_Gnu.f k (⟨#[112, 114, 105, 110, 116, 102]⟩ : ByteArray)).bind fun t102 => (if t102 = 359345080 then ((hash_Sysv.f k (⟨#[]⟩ : ByteArray)).bind fun t103 => (if t103 = 0 then ((hash_Gnu.f k (⟨#[]⟩ : ByteArray)).bind fun t104 => (some (t104 == 5381))) else (some false))) else (some false))) else (some false))) = some r := h
  clear h
  replace H := Option.bind_eq_some_iff.mp H
  obtain ⟨t101, A10, H⟩ := H
  replace H : (if t101 = 125371814 then ((hash_Gnu.f k (⟨#[112, 114, 105, 110, 116, 102]⟩ : ByteArray)).bind fun t102 => (if t102 = 359345080 then ((hash_Sysv.f k (⟨#[]⟩ : ByteArray)).bind fun t103 => (if t103 = 0 then ((hash_Gnu.f k (⟨#[]⟩ : ByteArray)).bind fun t104 => (some (t104 == 5381))) else (some false))) else (some false))) else (some false)) = some r := H
  have A1 := Aside0.mk A10
  clear A10
  by_cases c2 : t101 = 125371814
  · rw [if_pos c2] at H
    have c2b0 : (t101 == 125371814) = true := beq_iff_eq.mpr c2
    have c2b1 : (t101 != 125371814) = false := bne_eq_false_iff_eq.mpr c2
    clear c2
    replace H := Option.bind_eq_some_iff.mp H
    obtain ⟨t102, A30, H⟩ := H
    replace H : (if t102 = 359345080 then ((hash_Sysv.f k (⟨#[]⟩ : ByteArray)).bind fun t103 => (if t103 = 0 then ((hash_Gnu.f k (⟨#[]⟩ : ByteArray)).bind fun t104 => (some (t104 == 5381))) else (some false))) else (some false)) = some r := H
    have A3 := Aside0.mk A30
    clear A30
    by_cases c4 : t102 = 359345080
    · rw [if_pos c4] at H
      have c4b0 : (t102 == 359345080) = true := beq_iff_eq.mpr c4
      have c4b1 : (t102 != 359345080) = false := bne_eq_false_iff_eq.mpr c4
      clear c4
      replace H := Option.bind_eq_some_iff.mp H
      obtain ⟨t103, A50, H⟩ := H
      replace H : (if t103 = 0 then ((hash_Gnu.f k (⟨#[]⟩ : ByteArray)).bind fun t104 => (some (t104 == 5381))) else (some false)) = some r := H
      have A5 := Aside0.mk A50
      clear A50
      by_cases c6 : t103 = 0
      · rw [if_pos c6] at H
        have c6b0 : (t103 == 0) = true := beq_iff_eq.mpr c6
        have c6b1 : (t103 != 0) = false := bne_eq_false_iff_eq.mpr c6
        clear c6
        replace H := Option.bind_eq_some_iff.mp H
        obtain ⟨t104, A70, H⟩ := H
        replace H : (some (t104 == 5381)) = some r := H
        have A7 := Aside0.mk A70
        clear A70
        obtain rfl := Option.some.inj H
        go_enter Try.func17, Try.ntmps17
        go_wp2_with (first | ((with_reducible refine gate_callee (f := 18) rfl ?_); refine goesL_ (some 1) rfl rfl Try.func18 (by kernel_rfl) rfl #[.string (⟨#[112, 114, 105, 110, 116, 102]⟩ : ByteArray)] rfl (by (try simp only [List.map_toArray, List.map_cons, List.map_nil]); first | done | rfl | (simp only [List.length_drop, List.length_take]; rfl)) ?_; (with_reducible refine (hash_Sysv.calls k (⟨#[112, 114, 105, 110, 116, 102]⟩ : ByteArray) t101 _ A1.out).mono ?_); rintro e w' ⟨rfl, ⟨nd, rfl⟩⟩; refine ⟨_, rfl, ?_⟩) | (go_at_call 20; (with_reducible refine (hash_Gnu.calls k (⟨#[112, 114, 105, 110, 116, 102]⟩ : ByteArray) t102 _ A3.out).mono ?_); rintro e w' ⟨rfl, ⟨nd, rfl⟩⟩) | (go_at_call 18; (with_reducible refine (hash_Sysv.calls k (⟨#[]⟩ : ByteArray) t103 _ A5.out).mono ?_); rintro e w' ⟨rfl, ⟨nd, rfl⟩⟩) | (go_at_call 20; (with_reducible refine (hash_Gnu.calls k (⟨#[]⟩ : ByteArray) t104 _ A7.out).mono ?_); rintro e w' ⟨rfl, ⟨nd, rfl⟩⟩))
        go_ret
        exact ⟨by first | rfl | (simp; done) | (simp [*]; done), by repeat (first | exact Drawn0.refl _ | apply Drawn0.step)⟩
      · rw [if_neg c6] at H
        have c6b0 : (t103 == 0) = false := beq_eq_false_iff_ne.mpr c6
        have c6b1 : (t103 != 0) = true := bne_iff_ne.mpr c6
        obtain rfl := Option.some.inj H
        go_enter Try.func17, Try.ntmps17
        go_wp2_with (first | ((with_reducible refine gate_callee (f := 18) rfl ?_); refine goesL_ (some 1) rfl rfl Try.func18 (by kernel_rfl) rfl #[.string (⟨#[112, 114, 105, 110, 116, 102]⟩ : ByteArray)] rfl (by (try simp only [List.map_toArray, List.map_cons, List.map_nil]); first | done | rfl | (simp only [List.length_drop, List.length_take]; rfl)) ?_; (with_reducible refine (hash_Sysv.calls k (⟨#[112, 114, 105, 110, 116, 102]⟩ : ByteArray) t101 _ A1.out).mono ?_); rintro e w' ⟨rfl, ⟨nd, rfl⟩⟩; refine ⟨_, rfl, ?_⟩) | (go_at_call 20; (with_reducible refine (hash_Gnu.calls k (⟨#[112, 114, 105, 110, 116, 102]⟩ : ByteArray) t102 _ A3.out).mono ?_); rintro e w' ⟨rfl, ⟨nd, rfl⟩⟩) | (go_at_call 18; (with_reducible refine (hash_Sysv.calls k (⟨#[]⟩ : ByteArray) t103 _ A5.out).mono ?_); rintro e w' ⟨rfl, ⟨nd, rfl⟩⟩))
        go_ret
        exact ⟨by first | rfl | (simp; done) | (simp [*]; done), by repeat (first | exact Drawn0.refl _ | apply Drawn0.step)⟩
    · rw [if_neg c4] at H
      have c4b0 : (t102 == 359345080) = false := beq_eq_false_iff_ne.mpr c4
      have c4b1 : (t102 != 359345080) = true := bne_iff_ne.mpr c4
      obtain rfl := Option.some.inj H
      go_enter Try.func17, Try.ntmps17
      go_wp2_with (first | ((with_reducible refine gate_callee (f := 18) rfl ?_); refine goesL_ (some 1) rfl rfl Try.func18 (by kernel_rfl) rfl #[.string (⟨#[112, 114, 105, 110, 116, 102]⟩ : ByteArray)] rfl (by (try simp only [List.map_toArray, List.map_cons, List.map_nil]); first | done | rfl | (simp only [List.length_drop, List.length_take]; rfl)) ?_; (with_reducible refine (hash_Sysv.calls k (⟨#[112, 114, 105, 110, 116, 102]⟩ : ByteArray) t101 _ A1.out).mono ?_); rintro e w' ⟨rfl, ⟨nd, rfl⟩⟩; refine ⟨_, rfl, ?_⟩) | (go_at_call 20; (with_reducible refine (hash_Gnu.calls k (⟨#[112, 114, 105, 110, 116, 102]⟩ : ByteArray) t102 _ A3.out).mono ?_); rintro e w' ⟨rfl, ⟨nd, rfl⟩⟩))
      go_ret
      exact ⟨by first | rfl | (simp; done) | (simp [*]; done), by repeat (first | exact Drawn0.refl _ | apply Drawn0.step)⟩
  · rw [if_neg c2] at H
    have c2b0 : (t101 == 125371814) = false := beq_eq_false_iff_ne.mpr c2
    have c2b1 : (t101 != 125371814) = true := bne_iff_ne.mpr c2
    obtain rfl := Option.some.inj H
    go_enter Try.func17, Try.ntmps17
    go_wp2_with (first | ((with_reducible refine gate_callee (f := 18) rfl ?_); refine goesL_ (some 1) rfl rfl Try.func18 (by kernel_rfl) rfl #[.string (⟨#[112, 114, 105, 110, 116, 102]⟩ : ByteArray)] rfl (by (try simp only [List.map_toArray, List.map_cons, List.map_nil]); first | done | rfl | (simp only [List.length_drop, List.length_take]; rfl)) ?_; (with_reducible refine (hash_Sysv.calls k (⟨#[112, 114, 105, 110, 116, 102]⟩ : ByteArray) t101 _ A1.out).mono ?_); rintro e w' ⟨rfl, ⟨nd, rfl⟩⟩; refine ⟨_, rfl, ?_⟩))
    go_ret
    exact ⟨by first | rfl | (simp; done) | (simp [*]; done), by repeat (first | exact Drawn0.refl _ | apply Drawn0.step)⟩

/-! ### shacklelaw07_HashGrows: function 6 -/
def shacklelaw07_HashGrows.j0 : Nat → ByteArray → ByteArray → Int → Bool → ByteArray → Bool → Option (Bool)
  | 0, _, _, _, _, _, _ => none
  | k + 1, x0, x1, x2, x7, x8, x9 => (hash_Sysv.f k x0).bind fun t113 => ((hash_Sysv.f k x1).bind fun t114 => (if t113 = t114 then (if x0.size + x8.size ≤ 9223372036854775807 then ((hash_Sysv.f k (x0 ++ x8)).bind fun t115 => (if x1.size + x8.size ≤ 9223372036854775807 then ((hash_Sysv.f k (x1 ++ x8)).bind fun t116 => (if x7 = true then (if x9 = true then (if t115 = t116 then ((hash_Sysv.f k x0).bind fun t117 => (if t117 < 268435456 then ((hash_Gnu.f k (x0 ++ x8)).bind fun t118 => ((hash_Gnu.f k x0).bind fun t119 => (some (t118 == ((((33 * t119) % 4294967296) + ((x2) % 4294967296)) % 4294967296))))) else (some false))) else (some false)) else (some false)) else (some false))) else (none))) else (none)) else (if x7 = true then (if x9 = true then ((hash_Sysv.f k x0).bind fun t120 => (if t120 < 268435456 then (if x0.size + x8.size ≤ 9223372036854775807 then ((hash_Gnu.f k (x0 ++ x8)).bind fun t121 => ((hash_Gnu.f k x0).bind fun t122 => (some (t121 == ((((33 * t122) % 4294967296) + ((x2) % 4294967296)) % 4294967296))))) else (none)) else (some false))) else (some false)) else (some false))))
def shacklelaw07_HashGrows.f (k : Nat) (a0 : ByteArray) (a1 : ByteArray) (a2 : Int) : Option (Bool) := (shacklelaw07_up.f k).bind fun t105 => ((some (([a2] : List Int) : List Int)).bind fun y106 => ((hash_Gnu.f k a0).bind fun t109 => ((hash_Gnu.f k a1).bind fun t110 => (if t109 = t110 then (if a0.size + (strOfNums y106).size ≤ 9223372036854775807 then ((hash_Gnu.f k (a0 ++ (strOfNums y106))).bind fun t111 => (if a1.size + (strOfNums y106).size ≤ 9223372036854775807 then ((hash_Gnu.f k (a1 ++ (strOfNums y106))).bind fun t112 => (shacklelaw07_HashGrows.j0 k a0 a1 a2 t105 (strOfNums y106) (t111 == t112))) else (none))) else (none)) else (shacklelaw07_HashGrows.j0 k a0 a1 a2 t105 (strOfNums y106) true)))))
theorem shacklelaw07_HashGrows.mono_l : ∀ k, (∀ y0 y1 y2 y3 y4 y5, LeO (shacklelaw07_HashGrows.j0 k y0 y1 y2 y3 y4 y5) (shacklelaw07_HashGrows.j0 (k + 1) y0 y1 y2 y3 y4 y5))
  | 0 => fun _ _ _ _ _ _ r h => by simp [shacklelaw07_HashGrows.j0] at h
  | k + 1 => by
    have ih0 := shacklelaw07_HashGrows.mono_l k
    · intro y0 y1 y2 y3 y4 y5
      unfold shacklelaw07_HashGrows.j0
      repeat' first
      | (with_reducible exact ih0 _ _ _ _ _ _)
      | (with_reducible exact hash_Gnu.mono _ _)
      | (with_reducible exact hash_Sysv.mono _ _)
      | (with_reducible exact shacklelaw07_up.mono _)
      | (with_reducible exact LeO.refl _)
      | (with_reducible exact LeO.none _)
      | (with_reducible refine LeO.ite ?_ ?_)
      | (with_reducible refine LeO.bind ?_ (fun _ => ?_))
      | exact ih0 _ _ _ _ _ _
      | exact hash_Gnu.mono _ _
      | exact hash_Sysv.mono _ _
      | exact shacklelaw07_up.mono _
      | exact LeO.none _
      | refine LeO.ite ?_ ?_
      | refine LeO.bind ?_ (fun _ => ?_)
theorem shacklelaw07_HashGrows.mono : ∀ a0 a1 a2 k, LeO (shacklelaw07_HashGrows.f k a0 a1 a2) (shacklelaw07_HashGrows.f (k + 1) a0 a1 a2) := by
  intro a0 a1 a2 k
  have ih0 := shacklelaw07_HashGrows.mono_l k
  unfold shacklelaw07_HashGrows.f
  repeat' first
      | (with_reducible exact ih0 _ _ _ _ _ _)
      | (with_reducible exact hash_Gnu.mono _ _)
      | (with_reducible exact hash_Sysv.mono _ _)
      | (with_reducible exact shacklelaw07_up.mono _)
      | (with_reducible exact LeO.refl _)
      | (with_reducible exact LeO.none _)
      | (with_reducible refine LeO.ite ?_ ?_)
      | (with_reducible refine LeO.bind ?_ (fun _ => ?_))
      | exact ih0 _ _ _ _ _ _
      | exact hash_Gnu.mono _ _
      | exact hash_Sysv.mono _ _
      | exact shacklelaw07_up.mono _
      | exact LeO.none _
      | refine LeO.ite ?_ ?_
      | refine LeO.bind ?_ (fun _ => ?_)
set_option maxHeartbeats 8000000 in
set_option maxRecDepth 100000 in
theorem shacklelaw07_HashGrows.calls (k : Nat) (a0 : ByteArray) (a1 : ByteArray) (a2 : Int) (r : Bool) (w : World) (h : shacklelaw07_HashGrows.f k a0 a1 a2 = some r) :
    Calls Try.prog 6 #[.string a0, .string a1, .int .u8 a2] w fun e w' => e = .returned (.bool r) ∧ Below w.heap.size w w' := by
  have HB := Aside0.mk (Below.refl w.heap.size w)
  have H : ((shacklelaw07_up.f k).bind fun t105 => ((some (([a2] : List Int) : List Int)).bind fun y106 => ((hash_Gnu.f k a0).bind fun t109 => ((hash_Gnu.f k a1).bind fun t110 => (if t109 = t110 then (if a0.size + (strOfNums y106).size ≤ 9223372036854775807 then ((hash_Gnu.f k (a0 ++ (strOfNums y106))).bind fun t111 => (if a1.size + (strOfNums y106).size ≤ 9223372036854775807 then ((hash_Gnu.f k (a1 ++ (strOfNums y106))).bind fun t112 => (shacklelaw07_HashGrows.j0 k a0 a1 a2 t105 (strOfNums y106) (t111 == t112))) else (none))) else (none)) else (shacklelaw07_HashGrows.j0 k a0 a1 a2 t105 (strOfNums y106) true)))))) = some r := h
  clear h
  replace H := Option.bind_eq_some_iff.mp H
  obtain ⟨t105, A40, H⟩ := H
  replace H : ((some (([a2] : List Int) : List Int)).bind fun y106 => ((hash_Gnu.f k a0).bind fun t109 => ((hash_Gnu.f k a1).bind fun t110 => (if t109 = t110 then (if a0.size + (strOfNums y106).size ≤ 9223372036854775807 then ((hash_Gnu.f k (a0 ++ (strOfNums y106))).bind fun t111 => (if a1.size + (strOfNums y106).size ≤ 9223372036854775807 then ((hash_Gnu.f k (a1 ++ (strOfNums y106))).bind fun t112 => (shacklelaw07_HashGrows.j0 k a0 a1 a2 t105 (strOfNums y106) (t111 == t112))) else (none))) else (none)) else (shacklelaw07_HashGrows.j0 k a0 a1 a2 t105 (strOfNums y106) true))))) = some r := H
  have A4 := Aside0.mk A40
  clear A40
  obtain ⟨y106, hy106⟩ : ∃ y_ : List Int, y_ = (([a2] : List Int)) := ⟨_, rfl⟩
  replace H : ((hash_Gnu.f k a0).bind fun t109 => ((hash_Gnu.f k a1).bind fun t110 => (if t109 = t110 then (if a0.size + (strOfNums y106).size ≤ 9223372036854775807 then ((hash_Gnu.f k (a0 ++ (strOfNums y106))).bind fun t111 => (if a1.size + (strOfNums y106).size ≤ 9223372036854775807 then ((hash_Gnu.f k (a1 ++ (strOfNums y106))).bind fun t112 => (shacklelaw07_HashGrows.j0 k a0 a1 a2 t105 (strOfNums y106) (t111 == t112))) else (none))) else (none)) else (shacklelaw07_HashGrows.j0 k a0 a1 a2 t105 (strOfNums y106) true)))) = some r := by first | (rw [hy106]; with_reducible exact H) | (have H2_ := (Option.bind_some _ _).symm.trans H; rw [hy106]; with_reducible exact H2_) | (have H2_ := (Option.bind_some _ _).symm.trans H; with_reducible exact H2_) | with_reducible exact H | (rw [hy106]; exact H) | exact H
  have Ny106 := Aside0.mk hy106
  clear hy106
  have HC5 := Aside0.mk H
  clear H
  go_enter Try.func6, Try.ntmps6
  go_upto_region 3 with (first | ((with_reducible refine gate_callee (f := 17) rfl ?_); refine goesL_ (some 11) rfl rfl Try.func17 (by kernel_rfl) rfl #[] rfl (by (try simp only [List.map_toArray, List.map_cons, List.map_nil]); first | done | rfl | (simp only [List.length_drop, List.length_take]; rfl)) ?_; (with_reducible refine (shacklelaw07_up.calls k  t105 _ A4.out).mono ?_); rintro e w' ⟨rfl, ⟨nd, rfl⟩⟩; refine ⟨_, rfl, ?_⟩) | ((with_reducible refine gate_dst (N := 13) rfl ?_); refine Kd.R_lit (Kd.int .u8) _ 5 ?hg (N := 13) ?hd (xs := ([a2] : List Int)) (inner := [.int .u8 a2]) (ok := fun _ => True) (okp := fun _ => True) ?hr ?hp (fun _ hk => hk) trivial (Below.refl _ _) (Nat.le_refl _) (by simp) ?_; (case hd => rfl); (case hg => rfl); (case hr => first | (go_simp; done) | (go_simp; rfl)); (case hp => exact (Reps.one (show Kd.M (Kd.int .u8) _ _ _ a2 [.int .u8 a2] from rfl) (Reps.none _ _))); intro v107 w6 ho7 hb hg_ hnew_; clear hg_ hnew_; (first | rw [← Ny106.out] at ho7 | (simp only [Int.reduceToNat] at ho7; rw [← Ny106.out] at ho7)); have n0_ := Aside0.mk (Kd.R_lower ho7 (below_size (by repeat (first | (with_reducible first | exact HB.out | apply below_alloc | apply pw_below_drewN | apply below_drew1) | exact HB.out)))); have n1_ := Aside0.mk (below_step (by repeat (first | (with_reducible first | exact HB.out | apply below_alloc | apply pw_below_drewN | apply below_drew1) | exact HB.out)) hb); clear HB; have HO108 := n0_; have HB := n1_; clear n0_ n1_; clear hb ho7; have hcv8 := own_string (P := Try.prog) Try.underlying22 Try.underlying5 Try.underlying9 (Kd.own_of_R HO108.out)))
  (try simp only [Act.put, List.setIfInBounds_toArray, List.set_cons_zero, List.set_cons_succ])
  go_cut [9] (fun v9 wc => ∃ (kq : Nat) (x9_4 : Bool), v9 = .bool x9_4 ∧ Aside0 (shacklelaw07_HashGrows.j0 kq a0 a1 a2 t105 (strOfNums y106) x9_4 = some r) ∧ Aside0 (kq ≤ k) ∧ Aside0 (Below w.heap.size w wc))
  case first =>
    have H := HC5.out
    clear HC5
    replace H := Option.bind_eq_some_iff.mp H
    obtain ⟨t109, A90, H⟩ := H
    replace H : ((hash_Gnu.f k a1).bind fun t110 => (if t109 = t110 then (if a0.size + (strOfNums y106).size ≤ 9223372036854775807 then ((hash_Gnu.f k (a0 ++ (strOfNums y106))).bind fun t111 => (if a1.size + (strOfNums y106).size ≤ 9223372036854775807 then ((hash_Gnu.f k (a1 ++ (strOfNums y106))).bind fun t112 => (shacklelaw07_HashGrows.j0 k a0 a1 a2 t105 (strOfNums y106) (t111 == t112))) else (none))) else (none)) else (shacklelaw07_HashGrows.j0 k a0 a1 a2 t105 (strOfNums y106) true))) = some r := H
    have A9 := Aside0.mk A90
    clear A90
    replace H := Option.bind_eq_some_iff.mp H
    obtain ⟨t110, A100, H⟩ := H
    replace H : (if t109 = t110 then (if a0.size + (strOfNums y106).size ≤ 9223372036854775807 then ((hash_Gnu.f k (a0 ++ (strOfNums y106))).bind fun t111 => (if a1.size + (strOfNums y106).size ≤ 9223372036854775807 then ((hash_Gnu.f k (a1 ++ (strOfNums y106))).bind fun t112 => (shacklelaw07_HashGrows.j0 k a0 a1 a2 t105 (strOfNums y106) (t111 == t112))) else (none))) else (none)) else (shacklelaw07_HashGrows.j0 k a0 a1 a2 t105 (strOfNums y106) true)) = some r := H
    have A10 := Aside0.mk A100
    clear A100
    by_cases c11 : t109 = t110
    · rw [if_pos c11] at H
      have c11b0 : (t109 == t110) = true := beq_iff_eq.mpr c11
      have c11b1 : (t109 != t110) = false := bne_eq_false_iff_eq.mpr c11
      clear c11
      (first | rw [c11b0] | (simp only [i64_w, i32_w]; rw [c11b0]) | skip)
      by_cases c12 : a0.size + (strOfNums y106).size ≤ 9223372036854775807
      · rw [if_pos c12] at H
        have c12b0 := eq_true c12
        have c12b1 : decide (a0.size + (strOfNums y106).size ≤ 9223372036854775807) = true := decide_eq_true c12
        try have c12b2 : (9223372036854775807 < a0.size + (strOfNums y106).size) = False := eq_false (Nat.not_lt.2 c12)
        replace H := Option.bind_eq_some_iff.mp H
        obtain ⟨t111, A130, H⟩ := H
        replace H : (if a1.size + (strOfNums y106).size ≤ 9223372036854775807 then ((hash_Gnu.f k (a1 ++ (strOfNums y106))).bind fun t112 => (shacklelaw07_HashGrows.j0 k a0 a1 a2 t105 (strOfNums y106) (t111 == t112))) else (none)) = some r := H
        have A13 := Aside0.mk A130
        clear A130
        by_cases c14 : a1.size + (strOfNums y106).size ≤ 9223372036854775807
        · rw [if_pos c14] at H
          have c14b0 := eq_true c14
          have c14b1 : decide (a1.size + (strOfNums y106).size ≤ 9223372036854775807) = true := decide_eq_true c14
          try have c14b2 : (9223372036854775807 < a1.size + (strOfNums y106).size) = False := eq_false (Nat.not_lt.2 c14)
          replace H := Option.bind_eq_some_iff.mp H
          obtain ⟨t112, A150, H⟩ := H
          replace H : (shacklelaw07_HashGrows.j0 k a0 a1 a2 t105 (strOfNums y106) (t111 == t112)) = some r := H
          have A15 := Aside0.mk A150
          clear A150
          have H' := Aside0.mk H
          clear H
          go_wp2_with (first | ((with_reducible refine gate_callee (f := 20) rfl ?_); refine goesL_ (some 16) rfl rfl Try.func20 (by kernel_rfl) rfl #[.string a0] rfl (by (try simp only [List.map_toArray, List.map_cons, List.map_nil]); first | done | rfl | (simp only [List.length_drop, List.length_take]; rfl)) ?_; (with_reducible refine (hash_Gnu.calls k a0 t109 _ A9.out).mono ?_); rintro e w' ⟨rfl, ⟨nd, rfl⟩⟩; refine ⟨_, rfl, ?_⟩) | ((with_reducible refine gate_callee (f := 20) rfl ?_); refine goesL_ (some 18) rfl rfl Try.func20 (by kernel_rfl) rfl #[.string a1] rfl (by (try simp only [List.map_toArray, List.map_cons, List.map_nil]); first | done | rfl | (simp only [List.length_drop, List.length_take]; rfl)) ?_; (with_reducible refine (hash_Gnu.calls k a1 t110 _ A10.out).mono ?_); rintro e w' ⟨rfl, ⟨nd, rfl⟩⟩; refine ⟨_, rfl, ?_⟩) | (go_at_call 20; (with_reducible refine (hash_Gnu.calls k (a0 ++ (strOfNums y106)) t111 _ A13.out).mono ?_); rintro e w' ⟨rfl, ⟨nd, rfl⟩⟩) | (go_at_call 20; (with_reducible refine (hash_Gnu.calls k (a1 ++ (strOfNums y106)) t112 _ A15.out).mono ?_); rintro e w' ⟨rfl, ⟨nd, rfl⟩⟩))
          go_meet
          case rel => exact ⟨_, ((t111 == t112)), (by first | rfl | (simp; done) | (simp [*]; done)), H', ⟨by first | omega | exact Nat.le_refl _⟩, ⟨by repeat (first | (with_reducible first | exact HB.out | apply below_alloc | apply pw_below_drewN | apply below_drew1) | exact HB.out)⟩⟩
        · rw [if_neg c14] at H
          exact absurd H (by simp)
      · rw [if_neg c12] at H
        exact absurd H (by simp)
    · rw [if_neg c11] at H
      have c11b0 : (t109 == t110) = false := beq_eq_false_iff_ne.mpr c11
      have c11b1 : (t109 != t110) = true := bne_iff_ne.mpr c11
      (first | rw [c11b0] | (simp only [i64_w, i32_w]; rw [c11b0]) | skip)
      have H' := Aside0.mk H
      clear H
      go_wp2_with (first | ((with_reducible refine gate_callee (f := 20) rfl ?_); refine goesL_ (some 16) rfl rfl Try.func20 (by kernel_rfl) rfl #[.string a0] rfl (by (try simp only [List.map_toArray, List.map_cons, List.map_nil]); first | done | rfl | (simp only [List.length_drop, List.length_take]; rfl)) ?_; (with_reducible refine (hash_Gnu.calls k a0 t109 _ A9.out).mono ?_); rintro e w' ⟨rfl, ⟨nd, rfl⟩⟩; refine ⟨_, rfl, ?_⟩) | ((with_reducible refine gate_callee (f := 20) rfl ?_); refine goesL_ (some 18) rfl rfl Try.func20 (by kernel_rfl) rfl #[.string a1] rfl (by (try simp only [List.map_toArray, List.map_cons, List.map_nil]); first | done | rfl | (simp only [List.length_drop, List.length_take]; rfl)) ?_; (with_reducible refine (hash_Gnu.calls k a1 t110 _ A10.out).mono ?_); rintro e w' ⟨rfl, ⟨nd, rfl⟩⟩; refine ⟨_, rfl, ?_⟩))
      go_meet
      case rel => exact ⟨_, (true), (by first | rfl | (simp; done) | (simp [*]; done)), H', ⟨by first | omega | exact Nat.le_refl _⟩, ⟨by repeat (first | (with_reducible first | exact HB.out | apply below_alloc | apply pw_below_drewN | apply below_drew1) | exact HB.out)⟩⟩
  case rest =>
    clear HC5
    try clear c1
    try clear c2
    try clear p2
    try clear c6
    try clear hcv8
    try clear c11
    try clear c11b0
    try clear c11b1
    try clear c12
    try clear c12b0
    try clear c12b1
    try clear c12b2
    try clear c14
    try clear c14b0
    try clear c14b1
    try clear c14b2
    obtain ⟨kq, x9_4, rfl, HA, HJ4, HB⟩ := hcut
    cases kq with
    | zero => exact absurd HA.out (by simp [shacklelaw07_HashGrows.j0])
    | succ kj4 =>
      have H := HA.out
      clear HA
      simp only [shacklelaw07_HashGrows.j0] at H
      replace H := Option.bind_eq_some_iff.mp H
      obtain ⟨t113, A160, H⟩ := H
      replace H : ((hash_Sysv.f kj4 a1).bind fun t114 => (if t113 = t114 then (if a0.size + (strOfNums y106).size ≤ 9223372036854775807 then ((hash_Sysv.f kj4 (a0 ++ (strOfNums y106))).bind fun t115 => (if a1.size + (strOfNums y106).size ≤ 9223372036854775807 then ((hash_Sysv.f kj4 (a1 ++ (strOfNums y106))).bind fun t116 => (if t105 = true then (if x9_4 = true then (if t115 = t116 then ((hash_Sysv.f kj4 a0).bind fun t117 => (if t117 < 268435456 then ((hash_Gnu.f kj4 (a0 ++ (strOfNums y106))).bind fun t118 => ((hash_Gnu.f kj4 a0).bind fun t119 => (some (t118 == ((((33 * t119) % 4294967296) + ((a2) % 4294967296)) % 4294967296))))) else (some false))) else (some false)) else (some false)) else (some false))) else (none))) else (none)) else (if t105 = true then (if x9_4 = true then ((hash_Sysv.f kj4 a0).bind fun t120 => (if t120 < 268435456 then (if a0.size + (strOfNums y106).size ≤ 9223372036854775807 then ((hash_Gnu.f kj4 (a0 ++ (strOfNums y106))).bind fun t121 => ((hash_Gnu.f kj4 a0).bind fun t122 => (some (t121 == ((((33 * t122) % 4294967296) + ((a2) % 4294967296)) % 4294967296))))) else (none)) else (some false))) else (some false)) else (some false)))) = some r := H
      have A16 := Aside0.mk A160
      clear A160
      replace H := Option.bind_eq_some_iff.mp H
      obtain ⟨t114, A170, H⟩ := H
      replace H : (if t113 = t114 then (if a0.size + (strOfNums y106).size ≤ 9223372036854775807 then ((hash_Sysv.f kj4 (a0 ++ (strOfNums y106))).bind fun t115 => (if a1.size + (strOfNums y106).size ≤ 9223372036854775807 then ((hash_Sysv.f kj4 (a1 ++ (strOfNums y106))).bind fun t116 => (if t105 = true then (if x9_4 = true then (if t115 = t116 then ((hash_Sysv.f kj4 a0).bind fun t117 => (if t117 < 268435456 then ((hash_Gnu.f kj4 (a0 ++ (strOfNums y106))).bind fun t118 => ((hash_Gnu.f kj4 a0).bind fun t119 => (some (t118 == ((((33 * t119) % 4294967296) + ((a2) % 4294967296)) % 4294967296))))) else (some false))) else (some false)) else (some false)) else (some false))) else (none))) else (none)) else (if t105 = true then (if x9_4 = true then ((hash_Sysv.f kj4 a0).bind fun t120 => (if t120 < 268435456 then (if a0.size + (strOfNums y106).size ≤ 9223372036854775807 then ((hash_Gnu.f kj4 (a0 ++ (strOfNums y106))).bind fun t121 => ((hash_Gnu.f kj4 a0).bind fun t122 => (some (t121 == ((((33 * t122) % 4294967296) + ((a2) % 4294967296)) % 4294967296))))) else (none)) else (some false))) else (some false)) else (some false))) = some r := H
      have A17 := Aside0.mk A170
      clear A170
      by_cases c18 : t113 = t114
      · rw [if_pos c18] at H
        have c18b0 : (t113 == t114) = true := beq_iff_eq.mpr c18
        have c18b1 : (t113 != t114) = false := bne_eq_false_iff_eq.mpr c18
        clear c18
        by_cases c19 : a0.size + (strOfNums y106).size ≤ 9223372036854775807
        · rw [if_pos c19] at H
          have c19b0 := eq_true c19
          have c19b1 : decide (a0.size + (strOfNums y106).size ≤ 9223372036854775807) = true := decide_eq_true c19
          try have c19b2 : (9223372036854775807 < a0.size + (strOfNums y106).size) = False := eq_false (Nat.not_lt.2 c19)
          replace H := Option.bind_eq_some_iff.mp H
          obtain ⟨t115, A200, H⟩ := H
          replace H : (if a1.size + (strOfNums y106).size ≤ 9223372036854775807 then ((hash_Sysv.f kj4 (a1 ++ (strOfNums y106))).bind fun t116 => (if t105 = true then (if x9_4 = true then (if t115 = t116 then ((hash_Sysv.f kj4 a0).bind fun t117 => (if t117 < 268435456 then ((hash_Gnu.f kj4 (a0 ++ (strOfNums y106))).bind fun t118 => ((hash_Gnu.f kj4 a0).bind fun t119 => (some (t118 == ((((33 * t119) % 4294967296) + ((a2) % 4294967296)) % 4294967296))))) else (some false))) else (some false)) else (some false)) else (some false))) else (none)) = some r := H
          have A20 := Aside0.mk A200
          clear A200
          by_cases c21 : a1.size + (strOfNums y106).size ≤ 9223372036854775807
          · rw [if_pos c21] at H
            have c21b0 := eq_true c21
            have c21b1 : decide (a1.size + (strOfNums y106).size ≤ 9223372036854775807) = true := decide_eq_true c21
            try have c21b2 : (9223372036854775807 < a1.size + (strOfNums y106).size) = False := eq_false (Nat.not_lt.2 c21)
            replace H := Option.bind_eq_some_iff.mp H
            obtain ⟨t116, A220, H⟩ := H
            replace H : (if t105 = true then (if x9_4 = true then (if t115 = t116 then ((hash_Sysv.f kj4 a0).bind fun t117 => (if t117 < 268435456 then ((hash_Gnu.f kj4 (a0 ++ (strOfNums y106))).bind fun t118 => ((hash_Gnu.f kj4 a0).bind fun t119 => (some (t118 == ((((33 * t119) % 4294967296) + ((a2) % 4294967296)) % 4294967296))))) else (some false))) else (some false)) else (some false)) else (some false)) = some r := H
            have A22 := Aside0.mk A220
            clear A220
            by_cases c23 : t105 = true
            · subst c23
              have H1 : (if x9_4 = true then (if t115 = t116 then ((hash_Sysv.f kj4 a0).bind fun t117 => (if t117 < 268435456 then ((hash_Gnu.f kj4 (a0 ++ (strOfNums y106))).bind fun t118 => ((hash_Gnu.f kj4 a0).bind fun t119 => (some (t118 == ((((33 * t119) % 4294967296) + ((a2) % 4294967296)) % 4294967296))))) else (some false))) else (some false)) else (some false)) = some r := by rw [if_pos rfl] at H; exact H
              clear H
              have H := H1
              clear H1
              by_cases c24 : x9_4 = true
              · subst c24
                have H1 : (if t115 = t116 then ((hash_Sysv.f kj4 a0).bind fun t117 => (if t117 < 268435456 then ((hash_Gnu.f kj4 (a0 ++ (strOfNums y106))).bind fun t118 => ((hash_Gnu.f kj4 a0).bind fun t119 => (some (t118 == ((((33 * t119) % 4294967296) + ((a2) % 4294967296)) % 4294967296))))) else (some false))) else (some false)) = some r := by rw [if_pos rfl] at H; exact H
                clear H
                have H := H1
                clear H1
                by_cases c25 : t115 = t116
                · rw [if_pos c25] at H
                  have c25b0 : (t115 == t116) = true := beq_iff_eq.mpr c25
                  have c25b1 : (t115 != t116) = false := bne_eq_false_iff_eq.mpr c25
                  clear c25
                  replace H := Option.bind_eq_some_iff.mp H
                  obtain ⟨t117, A260, H⟩ := H
                  replace H : (if t117 < 268435456 then ((hash_Gnu.f kj4 (a0 ++ (strOfNums y106))).bind fun t118 => ((hash_Gnu.f kj4 a0).bind fun t119 => (some (t118 == ((((33 * t119) % 4294967296) + ((a2) % 4294967296)) % 4294967296))))) else (some false)) = some r := H
                  have A26 := Aside0.mk A260
                  clear A260
                  by_cases c27 : t117 < 268435456
                  · rw [if_pos c27] at H
                    have c27b0 : decide (t117 < 268435456) = true := decide_eq_true c27
                    clear c27
                    replace H := Option.bind_eq_some_iff.mp H
                    obtain ⟨t118, A280, H⟩ := H
                    replace H : ((hash_Gnu.f kj4 a0).bind fun t119 => (some (t118 == ((((33 * t119) % 4294967296) + ((a2) % 4294967296)) % 4294967296)))) = some r := H
                    have A28 := Aside0.mk A280
                    clear A280
                    replace H := Option.bind_eq_some_iff.mp H
                    obtain ⟨t119, A290, H⟩ := H
                    replace H : (some (t118 == ((((33 * t119) % 4294967296) + ((a2) % 4294967296)) % 4294967296))) = some r := H
                    have A29 := Aside0.mk A290
                    clear A290
                    obtain rfl := Option.some.inj H
                    go_wp2_with (first | ((with_reducible refine gate_callee (f := 18) rfl ?_); refine goesL_ (some 32) rfl rfl Try.func18 (by kernel_rfl) rfl #[.string a0] rfl (by (try simp only [List.map_toArray, List.map_cons, List.map_nil]); first | done | rfl | (simp only [List.length_drop, List.length_take]; rfl)) ?_; (with_reducible refine (hash_Sysv.calls kj4 a0 t113 _ A16.out).mono ?_); rintro e w' ⟨rfl, ⟨nd, rfl⟩⟩; refine ⟨_, rfl, ?_⟩) | ((with_reducible refine gate_callee (f := 18) rfl ?_); refine goesL_ (some 34) rfl rfl Try.func18 (by kernel_rfl) rfl #[.string a1] rfl (by (try simp only [List.map_toArray, List.map_cons, List.map_nil]); first | done | rfl | (simp only [List.length_drop, List.length_take]; rfl)) ?_; (with_reducible refine (hash_Sysv.calls kj4 a1 t114 _ A17.out).mono ?_); rintro e w' ⟨rfl, ⟨nd, rfl⟩⟩; refine ⟨_, rfl, ?_⟩) | (go_at_call 18; (with_reducible refine (hash_Sysv.calls kj4 (a0 ++ (strOfNums y106)) t115 _ A20.out).mono ?_); rintro e w' ⟨rfl, ⟨nd, rfl⟩⟩) | (go_at_call 18; (with_reducible refine (hash_Sysv.calls kj4 (a1 ++ (strOfNums y106)) t116 _ A22.out).mono ?_); rintro e w' ⟨rfl, ⟨nd, rfl⟩⟩) | (go_at_call 18; (with_reducible refine (hash_Sysv.calls kj4 a0 t117 _ A26.out).mono ?_); rintro e w' ⟨rfl, ⟨nd, rfl⟩⟩) | (go_at_call 20; (with_reducible refine (hash_Gnu.calls kj4 (a0 ++ (strOfNums y106)) t118 _ A28.out).mono ?_); rintro e w' ⟨rfl, ⟨nd, rfl⟩⟩) | (go_at_call 20; (with_reducible refine (hash_Gnu.calls kj4 a0 t119 _ A29.out).mono ?_); rintro e w' ⟨rfl, ⟨nd, rfl⟩⟩))
                    go_ret
                    exact ⟨by first | rfl | (simp [errW_none, errW_some] <;> rfl) | (simp [*, errW_none, errW_some] <;> rfl), by repeat (first | (with_reducible first | exact HB.out | apply below_alloc | apply pw_below_drewN | apply below_drew1) | exact HB.out)⟩
                  · rw [if_neg c27] at H
                    have c27b0 : decide (t117 < 268435456) = false := decide_eq_false c27
                    clear c27
                    obtain rfl := Option.some.inj H
                    go_wp2_with (first | ((with_reducible refine gate_callee (f := 18) rfl ?_); refine goesL_ (some 32) rfl rfl Try.func18 (by kernel_rfl) rfl #[.string a0] rfl (by (try simp only [List.map_toArray, List.map_cons, List.map_nil]); first | done | rfl | (simp only [List.length_drop, List.length_take]; rfl)) ?_; (with_reducible refine (hash_Sysv.calls kj4 a0 t113 _ A16.out).mono ?_); rintro e w' ⟨rfl, ⟨nd, rfl⟩⟩; refine ⟨_, rfl, ?_⟩) | ((with_reducible refine gate_callee (f := 18) rfl ?_); refine goesL_ (some 34) rfl rfl Try.func18 (by kernel_rfl) rfl #[.string a1] rfl (by (try simp only [List.map_toArray, List.map_cons, List.map_nil]); first | done | rfl | (simp only [List.length_drop, List.length_take]; rfl)) ?_; (with_reducible refine (hash_Sysv.calls kj4 a1 t114 _ A17.out).mono ?_); rintro e w' ⟨rfl, ⟨nd, rfl⟩⟩; refine ⟨_, rfl, ?_⟩) | (go_at_call 18; (with_reducible refine (hash_Sysv.calls kj4 (a0 ++ (strOfNums y106)) t115 _ A20.out).mono ?_); rintro e w' ⟨rfl, ⟨nd, rfl⟩⟩) | (go_at_call 18; (with_reducible refine (hash_Sysv.calls kj4 (a1 ++ (strOfNums y106)) t116 _ A22.out).mono ?_); rintro e w' ⟨rfl, ⟨nd, rfl⟩⟩) | (go_at_call 18; (with_reducible refine (hash_Sysv.calls kj4 a0 t117 _ A26.out).mono ?_); rintro e w' ⟨rfl, ⟨nd, rfl⟩⟩))
                    go_ret
                    exact ⟨by first | rfl | (simp [errW_none, errW_some] <;> rfl) | (simp [*, errW_none, errW_some] <;> rfl), by repeat (first | (with_reducible first | exact HB.out | apply below_alloc | apply pw_below_drewN | apply below_drew1) | exact HB.out)⟩
                · rw [if_neg c25] at H
                  have c25b0 : (t115 == t116) = false := beq_eq_false_iff_ne.mpr c25
                  have c25b1 : (t115 != t116) = true := bne_iff_ne.mpr c25
                  obtain rfl := Option.some.inj H
                  go_wp2_with (first | ((with_reducible refine gate_callee (f := 18) rfl ?_); refine goesL_ (some 32) rfl rfl Try.func18 (by kernel_rfl) rfl #[.string a0] rfl (by (try simp only [List.map_toArray, List.map_cons, List.map_nil]); first | done | rfl | (simp only [List.length_drop, List.length_take]; rfl)) ?_; (with_reducible refine (hash_Sysv.calls kj4 a0 t113 _ A16.out).mono ?_); rintro e w' ⟨rfl, ⟨nd, rfl⟩⟩; refine ⟨_, rfl, ?_⟩) | ((with_reducible refine gate_callee (f := 18) rfl ?_); refine goesL_ (some 34) rfl rfl Try.func18 (by kernel_rfl) rfl #[.string a1] rfl (by (try simp only [List.map_toArray, List.map_cons, List.map_nil]); first | done | rfl | (simp only [List.length_drop, List.length_take]; rfl)) ?_; (with_reducible refine (hash_Sysv.calls kj4 a1 t114 _ A17.out).mono ?_); rintro e w' ⟨rfl, ⟨nd, rfl⟩⟩; refine ⟨_, rfl, ?_⟩) | (go_at_call 18; (with_reducible refine (hash_Sysv.calls kj4 (a0 ++ (strOfNums y106)) t115 _ A20.out).mono ?_); rintro e w' ⟨rfl, ⟨nd, rfl⟩⟩) | (go_at_call 18; (with_reducible refine (hash_Sysv.calls kj4 (a1 ++ (strOfNums y106)) t116 _ A22.out).mono ?_); rintro e w' ⟨rfl, ⟨nd, rfl⟩⟩))
                  go_ret
                  exact ⟨by first | rfl | (simp [errW_none, errW_some] <;> rfl) | (simp [*, errW_none, errW_some] <;> rfl), by repeat (first | (with_reducible first | exact HB.out | apply below_alloc | apply pw_below_drewN | apply below_drew1) | exact HB.out)⟩
              · replace c24 := Bool.eq_false_iff.mpr c24
                subst c24
                have H1 : (some false) = some r := by rw [if_neg (show ¬ (false = true) by decide)] at H; exact H
                clear H
                have H := H1
                clear H1
                obtain rfl := Option.some.inj H
                go_wp2_with (first | ((with_reducible refine gate_callee (f := 18) rfl ?_); refine goesL_ (some 32) rfl rfl Try.func18 (by kernel_rfl) rfl #[.string a0] rfl (by (try simp only [List.map_toArray, List.map_cons, List.map_nil]); first | done | rfl | (simp only [List.length_drop, List.length_take]; rfl)) ?_; (with_reducible refine (hash_Sysv.calls kj4 a0 t113 _ A16.out).mono ?_); rintro e w' ⟨rfl, ⟨nd, rfl⟩⟩; refine ⟨_, rfl, ?_⟩) | ((with_reducible refine gate_callee (f := 18) rfl ?_); refine goesL_ (some 34) rfl rfl Try.func18 (by kernel_rfl) rfl #[.string a1] rfl (by (try simp only [List.map_toArray, List.map_cons, List.map_nil]); first | done | rfl | (simp only [List.length_drop, List.length_take]; rfl)) ?_; (with_reducible refine (hash_Sysv.calls kj4 a1 t114 _ A17.out).mono ?_); rintro e w' ⟨rfl, ⟨nd, rfl⟩⟩; refine ⟨_, rfl, ?_⟩) | (go_at_call 18; (with_reducible refine (hash_Sysv.calls kj4 (a0 ++ (strOfNums y106)) t115 _ A20.out).mono ?_); rintro e w' ⟨rfl, ⟨nd, rfl⟩⟩) | (go_at_call 18; (with_reducible refine (hash_Sysv.calls kj4 (a1 ++ (strOfNums y106)) t116 _ A22.out).mono ?_); rintro e w' ⟨rfl, ⟨nd, rfl⟩⟩))
                go_ret
                exact ⟨by first | rfl | (simp [errW_none, errW_some] <;> rfl) | (simp [*, errW_none, errW_some] <;> rfl), by repeat (first | (with_reducible first | exact HB.out | apply below_alloc | apply pw_below_drewN | apply below_drew1) | exact HB.out)⟩
            · replace c23 := Bool.eq_false_iff.mpr c23
              subst c23
              have H1 : (some false) = some r := by rw [if_neg (show ¬ (false = true) by decide)] at H; exact H
              clear H
              have H := H1
              clear H1
              obtain rfl := Option.some.inj H
              go_wp2_with (first | ((with_reducible refine gate_callee (f := 18) rfl ?_); refine goesL_ (some 32) rfl rfl Try.func18 (by kernel_rfl) rfl #[.string a0] rfl (by (try simp only [List.map_toArray, List.map_cons, List.map_nil]); first | done | rfl | (simp only [List.length_drop, List.length_take]; rfl)) ?_; (with_reducible refine (hash_Sysv.calls kj4 a0 t113 _ A16.out).mono ?_); rintro e w' ⟨rfl, ⟨nd, rfl⟩⟩; refine ⟨_, rfl, ?_⟩) | ((with_reducible refine gate_callee (f := 18) rfl ?_); refine goesL_ (some 34) rfl rfl Try.func18 (by kernel_rfl) rfl #[.string a1] rfl (by (try simp only [List.map_toArray, List.map_cons, List.map_nil]); first | done | rfl | (simp only [List.length_drop, List.length_take]; rfl)) ?_; (with_reducible refine (hash_Sysv.calls kj4 a1 t114 _ A17.out).mono ?_); rintro e w' ⟨rfl, ⟨nd, rfl⟩⟩; refine ⟨_, rfl, ?_⟩) | (go_at_call 18; (with_reducible refine (hash_Sysv.calls kj4 (a0 ++ (strOfNums y106)) t115 _ A20.out).mono ?_); rintro e w' ⟨rfl, ⟨nd, rfl⟩⟩) | (go_at_call 18; (with_reducible refine (hash_Sysv.calls kj4 (a1 ++ (strOfNums y106)) t116 _ A22.out).mono ?_); rintro e w' ⟨rfl, ⟨nd, rfl⟩⟩))
              go_ret
              exact ⟨by first | rfl | (simp [errW_none, errW_some] <;> rfl) | (simp [*, errW_none, errW_some] <;> rfl), by repeat (first | (with_reducible first | exact HB.out | apply below_alloc | apply pw_below_drewN | apply below_drew1) | exact HB.out)⟩
          · rw [if_neg c21] at H
            exact absurd H (by simp)
        · rw [if_neg c19] at H
          exact absurd H (by simp)
      · rw [if_neg c18] at H
        have c18b0 : (t113 == t114) = false := beq_eq_false_iff_ne.mpr c18
        have c18b1 : (t113 != t114) = true := bne_iff_ne.mpr c18
        by_cases c30 : t105 = true
        · subst c30
          have H1 : (if x9_4 = true then ((hash_Sysv.f kj4 a0).bind fun t120 => (if t120 < 268435456 then (if a0.size + (strOfNums y106).size ≤ 9223372036854775807 then ((hash_Gnu.f kj4 (a0 ++ (strOfNums y106))).bind fun t121 => ((hash_Gnu.f kj4 a0).bind fun t122 => (some (t121 == ((((33 * t122) % 4294967296) + ((a2) % 4294967296)) % 4294967296))))) else (none)) else (some false))) else (some false)) = some r := by rw [if_pos rfl] at H; exact H
          clear H
          have H := H1
          clear H1
          by_cases c31 : x9_4 = true
          · subst c31
            have H1 : ((hash_Sysv.f kj4 a0).bind fun t120 => (if t120 < 268435456 then (if a0.size + (strOfNums y106).size ≤ 9223372036854775807 then ((hash_Gnu.f kj4 (a0 ++ (strOfNums y106))).bind fun t121 => ((hash_Gnu.f kj4 a0).bind fun t122 => (some (t121 == ((((33 * t122) % 4294967296) + ((a2) % 4294967296)) % 4294967296))))) else (none)) else (some false))) = some r := by rw [if_pos rfl] at H; exact H
            clear H
            have H := H1
            clear H1
            replace H := Option.bind_eq_some_iff.mp H
            obtain ⟨t120, A320, H⟩ := H
            replace H : (if t120 < 268435456 then (if a0.size + (strOfNums y106).size ≤ 9223372036854775807 then ((hash_Gnu.f kj4 (a0 ++ (strOfNums y106))).bind fun t121 => ((hash_Gnu.f kj4 a0).bind fun t122 => (some (t121 == ((((33 * t122) % 4294967296) + ((a2) % 4294967296)) % 4294967296))))) else (none)) else (some false)) = some r := H
            have A32 := Aside0.mk A320
            clear A320
            by_cases c33 : t120 < 268435456
            · rw [if_pos c33] at H
              have c33b0 : decide (t120 < 268435456) = true := decide_eq_true c33
              clear c33
              by_cases c34 : a0.size + (strOfNums y106).size ≤ 9223372036854775807
              · rw [if_pos c34] at H
                have c34b0 := eq_true c34
                have c34b1 : decide (a0.size + (strOfNums y106).size ≤ 9223372036854775807) = true := decide_eq_true c34
                try have c34b2 : (9223372036854775807 < a0.size + (strOfNums y106).size) = False := eq_false (Nat.not_lt.2 c34)
                replace H := Option.bind_eq_some_iff.mp H
                obtain ⟨t121, A350, H⟩ := H
                replace H : ((hash_Gnu.f kj4 a0).bind fun t122 => (some (t121 == ((((33 * t122) % 4294967296) + ((a2) % 4294967296)) % 4294967296)))) = some r := H
                have A35 := Aside0.mk A350
                clear A350
                replace H := Option.bind_eq_some_iff.mp H
                obtain ⟨t122, A360, H⟩ := H
                replace H : (some (t121 == ((((33 * t122) % 4294967296) + ((a2) % 4294967296)) % 4294967296))) = some r := H
                have A36 := Aside0.mk A360
                clear A360
                obtain rfl := Option.some.inj H
                go_wp2_with (first | ((with_reducible refine gate_callee (f := 18) rfl ?_); refine goesL_ (some 32) rfl rfl Try.func18 (by kernel_rfl) rfl #[.string a0] rfl (by (try simp only [List.map_toArray, List.map_cons, List.map_nil]); first | done | rfl | (simp only [List.length_drop, List.length_take]; rfl)) ?_; (with_reducible refine (hash_Sysv.calls kj4 a0 t113 _ A16.out).mono ?_); rintro e w' ⟨rfl, ⟨nd, rfl⟩⟩; refine ⟨_, rfl, ?_⟩) | ((with_reducible refine gate_callee (f := 18) rfl ?_); refine goesL_ (some 34) rfl rfl Try.func18 (by kernel_rfl) rfl #[.string a1] rfl (by (try simp only [List.map_toArray, List.map_cons, List.map_nil]); first | done | rfl | (simp only [List.length_drop, List.length_take]; rfl)) ?_; (with_reducible refine (hash_Sysv.calls kj4 a1 t114 _ A17.out).mono ?_); rintro e w' ⟨rfl, ⟨nd, rfl⟩⟩; refine ⟨_, rfl, ?_⟩) | (go_at_call 18; (with_reducible refine (hash_Sysv.calls kj4 a0 t120 _ A32.out).mono ?_); rintro e w' ⟨rfl, ⟨nd, rfl⟩⟩) | (go_at_call 20; (with_reducible refine (hash_Gnu.calls kj4 (a0 ++ (strOfNums y106)) t121 _ A35.out).mono ?_); rintro e w' ⟨rfl, ⟨nd, rfl⟩⟩) | (go_at_call 20; (with_reducible refine (hash_Gnu.calls kj4 a0 t122 _ A36.out).mono ?_); rintro e w' ⟨rfl, ⟨nd, rfl⟩⟩))
                go_ret
                exact ⟨by first | rfl | (simp [errW_none, errW_some] <;> rfl) | (simp [*, errW_none, errW_some] <;> rfl), by repeat (first | (with_reducible first | exact HB.out | apply below_alloc | apply pw_below_drewN | apply below_drew1) | exact HB.out)⟩
              · rw [if_neg c34] at H
                exact absurd H (by simp)
            · rw [if_neg c33] at H
              have c33b0 : decide (t120 < 268435456) = false := decide_eq_false c33
              clear c33
              obtain rfl := Option.some.inj H
              go_wp2_with (first | ((with_reducible refine gate_callee (f := 18) rfl ?_); refine goesL_ (some 32) rfl rfl Try.func18 (by kernel_rfl) rfl #[.string a0] rfl (by (try simp only [List.map_toArray, List.map_cons, List.map_nil]); first | done | rfl | (simp only [List.length_drop, List.length_take]; rfl)) ?_; (with_reducible refine (hash_Sysv.calls kj4 a0 t113 _ A16.out).mono ?_); rintro e w' ⟨rfl, ⟨nd, rfl⟩⟩; refine ⟨_, rfl, ?_⟩) | ((with_reducible refine gate_callee (f := 18) rfl ?_); refine goesL_ (some 34) rfl rfl Try.func18 (by kernel_rfl) rfl #[.string a1] rfl (by (try simp only [List.map_toArray, List.map_cons, List.map_nil]); first | done | rfl | (simp only [List.length_drop, List.length_take]; rfl)) ?_; (with_reducible refine (hash_Sysv.calls kj4 a1 t114 _ A17.out).mono ?_); rintro e w' ⟨rfl, ⟨nd, rfl⟩⟩; refine ⟨_, rfl, ?_⟩) | (go_at_call 18; (with_reducible refine (hash_Sysv.calls kj4 a0 t120 _ A32.out).mono ?_); rintro e w' ⟨rfl, ⟨nd, rfl⟩⟩))
              go_ret
              exact ⟨by first | rfl | (simp [errW_none, errW_some] <;> rfl) | (simp [*, errW_none, errW_some] <;> rfl), by repeat (first | (with_reducible first | exact HB.out | apply below_alloc | apply pw_below_drewN | apply below_drew1) | exact HB.out)⟩
          · replace c31 := Bool.eq_false_iff.mpr c31
            subst c31
            have H1 : (some false) = some r := by rw [if_neg (show ¬ (false = true) by decide)] at H; exact H
            clear H
            have H := H1
            clear H1
            obtain rfl := Option.some.inj H
            go_wp2_with (first | ((with_reducible refine gate_callee (f := 18) rfl ?_); refine goesL_ (some 32) rfl rfl Try.func18 (by kernel_rfl) rfl #[.string a0] rfl (by (try simp only [List.map_toArray, List.map_cons, List.map_nil]); first | done | rfl | (simp only [List.length_drop, List.length_take]; rfl)) ?_; (with_reducible refine (hash_Sysv.calls kj4 a0 t113 _ A16.out).mono ?_); rintro e w' ⟨rfl, ⟨nd, rfl⟩⟩; refine ⟨_, rfl, ?_⟩) | ((with_reducible refine gate_callee (f := 18) rfl ?_); refine goesL_ (some 34) rfl rfl Try.func18 (by kernel_rfl) rfl #[.string a1] rfl (by (try simp only [List.map_toArray, List.map_cons, List.map_nil]); first | done | rfl | (simp only [List.length_drop, List.length_take]; rfl)) ?_; (with_reducible refine (hash_Sysv.calls kj4 a1 t114 _ A17.out).mono ?_); rintro e w' ⟨rfl, ⟨nd, rfl⟩⟩; refine ⟨_, rfl, ?_⟩))
            go_ret
            exact ⟨by first | rfl | (simp [errW_none, errW_some] <;> rfl) | (simp [*, errW_none, errW_some] <;> rfl), by repeat (first | (with_reducible first | exact HB.out | apply below_alloc | apply pw_below_drewN | apply below_drew1) | exact HB.out)⟩
        · replace c30 := Bool.eq_false_iff.mpr c30
          subst c30
          have H1 : (some false) = some r := by rw [if_neg (show ¬ (false = true) by decide)] at H; exact H
          clear H
          have H := H1
          clear H1
          obtain rfl := Option.some.inj H
          go_wp2_with (first | ((with_reducible refine gate_callee (f := 18) rfl ?_); refine goesL_ (some 32) rfl rfl Try.func18 (by kernel_rfl) rfl #[.string a0] rfl (by (try simp only [List.map_toArray, List.map_cons, List.map_nil]); first | done | rfl | (simp only [List.length_drop, List.length_take]; rfl)) ?_; (with_reducible refine (hash_Sysv.calls kj4 a0 t113 _ A16.out).mono ?_); rintro e w' ⟨rfl, ⟨nd, rfl⟩⟩; refine ⟨_, rfl, ?_⟩) | ((with_reducible refine gate_callee (f := 18) rfl ?_); refine goesL_ (some 34) rfl rfl Try.func18 (by kernel_rfl) rfl #[.string a1] rfl (by (try simp only [List.map_toArray, List.map_cons, List.map_nil]); first | done | rfl | (simp only [List.length_drop, List.length_take]; rfl)) ?_; (with_reducible refine (hash_Sysv.calls kj4 a1 t114 _ A17.out).mono ?_); rintro e w' ⟨rfl, ⟨nd, rfl⟩⟩; refine ⟨_, rfl, ?_⟩))
          go_ret
          exact ⟨by first | rfl | (simp [errW_none, errW_some] <;> rfl) | (simp [*, errW_none, errW_some] <;> rfl), by repeat (first | (with_reducible first | exact HB.out | apply below_alloc | apply pw_below_drewN | apply below_drew1) | exact HB.out)⟩

/-- THE ONE PURE STATEMENT of shacklelaw07_HashGrows: yours. -/
def shacklelaw07_HashGrows.Pure : Prop := ∀ (a0 : ByteArray) (a1 : ByteArray) (a2 : Int), a0.size ≤ 140737488351232 → a1.size ≤ 140737488351232 → (Lit.int .u8 a2).wf = true → ∃ k, shacklelaw07_HashGrows.f k a0 a1 a2 = some true
theorem shacklelaw07_HashGrows.walk (P : shacklelaw07_HashGrows.Pure) (a0 : ByteArray) (a1 : ByteArray) (a2 : Int) (w : World) (w0 : a0.size ≤ 140737488351232) (w1 : a1.size ≤ 140737488351232) (w2 : (Lit.int .u8 a2).wf = true) :
    Calls Try.prog 6 #[.string a0, .string a1, .int .u8 a2] w fun e w' => e = .returned (.bool true) ∧ Below w.heap.size w w' := by
  obtain ⟨k, h⟩ := P a0 a1 a2 w0 w1 w2
  refine (shacklelaw07_HashGrows.calls k a0 a1 a2 true w h).mono ?_
  rintro e w' ⟨rfl, hd⟩
  exact ⟨rfl, hd⟩

end Go.Proofs.Ytlohkhadbkahdaa.QHashGrows
