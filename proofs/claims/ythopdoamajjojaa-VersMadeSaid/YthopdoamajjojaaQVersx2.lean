import Derived.Test.YthopdoamajjojaaQVersx0
namespace Go.Proofs.Ythopdoamajjojaa.QVers
open Go.RowKit Go.Proofs.YthopdoamajjojaaW.PrintWords Go.Proofs.YthopdoamajjojaaW.PrintLast Go.Proofs.YthopdoamajjojaaW.PrintMore
attribute [local go_sem] max2_int min2_int max_two min_two max_three min_three max_four min_four
set_option linter.unusedVariables false
set_option linter.unusedSimpArgs false
attribute [local go_sem] eqErr_ii neErr_ii eqErr_ni neErr_ni
def hash_Sysv.l0 : Nat → ByteArray → Int → Int → Int → Option (Int)
 | 0, _, _, _, _ => none
 | k + 1, x0, x3, x7, x8 => if x8 < x7 then (if 0 ≤ x8 then (if x8 < (x0.size : Int) then (hash_Sysv.l0 k x0 (Go.bits .andNot .u32 (Go.bits .xor .u32 ((((x3 * 16) % 4294967296) + ((bt x0 x8) % 4294967296)) % 4294967296) ((Go.bits .and .u32 ((((x3 * 16) % 4294967296) + ((bt x0 x8) % 4294967296)) % 4294967296) 4026531840) / 16777216)) (Go.bits .and .u32 ((((x3 * 16) % 4294967296) + ((bt x0 x8) % 4294967296)) % 4294967296) 4026531840)) x7 (wrap64 (x8 + 1))) else (none)) else (none)) else (some x3)
def hash_Sysv.f (k : Nat) (a0 : ByteArray) : Option (Int) := hash_Sysv.l0 k a0 0 (a0.size : Int) 0
theorem hash_Sysv.mono_l : ∀ k, (∀ y0 y1 y2 y3, LeO (hash_Sysv.l0 k y0 y1 y2 y3) (hash_Sysv.l0 (k + 1) y0 y1 y2 y3))
 | 0 => fun _ _ _ _ r h => by simp [hash_Sysv.l0] at h
 | k + 1 => by
  have ih0 := hash_Sysv.mono_l k
  ·intro y0 y1 y2 y3
   unfold hash_Sysv.l0
   repeat' first
   | (with_reducible exact ih0 _ _ _ _)
   | (with_reducible exact LeO.refl _)
   | (with_reducible exact LeO.none _)
   | (with_reducible refine LeO.ite ?_ ?_)
   | (with_reducible refine LeO.bind ?_ (fun _ => ?_))
   | exact ih0 _ _ _ _
   | exact LeO.none _
   | refine LeO.ite ?_ ?_
   | refine LeO.bind ?_ (fun _ => ?_)
theorem hash_Sysv.mono : ∀ a0 k, LeO (hash_Sysv.f k a0) (hash_Sysv.f (k + 1) a0) := by
 intro a0 k
 have ih0 := hash_Sysv.mono_l k
 unfold hash_Sysv.f
 repeat' first
   | (with_reducible exact ih0 _ _ _ _)
   | (with_reducible exact LeO.refl _)
   | (with_reducible exact LeO.none _)
   | (with_reducible refine LeO.ite ?_ ?_)
   | (with_reducible refine LeO.bind ?_ (fun _ => ?_))
   | exact ih0 _ _ _ _
   | exact LeO.none _
   | refine LeO.ite ?_ ?_
   | refine LeO.bind ?_ (fun _ => ?_)
set_option maxHeartbeats 8000000 in
set_option maxRecDepth 100000 in
theorem hash_Sysv.calls (k : Nat) (a0 : ByteArray) (r : Int) (w : World) (h : hash_Sysv.f k a0 = some r) :
  Calls Try.prog 24 #[.string a0] w fun e w' => e = .returned (.int .u32 r) ∧ Drawn0 w w' := by
 have H : (hash_Sysv.l0 k a0 0 (a0.size : Int) 0) = some r := h
 clear h
 have H' := Aside0.mk H
 clear H
 go_enter Try.func24, Try.ntmps24
 go_wp2
 go_loopg [3, 8] k (fun kq v3 v8 w' => ∃ (x3_1 : Int) (x8_1 : Int), v3 = .int .u32 x3_1 ∧ v8 = .int .i64 x8_1 ∧ Aside0 (hash_Sysv.l0 kq a0 x3_1 (a0.size : Int) x8_1 = some r) ∧ Aside0 (kq ≤ k) ∧ Drawn0 w w')
 case atStart => exact ⟨(0), (0), (by first | rfl | (simp; done) | (simp [*]; done)), (by first | rfl | (simp; done) | (simp [*]; done)), H', ⟨Nat.le_refl _⟩, by repeat (first | exact Drawn0.refl _ | apply Drawn0.step)⟩
 case round =>
  clear H'
  obtain ⟨x3_1, x8_1, rfl, rfl, HA, HK1, ⟨m1, rfl⟩⟩ := hrel
  cases gk with
  | zero => exact absurd HA.out (by simp [hash_Sysv.l0])
  | succ k1 =>
   have H := HA.out
   clear HA
   simp only [hash_Sysv.l0] at H
   by_cases c2 : x8_1 < (a0.size : Int)
   ·rw [if_pos c2] at H
    have c2b0 : decide (x8_1 < (a0.size : Int)) = true := decide_eq_true c2
    clear c2
    by_cases c3 : 0 ≤ x8_1
    ·rw [if_pos c3] at H
     have c3b0 : decide (0 ≤ x8_1) = true := decide_eq_true c3
     clear c3
     by_cases c4 : x8_1 < (a0.size : Int)
     ·rw [if_pos c4] at H
      have c4b0 : decide (x8_1 < (a0.size : Int)) = true := decide_eq_true c4
      clear c4
      have H' := Aside0.mk H
      clear H
      have p5 : 0 ≤ (x8_1 : Int) := of_decide_eq_true (by assumption)
      have q5 : x8_1 < (a0.size : Int) := of_decide_eq_true (by assumption)
      have hx5 := bt_at a0 x8_1
      replace p5 := eq_true p5
      replace q5 := eq_true q5
      go_wp2
      go_roundg k1
      case measure => have := HK1.out; omega
      case rel => exact ⟨(Go.bits .andNot .u32 (Go.bits .xor .u32 ((((x3_1 * 16) % 4294967296) + ((bt a0 x8_1) % 4294967296)) % 4294967296) ((Go.bits .and .u32 ((((x3_1 * 16) % 4294967296) + ((bt a0 x8_1) % 4294967296)) % 4294967296) 4026531840) / 16777216)) (Go.bits .and .u32 ((((x3_1 * 16) % 4294967296) + ((bt a0 x8_1) % 4294967296)) % 4294967296) 4026531840)), (wrap64 (x8_1 + 1)), (by first | rfl | (simp; done) | (simp [*]; done)), (by first | rfl | (simp; done) | (simp [*]; done)), H', ⟨by have := HK1.out; omega⟩, by repeat (first | exact Drawn0.refl _ | apply Drawn0.step)⟩
     ·rw [if_neg c4] at H
      exact absurd H (by simp)
    ·rw [if_neg c3] at H
     exact absurd H (by simp)
   ·rw [if_neg c2] at H
    have c2b0 : decide (x8_1 < (a0.size : Int)) = false := decide_eq_false c2
    clear c2
    obtain rfl := Option.some.inj H
    go_wp2
    go_ret
    exact ⟨by first | rfl | (simp; done) | (simp [*]; done), by repeat (first | exact Drawn0.refl _ | apply Drawn0.step)⟩
def vers_number.l0 : Nat → Int → List Int → Int → Int → Option (Int)
 | 0, _, _, _, _ => none
 | k + 1, x3, x6, x7, x8 => if x8 < x7 then (if 0 ≤ x8 then (if x8 < (x6.length : Int) then (if 0 ≤ (wrap64 (8 * x8)) then (vers_number.l0 k (Go.bits .or .u64 x3 (shl .u64 (IntKind.u64.wrap (rd x6 x8)) (wrap64 (8 * x8)))) x6 x7 (wrap64 (x8 + 1))) else (none)) else (none)) else (none)) else (some x3)
def vers_number.f (k : Nat) (l0 : List Int) : Option (Int) := vers_number.l0 k 0 l0 (l0.length : Int) 0
theorem vers_number.mono_l : ∀ k, (∀ y0 y1 y2 y3, LeO (vers_number.l0 k y0 y1 y2 y3) (vers_number.l0 (k + 1) y0 y1 y2 y3))
 | 0 => fun _ _ _ _ r h => by simp [vers_number.l0] at h
 | k + 1 => by
  have ih0 := vers_number.mono_l k
  ·intro y0 y1 y2 y3
   unfold vers_number.l0
   repeat' first
   | (with_reducible exact ih0 _ _ _ _)
   | (with_reducible exact LeO.refl _)
   | (with_reducible exact LeO.none _)
   | (with_reducible refine LeO.ite ?_ ?_)
   | (with_reducible refine LeO.bind ?_ (fun _ => ?_))
   | exact ih0 _ _ _ _
   | exact LeO.none _
   | refine LeO.ite ?_ ?_
   | refine LeO.bind ?_ (fun _ => ?_)
theorem vers_number.mono : ∀ a0 k, LeO (vers_number.f k a0) (vers_number.f (k + 1) a0) := by
 intro a0 k
 have ih0 := vers_number.mono_l k
 unfold vers_number.f
 repeat' first
   | (with_reducible exact ih0 _ _ _ _)
   | (with_reducible exact LeO.refl _)
   | (with_reducible exact LeO.none _)
   | (with_reducible refine LeO.ite ?_ ?_)
   | (with_reducible refine LeO.bind ?_ (fun _ => ?_))
   | exact ih0 _ _ _ _
   | exact LeO.none _
   | refine LeO.ite ?_ ?_
   | refine LeO.bind ?_ (fun _ => ?_)
set_option maxHeartbeats 8000000 in
set_option maxRecDepth 100000 in
theorem vers_number.calls (k : Nat) (A0 : Option Addr) (c0 : Nat) (l0 : List Int) (r : Int) (w : World) (hr0 : Kd.C (Kd.int .u8) w A0 l0.length l0) (hc0 : l0.length ≤ c0) (h : vers_number.f k l0 = some r) :
  Calls Try.prog 39 #[.slice A0 l0.length c0] w fun e w' => e = .returned (.int .u64 r) ∧ Drawn0 w w' := by
 have HR0 := Aside0.mk hr0
 have HC0 := Aside0.mk hc0
 clear hr0 hc0
 have H : (vers_number.l0 k 0 l0 (l0.length : Int) 0) = some r := h
 clear h
 have H' := Aside0.mk H
 clear H
 go_enter Try.func39, Try.ntmps39
 go_wp2
 go_loopg [3, 8] k (fun kq v3 v8 w' => ∃ (x3_1 : Int) (x8_1 : Int), v3 = .int .u64 x3_1 ∧ v8 = .int .i64 x8_1 ∧ Aside0 (vers_number.l0 kq x3_1 l0 (l0.length : Int) x8_1 = some r) ∧ Aside0 (kq ≤ k) ∧ Drawn0 w w')
 case atStart => exact ⟨(0), (0), (by first | rfl | (simp; done) | (simp [*]; done)), (by first | rfl | (simp; done) | (simp [*]; done)), H', ⟨Nat.le_refl _⟩, by repeat (first | exact Drawn0.refl _ | apply Drawn0.step)⟩
 case round =>
  clear H'
  obtain ⟨x3_1, x8_1, rfl, rfl, HA, HK1, ⟨m1, rfl⟩⟩ := hrel
  cases gk with
  | zero => exact absurd HA.out (by simp [vers_number.l0])
  | succ k1 =>
   have H := HA.out
   clear HA
   simp only [vers_number.l0] at H
   by_cases c2 : x8_1 < (l0.length : Int)
   ·rw [if_pos c2] at H
    have c2b0 : decide (x8_1 < (l0.length : Int)) = true := decide_eq_true c2
    clear c2
    by_cases c3 : 0 ≤ x8_1
    ·rw [if_pos c3] at H
     have c3b0 : decide (0 ≤ x8_1) = true := decide_eq_true c3
     clear c3
     by_cases c4 : x8_1 < (l0.length : Int)
     ·rw [if_pos c4] at H
      have c4b0 : decide (x8_1 < (l0.length : Int)) = true := decide_eq_true c4
      clear c4
      obtain ⟨ji5, hji5⟩ : ∃ j_ : Int, (wrap64 (8 * x8_1)) = j_ := ⟨_, rfl⟩
      replace H : (if 0 ≤ (ji5) then (vers_number.l0 k1 (Go.bits .or .u64 x3_1 (shl .u64 (IntKind.u64.wrap (rd l0 x8_1)) (ji5))) l0 (l0.length : Int) (wrap64 (x8_1 + 1))) else (none)) = some r := by first | (rw [hji5] at H; exact H) | (simp only [hji5] at H ⊢; exact H)
      have hji5w : (IntKind.i64.wrap (8 * x8_1)) = ji5 := (i64_w _).trans hji5
      by_cases c6 : 0 ≤ (ji5)
      ·rw [if_pos c6] at H
       have c6b0 := eq_true c6
       have c6b1 : decide (0 ≤ (ji5)) = true := decide_eq_true c6
       clear c6
       obtain ⟨ji7, hji7⟩ : ∃ j_ : Int, (shl .u64 (IntKind.u64.wrap (rd l0 x8_1)) (ji5)) = j_ := ⟨_, rfl⟩
       replace H : (vers_number.l0 k1 (Go.bits .or .u64 x3_1 (ji7)) l0 (l0.length : Int) (wrap64 (x8_1 + 1))) = some r := by first | (rw [hji7] at H; exact H) | (simp only [hji7] at H ⊢; exact H)
       have hji7_ : (IntKind.u64.wrap ((IntKind.u64.wrap (rd l0 x8_1)) * 2 ^ min (ji5).toNat 64)) = ji7 := hji7
       have hji7z : (ji5) ≤ 64 → (IntKind.u64.wrap ((IntKind.u64.wrap (rd l0 x8_1)) * 2 ^ (ji5).toNat)) = ji7 := shl_small hji7
       have H' := Aside0.mk H
       clear H
       have p128 : 0 ≤ (x8_1 : Int) := of_decide_eq_true (by assumption)
       have q128 : x8_1 < (l0.length : Int) := of_decide_eq_true (by assumption)
       obtain ⟨ad128, e128, hx128_0⟩ := Kd.at_int HR0.out x8_1 p128 q128
       cases e128
       replace p128 := eq_true p128
       replace q128 := eq_true q128
       go_wp2
       go_roundg k1
       case measure => have := HK1.out; omega
       case rel => exact ⟨(Go.bits .or .u64 x3_1 (ji7)), (wrap64 (x8_1 + 1)), (by first | rfl | (simp; done) | (simp only [← hji7] <;> (first | rfl | simp)) | (simp [*]; done)), (by first | rfl | (simp; done) | (simp [*]; done)), H', ⟨by have := HK1.out; omega⟩, by repeat (first | exact Drawn0.refl _ | apply Drawn0.step)⟩
      ·rw [if_neg c6] at H
       exact absurd H (by simp)
     ·rw [if_neg c4] at H
      exact absurd H (by simp)
    ·rw [if_neg c3] at H
     exact absurd H (by simp)
   ·rw [if_neg c2] at H
    have c2b0 : decide (x8_1 < (l0.length : Int)) = false := decide_eq_false c2
    clear c2
    obtain rfl := Option.some.inj H
    go_wp2
    go_ret
    exact ⟨by first | rfl | (simp; done) | (simp [*]; done), by repeat (first | exact Drawn0.refl _ | apply Drawn0.step)⟩
def bytes_IndexByte.f (l0 : List Int) (a1 : Int) : Option (Int) := some (Lib.indexByte (Lib.bytesOf l0) a1.toNat.toUInt8)
set_option maxHeartbeats 2000000 in
set_option maxRecDepth 100000 in
theorem bytes_IndexByte.calls (A0 : Option Addr) (c0 : Nat) (l0 : List Int) (a1 : Int) (r : Int) (w : World) (hr0 : Kd.C (Kd.int .u8) w A0 l0.length l0) (hc0 : l0.length ≤ c0) (h : bytes_IndexByte.f l0 a1 = some r) :
  Calls Try.prog 75 #[.slice A0 l0.length c0, .int .u8 a1] w fun e w' => e = .returned (.int .i64 r) ∧ Drawn0 w w' := by
 unfold bytes_IndexByte.f at h
 obtain rfl := Option.some.inj h
 clear h
 rcases A0 with _ | ad
 ·have hl : l0 = [] := by
   rcases Nat.eq_zero_or_pos l0.length with h0 | h0
   ·exact List.eq_nil_of_length_eq_zero h0
   ·obtain ⟨_, _, e, _⟩ := Kd.C_get hr0 0 0 (by omega) (by omega)
    cases e
  subst hl
  clear hr0 hc0
  go_enter Try.func75, Try.ntmps75
  go_wp2
  rw [run_callFunc_extern Try.func79 (by kernel_rfl) (by kernel_rfl) (by kernel_rfl) (e := Extern.BytealgIndexByte.indexByte) (by kernel_rfl), Lib.run_indexByteNil]
  simp only [Result.andThen]
  rw [Oper.upon_value]
  go_wp2
  go_ret
  exact ⟨rfl, Drawn0.refl _⟩
 ·have hc : ∀ i, i < l0.length → w.cell? (ad.add i) = some (.int .u8 (l0.getD i 0)) := by
   intro i hi
   obtain ⟨ad', c, e, hl, hk, hcell⟩ := Kd.C_get hr0 0 (i : Int) (by omega) (by omega)
   injection e with e
   subst e
   obtain rfl : c = [.int .u8 (l0.getD (i : Int).toNat 0)] := hk
   have hz := hcell 0 _ rfl
   simp only [show (Kd.int .u8).sz = 1 from rfl, Nat.mul_one, Nat.add_zero, Int.toNat_natCast] at hz
   exact hz
  have H := Lib.hid (Lib.run_indexByteAt (P := Try.prog) w ad l0.length c0 l0 rfl hc a1)
  clear hr0 hc0 hc
  go_enter Try.func75, Try.ntmps75
  go_wp2
  rw [run_callFunc_extern Try.func79 (by kernel_rfl) (by kernel_rfl) (by kernel_rfl) (e := Extern.BytealgIndexByte.indexByte) (by kernel_rfl), H.out]
  simp only [Result.andThen]
  rw [Oper.upon_value]
  go_wp2
  go_ret
  exact ⟨rfl, Drawn0.refl _⟩
def syms_Text.f (l0 : List Int) (a1 : Int) : Option (ByteArray × Option Int) := if a1 ≥ (IntKind.u64.wrap ((l0.length : Int))) then (some ((⟨#[]⟩ : ByteArray), some 4)) else (if 0 ≤ a1 then (if a1 ≤ (l0.length : Int) then ((bytes_IndexByte.f (l0.drop (a1 : Int).toNat) 0).bind fun t130 => (if t130 < 0 then (some ((⟨#[]⟩ : ByteArray), some 4)) else (if t130 > 255 then (some ((⟨#[]⟩ : ByteArray), some 2)) else (if a1 ≤ (IntKind.u64.wrap (a1 + (IntKind.u64.wrap (t130)))) then (if (IntKind.u64.wrap (a1 + (IntKind.u64.wrap (t130)))) ≤ (l0.length : Int) then (some (strOfNums ((l0.take ((IntKind.u64.wrap (a1 + (IntKind.u64.wrap (t130)))) : Int).toNat).drop (a1 : Int).toNat), none)) else (none)) else (none))))) else (none)) else (none))
set_option maxHeartbeats 8000000 in
set_option maxRecDepth 100000 in
theorem syms_Text.calls (A0 : Option Addr) (c0 : Nat) (l0 : List Int) (a1 : Int) (r1 : ByteArray) (r2 : Option Int) (w : World) (hr0 : Kd.C (Kd.int .u8) w A0 l0.length l0) (hc0 : l0.length ≤ c0) (h : syms_Text.f l0 a1 = some (r1, r2)) :
  Calls Try.prog 59 #[.slice A0 l0.length c0, .int .u64 a1] w fun e w' => e = .returned (.tuple #[.string r1, errW r2]) ∧ Drawn0 w w' := by
 have hu41 := Try.underlying41
 have hu97 := Try.underlying97
 have HR0 := Aside0.mk hr0
 have HC0 := Aside0.mk hc0
 clear hr0 hc0
 have H : (if a1 ≥ (IntKind.u64.wrap ((l0.length : Int))) then (some ((⟨#[]⟩ : ByteArray), some 4)) else (if 0 ≤ a1 then (if a1 ≤ (l0.length : Int) then ((bytes_IndexByte.f (l0.drop (a1 : Int).toNat) 0).bind fun t130 => (if t130 < 0 then (some ((⟨#[]⟩ : ByteArray), some 4)) else (if t130 > 255 then (some ((⟨#[]⟩ : ByteArray), some 2)) else (if a1 ≤ (IntKind.u64.wrap (a1 + (IntKind.u64.wrap (t130)))) then (if (IntKind.u64.wrap (a1 + (IntKind.u64.wrap (t130)))) ≤ (l0.length : Int) then (some (strOfNums ((l0.take ((IntKind.u64.wrap (a1 + (IntKind.u64.wrap (t130)))) : Int).toNat).drop (a1 : Int).toNat), none)) else (none)) else (none))))) else (none)) else (none))) = some (r1, r2) := h
 clear h
 by_cases c3 : a1 ≥ (IntKind.u64.wrap ((l0.length : Int)))
 ·rw [if_pos c3] at H
  have c3b0 : decide ((IntKind.u64.wrap ((l0.length : Int))) ≤ a1) = true := decide_eq_true c3
  clear c3
  simp only [Option.some.injEq, Prod.mk.injEq] at H
  obtain ⟨rfl, rfl⟩ := H
  go_enter Try.func59, Try.ntmps59
  go_wp2
  go_ret2
  exact ⟨by first | rfl | (simp; done) | (simp [*]; done), by repeat (first | exact Drawn0.refl _ | apply Drawn0.step)⟩
 ·rw [if_neg c3] at H
  have c3b0 : decide ((IntKind.u64.wrap ((l0.length : Int))) ≤ a1) = false := decide_eq_false c3
  clear c3
  by_cases c4 : 0 ≤ a1
  ·rw [if_pos c4] at H
   have c4b0 := eq_true c4
   have c4b1 : decide (0 ≤ a1) = true := decide_eq_true c4
   clear c4
   by_cases c5 : a1 ≤ (l0.length : Int)
   ·rw [if_pos c5] at H
    have c5b0 := eq_true c5
    have c5b1 : decide (a1 ≤ (l0.length : Int)) = true := decide_eq_true c5
    clear c5
    replace H := Option.bind_eq_some_iff.mp H
    obtain ⟨t130, A60, H⟩ := H
    replace H : (if t130 < 0 then (some ((⟨#[]⟩ : ByteArray), some 4)) else (if t130 > 255 then (some ((⟨#[]⟩ : ByteArray), some 2)) else (if a1 ≤ (IntKind.u64.wrap (a1 + (IntKind.u64.wrap (t130)))) then (if (IntKind.u64.wrap (a1 + (IntKind.u64.wrap (t130)))) ≤ (l0.length : Int) then (some (strOfNums ((l0.take ((IntKind.u64.wrap (a1 + (IntKind.u64.wrap (t130)))) : Int).toNat).drop (a1 : Int).toNat), none)) else (none)) else (none)))) = some (r1, r2) := H
    have A6 := Aside0.mk A60
    clear A60
    by_cases c7 : t130 < 0
    ·rw [if_pos c7] at H
     have c7b0 : decide (t130 < 0) = true := decide_eq_true c7
     clear c7
     simp only [Option.some.injEq, Prod.mk.injEq] at H
     obtain ⟨rfl, rfl⟩ := H
     obtain ⟨i08, hi08, _, hsz8, _⟩ := info_parts info5
     obtain ⟨A8, hcut8, hA8, hC8⟩ := print_drop_of (P := Try.prog) (Value.int .u8) 0 24 5 .u64 Try.underlying24 hi08 hsz8 A0 c0 l0 a1 (of_decide_eq_true (by assumption)) (of_decide_eq_true (by assumption)) HC0.out
     have HR129 := Aside0.mk (Kd.C_of_reads (h1 := fun _ => rfl) (hA8 _ (Kd.reads_of_C HR0.out)))
     have HC129 := Aside0.mk hC8
     clear hA8 hC8 hi08 hsz8
     go_enter Try.func59, Try.ntmps59
     go_wp2_with (first | ((with_reducible refine gate_callee (f := 75) rfl ?_); refine goesL_ (some 16) rfl rfl Try.func75 (by kernel_rfl) rfl #[.slice A8 (l0.drop (a1 : Int).toNat).length (c0 - a1.toNat), .int .u8 0] rfl (by (try simp only [List.map_toArray, List.map_cons, List.map_nil]); first | done | (rw [show (l0.drop (a1 : Int).toNat).length = (l0.length - a1.toNat) from List.length_drop] <;> rfl) | rfl | (simp only [List.length_drop, List.length_take]; rfl)) ?_; (with_reducible refine (bytes_IndexByte.calls _ _ (l0.drop (a1 : Int).toNat) 0 t130 _ ?side1 ?side2 A6.out).mono ?_); (case side1 => repeat (first | exact HR129.out | (with_reducible refine Kd.C_alloc ?_ _) | (with_reducible refine Kd.C_drewN ?_ _) | (with_reducible refine Kd.C_drew ?_))); (case side2 => exact HC129.out); rintro e w' ⟨rfl, ⟨nd, rfl⟩⟩; refine ⟨_, rfl, ?_⟩))
     go_ret2
     exact ⟨by first | rfl | (simp; done) | (simp [*]; done), by repeat (first | exact Drawn0.refl _ | apply Drawn0.step)⟩
    ·rw [if_neg c7] at H
     have c7b0 : decide (t130 < 0) = false := decide_eq_false c7
     clear c7
     by_cases c9 : t130 > 255
     ·rw [if_pos c9] at H
      have c9b0 : decide (255 < t130) = true := decide_eq_true c9
      clear c9
      simp only [Option.some.injEq, Prod.mk.injEq] at H
      obtain ⟨rfl, rfl⟩ := H
      obtain ⟨i010, hi010, _, hsz10, _⟩ := info_parts info5
      obtain ⟨A10, hcut10, hA10, hC10⟩ := print_drop_of (P := Try.prog) (Value.int .u8) 0 24 5 .u64 Try.underlying24 hi010 hsz10 A0 c0 l0 a1 (of_decide_eq_true (by assumption)) (of_decide_eq_true (by assumption)) HC0.out
      have HR129 := Aside0.mk (Kd.C_of_reads (h1 := fun _ => rfl) (hA10 _ (Kd.reads_of_C HR0.out)))
      have HC129 := Aside0.mk hC10
      clear hA10 hC10 hi010 hsz10
      go_enter Try.func59, Try.ntmps59
      go_wp2_with (first | ((with_reducible refine gate_callee (f := 75) rfl ?_); refine goesL_ (some 16) rfl rfl Try.func75 (by kernel_rfl) rfl #[.slice A10 (l0.drop (a1 : Int).toNat).length (c0 - a1.toNat), .int .u8 0] rfl (by (try simp only [List.map_toArray, List.map_cons, List.map_nil]); first | done | (rw [show (l0.drop (a1 : Int).toNat).length = (l0.length - a1.toNat) from List.length_drop] <;> rfl) | rfl | (simp only [List.length_drop, List.length_take]; rfl)) ?_; (with_reducible refine (bytes_IndexByte.calls _ _ (l0.drop (a1 : Int).toNat) 0 t130 _ ?side1 ?side2 A6.out).mono ?_); (case side1 => repeat (first | exact HR129.out | (with_reducible refine Kd.C_alloc ?_ _) | (with_reducible refine Kd.C_drewN ?_ _) | (with_reducible refine Kd.C_drew ?_))); (case side2 => exact HC129.out); rintro e w' ⟨rfl, ⟨nd, rfl⟩⟩; refine ⟨_, rfl, ?_⟩))
      go_ret2
      exact ⟨by first | rfl | (simp; done) | (simp [*]; done), by repeat (first | exact Drawn0.refl _ | apply Drawn0.step)⟩
     ·rw [if_neg c9] at H
      have c9b0 : decide (255 < t130) = false := decide_eq_false c9
      clear c9
      have c11b0 := eq_true (of_decide_eq_true (by assumption) : 0 ≤ a1)
      by_cases c12 : a1 ≤ (IntKind.u64.wrap (a1 + (IntKind.u64.wrap (t130))))
      ·rw [if_pos c12] at H
       have c12b0 := eq_true c12
       have c12b1 : decide (a1 ≤ (IntKind.u64.wrap (a1 + (IntKind.u64.wrap (t130))))) = true := decide_eq_true c12
       by_cases c13 : (IntKind.u64.wrap (a1 + (IntKind.u64.wrap (t130)))) ≤ (l0.length : Int)
       ·rw [if_pos c13] at H
        have c13b0 := eq_true c13
        have c13b1 : decide ((IntKind.u64.wrap (a1 + (IntKind.u64.wrap (t130)))) ≤ (l0.length : Int)) = true := decide_eq_true c13
        simp only [Option.some.injEq, Prod.mk.injEq] at H
        obtain ⟨rfl, rfl⟩ := H
        obtain ⟨i014, hi014, _, hsz14, _⟩ := info_parts info5
        obtain ⟨A14, hcut14, hA14, hC14⟩ := print_drop_of (P := Try.prog) (Value.int .u8) 0 24 5 .u64 Try.underlying24 hi014 hsz14 A0 c0 l0 a1 (of_decide_eq_true (by assumption)) (of_decide_eq_true (by assumption)) HC0.out
        have HR129 := Aside0.mk (Kd.C_of_reads (h1 := fun _ => rfl) (hA14 _ (Kd.reads_of_C HR0.out)))
        have HC129 := Aside0.mk hC14
        clear hA14 hC14 hi014 hsz14
        go_enter Try.func59, Try.ntmps59
        go_wp2_with (first | ((with_reducible refine gate_callee (f := 75) rfl ?_); refine goesL_ (some 16) rfl rfl Try.func75 (by kernel_rfl) rfl #[.slice A14 (l0.drop (a1 : Int).toNat).length (c0 - a1.toNat), .int .u8 0] rfl (by (try simp only [List.map_toArray, List.map_cons, List.map_nil]); first | done | (rw [show (l0.drop (a1 : Int).toNat).length = (l0.length - a1.toNat) from List.length_drop] <;> rfl) | rfl | (simp only [List.length_drop, List.length_take]; rfl)) ?_; (with_reducible refine (bytes_IndexByte.calls _ _ (l0.drop (a1 : Int).toNat) 0 t130 _ ?side1 ?side2 A6.out).mono ?_); (case side1 => repeat (first | exact HR129.out | (with_reducible refine Kd.C_alloc ?_ _) | (with_reducible refine Kd.C_drewN ?_ _) | (with_reducible refine Kd.C_drew ?_))); (case side2 => exact HC129.out); rintro e w' ⟨rfl, ⟨nd, rfl⟩⟩; refine ⟨_, rfl, ?_⟩; obtain ⟨i015, hi015, _, hsz15, _⟩ := info_parts info5; obtain ⟨A15, hcut15, hA15, hC15⟩ := print_mid_of (P := Try.prog) (Value.int .u8) 0 24 5 .u64 .u64 Try.underlying24 hi015 hsz15 A0 c0 l0 a1 (IntKind.u64.wrap (a1 + (IntKind.u64.wrap (t130)))) (of_decide_eq_true (by assumption)) (by first | omega | exact of_decide_eq_true (by assumption)) (of_decide_eq_true (by assumption)) HC0.out; have HR131 := Aside0.mk (Kd.C_of_reads (h1 := fun _ => rfl) (hA15 _ (Kd.reads_of_C HR0.out))); have HC131 := Aside0.mk hC15; clear hA15 hC15 hi015 hsz15; have hcv16 := Kd.C_string (P := Try.prog) (A := A15) (c := (c0 - a1.toNat)) Try.underlying24 Try.underlying5 Try.underlying9 HR131.out; have hcm17 := fun m_ : Nat => Kd.C_string (P := Try.prog) (A := A15) (c := (c0 - a1.toNat)) Try.underlying24 Try.underlying5 Try.underlying9 (Kd.C_drewN HR131.out m_); (try rw [show ((l0.take ((IntKind.u64.wrap (a1 + (IntKind.u64.wrap (t130)))) : Int).toNat).drop (a1 : Int).toNat).length = ((IntKind.u64.wrap (a1 + (IntKind.u64.wrap (t130)))).toNat - a1.toNat) from (by rw [List.length_drop, List.length_take]; have h_ : ((IntKind.u64.wrap (a1 + (IntKind.u64.wrap (t130)))) : Int) ≤ (l0.length : Int) := of_decide_eq_true (by assumption); omega)] at hcv16); (try rw [show ((l0.take ((IntKind.u64.wrap (a1 + (IntKind.u64.wrap (t130)))) : Int).toNat).drop (a1 : Int).toNat).length = ((IntKind.u64.wrap (a1 + (IntKind.u64.wrap (t130)))).toNat - a1.toNat) from (by rw [List.length_drop, List.length_take]; have h_ : ((IntKind.u64.wrap (a1 + (IntKind.u64.wrap (t130)))) : Int) ≤ (l0.length : Int) := of_decide_eq_true (by assumption); omega)] at hcm17)))
        go_ret2
        exact ⟨by first | rfl | (simp; done) | (simp [*]; done), by repeat (first | exact Drawn0.refl _ | apply Drawn0.step)⟩
       ·rw [if_neg c13] at H
        exact absurd H (by simp)
      ·rw [if_neg c12] at H
       exact absurd H (by simp)
   ·rw [if_neg c5] at H
    exact absurd H (by simp)
  ·rw [if_neg c4] at H
   exact absurd H (by simp)
mutual
def shackleref05_Offset.l0 : Nat → Int → Int → Int → Int → Int → List (S29) → Option (Int × Int)
 | 0, _, _, _, _, _, _ => none
 | k + 1, x1, x2, x8, x154000, x154001, x154002 => if x8 < (x154002.length : Int) then (if 0 ≤ x8 then (if ((rd_T29 x154002 x8).f0) = 1 then (if x1 < ((rd_T29 x154002 x8).f3) then (shackleref05_Offset.j1 k x1 x2 x8 true x154000 x154001 x154002 ((rd_T29 x154002 x8).f0) ((rd_T29 x154002 x8).f1) ((rd_T29 x154002 x8).f2) ((rd_T29 x154002 x8).f3) ((rd_T29 x154002 x8).f4) ((rd_T29 x154002 x8).f5) ((rd_T29 x154002 x8).f6)) else (if (IntKind.u64.wrap (x1 - ((rd_T29 x154002 x8).f3))) > ((rd_T29 x154002 x8).f4) then (shackleref05_Offset.j1 k x1 x2 x8 true x154000 x154001 x154002 ((rd_T29 x154002 x8).f0) ((rd_T29 x154002 x8).f1) ((rd_T29 x154002 x8).f2) ((rd_T29 x154002 x8).f3) ((rd_T29 x154002 x8).f4) ((rd_T29 x154002 x8).f5) ((rd_T29 x154002 x8).f6)) else (shackleref05_Offset.j1 k x1 x2 x8 (decide (x2 > (IntKind.u64.wrap (((rd_T29 x154002 x8).f4) - (IntKind.u64.wrap (x1 - ((rd_T29 x154002 x8).f3))))))) x154000 x154001 x154002 ((rd_T29 x154002 x8).f0) ((rd_T29 x154002 x8).f1) ((rd_T29 x154002 x8).f2) ((rd_T29 x154002 x8).f3) ((rd_T29 x154002 x8).f4) ((rd_T29 x154002 x8).f5) ((rd_T29 x154002 x8).f6)))) else (shackleref05_Offset.j1 k x1 x2 x8 true x154000 x154001 x154002 ((rd_T29 x154002 x8).f0) ((rd_T29 x154002 x8).f1) ((rd_T29 x154002 x8).f2) ((rd_T29 x154002 x8).f3) ((rd_T29 x154002 x8).f4) ((rd_T29 x154002 x8).f5) ((rd_T29 x154002 x8).f6))) else (none)) else (some (0, 4))
def shackleref05_Offset.j1 : Nat → Int → Int → Int → Bool → Int → Int → List (S29) → Int → Int → Int → Int → Int → Int → Int → Option (Int × Int)
 | 0, _, _, _, _, _, _, _, _, _, _, _, _, _, _ => none
 | k + 1, x1, x2, x8, x51, x154000, x154001, x154002, x156000, x156001, x156002, x156003, x156004, x156005, x156006 => if x51 = true then (shackleref05_Offset.l0 k x1 x2 (wrap64 (x8 + 1)) x154000 x154001 x154002) else (if (IntKind.u64.wrap (x156002 + (IntKind.u64.wrap (x1 - x156003)))) < x156002 then (some (0, 4)) else (some (IntKind.u64.wrap (x156002 + (IntKind.u64.wrap (x1 - x156003))), 0)))
end
def shackleref05_Offset.f (k : Nat) (a0_0 : Int) (a0_1 : Int) (l0_2 : List (S29)) (a1 : Int) (a2 : Int) : Option (Int × Int) := shackleref05_Offset.l0 k a1 a2 0 a0_0 a0_1 l0_2
theorem shackleref05_Offset.mono_l : ∀ k, (∀ y0 y1 y2 y3 y4 y5, LeO (shackleref05_Offset.l0 k y0 y1 y2 y3 y4 y5) (shackleref05_Offset.l0 (k + 1) y0 y1 y2 y3 y4 y5)) ∧ (∀ y0 y1 y2 y3 y4 y5 y6 y7 y8 y9 y10 y11 y12 y13, LeO (shackleref05_Offset.j1 k y0 y1 y2 y3 y4 y5 y6 y7 y8 y9 y10 y11 y12 y13) (shackleref05_Offset.j1 (k + 1) y0 y1 y2 y3 y4 y5 y6 y7 y8 y9 y10 y11 y12 y13))
 | 0 => ⟨fun _ _ _ _ _ _ r h => by simp [shackleref05_Offset.l0] at h, fun _ _ _ _ _ _ _ _ _ _ _ _ _ _ r h => by simp [shackleref05_Offset.j1] at h⟩
 | k + 1 => by
  obtain ⟨ih0, ih1⟩ := shackleref05_Offset.mono_l k
  refine ⟨?_, ?_⟩
  ·intro y0 y1 y2 y3 y4 y5
   unfold shackleref05_Offset.l0
   repeat' first
   | (with_reducible exact ih0 _ _ _ _ _ _)
   | (with_reducible exact ih1 _ _ _ _ _ _ _ _ _ _ _ _ _ _)
   | (with_reducible exact LeO.refl _)
   | (with_reducible exact LeO.none _)
   | (with_reducible refine LeO.ite ?_ ?_)
   | (with_reducible refine LeO.bind ?_ (fun _ => ?_))
   | exact ih0 _ _ _ _ _ _
   | exact ih1 _ _ _ _ _ _ _ _ _ _ _ _ _ _
   | exact LeO.none _
   | refine LeO.ite ?_ ?_
   | refine LeO.bind ?_ (fun _ => ?_)
  ·intro y0 y1 y2 y3 y4 y5 y6 y7 y8 y9 y10 y11 y12 y13
   unfold shackleref05_Offset.j1
   repeat' first
   | (with_reducible exact ih0 _ _ _ _ _ _)
   | (with_reducible exact ih1 _ _ _ _ _ _ _ _ _ _ _ _ _ _)
   | (with_reducible exact LeO.refl _)
   | (with_reducible exact LeO.none _)
   | (with_reducible refine LeO.ite ?_ ?_)
   | (with_reducible refine LeO.bind ?_ (fun _ => ?_))
   | exact ih0 _ _ _ _ _ _
   | exact ih1 _ _ _ _ _ _ _ _ _ _ _ _ _ _
   | exact LeO.none _
   | refine LeO.ite ?_ ?_
   | refine LeO.bind ?_ (fun _ => ?_)
theorem shackleref05_Offset.mono : ∀ a0 a1 a2 a3 a4 k, LeO (shackleref05_Offset.f k a0 a1 a2 a3 a4) (shackleref05_Offset.f (k + 1) a0 a1 a2 a3 a4) := by
 intro a0 a1 a2 a3 a4 k
 obtain ⟨ih0, ih1⟩ := shackleref05_Offset.mono_l k
 unfold shackleref05_Offset.f
 repeat' first
   | (with_reducible exact ih0 _ _ _ _ _ _)
   | (with_reducible exact ih1 _ _ _ _ _ _ _ _ _ _ _ _ _ _)
   | (with_reducible exact LeO.refl _)
   | (with_reducible exact LeO.none _)
   | (with_reducible refine LeO.ite ?_ ?_)
   | (with_reducible refine LeO.bind ?_ (fun _ => ?_))
   | exact ih0 _ _ _ _ _ _
   | exact ih1 _ _ _ _ _ _ _ _ _ _ _ _ _ _
   | exact LeO.none _
   | refine LeO.ite ?_ ?_
   | refine LeO.bind ?_ (fun _ => ?_)
set_option maxHeartbeats 8000000 in
set_option maxRecDepth 100000 in
theorem shackleref05_Offset.calls (k : Nat) (a0_0 : Int) (a0_1 : Int) (A0_2 : Option Addr) (c0_2 : Nat) (l0_2 : List (S29)) (a1 : Int) (a2 : Int) (r1 : Int) (r2 : Int) (w : World) (hr0_2 : Kd.C k29 w A0_2 l0_2.length l0_2) (hc0_2 : l0_2.length ≤ c0_2) (h : shackleref05_Offset.f k a0_0 a0_1 l0_2 a1 a2 = some (r1, r2)) :
  Calls Try.prog 61 #[.agg #[.int .i64 a0_0, .int .u64 a0_1, .slice A0_2 l0_2.length c0_2], .int .u64 a1, .int .u64 a2] w fun e w' => e = .returned (.tuple #[.int .u64 r1, .int .i64 r2]) ∧ Below w.heap.size w w' := by
 have hu32 := Try.underlying32
 have hu29 := Try.underlying29
 have HR0_2 := Aside0.mk hr0_2
 have HC0_2 := Aside0.mk hc0_2
 clear hr0_2 hc0_2
 have HB := Aside0.mk (Below.refl w.heap.size w)
 have H : (shackleref05_Offset.l0 k a1 a2 0 a0_0 a0_1 l0_2) = some (r1, r2) := h
 clear h
 have H' := Aside0.mk H
 clear H
 go_enter Try.func61, Try.ntmps61
 go_wp2_with (first | ((with_reducible refine gate_dst (N := 3) rfl ?_); refine box_event ?hg (N := 3) ?hd (cs := #[.int .i64 a0_0, .int .u64 a0_1, .slice A0_2 l0_2.length c0_2]) (t := 32) ?hr ?_; (case hd => rfl); (case hg => rfl); (case hr => first | (go_simp; done) | (go_simp; rfl)); intro gb153 hg w4 hbox hb; have n0_ := Aside0.mk (below_step (by repeat (first | (with_reducible first | exact HB.out | apply below_alloc | apply pw_below_drewN | apply below_drew1) | exact HB.out)) hb); have n1_ := Aside0.mk (hbox); have n2_ := Aside0.mk ((by rw [hg]; exact (below_size (by repeat (first | (with_reducible first | exact HB.out | apply below_alloc | apply pw_below_drewN | apply below_drew1) | exact HB.out))) : w.heap.size ≤ gb153)); have n3_ := Aside0.mk ((by rw [hg]; exact (below_size (by repeat (first | (with_reducible first | exact HB.out | apply below_alloc | apply pw_below_drewN | apply below_drew1) | exact HB.out))) : w.heap.size ≤ gb153)); clear HB; have HB := n0_; have BK153 := n1_; have GW153 := n2_; have GE153 := n3_; clear n0_ n1_ n2_ n3_; clear hb hbox hg))
 go_loopg [8] k (fun kq v8 w' => ∃ (x8_1 : Int), v8 = .int .i64 x8_1 ∧ Aside0 (shackleref05_Offset.l0 kq a1 a2 x8_1 a0_0 a0_1 l0_2 = some (r1, r2)) ∧ Aside0 (kq ≤ k) ∧ Aside0 (w'.heap[gb153]? = some (.cells #[.int .i64 a0_0, .int .u64 a0_1, (.slice A0_2 l0_2.length c0_2)] 32 (0, 0))) ∧ Aside0 (Below w.heap.size w w'))
 case atStart => exact ⟨(0), (by first | rfl | (simp; done) | (simp [*]; done)), H', ⟨Nat.le_refl _⟩, ⟨by (with_reducible repeat (first | refine blk_drewN ?_ _ | refine blk_drew ?_ | refine blk_alloc ?_ _)); exact BK153.out⟩, ⟨by repeat (first | (with_reducible first | exact HB.out | apply below_alloc | apply pw_below_drewN | apply below_drew1 | refine below_set ?_ GE153.out) | exact HB.out)⟩⟩
 case round =>
  clear H'
  try clear p2
  obtain ⟨x8_1, rfl, HA, HK1, BK153, HB⟩ := hrel
  cases gk with
  | zero => exact absurd HA.out (by simp [shackleref05_Offset.l0])
  | succ k1 =>
   have H := HA.out
   clear HA
   simp only [shackleref05_Offset.l0] at H
   by_cases c5 : x8_1 < (l0_2.length : Int)
   ·rw [if_pos c5] at H
    have c5b0 : decide (x8_1 < (l0_2.length : Int)) = true := decide_eq_true c5
    clear c5
    by_cases c6 : 0 ≤ x8_1
    ·rw [if_pos c6] at H
     have c6b0 : decide (0 ≤ x8_1) = true := decide_eq_true c6
     clear c6
     have HC7 := Aside0.mk H
     clear H
     have hcz8_0 : wr.cell? ⟨gb153, 0, none⟩ = some (.int .i64 a0_0) := (blk_cell BK153.out 0).trans rfl
     have hcz8_1 : wr.cell? ⟨gb153, 1, none⟩ = some (.int .u64 a0_1) := (blk_cell BK153.out 1).trans rfl
     have hcz8_2 : wr.cell? ⟨gb153, 2, none⟩ = some (.slice A0_2 l0_2.length c0_2) := (blk_cell BK153.out 2).trans rfl
     have hfz8_0 := blk_frozen BK153.out 0
     have hfz8_1 := blk_frozen BK153.out 1
     have hfz8_2 := blk_frozen BK153.out 2
     have p154 : 0 ≤ (x8_1 : Int) := of_decide_eq_true (by assumption)
     have q154 : x8_1 < (l0_2.length : Int) := of_decide_eq_true (by assumption)
     obtain ⟨ad154, e154, hx154_0, hx154_1, hx154_2, hx154_3, hx154_4, hx154_5, hx154_6⟩ := at_T29 HR0_2.out x8_1 p154 q154
     cases e154
     replace hx154_0 := (HB.out.cell (World.block_lt_of_cell? w _ hx154_0)).trans hx154_0
     replace hx154_1 := (HB.out.cell (World.block_lt_of_cell? w _ hx154_1)).trans hx154_1
     replace hx154_2 := (HB.out.cell (World.block_lt_of_cell? w _ hx154_2)).trans hx154_2
     replace hx154_3 := (HB.out.cell (World.block_lt_of_cell? w _ hx154_3)).trans hx154_3
     replace hx154_4 := (HB.out.cell (World.block_lt_of_cell? w _ hx154_4)).trans hx154_4
     replace hx154_5 := (HB.out.cell (World.block_lt_of_cell? w _ hx154_5)).trans hx154_5
     replace hx154_6 := (HB.out.cell (World.block_lt_of_cell? w _ hx154_6)).trans hx154_6
     replace p154 := eq_true p154
     replace q154 := eq_true q154
     go_upto_region 5 with (first | ((with_reducible refine gate_dst (N := 9) rfl ?_); refine box_event ?hg (N := 9) ?hd (cs := #[.int .u32 0, .int .u32 0, .int .u64 0, .int .u64 0, .int .u64 0, .int .u64 0, .int .u64 0]) (t := 29) ?hr ?_; (case hd => rfl); (case hg => rfl); (case hr => first | (go_simp; done) | (go_simp; rfl)); intro gb155 hg w9 hbox hb; have n0_ := Aside0.mk (blk_below (g := gb153) (o := .cells #[.int .i64 a0_0, .int .u64 a0_1, .slice (some ad154) l0_2.length c0_2] 32 (0, 0)) (by (with_reducible repeat (first | refine blk_drewN ?_ _ | refine blk_drew ?_ | refine blk_alloc ?_ _)); exact BK153.out) hb); have n1_ := Aside0.mk (below_step (by repeat (first | (with_reducible first | exact HB.out | apply below_alloc | apply pw_below_drewN | apply below_drew1 | refine below_set ?_ GE153.out) | exact HB.out)) hb); have n2_ := Aside0.mk (hbox); have n3_ := Aside0.mk ((by rw [hg]; exact (below_size (by repeat (first | (with_reducible first | exact HB.out | apply below_alloc | apply pw_below_drewN | apply below_drew1 | refine below_set ?_ GE153.out) | exact HB.out))) : w.heap.size ≤ gb155)); have n4_ := Aside0.mk ((by rw [hg]; exact (below_size (by repeat (first | (with_reducible first | exact HB.out | apply below_alloc | apply pw_below_drewN | apply below_drew1 | refine below_set ?_ GE153.out) | exact HB.out))) : w.heap.size ≤ gb155)); have n5_ := Aside0.mk ((by rw [hg]; exact Nat.ne_of_lt (blk_lt (g := gb153) (o := .cells #[.int .i64 a0_0, .int .u64 a0_1, .slice (some ad154) l0_2.length c0_2] 32 (0, 0)) (by (with_reducible repeat (first | refine blk_drewN ?_ _ | refine blk_drew ?_ | refine blk_alloc ?_ _)); exact BK153.out)) : gb153 ≠ gb155)); have n6_ := Aside0.mk ((by rw [hg]; exact Nat.ne_of_gt (blk_lt (g := gb153) (o := .cells #[.int .i64 a0_0, .int .u64 a0_1, .slice (some ad154) l0_2.length c0_2] 32 (0, 0)) (by (with_reducible repeat (first | refine blk_drewN ?_ _ | refine blk_drew ?_ | refine blk_alloc ?_ _)); exact BK153.out)) : gb155 ≠ gb153)); clear BK153; clear HB; have BK153 := n0_; have HB := n1_; have BK155 := n2_; have GW155 := n3_; have GE155 := n4_; have NB153_155 := n5_; have NB155_153 := n6_; clear n0_ n1_ n2_ n3_ n4_ n5_ n6_; clear hb hbox hg; have hnb10 := NB155_153.out; have hnc10 := NB153_155.out; have hcz11_0 : w9.cell? ⟨gb155, 0, none⟩ = some (.int .u32 0) := (blk_cell BK155.out 0).trans rfl; have hcz11_1 : w9.cell? ⟨gb155, 1, none⟩ = some (.int .u32 0) := (blk_cell BK155.out 1).trans rfl; have hcz11_2 : w9.cell? ⟨gb155, 2, none⟩ = some (.int .u64 0) := (blk_cell BK155.out 2).trans rfl; have hcz11_3 : w9.cell? ⟨gb155, 3, none⟩ = some (.int .u64 0) := (blk_cell BK155.out 3).trans rfl; have hcz11_4 : w9.cell? ⟨gb155, 4, none⟩ = some (.int .u64 0) := (blk_cell BK155.out 4).trans rfl; have hcz11_5 : w9.cell? ⟨gb155, 5, none⟩ = some (.int .u64 0) := (blk_cell BK155.out 5).trans rfl; have hcz11_6 : w9.cell? ⟨gb155, 6, none⟩ = some (.int .u64 0) := (blk_cell BK155.out 6).trans rfl; have hfz11_0 := blk_frozen BK155.out 0; have hfz11_1 := blk_frozen BK155.out 1; have hfz11_2 := blk_frozen BK155.out 2; have hfz11_3 := blk_frozen BK155.out 3; have hfz11_4 := blk_frozen BK155.out 4; have hfz11_5 := blk_frozen BK155.out 5; have hfz11_6 := blk_frozen BK155.out 6))
     (try simp only [Act.put, List.setIfInBounds_toArray, List.set_cons_zero, List.set_cons_succ])
     go_cut [51] (fun v51 wc => ∃ (kq : Nat) (x51_6 : Bool), v51 = .bool x51_6 ∧ Aside0 (shackleref05_Offset.j1 kq a1 a2 x8_1 x51_6 a0_0 a0_1 l0_2 ((rd_T29 l0_2 x8_1).f0) ((rd_T29 l0_2 x8_1).f1) ((rd_T29 l0_2 x8_1).f2) ((rd_T29 l0_2 x8_1).f3) ((rd_T29 l0_2 x8_1).f4) ((rd_T29 l0_2 x8_1).f5) ((rd_T29 l0_2 x8_1).f6) = some (r1, r2)) ∧ Aside0 (kq ≤ k1) ∧ Aside0 (wc.heap[gb153]? = some (.cells #[.int .i64 a0_0, .int .u64 a0_1, (.slice (some ad154) l0_2.length c0_2)] 32 (0, 0))) ∧ Aside0 (wc.heap[gb155]? = some (.cells #[.int .u32 ((rd_T29 l0_2 x8_1).f0), .int .u32 ((rd_T29 l0_2 x8_1).f1), .int .u64 ((rd_T29 l0_2 x8_1).f2), .int .u64 ((rd_T29 l0_2 x8_1).f3), .int .u64 ((rd_T29 l0_2 x8_1).f4), .int .u64 ((rd_T29 l0_2 x8_1).f5), .int .u64 ((rd_T29 l0_2 x8_1).f6)] 29 (0, 0))) ∧ Aside0 (Below w.heap.size w wc))
     case first =>
      have H := HC7.out
      clear HC7
      by_cases c12 : ((rd_T29 l0_2 x8_1).f0) = 1
      ·rw [if_pos c12] at H
       have c12b0 : (((rd_T29 l0_2 x8_1).f0) == 1) = true := beq_iff_eq.mpr c12
       have c12b1 : (((rd_T29 l0_2 x8_1).f0) != 1) = false := bne_eq_false_iff_eq.mpr c12
       clear c12
       (first | rw [c12b0] | (simp only [i64_w, i32_w]; rw [c12b0]) | skip)
       by_cases c13 : a1 < ((rd_T29 l0_2 x8_1).f3)
       ·rw [if_pos c13] at H
        have c13b0 : decide (a1 < ((rd_T29 l0_2 x8_1).f3)) = true := decide_eq_true c13
        clear c13
        have H' := Aside0.mk H
        clear H
        have hnb14 := NB155_153.out
        have hnc14 := NB153_155.out
        have hcz15_0 : w9.cell? ⟨gb155, 0, none⟩ = some (.int .u32 0) := (blk_cell BK155.out 0).trans rfl
        have hcz15_1 : w9.cell? ⟨gb155, 1, none⟩ = some (.int .u32 0) := (blk_cell BK155.out 1).trans rfl
        have hcz15_2 : w9.cell? ⟨gb155, 2, none⟩ = some (.int .u64 0) := (blk_cell BK155.out 2).trans rfl
        have hcz15_3 : w9.cell? ⟨gb155, 3, none⟩ = some (.int .u64 0) := (blk_cell BK155.out 3).trans rfl
        have hcz15_4 : w9.cell? ⟨gb155, 4, none⟩ = some (.int .u64 0) := (blk_cell BK155.out 4).trans rfl
        have hcz15_5 : w9.cell? ⟨gb155, 5, none⟩ = some (.int .u64 0) := (blk_cell BK155.out 5).trans rfl
        have hcz15_6 : w9.cell? ⟨gb155, 6, none⟩ = some (.int .u64 0) := (blk_cell BK155.out 6).trans rfl
        have hfz15_0 := blk_frozen BK155.out 0
        have hfz15_1 := blk_frozen BK155.out 1
        have hfz15_2 := blk_frozen BK155.out 2
        have hfz15_3 := blk_frozen BK155.out 3
        have hfz15_4 := blk_frozen BK155.out 4
        have hfz15_5 := blk_frozen BK155.out 5
        have hfz15_6 := blk_frozen BK155.out 6
        go_wp2
        go_meet
        case rel => exact ⟨_, (true), (by first | rfl | (simp; done) | (simp [*]; done)), H', ⟨by have := HK1.out; first | omega | exact Nat.le_refl _⟩, ⟨by (with_reducible repeat (first | refine blk_drewN ?_ _ | refine blk_drew ?_ | refine blk_alloc ?_ _)); refine blk_far ?_ NB153_155.out _; (with_reducible repeat (first | refine blk_drewN ?_ _ | refine blk_drew ?_ | refine blk_alloc ?_ _)); refine blk_far ?_ NB153_155.out _; (with_reducible repeat (first | refine blk_drewN ?_ _ | refine blk_drew ?_ | refine blk_alloc ?_ _)); refine blk_far ?_ NB153_155.out _; (with_reducible repeat (first | refine blk_drewN ?_ _ | refine blk_drew ?_ | refine blk_alloc ?_ _)); refine blk_far ?_ NB153_155.out _; (with_reducible repeat (first | refine blk_drewN ?_ _ | refine blk_drew ?_ | refine blk_alloc ?_ _)); refine blk_far ?_ NB153_155.out _; (with_reducible repeat (first | refine blk_drewN ?_ _ | refine blk_drew ?_ | refine blk_alloc ?_ _)); refine blk_far ?_ NB153_155.out _; (with_reducible repeat (first | refine blk_drewN ?_ _ | refine blk_drew ?_ | refine blk_alloc ?_ _)); refine blk_far ?_ NB153_155.out _; (with_reducible repeat (first | refine blk_drewN ?_ _ | refine blk_drew ?_ | refine blk_alloc ?_ _)); exact BK153.out⟩, ⟨by (with_reducible repeat (first | refine blk_drewN ?_ _ | refine blk_drew ?_ | refine blk_alloc ?_ _)); refine blk_put (cs := #[.int .u32 ((rd_T29 l0_2 x8_1).f0), .int .u32 ((rd_T29 l0_2 x8_1).f1), .int .u64 ((rd_T29 l0_2 x8_1).f2), .int .u64 ((rd_T29 l0_2 x8_1).f3), .int .u64 ((rd_T29 l0_2 x8_1).f4), .int .u64 ((rd_T29 l0_2 x8_1).f5), .int .u64 0]) ?_ 6 _ rfl; (with_reducible repeat (first | refine blk_drewN ?_ _ | refine blk_drew ?_ | refine blk_alloc ?_ _)); refine blk_put (cs := #[.int .u32 ((rd_T29 l0_2 x8_1).f0), .int .u32 ((rd_T29 l0_2 x8_1).f1), .int .u64 ((rd_T29 l0_2 x8_1).f2), .int .u64 ((rd_T29 l0_2 x8_1).f3), .int .u64 ((rd_T29 l0_2 x8_1).f4), .int .u64 0, .int .u64 0]) ?_ 5 _ rfl; (with_reducible repeat (first | refine blk_drewN ?_ _ | refine blk_drew ?_ | refine blk_alloc ?_ _)); refine blk_put (cs := #[.int .u32 ((rd_T29 l0_2 x8_1).f0), .int .u32 ((rd_T29 l0_2 x8_1).f1), .int .u64 ((rd_T29 l0_2 x8_1).f2), .int .u64 ((rd_T29 l0_2 x8_1).f3), .int .u64 0, .int .u64 0, .int .u64 0]) ?_ 4 _ rfl; (with_reducible repeat (first | refine blk_drewN ?_ _ | refine blk_drew ?_ | refine blk_alloc ?_ _)); refine blk_put (cs := #[.int .u32 ((rd_T29 l0_2 x8_1).f0), .int .u32 ((rd_T29 l0_2 x8_1).f1), .int .u64 ((rd_T29 l0_2 x8_1).f2), .int .u64 0, .int .u64 0, .int .u64 0, .int .u64 0]) ?_ 3 _ rfl; (with_reducible repeat (first | refine blk_drewN ?_ _ | refine blk_drew ?_ | refine blk_alloc ?_ _)); refine blk_put (cs := #[.int .u32 ((rd_T29 l0_2 x8_1).f0), .int .u32 ((rd_T29 l0_2 x8_1).f1), .int .u64 0, .int .u64 0, .int .u64 0, .int .u64 0, .int .u64 0]) ?_ 2 _ rfl; (with_reducible repeat (first | refine blk_drewN ?_ _ | refine blk_drew ?_ | refine blk_alloc ?_ _)); refine blk_put (cs := #[.int .u32 ((rd_T29 l0_2 x8_1).f0), .int .u32 0, .int .u64 0, .int .u64 0, .int .u64 0, .int .u64 0, .int .u64 0]) ?_ 1 _ rfl; (with_reducible repeat (first | refine blk_drewN ?_ _ | refine blk_drew ?_ | refine blk_alloc ?_ _)); refine blk_put (cs := #[.int .u32 0, .int .u32 0, .int .u64 0, .int .u64 0, .int .u64 0, .int .u64 0, .int .u64 0]) ?_ 0 _ rfl; (with_reducible repeat (first | refine blk_drewN ?_ _ | refine blk_drew ?_ | refine blk_alloc ?_ _)); exact BK155.out⟩, ⟨by repeat (first | (with_reducible first | exact HB.out | apply below_alloc | apply pw_below_drewN | apply below_drew1 | refine below_set ?_ GE153.out | refine below_set ?_ GE155.out) | exact HB.out)⟩⟩
       ·rw [if_neg c13] at H
        have c13b0 : decide (a1 < ((rd_T29 l0_2 x8_1).f3)) = false := decide_eq_false c13
        clear c13
        by_cases c16 : (IntKind.u64.wrap (a1 - ((rd_T29 l0_2 x8_1).f3))) > ((rd_T29 l0_2 x8_1).f4)
        ·rw [if_pos c16] at H
         have c16b0 : decide (((rd_T29 l0_2 x8_1).f4) < (IntKind.u64.wrap (a1 - ((rd_T29 l0_2 x8_1).f3)))) = true := decide_eq_true c16
         clear c16
         have H' := Aside0.mk H
         clear H
         have hnb17 := NB155_153.out
         have hnc17 := NB153_155.out
         have hcz18_0 : w9.cell? ⟨gb155, 0, none⟩ = some (.int .u32 0) := (blk_cell BK155.out 0).trans rfl
         have hcz18_1 : w9.cell? ⟨gb155, 1, none⟩ = some (.int .u32 0) := (blk_cell BK155.out 1).trans rfl
         have hcz18_2 : w9.cell? ⟨gb155, 2, none⟩ = some (.int .u64 0) := (blk_cell BK155.out 2).trans rfl
         have hcz18_3 : w9.cell? ⟨gb155, 3, none⟩ = some (.int .u64 0) := (blk_cell BK155.out 3).trans rfl
         have hcz18_4 : w9.cell? ⟨gb155, 4, none⟩ = some (.int .u64 0) := (blk_cell BK155.out 4).trans rfl
         have hcz18_5 : w9.cell? ⟨gb155, 5, none⟩ = some (.int .u64 0) := (blk_cell BK155.out 5).trans rfl
         have hcz18_6 : w9.cell? ⟨gb155, 6, none⟩ = some (.int .u64 0) := (blk_cell BK155.out 6).trans rfl
         have hfz18_0 := blk_frozen BK155.out 0
         have hfz18_1 := blk_frozen BK155.out 1
         have hfz18_2 := blk_frozen BK155.out 2
         have hfz18_3 := blk_frozen BK155.out 3
         have hfz18_4 := blk_frozen BK155.out 4
         have hfz18_5 := blk_frozen BK155.out 5
         have hfz18_6 := blk_frozen BK155.out 6
         go_wp2
         go_meet
         case rel => exact ⟨_, (true), (by first | rfl | (simp; done) | (simp [*]; done)), H', ⟨by have := HK1.out; first | omega | exact Nat.le_refl _⟩, ⟨by (with_reducible repeat (first | refine blk_drewN ?_ _ | refine blk_drew ?_ | refine blk_alloc ?_ _)); refine blk_far ?_ NB153_155.out _; (with_reducible repeat (first | refine blk_drewN ?_ _ | refine blk_drew ?_ | refine blk_alloc ?_ _)); refine blk_far ?_ NB153_155.out _; (with_reducible repeat (first | refine blk_drewN ?_ _ | refine blk_drew ?_ | refine blk_alloc ?_ _)); refine blk_far ?_ NB153_155.out _; (with_reducible repeat (first | refine blk_drewN ?_ _ | refine blk_drew ?_ | refine blk_alloc ?_ _)); refine blk_far ?_ NB153_155.out _; (with_reducible repeat (first | refine blk_drewN ?_ _ | refine blk_drew ?_ | refine blk_alloc ?_ _)); refine blk_far ?_ NB153_155.out _; (with_reducible repeat (first | refine blk_drewN ?_ _ | refine blk_drew ?_ | refine blk_alloc ?_ _)); refine blk_far ?_ NB153_155.out _; (with_reducible repeat (first | refine blk_drewN ?_ _ | refine blk_drew ?_ | refine blk_alloc ?_ _)); refine blk_far ?_ NB153_155.out _; (with_reducible repeat (first | refine blk_drewN ?_ _ | refine blk_drew ?_ | refine blk_alloc ?_ _)); exact BK153.out⟩, ⟨by (with_reducible repeat (first | refine blk_drewN ?_ _ | refine blk_drew ?_ | refine blk_alloc ?_ _)); refine blk_put (cs := #[.int .u32 ((rd_T29 l0_2 x8_1).f0), .int .u32 ((rd_T29 l0_2 x8_1).f1), .int .u64 ((rd_T29 l0_2 x8_1).f2), .int .u64 ((rd_T29 l0_2 x8_1).f3), .int .u64 ((rd_T29 l0_2 x8_1).f4), .int .u64 ((rd_T29 l0_2 x8_1).f5), .int .u64 0]) ?_ 6 _ rfl; (with_reducible repeat (first | refine blk_drewN ?_ _ | refine blk_drew ?_ | refine blk_alloc ?_ _)); refine blk_put (cs := #[.int .u32 ((rd_T29 l0_2 x8_1).f0), .int .u32 ((rd_T29 l0_2 x8_1).f1), .int .u64 ((rd_T29 l0_2 x8_1).f2), .int .u64 ((rd_T29 l0_2 x8_1).f3), .int .u64 ((rd_T29 l0_2 x8_1).f4), .int .u64 0, .int .u64 0]) ?_ 5 _ rfl; (with_reducible repeat (first | refine blk_drewN ?_ _ | refine blk_drew ?_ | refine blk_alloc ?_ _)); refine blk_put (cs := #[.int .u32 ((rd_T29 l0_2 x8_1).f0), .int .u32 ((rd_T29 l0_2 x8_1).f1), .int .u64 ((rd_T29 l0_2 x8_1).f2), .int .u64 ((rd_T29 l0_2 x8_1).f3), .int .u64 0, .int .u64 0, .int .u64 0]) ?_ 4 _ rfl; (with_reducible repeat (first | refine blk_drewN ?_ _ | refine blk_drew ?_ | refine blk_alloc ?_ _)); refine blk_put (cs := #[.int .u32 ((rd_T29 l0_2 x8_1).f0), .int .u32 ((rd_T29 l0_2 x8_1).f1), .int .u64 ((rd_T29 l0_2 x8_1).f2), .int .u64 0, .int .u64 0, .int .u64 0, .int .u64 0]) ?_ 3 _ rfl; (with_reducible repeat (first | refine blk_drewN ?_ _ | refine blk_drew ?_ | refine blk_alloc ?_ _)); refine blk_put (cs := #[.int .u32 ((rd_T29 l0_2 x8_1).f0), .int .u32 ((rd_T29 l0_2 x8_1).f1), .int .u64 0, .int .u64 0, .int .u64 0, .int .u64 0, .int .u64 0]) ?_ 2 _ rfl; (with_reducible repeat (first | refine blk_drewN ?_ _ | refine blk_drew ?_ | refine blk_alloc ?_ _)); refine blk_put (cs := #[.int .u32 ((rd_T29 l0_2 x8_1).f0), .int .u32 0, .int .u64 0, .int .u64 0, .int .u64 0, .int .u64 0, .int .u64 0]) ?_ 1 _ rfl; (with_reducible repeat (first | refine blk_drewN ?_ _ | refine blk_drew ?_ | refine blk_alloc ?_ _)); refine blk_put (cs := #[.int .u32 0, .int .u32 0, .int .u64 0, .int .u64 0, .int .u64 0, .int .u64 0, .int .u64 0]) ?_ 0 _ rfl; (with_reducible repeat (first | refine blk_drewN ?_ _ | refine blk_drew ?_ | refine blk_alloc ?_ _)); exact BK155.out⟩, ⟨by repeat (first | (with_reducible first | exact HB.out | apply below_alloc | apply pw_below_drewN | apply below_drew1 | refine below_set ?_ GE153.out | refine below_set ?_ GE155.out) | exact HB.out)⟩⟩
        ·rw [if_neg c16] at H
         have c16b0 : decide (((rd_T29 l0_2 x8_1).f4) < (IntKind.u64.wrap (a1 - ((rd_T29 l0_2 x8_1).f3)))) = false := decide_eq_false c16
         clear c16
         have H' := Aside0.mk H
         clear H
         have hnb19 := NB155_153.out
         have hnc19 := NB153_155.out
         have hcz20_0 : w9.cell? ⟨gb155, 0, none⟩ = some (.int .u32 0) := (blk_cell BK155.out 0).trans rfl
         have hcz20_1 : w9.cell? ⟨gb155, 1, none⟩ = some (.int .u32 0) := (blk_cell BK155.out 1).trans rfl
         have hcz20_2 : w9.cell? ⟨gb155, 2, none⟩ = some (.int .u64 0) := (blk_cell BK155.out 2).trans rfl
         have hcz20_3 : w9.cell? ⟨gb155, 3, none⟩ = some (.int .u64 0) := (blk_cell BK155.out 3).trans rfl
         have hcz20_4 : w9.cell? ⟨gb155, 4, none⟩ = some (.int .u64 0) := (blk_cell BK155.out 4).trans rfl
         have hcz20_5 : w9.cell? ⟨gb155, 5, none⟩ = some (.int .u64 0) := (blk_cell BK155.out 5).trans rfl
         have hcz20_6 : w9.cell? ⟨gb155, 6, none⟩ = some (.int .u64 0) := (blk_cell BK155.out 6).trans rfl
         have hfz20_0 := blk_frozen BK155.out 0
         have hfz20_1 := blk_frozen BK155.out 1
         have hfz20_2 := blk_frozen BK155.out 2
         have hfz20_3 := blk_frozen BK155.out 3
         have hfz20_4 := blk_frozen BK155.out 4
         have hfz20_5 := blk_frozen BK155.out 5
         have hfz20_6 := blk_frozen BK155.out 6
         go_wp2
         go_meet
         case rel => exact ⟨_, (decide (a2 > (IntKind.u64.wrap (((rd_T29 l0_2 x8_1).f4) - (IntKind.u64.wrap (a1 - ((rd_T29 l0_2 x8_1).f3))))))), (by first | rfl | (simp; done) | (simp [*]; done)), H', ⟨by have := HK1.out; first | omega | exact Nat.le_refl _⟩, ⟨by (with_reducible repeat (first | refine blk_drewN ?_ _ | refine blk_drew ?_ | refine blk_alloc ?_ _)); refine blk_far ?_ NB153_155.out _; (with_reducible repeat (first | refine blk_drewN ?_ _ | refine blk_drew ?_ | refine blk_alloc ?_ _)); refine blk_far ?_ NB153_155.out _; (with_reducible repeat (first | refine blk_drewN ?_ _ | refine blk_drew ?_ | refine blk_alloc ?_ _)); refine blk_far ?_ NB153_155.out _; (with_reducible repeat (first | refine blk_drewN ?_ _ | refine blk_drew ?_ | refine blk_alloc ?_ _)); refine blk_far ?_ NB153_155.out _; (with_reducible repeat (first | refine blk_drewN ?_ _ | refine blk_drew ?_ | refine blk_alloc ?_ _)); refine blk_far ?_ NB153_155.out _; (with_reducible repeat (first | refine blk_drewN ?_ _ | refine blk_drew ?_ | refine blk_alloc ?_ _)); refine blk_far ?_ NB153_155.out _; (with_reducible repeat (first | refine blk_drewN ?_ _ | refine blk_drew ?_ | refine blk_alloc ?_ _)); refine blk_far ?_ NB153_155.out _; (with_reducible repeat (first | refine blk_drewN ?_ _ | refine blk_drew ?_ | refine blk_alloc ?_ _)); exact BK153.out⟩, ⟨by (with_reducible repeat (first | refine blk_drewN ?_ _ | refine blk_drew ?_ | refine blk_alloc ?_ _)); refine blk_put (cs := #[.int .u32 ((rd_T29 l0_2 x8_1).f0), .int .u32 ((rd_T29 l0_2 x8_1).f1), .int .u64 ((rd_T29 l0_2 x8_1).f2), .int .u64 ((rd_T29 l0_2 x8_1).f3), .int .u64 ((rd_T29 l0_2 x8_1).f4), .int .u64 ((rd_T29 l0_2 x8_1).f5), .int .u64 0]) ?_ 6 _ rfl; (with_reducible repeat (first | refine blk_drewN ?_ _ | refine blk_drew ?_ | refine blk_alloc ?_ _)); refine blk_put (cs := #[.int .u32 ((rd_T29 l0_2 x8_1).f0), .int .u32 ((rd_T29 l0_2 x8_1).f1), .int .u64 ((rd_T29 l0_2 x8_1).f2), .int .u64 ((rd_T29 l0_2 x8_1).f3), .int .u64 ((rd_T29 l0_2 x8_1).f4), .int .u64 0, .int .u64 0]) ?_ 5 _ rfl; (with_reducible repeat (first | refine blk_drewN ?_ _ | refine blk_drew ?_ | refine blk_alloc ?_ _)); refine blk_put (cs := #[.int .u32 ((rd_T29 l0_2 x8_1).f0), .int .u32 ((rd_T29 l0_2 x8_1).f1), .int .u64 ((rd_T29 l0_2 x8_1).f2), .int .u64 ((rd_T29 l0_2 x8_1).f3), .int .u64 0, .int .u64 0, .int .u64 0]) ?_ 4 _ rfl; (with_reducible repeat (first | refine blk_drewN ?_ _ | refine blk_drew ?_ | refine blk_alloc ?_ _)); refine blk_put (cs := #[.int .u32 ((rd_T29 l0_2 x8_1).f0), .int .u32 ((rd_T29 l0_2 x8_1).f1), .int .u64 ((rd_T29 l0_2 x8_1).f2), .int .u64 0, .int .u64 0, .int .u64 0, .int .u64 0]) ?_ 3 _ rfl; (with_reducible repeat (first | refine blk_drewN ?_ _ | refine blk_drew ?_ | refine blk_alloc ?_ _)); refine blk_put (cs := #[.int .u32 ((rd_T29 l0_2 x8_1).f0), .int .u32 ((rd_T29 l0_2 x8_1).f1), .int .u64 0, .int .u64 0, .int .u64 0, .int .u64 0, .int .u64 0]) ?_ 2 _ rfl; (with_reducible repeat (first | refine blk_drewN ?_ _ | refine blk_drew ?_ | refine blk_alloc ?_ _)); refine blk_put (cs := #[.int .u32 ((rd_T29 l0_2 x8_1).f0), .int .u32 0, .int .u64 0, .int .u64 0, .int .u64 0, .int .u64 0, .int .u64 0]) ?_ 1 _ rfl; (with_reducible repeat (first | refine blk_drewN ?_ _ | refine blk_drew ?_ | refine blk_alloc ?_ _)); refine blk_put (cs := #[.int .u32 0, .int .u32 0, .int .u64 0, .int .u64 0, .int .u64 0, .int .u64 0, .int .u64 0]) ?_ 0 _ rfl; (with_reducible repeat (first | refine blk_drewN ?_ _ | refine blk_drew ?_ | refine blk_alloc ?_ _)); exact BK155.out⟩, ⟨by repeat (first | (with_reducible first | exact HB.out | apply below_alloc | apply pw_below_drewN | apply below_drew1 | refine below_set ?_ GE153.out | refine below_set ?_ GE155.out) | exact HB.out)⟩⟩
      ·rw [if_neg c12] at H
       have c12b0 : (((rd_T29 l0_2 x8_1).f0) == 1) = false := beq_eq_false_iff_ne.mpr c12
       have c12b1 : (((rd_T29 l0_2 x8_1).f0) != 1) = true := bne_iff_ne.mpr c12
       (first | rw [c12b0] | (simp only [i64_w, i32_w]; rw [c12b0]) | skip)
       have H' := Aside0.mk H
       clear H
       have hnb21 := NB155_153.out
       have hnc21 := NB153_155.out
       have hcz22_0 : w9.cell? ⟨gb155, 0, none⟩ = some (.int .u32 0) := (blk_cell BK155.out 0).trans rfl
       have hcz22_1 : w9.cell? ⟨gb155, 1, none⟩ = some (.int .u32 0) := (blk_cell BK155.out 1).trans rfl
       have hcz22_2 : w9.cell? ⟨gb155, 2, none⟩ = some (.int .u64 0) := (blk_cell BK155.out 2).trans rfl
       have hcz22_3 : w9.cell? ⟨gb155, 3, none⟩ = some (.int .u64 0) := (blk_cell BK155.out 3).trans rfl
       have hcz22_4 : w9.cell? ⟨gb155, 4, none⟩ = some (.int .u64 0) := (blk_cell BK155.out 4).trans rfl
       have hcz22_5 : w9.cell? ⟨gb155, 5, none⟩ = some (.int .u64 0) := (blk_cell BK155.out 5).trans rfl
       have hcz22_6 : w9.cell? ⟨gb155, 6, none⟩ = some (.int .u64 0) := (blk_cell BK155.out 6).trans rfl
       have hfz22_0 := blk_frozen BK155.out 0
       have hfz22_1 := blk_frozen BK155.out 1
       have hfz22_2 := blk_frozen BK155.out 2
       have hfz22_3 := blk_frozen BK155.out 3
       have hfz22_4 := blk_frozen BK155.out 4
       have hfz22_5 := blk_frozen BK155.out 5
       have hfz22_6 := blk_frozen BK155.out 6
       go_wp2
       go_meet
       case rel => exact ⟨_, (true), (by first | rfl | (simp; done) | (simp [*]; done)), H', ⟨by have := HK1.out; first | omega | exact Nat.le_refl _⟩, ⟨by (with_reducible repeat (first | refine blk_drewN ?_ _ | refine blk_drew ?_ | refine blk_alloc ?_ _)); refine blk_far ?_ NB153_155.out _; (with_reducible repeat (first | refine blk_drewN ?_ _ | refine blk_drew ?_ | refine blk_alloc ?_ _)); refine blk_far ?_ NB153_155.out _; (with_reducible repeat (first | refine blk_drewN ?_ _ | refine blk_drew ?_ | refine blk_alloc ?_ _)); refine blk_far ?_ NB153_155.out _; (with_reducible repeat (first | refine blk_drewN ?_ _ | refine blk_drew ?_ | refine blk_alloc ?_ _)); refine blk_far ?_ NB153_155.out _; (with_reducible repeat (first | refine blk_drewN ?_ _ | refine blk_drew ?_ | refine blk_alloc ?_ _)); refine blk_far ?_ NB153_155.out _; (with_reducible repeat (first | refine blk_drewN ?_ _ | refine blk_drew ?_ | refine blk_alloc ?_ _)); refine blk_far ?_ NB153_155.out _; (with_reducible repeat (first | refine blk_drewN ?_ _ | refine blk_drew ?_ | refine blk_alloc ?_ _)); refine blk_far ?_ NB153_155.out _; (with_reducible repeat (first | refine blk_drewN ?_ _ | refine blk_drew ?_ | refine blk_alloc ?_ _)); exact BK153.out⟩, ⟨by (with_reducible repeat (first | refine blk_drewN ?_ _ | refine blk_drew ?_ | refine blk_alloc ?_ _)); refine blk_put (cs := #[.int .u32 ((rd_T29 l0_2 x8_1).f0), .int .u32 ((rd_T29 l0_2 x8_1).f1), .int .u64 ((rd_T29 l0_2 x8_1).f2), .int .u64 ((rd_T29 l0_2 x8_1).f3), .int .u64 ((rd_T29 l0_2 x8_1).f4), .int .u64 ((rd_T29 l0_2 x8_1).f5), .int .u64 0]) ?_ 6 _ rfl; (with_reducible repeat (first | refine blk_drewN ?_ _ | refine blk_drew ?_ | refine blk_alloc ?_ _)); refine blk_put (cs := #[.int .u32 ((rd_T29 l0_2 x8_1).f0), .int .u32 ((rd_T29 l0_2 x8_1).f1), .int .u64 ((rd_T29 l0_2 x8_1).f2), .int .u64 ((rd_T29 l0_2 x8_1).f3), .int .u64 ((rd_T29 l0_2 x8_1).f4), .int .u64 0, .int .u64 0]) ?_ 5 _ rfl; (with_reducible repeat (first | refine blk_drewN ?_ _ | refine blk_drew ?_ | refine blk_alloc ?_ _)); refine blk_put (cs := #[.int .u32 ((rd_T29 l0_2 x8_1).f0), .int .u32 ((rd_T29 l0_2 x8_1).f1), .int .u64 ((rd_T29 l0_2 x8_1).f2), .int .u64 ((rd_T29 l0_2 x8_1).f3), .int .u64 0, .int .u64 0, .int .u64 0]) ?_ 4 _ rfl; (with_reducible repeat (first | refine blk_drewN ?_ _ | refine blk_drew ?_ | refine blk_alloc ?_ _)); refine blk_put (cs := #[.int .u32 ((rd_T29 l0_2 x8_1).f0), .int .u32 ((rd_T29 l0_2 x8_1).f1), .int .u64 ((rd_T29 l0_2 x8_1).f2), .int .u64 0, .int .u64 0, .int .u64 0, .int .u64 0]) ?_ 3 _ rfl; (with_reducible repeat (first | refine blk_drewN ?_ _ | refine blk_drew ?_ | refine blk_alloc ?_ _)); refine blk_put (cs := #[.int .u32 ((rd_T29 l0_2 x8_1).f0), .int .u32 ((rd_T29 l0_2 x8_1).f1), .int .u64 0, .int .u64 0, .int .u64 0, .int .u64 0, .int .u64 0]) ?_ 2 _ rfl; (with_reducible repeat (first | refine blk_drewN ?_ _ | refine blk_drew ?_ | refine blk_alloc ?_ _)); refine blk_put (cs := #[.int .u32 ((rd_T29 l0_2 x8_1).f0), .int .u32 0, .int .u64 0, .int .u64 0, .int .u64 0, .int .u64 0, .int .u64 0]) ?_ 1 _ rfl; (with_reducible repeat (first | refine blk_drewN ?_ _ | refine blk_drew ?_ | refine blk_alloc ?_ _)); refine blk_put (cs := #[.int .u32 0, .int .u32 0, .int .u64 0, .int .u64 0, .int .u64 0, .int .u64 0, .int .u64 0]) ?_ 0 _ rfl; (with_reducible repeat (first | refine blk_drewN ?_ _ | refine blk_drew ?_ | refine blk_alloc ?_ _)); exact BK155.out⟩, ⟨by repeat (first | (with_reducible first | exact HB.out | apply below_alloc | apply pw_below_drewN | apply below_drew1 | refine below_set ?_ GE153.out | refine below_set ?_ GE155.out) | exact HB.out)⟩⟩
     case rest =>
      clear HC7
      try clear c1
      try clear p1
      try clear q1
      try clear hx1
      try clear c2
      try clear p2
      try clear c5
      try clear c5b0
      try clear c6
      try clear c6b0
      try clear c10
      try clear c12
      try clear c12b0
      try clear c12b1
      try clear c13
      try clear c13b0
      try clear c14
      try clear p15
      try clear q15
      try clear hx15
      try clear c16
      try clear c16b0
      try clear c17
      try clear c19
      try clear c21
      try clear hcz11_0
      try clear hcz11_1
      try clear hcz11_2
      try clear hcz11_3
      try clear hcz11_4
      try clear hcz11_5
      try clear hcz11_6
      try clear hcz15_0
      try clear hcz15_1
      try clear hcz15_2
      try clear hcz15_3
      try clear hcz15_4
      try clear hcz15_5
      try clear hcz15_6
      try clear hcz18_0
      try clear hcz18_1
      try clear hcz18_2
      try clear hcz18_3
      try clear hcz18_4
      try clear hcz18_5
      try clear hcz18_6
      try clear hcz20_0
      try clear hcz20_1
      try clear hcz20_2
      try clear hcz20_3
      try clear hcz20_4
      try clear hcz20_5
      try clear hcz20_6
      try clear hcz22_0
      try clear hcz22_1
      try clear hcz22_2
      try clear hcz22_3
      try clear hcz22_4
      try clear hcz22_5
      try clear hcz22_6
      try clear hcz8_0
      try clear hcz8_1
      try clear hcz8_2
      try clear hfz11_0
      try clear hfz11_1
      try clear hfz11_2
      try clear hfz11_3
      try clear hfz11_4
      try clear hfz11_5
      try clear hfz11_6
      try clear hfz15_0
      try clear hfz15_1
      try clear hfz15_2
      try clear hfz15_3
      try clear hfz15_4
      try clear hfz15_5
      try clear hfz15_6
      try clear hfz18_0
      try clear hfz18_1
      try clear hfz18_2
      try clear hfz18_3
      try clear hfz18_4
      try clear hfz18_5
      try clear hfz18_6
      try clear hfz20_0
      try clear hfz20_1
      try clear hfz20_2
      try clear hfz20_3
      try clear hfz20_4
      try clear hfz20_5
      try clear hfz20_6
      try clear hfz22_0
      try clear hfz22_1
      try clear hfz22_2
      try clear hfz22_3
      try clear hfz22_4
      try clear hfz22_5
      try clear hfz22_6
      try clear hfz8_0
      try clear hfz8_1
      try clear hfz8_2
      try clear hx154_0
      try clear hx154_1
      try clear hx154_2
      try clear hx154_3
      try clear hx154_4
      try clear hx154_5
      try clear hx154_6
      try clear p154
      try clear p2
      try clear q154
      obtain ⟨kq, x51_6, rfl, HA, HJ6, BK153, BK155, HB⟩ := hcut
      cases kq with
      | zero => exact absurd HA.out (by simp [shackleref05_Offset.j1])
      | succ kj6 =>
       have H := HA.out
       clear HA
       simp only [shackleref05_Offset.j1] at H
       by_cases c23 : x51_6 = true
       ·subst c23
        have H1 : (shackleref05_Offset.l0 kj6 a1 a2 (wrap64 (x8_1 + 1)) a0_0 a0_1 l0_2) = some (r1, r2) := by rw [if_pos rfl] at H; exact H
        clear H
        have H := H1
        clear H1
        have H' := Aside0.mk H
        clear H
        go_wp2
        go_roundg kj6
        case measure => have := HK1.out; have := HJ6.out; omega
        case rel => exact ⟨(wrap64 (x8_1 + 1)), (by first | rfl | (simp; done) | (simp [*]; done)), H', ⟨by have := HK1.out; have := HJ6.out; omega⟩, ⟨by (with_reducible repeat (first | refine blk_drewN ?_ _ | refine blk_drew ?_ | refine blk_alloc ?_ _)); exact BK153.out⟩, ⟨by repeat (first | (with_reducible first | exact HB.out | apply below_alloc | apply pw_below_drewN | apply below_drew1 | refine below_set ?_ GE153.out | refine below_set ?_ GE155.out) | exact HB.out)⟩⟩
       ·replace c23 := Bool.eq_false_iff.mpr c23
        subst c23
        have H1 : (if (IntKind.u64.wrap (((rd_T29 l0_2 x8_1).f2) + (IntKind.u64.wrap (a1 - ((rd_T29 l0_2 x8_1).f3))))) < ((rd_T29 l0_2 x8_1).f2) then (some (0, 4)) else (some (IntKind.u64.wrap (((rd_T29 l0_2 x8_1).f2) + (IntKind.u64.wrap (a1 - ((rd_T29 l0_2 x8_1).f3)))), 0))) = some (r1, r2) := by rw [if_neg (show ¬ (false = true) by decide)] at H; exact H
        clear H
        have H := H1
        clear H1
        by_cases c24 : (IntKind.u64.wrap (((rd_T29 l0_2 x8_1).f2) + (IntKind.u64.wrap (a1 - ((rd_T29 l0_2 x8_1).f3))))) < ((rd_T29 l0_2 x8_1).f2)
        ·rw [if_pos c24] at H
         have c24b0 : decide ((IntKind.u64.wrap (((rd_T29 l0_2 x8_1).f2) + (IntKind.u64.wrap (a1 - ((rd_T29 l0_2 x8_1).f3))))) < ((rd_T29 l0_2 x8_1).f2)) = true := decide_eq_true c24
         clear c24
         simp only [Option.some.injEq, Prod.mk.injEq] at H
         obtain ⟨rfl, rfl⟩ := H
         have hnb25 := NB155_153.out
         have hnc25 := NB153_155.out
         have hcz26_0 : wc.cell? ⟨gb155, 0, none⟩ = some (.int .u32 ((rd_T29 l0_2 x8_1).f0)) := (blk_cell BK155.out 0).trans rfl
         have hcz26_1 : wc.cell? ⟨gb155, 1, none⟩ = some (.int .u32 ((rd_T29 l0_2 x8_1).f1)) := (blk_cell BK155.out 1).trans rfl
         have hcz26_2 : wc.cell? ⟨gb155, 2, none⟩ = some (.int .u64 ((rd_T29 l0_2 x8_1).f2)) := (blk_cell BK155.out 2).trans rfl
         have hcz26_3 : wc.cell? ⟨gb155, 3, none⟩ = some (.int .u64 ((rd_T29 l0_2 x8_1).f3)) := (blk_cell BK155.out 3).trans rfl
         have hcz26_4 : wc.cell? ⟨gb155, 4, none⟩ = some (.int .u64 ((rd_T29 l0_2 x8_1).f4)) := (blk_cell BK155.out 4).trans rfl
         have hcz26_5 : wc.cell? ⟨gb155, 5, none⟩ = some (.int .u64 ((rd_T29 l0_2 x8_1).f5)) := (blk_cell BK155.out 5).trans rfl
         have hcz26_6 : wc.cell? ⟨gb155, 6, none⟩ = some (.int .u64 ((rd_T29 l0_2 x8_1).f6)) := (blk_cell BK155.out 6).trans rfl
         have hfz26_0 := blk_frozen BK155.out 0
         have hfz26_1 := blk_frozen BK155.out 1
         have hfz26_2 := blk_frozen BK155.out 2
         have hfz26_3 := blk_frozen BK155.out 3
         have hfz26_4 := blk_frozen BK155.out 4
         have hfz26_5 := blk_frozen BK155.out 5
         have hfz26_6 := blk_frozen BK155.out 6
         go_wp2
         go_ret2
         exact ⟨by first | rfl | (simp [errW_none, errW_some] <;> rfl) | (simp [*, errW_none, errW_some] <;> rfl), by repeat (first | (with_reducible first | exact HB.out | apply below_alloc | apply pw_below_drewN | apply below_drew1 | refine below_set ?_ GE153.out | refine below_set ?_ GE155.out) | exact HB.out)⟩
        ·rw [if_neg c24] at H
         have c24b0 : decide ((IntKind.u64.wrap (((rd_T29 l0_2 x8_1).f2) + (IntKind.u64.wrap (a1 - ((rd_T29 l0_2 x8_1).f3))))) < ((rd_T29 l0_2 x8_1).f2)) = false := decide_eq_false c24
         clear c24
         simp only [Option.some.injEq, Prod.mk.injEq] at H
         obtain ⟨rfl, rfl⟩ := H
         have hnb27 := NB155_153.out
         have hnc27 := NB153_155.out
         have hcz28_0 : wc.cell? ⟨gb155, 0, none⟩ = some (.int .u32 ((rd_T29 l0_2 x8_1).f0)) := (blk_cell BK155.out 0).trans rfl
         have hcz28_1 : wc.cell? ⟨gb155, 1, none⟩ = some (.int .u32 ((rd_T29 l0_2 x8_1).f1)) := (blk_cell BK155.out 1).trans rfl
         have hcz28_2 : wc.cell? ⟨gb155, 2, none⟩ = some (.int .u64 ((rd_T29 l0_2 x8_1).f2)) := (blk_cell BK155.out 2).trans rfl
         have hcz28_3 : wc.cell? ⟨gb155, 3, none⟩ = some (.int .u64 ((rd_T29 l0_2 x8_1).f3)) := (blk_cell BK155.out 3).trans rfl
         have hcz28_4 : wc.cell? ⟨gb155, 4, none⟩ = some (.int .u64 ((rd_T29 l0_2 x8_1).f4)) := (blk_cell BK155.out 4).trans rfl
         have hcz28_5 : wc.cell? ⟨gb155, 5, none⟩ = some (.int .u64 ((rd_T29 l0_2 x8_1).f5)) := (blk_cell BK155.out 5).trans rfl
         have hcz28_6 : wc.cell? ⟨gb155, 6, none⟩ = some (.int .u64 ((rd_T29 l0_2 x8_1).f6)) := (blk_cell BK155.out 6).trans rfl
         have hfz28_0 := blk_frozen BK155.out 0
         have hfz28_1 := blk_frozen BK155.out 1
         have hfz28_2 := blk_frozen BK155.out 2
         have hfz28_3 := blk_frozen BK155.out 3
         have hfz28_4 := blk_frozen BK155.out 4
         have hfz28_5 := blk_frozen BK155.out 5
         have hfz28_6 := blk_frozen BK155.out 6
         go_wp2
         go_ret2
         exact ⟨by first | rfl | (simp [errW_none, errW_some] <;> rfl) | (simp [*, errW_none, errW_some] <;> rfl), by repeat (first | (with_reducible first | exact HB.out | apply below_alloc | apply pw_below_drewN | apply below_drew1 | refine below_set ?_ GE153.out | refine below_set ?_ GE155.out) | exact HB.out)⟩
    ·rw [if_neg c6] at H
     exact absurd H (by simp)
   ·rw [if_neg c5] at H
    have c5b0 : decide (x8_1 < (l0_2.length : Int)) = false := decide_eq_false c5
    clear c5
    simp only [Option.some.injEq, Prod.mk.injEq] at H
    obtain ⟨rfl, rfl⟩ := H
    have hcz29_0 : wr.cell? ⟨gb153, 0, none⟩ = some (.int .i64 a0_0) := (blk_cell BK153.out 0).trans rfl
    have hcz29_1 : wr.cell? ⟨gb153, 1, none⟩ = some (.int .u64 a0_1) := (blk_cell BK153.out 1).trans rfl
    have hcz29_2 : wr.cell? ⟨gb153, 2, none⟩ = some (.slice A0_2 l0_2.length c0_2) := (blk_cell BK153.out 2).trans rfl
    have hfz29_0 := blk_frozen BK153.out 0
    have hfz29_1 := blk_frozen BK153.out 1
    have hfz29_2 := blk_frozen BK153.out 2
    go_wp2
    go_ret2
    exact ⟨by first | rfl | (simp [errW_none, errW_some] <;> rfl) | (simp [*, errW_none, errW_some] <;> rfl), by repeat (first | (with_reducible first | exact HB.out | apply below_alloc | apply pw_below_drewN | apply below_drew1 | refine below_set ?_ GE153.out) | exact HB.out)⟩
def shackleref05_Cut.f (l0 : List Int) (a1 : Int) (a2 : Int) : Option (List Int × Bool) := if a1 > (IntKind.u64.wrap ((l0.length : Int))) then (some (([] : List Int), false)) else (if a2 > (IntKind.u64.wrap ((IntKind.u64.wrap ((l0.length : Int))) - a1)) then (some (([] : List Int), false)) else (if 0 ≤ a1 then (if a1 ≤ (IntKind.u64.wrap (a1 + a2)) then (if (IntKind.u64.wrap (a1 + a2)) ≤ (l0.length : Int) then (some (((l0.take ((IntKind.u64.wrap (a1 + a2)) : Int).toNat).drop (a1 : Int).toNat), true)) else (none)) else (none)) else (none)))
set_option maxHeartbeats 8000000 in
set_option maxRecDepth 100000 in
theorem shackleref05_Cut.calls (P0_ : Nat → Prop) (A0 : Option Addr) (c0 : Nat) (l0 : List Int) (a1 : Int) (a2 : Int) (r1 : List Int) (r2 : Bool) (w : World) (hs0 : Kd.V (Kd.int .u8) 5 w w.heap.size (fun k_ => P0_ k_) (.slice A0 l0.length c0) l0) (h : shackleref05_Cut.f l0 a1 a2 = some (r1, r2)) :
  Calls Try.prog 62 #[.slice A0 l0.length c0, .int .u64 a1, .int .u64 a2] w fun e w' => ∃ v0_ : Value, e = .returned (.tuple #[v0_, .bool r2]) ∧ Kd.V (Kd.int .u8) 5 w' w.heap.size (fun k_ => (P0_ k_ ∨ w.heap.size ≤ k_)) v0_ r1 ∧ Below w.heap.size w w' := by
 have HO0 := Aside0.mk (show Kd.V (Kd.int .u8) 5 w w.heap.size (fun k_ => (P0_ k_ ∨ w.heap.size ≤ k_)) (.slice A0 l0.length c0) l0 from Kd.V_mono hs0 (fun k_ hk => .inl hk))
 have HB := Aside0.mk (Below.refl w.heap.size w)
 have H : (if a1 > (IntKind.u64.wrap ((l0.length : Int))) then (some (([] : List Int), false)) else (if a2 > (IntKind.u64.wrap ((IntKind.u64.wrap ((l0.length : Int))) - a1)) then (some (([] : List Int), false)) else (if 0 ≤ a1 then (if a1 ≤ (IntKind.u64.wrap (a1 + a2)) then (if (IntKind.u64.wrap (a1 + a2)) ≤ (l0.length : Int) then (some (((l0.take ((IntKind.u64.wrap (a1 + a2)) : Int).toNat).drop (a1 : Int).toNat), true)) else (none)) else (none)) else (none)))) = some (r1, r2) := h
 clear h
 by_cases c4 : a1 > (IntKind.u64.wrap ((l0.length : Int)))
 ·rw [if_pos c4] at H
  have c4b0 : decide ((IntKind.u64.wrap ((l0.length : Int))) < a1) = true := decide_eq_true c4
  clear c4
  simp only [Option.some.injEq, Prod.mk.injEq] at H
  obtain ⟨rfl, rfl⟩ := H
  go_enter Try.func62, Try.ntmps62
  go_wp2
  go_ret2
  exact ⟨_, by first | rfl | (simp [errW_none, errW_some] <;> rfl) | (simp [*, errW_none, errW_some] <;> rfl), Kd.V_nil _ _ _ _ _, by repeat (first | (with_reducible first | exact HB.out | apply below_alloc | apply pw_below_drewN | apply below_drew1) | exact HB.out)⟩
 ·rw [if_neg c4] at H
  have c4b0 : decide ((IntKind.u64.wrap ((l0.length : Int))) < a1) = false := decide_eq_false c4
  clear c4
  by_cases c5 : a2 > (IntKind.u64.wrap ((IntKind.u64.wrap ((l0.length : Int))) - a1))
  ·rw [if_pos c5] at H
   have c5b0 : decide ((IntKind.u64.wrap ((IntKind.u64.wrap ((l0.length : Int))) - a1)) < a2) = true := decide_eq_true c5
   clear c5
   simp only [Option.some.injEq, Prod.mk.injEq] at H
   obtain ⟨rfl, rfl⟩ := H
   go_enter Try.func62, Try.ntmps62
   go_wp2
   go_ret2
   exact ⟨_, by first | rfl | (simp [errW_none, errW_some] <;> rfl) | (simp [*, errW_none, errW_some] <;> rfl), Kd.V_nil _ _ _ _ _, by repeat (first | (with_reducible first | exact HB.out | apply below_alloc | apply pw_below_drewN | apply below_drew1) | exact HB.out)⟩
  ·rw [if_neg c5] at H
   have c5b0 : decide ((IntKind.u64.wrap ((IntKind.u64.wrap ((l0.length : Int))) - a1)) < a2) = false := decide_eq_false c5
   clear c5
   by_cases c6 : 0 ≤ a1
   ·rw [if_pos c6] at H
    have c6b0 := eq_true c6
    have c6b1 : decide (0 ≤ a1) = true := decide_eq_true c6
    clear c6
    by_cases c7 : a1 ≤ (IntKind.u64.wrap (a1 + a2))
    ·rw [if_pos c7] at H
     have c7b0 := eq_true c7
     have c7b1 : decide (a1 ≤ (IntKind.u64.wrap (a1 + a2))) = true := decide_eq_true c7
     by_cases c8 : (IntKind.u64.wrap (a1 + a2)) ≤ (l0.length : Int)
     ·rw [if_pos c8] at H
      have c8b0 := eq_true c8
      have c8b1 : decide ((IntKind.u64.wrap (a1 + a2)) ≤ (l0.length : Int)) = true := decide_eq_true c8
      obtain ⟨y156, hy156⟩ : ∃ y_ : List Int, y_ = ((l0.take ((IntKind.u64.wrap (a1 + a2)) : Int).toNat).drop (a1 : Int).toNat) := ⟨_, rfl⟩
      replace H : (some (y156, true)) = some (r1, r2) := by first | (rw [hy156]; with_reducible exact H) | (have H2_ := (Option.bind_some _ _).symm.trans H; rw [hy156]; with_reducible exact H2_) | (have H2_ := (Option.bind_some _ _).symm.trans H; with_reducible exact H2_) | with_reducible exact H | (rw [hy156]; exact H) | exact H
      have Ny156 := Aside0.mk hy156
      clear hy156
      simp only [Option.some.injEq, Prod.mk.injEq] at H
      obtain ⟨rfl, rfl⟩ := H
      have q9 : ((IntKind.u64.wrap (a1 + a2)) : Int) ≤ ((l0.length : Int) : Int) := of_decide_eq_true (by assumption)
      obtain ⟨i09, hi09, _, hsz9, _⟩ := info_parts info5
      have hroom9 : l0.length ≤ c0 := (Kd.V_reads' HO0.out).2.1
      have hC9 : Kd.F (Kd.int .u8) _ _ A0 l0.length l0 := (Kd.V_at (base := w.heap.size) HO0.out).2.2
      have ql9 : (a1 : Int) ≤ ((IntKind.u64.wrap (a1 + a2)) : Int) := of_decide_eq_true (by assumption)
      have q09 : (0 : Int) ≤ (a1 : Int) := of_decide_eq_true (by assumption)
      have hcut9 := cut_mid (P := Try.prog) 24 5 .u64 .u64 Try.underlying24 hi09 1 hsz9 A0 l0.length c0 a1 (IntKind.u64.wrap (a1 + a2)) q09 ql9 q9 hroom9
      have hr9 := Kd.F_mid (lo := (a1 : Int).toNat) (hi := ((IntKind.u64.wrap (a1 + a2)) : Int).toNat) (c := c0) hC9 (by omega) (by omega) hroom9
      obtain ⟨A9, hA9⟩ : ∃ A1, A1 = (if c0 = (a1 : Int).toNat then A0 else (A0 : Option Addr).map (·.add ((a1 : Int).toNat * 1))) := ⟨_, rfl⟩
      obtain ⟨c9, hc9⟩ : ∃ c1, c1 = c0 - (a1 : Int).toNat := ⟨_, rfl⟩
      have hy9 : y156.length = ((IntKind.u64.wrap (a1 + a2)) : Int).toNat - (a1 : Int).toNat := (by rw [Ny156.out, List.length_drop, List.length_take] <;> omega)
      rw [show ((l0).take ((IntKind.u64.wrap (a1 + a2)) : Int).toNat).drop (a1 : Int).toNat = y156 from Ny156.out.symm] at hr9
      replace hr9 : Kd.F (Kd.int .u8) _ _ A9 y156.length y156 := (by rw [hA9]; exact hr9)
      rw [← hy9, ← hA9, ← hc9] at hcut9
      have HO160 := Aside0.mk (show Kd.V (Kd.int .u8) 5 _ w.heap.size _ (.slice A9 y156.length c9) y156 from Kd.V_mk (by rw [hy9, hc9]; exact Nat.sub_le_sub_right (Nat.le_trans (by omega) hroom9) _) hr9)
      have HC160 := Aside0.mk (show y156.length ≤ c9 from by rw [hy9, hc9]; exact Nat.sub_le_sub_right (Nat.le_trans (by omega) hroom9) _)
      clear hr9 hC9 hroom9 hi09 hsz9 hc9
      have KY9 := Aside0.mk hy9
      have KA9 := Aside0.mk hA9
      clear hy9 hA9
      replace q9 := eq_true q9
      go_enter Try.func62, Try.ntmps62
      go_wp2
      go_ret2
      exact ⟨_, by first | rfl | (simp [errW_none, errW_some] <;> rfl) | (simp [*, errW_none, errW_some] <;> rfl), by (with_reducible repeat (first | apply Kd.V_alloc | apply Kd.V_drewN | apply Kd.V_drew)); exact HO160.out, by repeat (first | (with_reducible first | exact HB.out | apply below_alloc | apply pw_below_drewN | apply below_drew1) | exact HB.out)⟩
     ·rw [if_neg c8] at H
      exact absurd H (by simp)
    ·rw [if_neg c7] at H
     exact absurd H (by simp)
   ·rw [if_neg c6] at H
    exact absurd H (by simp)
end Go.Proofs.Ythopdoamajjojaa.QVers
