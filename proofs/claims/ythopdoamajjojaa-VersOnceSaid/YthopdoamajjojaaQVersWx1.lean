import Derived.Test.YthopdoamajjojaaQVersWx0
namespace Go.Proofs.Ythopdoamajjojaa.QVersW
open Go.RowKit Go.Proofs.YthopdoamajjojaaW.PrintWords Go.Proofs.YthopdoamajjojaaW.PrintLast Go.Proofs.YthopdoamajjojaaW.PrintMore
attribute [local go_sem] max2_int min2_int max_two min_two max_three min_three max_four min_four
set_option linter.unusedVariables false
set_option linter.unusedSimpArgs false
def hash_Sysv.l0 : Nat → ByteArray → Int → Int → Int → Option (Int)
 | 0, _, _, _, _ => none
 | k + 1, x0, x3, x7, x8 => if x8 < x7 then (if 0 ≤ x8 then (if x8 < (x0.size : Int) then (hash_Sysv.l0 k x0 (Go.bits .andNot .u32 (Go.bits .xor .u32 ((((x3 * 16) % 4294967296) + ((bt x0 x8) % 4294967296)) % 4294967296) ((Go.bits .and .u32 ((((x3 * 16) % 4294967296) + ((bt x0 x8) % 4294967296)) % 4294967296) 4026531840) / 16777216)) (Go.bits .and .u32 ((((x3 * 16) % 4294967296) + ((bt x0 x8) % 4294967296)) % 4294967296) 4026531840)) x7 (wrap64 (x8 + 1))) else (none)) else (none)) else (some x3)
def hash_Sysv.f (k : Nat) (a0 : ByteArray) : Option (Int) := hash_Sysv.l0 k a0 0 (a0.size : Int) 0
theorem hash_Sysv.mono_l : ∀ k, (∀ y0 y1 y2 y3, LeO (hash_Sysv.l0 k y0 y1 y2 y3) (hash_Sysv.l0 (k + 1) y0 y1 y2 y3))
 | 0 => fun _ _ _ _ r h => by simp [hash_Sysv.l0] at h
 | k + 1 => by
  have ih0 := hash_Sysv.mono_l k
  ·intro y0 y1 y2 y3
   unfold hash_Sysv.l0
   repeat' first
   | (with_reducible exact ih0 _ _ _ _)
   | (with_reducible exact LeO.refl _)
   | (with_reducible exact LeO.none _)
   | (with_reducible refine LeO.ite ?_ ?_)
   | (with_reducible refine LeO.bind ?_ (fun _ => ?_))
   | exact ih0 _ _ _ _
   | exact LeO.none _
   | refine LeO.ite ?_ ?_
   | refine LeO.bind ?_ (fun _ => ?_)
theorem hash_Sysv.mono : ∀ a0 k, LeO (hash_Sysv.f k a0) (hash_Sysv.f (k + 1) a0) := by
 intro a0 k
 have ih0 := hash_Sysv.mono_l k
 unfold hash_Sysv.f
 repeat' first
   | (with_reducible exact ih0 _ _ _ _)
   | (with_reducible exact LeO.refl _)
   | (with_reducible exact LeO.none _)
   | (with_reducible refine LeO.ite ?_ ?_)
   | (with_reducible refine LeO.bind ?_ (fun _ => ?_))
   | exact ih0 _ _ _ _
   | exact LeO.none _
   | refine LeO.ite ?_ ?_
   | refine LeO.bind ?_ (fun _ => ?_)
set_option maxHeartbeats 8000000 in
set_option maxRecDepth 100000 in
theorem hash_Sysv.calls (k : Nat) (a0 : ByteArray) (r : Int) (w : World) (h : hash_Sysv.f k a0 = some r) :
  Calls Try.prog 24 #[.string a0] w fun e w' => e = .returned (.int .u32 r) ∧ Drawn0 w w' := by
 have H : (hash_Sysv.l0 k a0 0 (a0.size : Int) 0) = some r := h
 clear h
 have H' := Aside0.mk H
 clear H
 go_enter Try.func24, Try.ntmps24
 go_wp2
 go_loopg [3, 8] k (fun kq v3 v8 w' => ∃ (x3_1 : Int) (x8_1 : Int), v3 = .int .u32 x3_1 ∧ v8 = .int .i64 x8_1 ∧ Aside0 (hash_Sysv.l0 kq a0 x3_1 (a0.size : Int) x8_1 = some r) ∧ Aside0 (kq ≤ k) ∧ Drawn0 w w')
 case atStart => exact ⟨(0), (0), (by first | rfl | (simp; done) | (simp [*]; done)), (by first | rfl | (simp; done) | (simp [*]; done)), H', ⟨Nat.le_refl _⟩, by repeat (first | exact Drawn0.refl _ | apply Drawn0.step)⟩
 case round =>
  clear H'
  obtain ⟨x3_1, x8_1, rfl, rfl, HA, HK1, ⟨m1, rfl⟩⟩ := hrel
  cases gk with
  | zero => exact absurd HA.out (by simp [hash_Sysv.l0])
  | succ k1 =>
   have H := HA.out
   clear HA
   simp only [hash_Sysv.l0] at H
   by_cases c2 : x8_1 < (a0.size : Int)
   ·rw [if_pos c2] at H
    have c2b0 : decide (x8_1 < (a0.size : Int)) = true := decide_eq_true c2
    clear c2
    by_cases c3 : 0 ≤ x8_1
    ·rw [if_pos c3] at H
     have c3b0 : decide (0 ≤ x8_1) = true := decide_eq_true c3
     clear c3
     by_cases c4 : x8_1 < (a0.size : Int)
     ·rw [if_pos c4] at H
      have c4b0 : decide (x8_1 < (a0.size : Int)) = true := decide_eq_true c4
      clear c4
      have H' := Aside0.mk H
      clear H
      have p5 : 0 ≤ (x8_1 : Int) := of_decide_eq_true (by assumption)
      have q5 : x8_1 < (a0.size : Int) := of_decide_eq_true (by assumption)
      have hx5 := bt_at a0 x8_1
      replace p5 := eq_true p5
      replace q5 := eq_true q5
      go_wp2
      go_roundg k1
      case measure => have := HK1.out; omega
      case rel => exact ⟨(Go.bits .andNot .u32 (Go.bits .xor .u32 ((((x3_1 * 16) % 4294967296) + ((bt a0 x8_1) % 4294967296)) % 4294967296) ((Go.bits .and .u32 ((((x3_1 * 16) % 4294967296) + ((bt a0 x8_1) % 4294967296)) % 4294967296) 4026531840) / 16777216)) (Go.bits .and .u32 ((((x3_1 * 16) % 4294967296) + ((bt a0 x8_1) % 4294967296)) % 4294967296) 4026531840)), (wrap64 (x8_1 + 1)), (by first | rfl | (simp; done) | (simp [*]; done)), (by first | rfl | (simp; done) | (simp [*]; done)), H', ⟨by have := HK1.out; omega⟩, by repeat (first | exact Drawn0.refl _ | apply Drawn0.step)⟩
     ·rw [if_neg c4] at H
      exact absurd H (by simp)
    ·rw [if_neg c3] at H
     exact absurd H (by simp)
   ·rw [if_neg c2] at H
    have c2b0 : decide (x8_1 < (a0.size : Int)) = false := decide_eq_false c2
    clear c2
    obtain rfl := Option.some.inj H
    go_wp2
    go_ret
    exact ⟨by first | rfl | (simp; done) | (simp [*]; done), by repeat (first | exact Drawn0.refl _ | apply Drawn0.step)⟩
def bytes_IndexByte.f (l0 : List Int) (a1 : Int) : Option (Int) := some (Lib.indexByte (Lib.bytesOf l0) a1.toNat.toUInt8)
set_option maxHeartbeats 2000000 in
set_option maxRecDepth 100000 in
theorem bytes_IndexByte.calls (A0 : Option Addr) (c0 : Nat) (l0 : List Int) (a1 : Int) (r : Int) (w : World) (hr0 : Kd.C (Kd.int .u8) w A0 l0.length l0) (hc0 : l0.length ≤ c0) (h : bytes_IndexByte.f l0 a1 = some r) :
  Calls Try.prog 75 #[.slice A0 l0.length c0, .int .u8 a1] w fun e w' => e = .returned (.int .i64 r) ∧ Drawn0 w w' := by
 unfold bytes_IndexByte.f at h
 obtain rfl := Option.some.inj h
 clear h
 rcases A0 with _ | ad
 ·have hl : l0 = [] := by
   rcases Nat.eq_zero_or_pos l0.length with h0 | h0
   ·exact List.eq_nil_of_length_eq_zero h0
   ·obtain ⟨_, _, e, _⟩ := Kd.C_get hr0 0 0 (by omega) (by omega)
    cases e
  subst hl
  clear hr0 hc0
  go_enter Try.func75, Try.ntmps75
  go_wp2
  rw [run_callFunc_extern Try.func79 (by kernel_rfl) (by kernel_rfl) (by kernel_rfl) (e := Extern.BytealgIndexByte.indexByte) (by kernel_rfl), Lib.run_indexByteNil]
  simp only [Result.andThen]
  rw [Oper.upon_value]
  go_wp2
  go_ret
  exact ⟨rfl, Drawn0.refl _⟩
 ·have hc : ∀ i, i < l0.length → w.cell? (ad.add i) = some (.int .u8 (l0.getD i 0)) := by
   intro i hi
   obtain ⟨ad', c, e, hl, hk, hcell⟩ := Kd.C_get hr0 0 (i : Int) (by omega) (by omega)
   injection e with e
   subst e
   obtain rfl : c = [.int .u8 (l0.getD (i : Int).toNat 0)] := hk
   have hz := hcell 0 _ rfl
   simp only [show (Kd.int .u8).sz = 1 from rfl, Nat.mul_one, Nat.add_zero, Int.toNat_natCast] at hz
   exact hz
  have H := Lib.hid (Lib.run_indexByteAt (P := Try.prog) w ad l0.length c0 l0 rfl hc a1)
  clear hr0 hc0 hc
  go_enter Try.func75, Try.ntmps75
  go_wp2
  rw [run_callFunc_extern Try.func79 (by kernel_rfl) (by kernel_rfl) (by kernel_rfl) (e := Extern.BytealgIndexByte.indexByte) (by kernel_rfl), H.out]
  simp only [Result.andThen]
  rw [Oper.upon_value]
  go_wp2
  go_ret
  exact ⟨rfl, Drawn0.refl _⟩
theorem errW_same (x : Option Int) : QVers.errW x = errW x := by cases x <;> rfl
def cv29 (p : S29) : QVers.S29 := ⟨p.f0, p.f1, p.f2, p.f3, p.f4, p.f5, p.f6⟩
def axTo (x : VersS.Ax) : S68 := ⟨x.1, x.2.1, x.2.2⟩
def ndTo (x : VersS.Nd) : S66 := ⟨x.1, x.2.map axTo⟩
def dfTo (x : VersS.Df) : S63 := ⟨x.1, x.2.1, x.2.2.1, x.2.2.2⟩
def axOf (x : S68) : VersS.Ax := (x.f0, x.f1, x.f2)
def ndOf (x : S66) : VersS.Nd := (x.f0, x.f1.map axOf)
def dfOf (x : S63) : VersS.Df := (x.f0, x.f1, x.f2, x.f3)
theorem nd_to (l : List VersS.Nd) : (l.map ndTo).map ndOf = l := by simp [Function.comp_def, ndTo, ndOf, axTo, axOf]
theorem df_to (l : List VersS.Df) : (l.map dfTo).map dfOf = l := by simp [Function.comp_def, dfTo, dfOf]
theorem C_cv29 {w : World} {A : Option Addr} {n : Nat} {l : List S29} (h : Kd.C k29 w A n l) : Kd.C QVers.k29 w A n (l.map cv29) := VersS.C_imp (f := cv29) rfl (fun _ _ _ h => h) h
theorem R_df {w : World} {base : Nat} {ok : Nat → Prop} {v : Value} {l : List VersS.Df} (h : Kd.R VersS.kDf 63 w base ok v l) : Kd.R k63 63 w base ok v (l.map dfTo) :=
 VersS.R_imp (d := VersS.kDf) (f := dfOf) rfl (fun _ _ _ _ _ h => h) (by rw [df_to]; exact h)
theorem M_nd {w : World} {base : Nat} {ok : Nat → Prop} {x : S66} {cs : List Value} (h : VersS.kNd.M w base ok (ndOf x) cs) : k66.M w base ok x cs := by
 obtain ⟨c0, c1, rfl, h0, v, rfl, hR⟩ := h
 exact ⟨c0, [v], rfl, h0, v, rfl, VersS.R_imp (d := VersS.kAx) (f := axOf) rfl (fun _ _ _ _ _ h => h) hR⟩
theorem R_nd {w : World} {base : Nat} {ok : Nat → Prop} {v : Value} {l : List VersS.Nd} (h : Kd.R VersS.kNd 66 w base ok v l) : Kd.R k66 66 w base ok v (l.map ndTo) :=
 VersS.R_imp (d := VersS.kNd) (f := ndOf) rfl (fun _ _ _ _ _ h => M_nd h) (by rw [nd_to]; exact h)
def vers_Read.f (l0 : List Int) (a1_0 : Int) (a1_1 : Int) (l1_2 : List (S29)) (l2_0 : List Int) (a2_1 : Int) (a2_2 : Int) (a2_3 : Int) (a2_4 : Int) (a2_5 : Int) (a2_6 : Int) (a2_7 : Int) (a2_8 : Int) (a2_9 : Int) (a2_10 : Int) (a2_11 : Int) (a2_12 : Int) (a2_13 : Int) (a2_14 : Bool) (a2_15 : Bool) (a2_16 : Bool) (a2_17 : Int) (a2_18 : Int) (a2_19 : Int) (a2_20 : Int) (a2_21 : Int) (a2_22 : Int) (a2_23 : Int) (a2_24 : Int) (a2_25 : Int) (a2_26 : Int) (a2_27 : Int) (a2_28 : Int) (a2_29 : Int) (a2_30 : Int) (a2_31 : Int) (a2_32 : Bool) (a2_33 : Bool) (a2_34 : Bool) (a2_35 : Bool) (a2_36 : Bool) (a3 : Int) : Option (Bool × List Int × (List (S63)) × (List (S66)) × Option Int) := (VersS.readO l0 (l1_2.map cv29) a2_4 a2_8 a2_26 a2_28 a2_29 a2_30 a2_31 a3).map (fun r => (r.1.1, r.1.2.1, r.1.2.2.1.map dfTo, r.1.2.2.2.map ndTo, r.2))
theorem vers_Read.calls (A0 : Option Addr) (c0 : Nat) (l0 : List Int) (a1_0 : Int) (a1_1 : Int) (A1_2 : Option Addr) (c1_2 : Nat) (l1_2 : List (S29)) (A2_0 : Option Addr) (c2_0 : Nat) (l2_0 : List Int) (a2_1 : Int) (a2_2 : Int) (a2_3 : Int) (a2_4 : Int) (a2_5 : Int) (a2_6 : Int) (a2_7 : Int) (a2_8 : Int) (a2_9 : Int) (a2_10 : Int) (a2_11 : Int) (a2_12 : Int) (a2_13 : Int) (a2_14 : Bool) (a2_15 : Bool) (a2_16 : Bool) (a2_17 : Int) (a2_18 : Int) (a2_19 : Int) (a2_20 : Int) (a2_21 : Int) (a2_22 : Int) (a2_23 : Int) (a2_24 : Int) (a2_25 : Int) (a2_26 : Int) (a2_27 : Int) (a2_28 : Int) (a2_29 : Int) (a2_30 : Int) (a2_31 : Int) (a2_32 : Bool) (a2_33 : Bool) (a2_34 : Bool) (a2_35 : Bool) (a2_36 : Bool) (a3 : Int) (r1 : Bool) (r2 : List Int) (r3 : List (S63)) (r4 : List (S66)) (r5 : Option Int) (w : World) (hr0 : Kd.C (Kd.int .u8) w A0 l0.length l0) (hc0 : l0.length ≤ c0) (hr1_2 : Kd.C k29 w A1_2 l1_2.length l1_2) (hc1_2 : l1_2.length ≤ c1_2) (hr2_0 : Kd.C (Kd.int .u64) w A2_0 l2_0.length l2_0) (hc2_0 : l2_0.length ≤ c2_0) (h : vers_Read.f l0 a1_0 a1_1 l1_2 l2_0 a2_1 a2_2 a2_3 a2_4 a2_5 a2_6 a2_7 a2_8 a2_9 a2_10 a2_11 a2_12 a2_13 a2_14 a2_15 a2_16 a2_17 a2_18 a2_19 a2_20 a2_21 a2_22 a2_23 a2_24 a2_25 a2_26 a2_27 a2_28 a2_29 a2_30 a2_31 a2_32 a2_33 a2_34 a2_35 a2_36 a3 = some (r1, r2, r3, r4, r5)) :
  Calls Try.prog 18 #[.slice A0 l0.length c0, .agg #[.int .i64 a1_0, .int .u64 a1_1, .slice A1_2 l1_2.length c1_2], .agg #[.slice A2_0 l2_0.length c2_0, .int .u64 a2_1, .int .u64 a2_2, .int .u64 a2_3, .int .u64 a2_4, .int .u64 a2_5, .int .u64 a2_6, .int .u64 a2_7, .int .u64 a2_8, .int .u64 a2_9, .int .u64 a2_10, .int .u64 a2_11, .int .u64 a2_12, .int .u64 a2_13, .bool a2_14, .bool a2_15, .bool a2_16, .int .u64 a2_17, .int .u64 a2_18, .int .u64 a2_19, .int .u64 a2_20, .int .u64 a2_21, .int .u64 a2_22, .int .u64 a2_23, .int .u64 a2_24, .int .u64 a2_25, .int .u64 a2_26, .int .u64 a2_27, .int .u64 a2_28, .int .u64 a2_29, .int .u64 a2_30, .int .u64 a2_31, .bool a2_32, .bool a2_33, .bool a2_34, .bool a2_35, .bool a2_36], .int .i64 a3] w fun e w' => ∃ v1_ v2_ v3_ : Value, e = .returned (.tuple #[.agg #[.bool r1, v1_, v2_, v3_], errW r5]) ∧ Kd.R (Kd.int .i64) 3 w' w.heap.size (fun _ => True) v1_ r2 ∧ Kd.R k63 63 w' w.heap.size (fun _ => True) v2_ r3 ∧ Kd.R k66 66 w' w.heap.size (fun _ => True) v3_ r4 ∧ Below w.heap.size w w' := by
 unfold vers_Read.f at h
 obtain ⟨r, hr, he⟩ := Option.map_eq_some_iff.1 h
 have hv := VersS.readO_calls w A0 c0 l0 a1_0 a1_1 A1_2 c1_2 (l1_2.map cv29) A2_0 c2_0 l2_0 a2_1 a2_2 a2_3 a2_4 a2_5 a2_6 a2_7 a2_8 a2_9 a2_10 a2_11 a2_12 a2_13 a2_14 a2_15 a2_16 a2_17 a2_18 a2_19 a2_20 a2_21 a2_22 a2_23 a2_24 a2_25 a2_26 a2_27 a2_28 a2_29 a2_30 a2_31 a2_32 a2_33 a2_34 a2_35 a2_36 a3 r hr0 hc0 (by rw [List.length_map]; exact C_cv29 hr1_2) (by rw [List.length_map]; exact hc1_2) hr2_0 hc2_0 hr
 rw [List.length_map] at hv
 refine hv.mono ?_
 rintro e w' ⟨v1, v2, v3, rfl, h1, h2, h3, hb⟩
 simp only [Prod.mk.injEq] at he
 obtain ⟨rfl, rfl, rfl, rfl, rfl⟩ := he
 exact ⟨v1, v2, v3, by rw [errW_same], h1, R_df h2, R_nd h3, hb⟩
def shacklelaw08_up.f  : Option (Bool) := some true
theorem shacklelaw08_up.calls  (r : Bool) (w : World) (h : shacklelaw08_up.f  = some r) :
  Calls Try.prog 17 #[] w fun e w' => e = .returned (.bool r) ∧ Below w.heap.size w w' := by
 unfold shacklelaw08_up.f at h
 obtain rfl := Option.some.inj h
 exact VersS.up_calls w
end Go.Proofs.Ythopdoamajjojaa.QVersW
