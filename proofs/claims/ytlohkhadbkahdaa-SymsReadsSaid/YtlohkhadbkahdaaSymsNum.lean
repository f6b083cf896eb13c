/- The strings, a number's bytes, a text: the program's own functions answer as the plain ones. -/
import Derived.Test.YtlohkhadbkahdaaSymsSpec
namespace Go.Proofs.Ytlohkhadbkahdaa.SymsSpec
open Go Go.RowKit Go.Proofs.Ytlohkhadbkahdaa.QSyms Go.Proofs.YtlohkhadbkahdaaW.PrintWords
open TextFacts (zeroAt textS u64_in)

theorem strS_code (b : List Int) (ps : List S95) (tab sz : Int) : (strS b ps tab sz).2 = 0 ∨ ((strS b ps tab sz).1 = [] ∧ ((strS b ps tab sz).2 = 2 ∨ (strS b ps tab sz).2 = 3 ∨ (strS b ps tab sz).2 = 4)) := by
  unfold strS
  repeat' split
  all_goals simp
theorem strS_ok {b : List Int} {ps : List S95} {tab sz : Int} (h : (strS b ps tab sz).2 = 0) : slc b ps tab sz = some (strS b ps tab sz).1 ∧ (strS b ps tab sz).1.length ≠ 0 ∧ sz ≤ 1048576 := by
  unfold strS at h ⊢
  split
  · rename_i e; rw [if_pos e] at h; simp at h
  · rename_i e
    rw [if_neg e] at h
    cases e2 : slc b ps tab sz with
    | none => rw [e2] at h; simp at h
    | some l =>
      rw [e2] at h
      simp only at h ⊢
      by_cases e3 : l.length ≠ 0 ∧ rd l 0 = 0 ∧ rd l ((l.length : Int) - 1) = 0
      · rw [if_pos e3]; exact ⟨rfl, e3.1, by omega⟩
      · rw [if_neg e3] at h; simp at h
theorem strings_ev (b : List Int) (ps : List S95) (x y : Int) (l2 : List Int) (a2_1 : Int) (a2_2 : Int) (a2_3 : Int) (a2_4 : Int) (a2_5 : Int) (a2_6 : Int) (a2_7 : Int) (a2_8 : Int) (a2_9 : Int) (a2_10 : Int) (a2_11 : Int) (a2_12 : Int) (a2_13 : Int) (a2_14 : Bool) (a2_15 : Bool) (a2_16 : Bool) (a2_17 : Int) (a2_18 : Int) (a2_19 : Int) (a2_20 : Int) (a2_21 : Int) (a2_22 : Int) (a2_23 : Int) (a2_24 : Int) (a2_25 : Int) (a2_26 : Int) (a2_27 : Int) (a2_28 : Int) (a2_29 : Int) (a2_30 : Int) (a2_31 : Int) (a2_32 : Bool) (a2_33 : Bool) (a2_34 : Bool) (a2_35 : Bool) (a2_36 : Bool) (hb : b.length ≤ 9223372036854775807) (hl : ps.length ≤ 9223372036854775807) (hp : ∀ p ∈ ps, ok95 p) (h4 : 0 ≤ a2_4 ∧ a2_4 ≤ 18446744073709551615) (h8 : 0 ≤ a2_8 ∧ a2_8 ≤ 18446744073709551615) :
    Ev (fun k => syms_Strings.f k b x y ps l2 a2_1 a2_2 a2_3 a2_4 a2_5 a2_6 a2_7 a2_8 a2_9 a2_10 a2_11 a2_12 a2_13 a2_14 a2_15 a2_16 a2_17 a2_18 a2_19 a2_20 a2_21 a2_22 a2_23 a2_24 a2_25 a2_26 a2_27 a2_28 a2_29 a2_30 a2_31 a2_32 a2_33 a2_34 a2_35 a2_36) ((strS b ps a2_4 a2_8).1, errOf (strS b ps a2_4 a2_8).2) := by
  by_cases e : a2_8 > 1048576
  · refine Ev_one (Ev.now (0 : Nat)) (fun k _ => ?_)
    unfold syms_Strings.f strS
    rw [if_pos e, if_pos e]; rfl
  · refine Ev_one (slice_ev b ps x y a2_4 a2_8 hb hl hp h4 h8.1 (by omega)) (fun k h => ?_)
    unfold syms_Strings.f strS
    rw [if_neg e, if_neg e, h, Option.bind_some]
    cases e2 : slc b ps a2_4 a2_8 with
    | none => rfl
    | some l =>
      have hlen := slc_len hp h8.1 e2
      rw [show slcR (some l) = (l, none) from rfl]
      simp only [Option.isNone_none, if_true]
      by_cases e3 : (l.length : Int) = 0
      · rw [if_pos e3, if_neg (fun z => z.1 (by omega))]; rfl
      · rw [if_neg e3, if_pos (by omega)]
        by_cases e4 : rd l 0 = 0
        · rw [if_pos e4, w64 ((l.length : Int) - 1) (by omega) (by omega), if_pos (by omega), if_pos (by omega)]
          by_cases e5 : rd l ((l.length : Int) - 1) = 0
          · rw [if_pos e5, if_pos ⟨by omega, e4, e5⟩]; rfl
          · rw [if_neg e5, if_neg (fun z => e5 z.2.2)]; rfl
        · rw [if_neg e4, if_neg (fun z => e4 z.2.1)]; rfl

/-! ### a number's bytes -/
def num : List Int → Int
  | [] => 0
  | x :: l => x + 256 * num l
theorem u64_nat (n : Nat) (h : n < 18446744073709551616) : IntKind.u64.wrap (n : Int) = (n : Int) := u64_in _ (by omega) (by omega)
theorem bits_or64 (a b : Nat) (ha : a < 18446744073709551616) (hb : b < 18446744073709551616) : bits .or .u64 (a : Int) (b : Int) = ((a ||| b : Nat) : Int) := by
  have h := Nat.or_lt_two_pow (n := 64) ha hb
  have ha' : a % 2 ^ IntKind.u64.bits = a := Nat.mod_eq_of_lt ha
  have hb' : b % 2 ^ IntKind.u64.bits = b := Nat.mod_eq_of_lt hb
  simp only [bits, BitVec.ofInt_natCast, BitVec.toNat_or, BitVec.toNat_ofNat, ha', hb']
  exact u64_nat _ h
theorem num_snoc (l : List Int) (x : Int) : num (l ++ [x]) = num l + 256 ^ l.length * x := by
  induction l with
  | nil => simp [num]
  | cons y l ih =>
    simp only [List.cons_append, num, ih, List.length_cons, Int.pow_succ]
    rw [Int.mul_add, ← Int.add_assoc, Int.mul_comm (256 ^ l.length) 256, Int.mul_assoc]
theorem num_in (l : List Int) (h : ∀ x ∈ l, 0 ≤ x ∧ x ≤ 255) : 0 ≤ num l ∧ num l < 256 ^ l.length := by
  induction l with
  | nil => simp [num]
  | cons x l ih =>
    have h1 := h x (by simp)
    have h2 := ih (fun y hy => h y (by simp [hy]))
    simp only [num, List.length_cons, Int.pow_succ]
    omega
theorem num_lt (l : List Int) (h : ∀ x ∈ l, 0 ≤ x ∧ x ≤ 255) (hl : l.length ≤ 8) : 0 ≤ num l ∧ num l < 18446744073709551616 := by
  have h1 := num_in l h
  have h2 : (256 : Int) ^ l.length ≤ 256 ^ 8 := by
    have := Nat.pow_le_pow_right (n := 256) (by decide) hl
    have e : ∀ n : Nat, ((256 ^ n : Nat) : Int) = (256 : Int) ^ n := fun n => by simp
    rw [← e, ← e]; omega
  have h3 : (256 : Int) ^ 8 = 18446744073709551616 := by decide
  omega
theorem step_or (v x : Int) (i : Nat) (hi : i < 8) (hv : 0 ≤ v ∧ v < 256 ^ i) (hx : 0 ≤ x ∧ x ≤ 255) : Go.bits .or .u64 v (shl .u64 (IntKind.u64.wrap x) (wrap64 (8 * (i : Int)))) = v + 256 ^ i * x := by
  obtain ⟨v, rfl⟩ := Int.eq_ofNat_of_zero_le hv.1
  obtain ⟨x, rfl⟩ := Int.eq_ofNat_of_zero_le hx.1
  have e256 : (256 : Nat) ^ i = 2 ^ (8 * i) := by rw [Nat.pow_mul]
  have hpow : 2 ^ (8 * i) ≤ 2 ^ 56 := Nat.pow_le_pow_right (by decide) (by omega)
  have h56 : (2 : Nat) ^ 56 = 72057594037927936 := by decide
  have hv' : v < 2 ^ (8 * i) := by
    have : (v : Int) < ((256 ^ i : Nat) : Int) := by simpa using hv.2
    rw [← e256]; omega
  have hb : 2 ^ (8 * i) * x < 18446744073709551616 := by
    have h1 : 2 ^ (8 * i) * x ≤ 2 ^ (8 * i) * 255 := Nat.mul_le_mul_left _ (by omega)
    omega
  rw [w64 (8 * (i : Int)) (by omega) (by omega), u64_in (x : Int) (by omega) (by omega)]
  unfold shl
  rw [show min (8 * (i : Int)).toNat IntKind.u64.bits = 8 * i by simp only [IntKind.bits]; omega]
  have e1 : (x : Int) * 2 ^ (8 * i) = ((2 ^ (8 * i) * x : Nat) : Int) := by simp [Int.mul_comm]
  rw [e1, u64_nat _ hb, bits_or64 _ _ (by omega) hb]
  have e2 : v ||| (2 ^ (8 * i) * x) = v + 2 ^ (8 * i) * x := by rw [Nat.or_comm, ← Nat.two_pow_add_eq_or_of_lt hv', Nat.add_comm]
  rw [e2, ← e256]
  simp
theorem number_ev (l : List Int) (h : ∀ x ∈ l, 0 ≤ x ∧ x ≤ 255) (hl : l.length ≤ 8) (d : Nat) : ∀ i : Nat, i ≤ l.length → l.length - i = d → Ev (fun k => syms_number.l0 k (num (l.take i)) l (l.length : Int) (i : Int)) (num l) := by
  induction d with
  | zero =>
    intro i hi hd
    refine Ev_after (Ev.now (0 : Nat)) (fun k _ => ?_)
    simp only [syms_number.l0]
    rw [if_neg (by omega), List.take_of_length_le (by omega)]
  | succ d ih =>
    intro i hi hd
    have hil : i < l.length := by omega
    refine Ev_after (ih (i + 1) (by omega) (by omega)) (fun k hk => ?_)
    have hx := h l[i] (List.getElem_mem hil)
    have hv := num_in (l.take i) (fun x hx => h x (List.mem_of_mem_take hx))
    rw [List.length_take, Nat.min_eq_left (by omega)] at hv
    simp only [syms_number.l0]
    rw [if_pos (by omega), if_pos (by omega), if_pos (by omega), if_pos (by rw [w64 _ (by omega) (by omega)]; omega), rd_nat, getD_at _ _ _ hil, step_or _ _ i (by omega) hv hx, w64 ((i : Int) + 1) (by omega) (by omega), show (i : Int) + 1 = ((i + 1 : Nat) : Int) by omega]
    have e : num (l.take (i + 1)) = num (l.take i) + 256 ^ i * l[i] := by
      rw [List.take_succ_eq_append_getElem hil, num_snoc, List.length_take, Nat.min_eq_left (by omega)]
    rw [e] at hk
    exact hk
theorem number_f (l : List Int) (h : ∀ x ∈ l, 0 ≤ x ∧ x ≤ 255) (hl : l.length ≤ 8) : Ev (fun k => syms_number.f k l) (num l) :=
  number_ev l h hl l.length 0 (by omega) (by omega)

/-! ### a text -/
theorem text_code (l : List Int) (a : Int) : (textS l a).2 = 0 ∨ (textS l a).2 = 2 ∨ (textS l a).2 = 4 := by
  unfold textS; repeat' split
  all_goals simp
theorem text_f (l : List Int) (a : Int) (hl : ∀ x ∈ l, 0 ≤ x ∧ x ≤ 255) (hn : l.length ≤ 140737488351232) (h0 : 0 ≤ a) :
    syms_Text.f l a = some ((textS l a).1, errOf (textS l a).2) := by
  unfold syms_Text.f textS
  rw [u64_in l.length (by omega) (by omega)]
  by_cases h1 : a ≥ (l.length : Int)
  · rw [if_pos h1, if_pos h1]; rfl
  · rw [if_neg h1, if_neg h1, if_pos h0, if_pos (by omega)]
    have hd : (l.drop a.toNat).length = l.length - a.toNat := List.length_drop
    have hle := TextFacts.zeroAt_le (l.drop a.toNat)
    unfold bytes_IndexByte.f
    rw [TextFacts.index_zeroAt (l.drop a.toNat) (fun x hx => hl x (List.mem_of_mem_drop hx))]
    simp only [Option.bind_some]
    by_cases h2 : zeroAt (l.drop a.toNat) = (l.drop a.toNat).length
    · rw [if_pos h2, if_pos h2, if_pos (by omega)]; rfl
    · rw [if_neg h2, if_neg h2, if_neg (by omega)]
      by_cases h3 : zeroAt (l.drop a.toNat) > 255
      · rw [if_pos (by omega), if_pos h3]; rfl
      · rw [if_neg (by omega), if_neg h3]
        have e : IntKind.u64.wrap (a + IntKind.u64.wrap (zeroAt (l.drop a.toNat) : Int)) = a + (zeroAt (l.drop a.toNat) : Int) := by
          rw [u64_in (zeroAt (l.drop a.toNat) : Int) (by omega) (by omega), u64_in _ (by omega) (by omega)]
        rw [e, if_pos (by omega), if_pos (by omega)]
        rw [show (a + (zeroAt (l.drop a.toNat) : Int)).toNat = a.toNat + zeroAt (l.drop a.toNat) by omega, TextFacts.take_drop_eq]
        rfl
end Go.Proofs.Ytlohkhadbkahdaa.SymsSpec
