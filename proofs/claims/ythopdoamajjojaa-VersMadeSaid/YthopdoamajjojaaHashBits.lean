import Derived.Laws.BitsLemmas
namespace Go.Proofs.Ythopdoamajjojaa.HashBits
open Go
theorem u32_nat (n : Nat) (h : n < 4294967296) : IntKind.u32.wrap (n : Int) = (n : Int) := by rw [IntKind.wrap_u32]; omega
theorem bits_and32 (a b : Nat) (ha : a < 4294967296) (hb : b < 4294967296) : bits .and .u32 (a : Int) (b : Int) = ((a &&& b : Nat) : Int) := by
  have h := Nat.and_lt_two_pow (n := 32) a hb
  have ha' : a % 2 ^ IntKind.u32.bits = a := Nat.mod_eq_of_lt ha
  have hb' : b % 2 ^ IntKind.u32.bits = b := Nat.mod_eq_of_lt hb
  simp only [bits, BitVec.ofInt_natCast, BitVec.toNat_and, BitVec.toNat_ofNat, ha', hb']
  exact u32_nat _ h
theorem bits_xor32 (a b : Nat) (ha : a < 4294967296) (hb : b < 4294967296) : bits .xor .u32 (a : Int) (b : Int) = ((a ^^^ b : Nat) : Int) := by
  have h := Nat.xor_lt_two_pow (n := 32) ha hb
  have ha' : a % 2 ^ IntKind.u32.bits = a := Nat.mod_eq_of_lt ha
  have hb' : b % 2 ^ IntKind.u32.bits = b := Nat.mod_eq_of_lt hb
  simp only [bits, BitVec.ofInt_natCast, BitVec.toNat_xor, BitVec.toNat_ofNat, ha', hb']
  exact u32_nat _ h
theorem bits_andNot32 (a b : Nat) (ha : a < 4294967296) (hb : b < 4294967296) : bits .andNot .u32 (a : Int) (b : Int) = ((a &&& (4294967296 - (b + 1)) : Nat) : Int) := by
  have h := Nat.and_lt_two_pow (n := 32) a (y := 4294967296 - (b + 1)) (by omega)
  have ha' : a % 2 ^ IntKind.u32.bits = a := Nat.mod_eq_of_lt ha
  have hb' : b % 2 ^ IntKind.u32.bits = b := Nat.mod_eq_of_lt hb
  have hc : 2 ^ IntKind.u32.bits - 1 - b = 4294967296 - (b + 1) := by show 4294967296 - 1 - b = _; omega
  simp only [bits, BitVec.ofInt_natCast, BitVec.toNat_and, BitVec.toNat_not, BitVec.toNat_ofNat, ha', hb', hc]
  exact u32_nat _ h
theorem top_bits (i : Nat) : Nat.testBit 4026531840 i = (decide (28 ≤ i) && decide (i < 32)) := by
  rw [show (4026531840 : Nat) = 15 <<< 28 from rfl, Nat.testBit_shiftLeft]
  by_cases h : 28 ≤ i
  · rw [show (15 : Nat) = 2 ^ 4 - 1 from rfl, Nat.testBit_two_pow_sub_one]
    simp [h]; omega
  · simp [h]
theorem sysv_nat (v : Nat) (hv : v < 4294967296) :
    (v ^^^ ((v &&& 4026531840) / 16777216)) &&& (4294967296 - ((v &&& 4026531840) + 1)) = (v ^^^ (v / 268435456 * 16)) % 268435456 := by
  have hg : v &&& 4026531840 < 2 ^ 32 := Nat.and_lt_two_pow (n := 32) v (by omega)
  have e1 : (v &&& 4026531840) / 16777216 = (v &&& 4026531840) >>> 24 := by rw [Nat.shiftRight_eq_div_pow]
  have e2 : v / 268435456 * 16 = (v >>> 28) <<< 4 := by rw [Nat.shiftRight_eq_div_pow, Nat.shiftLeft_eq]
  rw [e1, e2, show (268435456 : Nat) = 2 ^ 28 from rfl, show (4294967296 : Nat) = 2 ^ 32 from rfl]
  apply Nat.eq_of_testBit_eq
  intro i
  have hvi : ∀ j, 32 ≤ j → v.testBit j = false := fun j hj => Nat.testBit_lt_two_pow (Nat.lt_of_lt_of_le hv (Nat.pow_le_pow_right (n := 2) (by decide) hj))
  rw [Nat.testBit_and, Nat.testBit_two_pow_sub_succ hg, Nat.testBit_mod_two_pow]
  simp only [Nat.testBit_xor, Nat.testBit_shiftRight, Nat.testBit_shiftLeft, Nat.testBit_and, top_bits]
  by_cases h28 : i < 28
  · by_cases h4 : 4 ≤ i
    · rw [show 28 + (i - 4) = 24 + i by omega]
      by_cases h8 : i < 8
      · simp [h28, h4, show 28 ≤ 24 + i by omega, show 24 + i < 32 by omega, show ¬ 28 ≤ i by omega]; omega
      · rw [hvi (24 + i) (by omega)]
        simp [h28, show ¬ 28 ≤ i by omega]; omega
    · simp [h28, h4, show ¬ 28 ≤ 24 + i by omega, show ¬ 28 ≤ i by omega]; omega
  · by_cases h32 : i < 32
    · simp [h28, h32, show 28 ≤ i by omega, show ¬ 24 + i < 32 by omega]
    · simp [h28, h32]
theorem sysv_step (v : Nat) (hv : v < 4294967296) :
    bits .andNot .u32 (bits .xor .u32 (v : Int) (bits .and .u32 (v : Int) 4026531840 / 16777216)) (bits .and .u32 (v : Int) 4026531840)
      = Int.tmod (bits .xor .u32 (v : Int) (((v : Int) / 268435456 * 16) % 4294967296)) 268435456 := by
  have hg : v &&& 4026531840 < 4294967296 := Nat.and_lt_two_pow (n := 32) v (by omega)
  have hx : v ^^^ ((v &&& 4026531840) / 16777216) < 4294967296 := Nat.xor_lt_two_pow (n := 32) hv (by omega)
  have e1 : bits .and .u32 (v : Int) 4026531840 = ((v &&& 4026531840 : Nat) : Int) := bits_and32 v 4026531840 hv (by omega)
  have e2 : ((v &&& 4026531840 : Nat) : Int) / 16777216 = (((v &&& 4026531840) / 16777216 : Nat) : Int) := by simp
  have e3 : ((v : Int) / 268435456 * 16) % 4294967296 = ((v / 268435456 * 16 : Nat) : Int) := by
    rw [Int.emod_eq_of_lt (by omega) (by omega)]; simp
  rw [e1, e2, e3, bits_xor32 _ _ hv (by omega), bits_xor32 _ _ hv (by omega), bits_andNot32 _ _ hx hg, sysv_nat v hv]
  rw [Int.tmod_eq_emod_of_nonneg (by omega)]
  simp
theorem sysv_lt (v : Nat) (hv : v < 4294967296) : bits .andNot .u32 (bits .xor .u32 (v : Int) (bits .and .u32 (v : Int) 4026531840 / 16777216)) (bits .and .u32 (v : Int) 4026531840) < 268435456
    ∧ 0 ≤ bits .andNot .u32 (bits .xor .u32 (v : Int) (bits .and .u32 (v : Int) 4026531840 / 16777216)) (bits .and .u32 (v : Int) 4026531840) := by
  rw [sysv_step v hv]
  have e3 : ((v : Int) / 268435456 * 16) % 4294967296 = ((v / 268435456 * 16 : Nat) : Int) := by
    rw [Int.emod_eq_of_lt (by omega) (by omega)]; simp
  rw [e3, bits_xor32 _ _ hv (by omega), Int.tmod_eq_emod_of_nonneg (by omega)]
  omega
end Go.Proofs.Ythopdoamajjojaa.HashBits
