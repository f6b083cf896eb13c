/- Names in the order of their buckets; and plain facts on 64-bit words. -/
import Derived.Test.YthopdoamajjojaaHashReadB
namespace Go.Proofs.Ythopdoamajjojaa.HashOrd
open Go Go.RowKit Go.Proofs.Ythopdoamajjojaa Go.Proofs.YthopdoamajjojaaW.PrintWords Go.Proofs.Ythopdoamajjojaa.HashTab Go.Proofs.Ythopdoamajjojaa.HashReadB

def gh (s : ByteArray) : Nat := (gnu s).toNat
theorem gh_lt (s : ByteArray) : gh s < 4294967296 := by have := gnu_in s; unfold gh; omega
theorem gh_int (s : ByteArray) : gnu s = (gh s : Int) := by have := gnu_in s; unfold gh; omega
def upto (names : List ByteArray) (n m : Nat) : List ByteArray := (List.range m).flatMap (fun b => names.filter (fun s => gh s % n = b))
theorem upto_succ (names : List ByteArray) (n m : Nat) : upto names n (m + 1) = upto names n m ++ names.filter (fun s => gh s % n = m) := by
  unfold upto
  rw [List.range_succ, List.flatMap_append]
  simp
theorem filter_split (l : List ByteArray) (n m : Nat) : (l.filter (fun s => gh s % n < m)).length + (l.filter (fun s => gh s % n = m)).length = (l.filter (fun s => gh s % n < m + 1)).length := by
  induction l with
  | nil => rfl
  | cons s l ih =>
    simp only [List.filter_cons, decide_eq_true_eq]
    by_cases h1 : gh s % n < m
    · rw [if_pos h1, if_neg (by omega), if_pos (by omega)]; simp only [List.length_cons]; omega
    · by_cases h2 : gh s % n = m
      · rw [if_neg h1, if_pos h2, if_pos (by omega)]; simp only [List.length_cons]; omega
      · rw [if_neg h1, if_neg h2, if_neg (by omega)]; exact ih
theorem upto_len (names : List ByteArray) (n : Nat) : ∀ m, (upto names n m).length = (names.filter (fun s => gh s % n < m)).length
  | 0 => by
    have e : names.filter (fun s => decide (gh s % n < 0)) = [] := List.filter_eq_nil_iff.2 (by simp)
    rw [e]; rfl
  | m + 1 => by rw [upto_succ, List.length_append, upto_len names n m, filter_split]
theorem upto_all (names : List ByteArray) (n : Nat) (hn : 0 < n) : (upto names n n).length = names.length := by
  rw [upto_len, List.filter_eq_self.2 (fun s _ => decide_eq_true (Nat.mod_lt _ hn))]
theorem upto_mem (names : List ByteArray) (n m : Nat) (s : ByteArray) (h : s ∈ upto names n m) : gh s % n < m ∧ s ∈ names := by
  unfold upto at h
  obtain ⟨b, hb, hs⟩ := List.mem_flatMap.1 h
  have h1 := List.mem_range.1 hb
  have h2 := List.mem_filter.1 hs
  have h3 : gh s % n = b := of_decide_eq_true h2.2
  exact ⟨by omega, h2.1⟩
theorem upto_sorted (names : List ByteArray) (n : Nat) : ∀ m, (upto names n m).Pairwise (fun s t => gh s % n ≤ gh t % n)
  | 0 => by simp [upto]
  | m + 1 => by
    rw [upto_succ, List.pairwise_append]
    have hf : ∀ s ∈ names.filter (fun s => decide (gh s % n = m)), gh s % n = m := fun s hs => of_decide_eq_true (List.mem_filter.1 hs).2
    refine ⟨upto_sorted names n m, ?_, fun s hs t ht => ?_⟩
    · refine List.pairwise_iff_getElem.2 (fun i j hi hj _ => ?_)
      rw [hf _ (List.getElem_mem hi), hf _ (List.getElem_mem hj)]
      exact Nat.le_refl _
    · have h1 := (upto_mem names n m s hs).1
      have h2 := hf t ht
      omega

/-! ### 64-bit words -/
theorem u64_nat (n : Nat) (h : n < 18446744073709551616) : IntKind.u64.wrap (n : Int) = (n : Int) := u64_in _ (by omega) (by omega)
theorem bits_or64 (a b : Nat) (ha : a < 18446744073709551616) (hb : b < 18446744073709551616) : bits .or .u64 (a : Int) (b : Int) = ((a ||| b : Nat) : Int) := by
  have h := Nat.or_lt_two_pow (n := 64) ha hb
  have ha' : a % 2 ^ IntKind.u64.bits = a := Nat.mod_eq_of_lt ha
  have hb' : b % 2 ^ IntKind.u64.bits = b := Nat.mod_eq_of_lt hb
  simp only [bits, BitVec.ofInt_natCast, BitVec.toNat_or, BitVec.toNat_ofNat, ha', hb']
  exact u64_nat _ h
theorem bits_and64 (a b : Nat) (ha : a < 18446744073709551616) (hb : b < 18446744073709551616) : bits .and .u64 (a : Int) (b : Int) = ((a &&& b : Nat) : Int) := by
  have h := Nat.and_lt_two_pow (n := 64) a (y := b) hb
  have ha' : a % 2 ^ IntKind.u64.bits = a := Nat.mod_eq_of_lt ha
  have hb' : b % 2 ^ IntKind.u64.bits = b := Nat.mod_eq_of_lt hb
  simp only [bits, BitVec.ofInt_natCast, BitVec.toNat_and, BitVec.toNat_ofNat, ha', hb']
  exact u64_nat _ h
theorem shl_one (j : Nat) (h : j < 64) : shl .u64 1 (j : Int) = ((2 ^ j : Nat) : Int) := by
  have hp : 2 ^ j < 2 ^ 64 := Nat.pow_lt_pow_right (by decide) h
  unfold shl
  rw [show min (j : Int).toNat IntKind.u64.bits = j by simp only [IntKind.bits]; omega, Int.one_mul, show ((2 : Int) ^ j) = ((2 ^ j : Nat) : Int) by simp, u64_nat _ hp]
theorem shr_nat32 (x j : Nat) (h : j < 32) : shr .u32 (x : Int) (j : Int) = ((x / 2 ^ j : Nat) : Int) := by
  unfold shr
  rw [show min (j : Int).toNat IntKind.u32.bits = j by simp only [IntKind.bits]; omega]
  simp
theorem shr_nat64 (x j : Nat) (h : j < 64) : shr .u64 (x : Int) (j : Int) = ((x / 2 ^ j : Nat) : Int) := by
  unfold shr
  rw [show min (j : Int).toNat IntKind.u64.bits = j by simp only [IntKind.bits]; omega]
  simp
theorem or_one (a : Nat) : a ||| 1 = a / 2 * 2 + 1 := by
  have e : a = 2 ^ 1 * (a / 2) ||| a % 2 := by
    rw [← Nat.two_pow_add_eq_or_of_lt (show a % 2 < 2 ^ 1 by omega)]; omega
  have e2 : (a % 2) ||| 1 = 1 := by rcases Nat.mod_two_eq_zero_or_one a with h | h <;> rw [h] <;> rfl
  conv => lhs; rw [e, Nat.or_assoc, e2]
  rw [← Nat.two_pow_add_eq_or_of_lt (show 1 < 2 ^ 1 by omega)]
  omega
theorem bit_of (x j : Nat) (hx : x < 18446744073709551616) (hj : j < 64) : bits .and .u64 (shr .u64 (x : Int) (j : Int)) 1 = if x.testBit j then 1 else 0 := by
  have h1 : x / 2 ^ j < 18446744073709551616 := Nat.lt_of_le_of_lt (Nat.div_le_self _ _) hx
  rw [shr_nat64 x j hj, show (1 : Int) = ((1 : Nat) : Int) from rfl, bits_and64 _ _ h1 (by omega), Nat.and_one_is_mod, Nat.testBit_eq_decide_div_mod_eq]
  rcases Nat.mod_two_eq_zero_or_one (x / 2 ^ j) with h | h <;> rw [h] <;> simp
theorem and_one32 (c : Nat) (hc : c < 4294967296) : bits .and .u32 (c : Int) 1 = ((c % 2 : Nat) : Int) := by
  rw [show (1 : Int) = ((1 : Nat) : Int) from rfl, HashBits.bits_and32 _ _ hc (by omega), Nat.and_one_is_mod]
theorem or_one32 (c : Nat) (hc : c < 4294967296) : bits .or .u32 (c : Int) 1 = ((c / 2 * 2 + 1 : Nat) : Int) := by
  rw [show (1 : Int) = ((1 : Nat) : Int) from rfl, bits_or32 _ _ hc (by omega), or_one]
/-- a bloom word is two -/
theorem two_words (x : Nat) (hx : x < 18446744073709551616) : bits .or .u64 (IntKind.u64.wrap ((x : Int) % 4294967296)) (IntKind.u64.wrap (IntKind.u64.wrap ((x : Int) / 4294967296) * 4294967296)) = (x : Int) := by
  rw [u64_in ((x : Int) / 4294967296) (by omega) (by omega), u64_in ((x : Int) % 4294967296) (by omega) (by omega), u64_in _ (by omega) (by omega),
    show ((x : Int) % 4294967296) = ((x % 2 ^ 32 : Nat) : Int) by omega, show ((x : Int) / 4294967296 * 4294967296) = ((2 ^ 32 * (x / 2 ^ 32) : Nat) : Int) by omega, bits_or64 _ _ (by omega) (by omega), or_add _ _ 32 (by omega)]
  omega
end Go.Proofs.Ythopdoamajjojaa.HashOrd
