/- Plain facts on tables of 32-bit words: their bytes, and the chains of a table of the first kind. -/
import Derived.Test.YthopdoamajjojaaWWords
import Derived.Test.YthopdoamajjojaaHashBits
namespace Go.Proofs.Ythopdoamajjojaa.HashTab
open Go Go.RowKit Go.Proofs.Ythopdoamajjojaa Go.Proofs.YthopdoamajjojaaW.PrintWords

theorem rd_nat (l : List Int) (i : Nat) : rd l (i : Int) = l.getD i 0 := by simp [rd]
theorem getD_at {α : Type} (l : List α) (d : α) (i : Nat) (h : i < l.length) : l.getD i d = l[i] := by
  rw [List.getD_eq_getElem?_getD, List.getElem?_eq_getElem h]; rfl
theorem getD_set_same {α : Type} (l : List α) (d v : α) (i : Nat) (h : i < l.length) : (l.set i v).getD i d = v := by
  rw [getD_at _ _ _ (by simpa using h)]; simp
theorem getD_set_ne {α : Type} (l : List α) (d v : α) (i j : Nat) (h : i ≠ j) : (l.set i v).getD j d = l.getD j d := by
  rw [List.getD_eq_getElem?_getD, List.getD_eq_getElem?_getD, List.getElem?_set_ne h]
theorem wrap_in (i n : Int) (h0 : 0 ≤ i) (h : i < n) (hn : n ≤ 9223372036854775807) : wrap64 (i + 1) = i + 1 := by
  unfold wrap64
  omega
theorem w64 (n : Int) (h0 : -9223372036854775808 ≤ n) (h : n ≤ 9223372036854775807) : wrap64 n = n := by
  unfold wrap64
  omega
theorem u64_in (n : Int) (h0 : 0 ≤ n) (h1 : n < 18446744073709551616) : IntKind.u64.wrap n = n := by
  have e : IntKind.u64.wrap n = n % 18446744073709551616 := by simp [IntKind.wrap, IntKind.bits, IntKind.signed]
  rw [e]; omega

/-! ### the bytes of words -/
def by4 (v : Int) : List Int := [v % 256, v / 256 % 256, v / 65536 % 256, v / 16777216 % 256]
def four (w : List Int) : List Int := w.flatMap by4
theorem four_nil : four [] = [] := rfl
theorem four_cons (v : Int) (w : List Int) : four (v :: w) = by4 v ++ four w := rfl
theorem four_append (a b : List Int) : four (a ++ b) = four a ++ four b := by simp [four]
theorem four_length (w : List Int) : (four w).length = 4 * w.length := by
  induction w with
  | nil => rfl
  | cons v w ih => rw [four_cons, List.length_append, ih, List.length_cons]; simp [by4]; omega
theorem four_getD (w : List Int) : ∀ (i j : Nat), i < w.length → j < 4 → (four w).getD (4 * i + j) 0 = (by4 (w.getD i 0)).getD j 0 := by
  induction w with
  | nil => intro i j h; simp at h
  | cons v w ih =>
    intro i j hi hj
    rw [four_cons]
    cases i with
    | zero =>
      have : 4 * 0 + j < (by4 v).length := by simp [by4]; omega
      rw [List.getD_eq_getElem?_getD, List.getElem?_append_left this]
      simp [List.getD_eq_getElem?_getD]
    | succ i =>
      have h4 : (by4 v).length = 4 := rfl
      rw [List.getD_eq_getElem?_getD, List.getElem?_append_right (by omega), h4, show 4 * (i + 1) + j - 4 = 4 * i + j by omega, ← List.getD_eq_getElem?_getD, ih i j (by simp at hi; omega) hj]
      simp
theorem four_take (w : List Int) (n : Nat) : (four w).take (4 * n) = four (w.take n) := by
  induction w generalizing n with
  | nil => simp [four_nil]
  | cons v w ih =>
    cases n with
    | zero => simp [four_nil]
    | succ n =>
      have h4 : (by4 v).length = 4 := rfl
      rw [four_cons, List.take_succ_cons, four_cons, List.take_append, h4, List.take_of_length_le (by rw [h4]; omega), show 4 * (n + 1) - 4 = 4 * n by omega, ih]
theorem bits_or32 (a b : Nat) (ha : a < 4294967296) (hb : b < 4294967296) : bits .or .u32 (a : Int) (b : Int) = ((a ||| b : Nat) : Int) := by
  have h := Nat.or_lt_two_pow (n := 32) ha hb
  have ha' : a % 2 ^ IntKind.u32.bits = a := Nat.mod_eq_of_lt ha
  have hb' : b % 2 ^ IntKind.u32.bits = b := Nat.mod_eq_of_lt hb
  simp only [bits, BitVec.ofInt_natCast, BitVec.toNat_or, BitVec.toNat_ofNat, ha', hb']
  exact HashBits.u32_nat _ h
theorem or_add (a b i : Nat) (h : a < 2 ^ i) : a ||| (2 ^ i * b) = a + 2 ^ i * b := by
  rw [Nat.or_comm, ← Nat.two_pow_add_eq_or_of_lt h, Nat.add_comm]
theorem or_by (a b c d : Int) (ha : 0 ≤ a ∧ a < 256) (hb : 0 ≤ b ∧ b < 256) (hc : 0 ≤ c ∧ c < 256) (hd : 0 ≤ d ∧ d < 256) :
    Go.bits .or .u32 (Go.bits .or .u32 (Go.bits .or .u32 (a % 4294967296) (((b % 4294967296) * 256) % 4294967296)) (((c % 4294967296) * 65536) % 4294967296)) (((d % 4294967296) * 16777216) % 4294967296)
      = a + 256 * b + 65536 * c + 16777216 * d := by
  obtain ⟨a, rfl⟩ := Int.eq_ofNat_of_zero_le ha.1
  obtain ⟨b, rfl⟩ := Int.eq_ofNat_of_zero_le hb.1
  obtain ⟨c, rfl⟩ := Int.eq_ofNat_of_zero_le hc.1
  obtain ⟨d, rfl⟩ := Int.eq_ofNat_of_zero_le hd.1
  have e1 : (a : Int) % 4294967296 = (a : Int) := by omega
  have e2 : (((b : Int) % 4294967296) * 256) % 4294967296 = ((2 ^ 8 * b : Nat) : Int) := by omega
  have e3 : (((c : Int) % 4294967296) * 65536) % 4294967296 = ((2 ^ 16 * c : Nat) : Int) := by omega
  have e4 : (((d : Int) % 4294967296) * 16777216) % 4294967296 = ((2 ^ 24 * d : Nat) : Int) := by omega
  rw [e1, e2, e3, e4, bits_or32 _ _ (by omega) (by omega), or_add _ _ 8 (by omega), bits_or32 _ _ (by omega) (by omega), or_add _ _ 16 (by omega), bits_or32 _ _ (by omega) (by omega), or_add _ _ 24 (by omega)]
  omega
theorem by4_back (v : Int) (h0 : 0 ≤ v) (h1 : v < 4294967296) : v % 256 + 256 * (v / 256 % 256) + 65536 * (v / 65536 % 256) + 16777216 * (v / 16777216 % 256) = v := by omega
/-- the word at a place of a table's bytes -/
theorem word_at (w : List Int) (i : Nat) (hi : i < w.length) (hw : ∀ x ∈ w, 0 ≤ x ∧ x < 4294967296) :
    Go.bits .or .u32 (Go.bits .or .u32 (Go.bits .or .u32 ((rd (four w) (4 * (i : Int))) % 4294967296) ((((rd (four w) (4 * (i : Int) + 1)) % 4294967296) * 256) % 4294967296)) ((((rd (four w) (4 * (i : Int) + 2)) % 4294967296) * 65536) % 4294967296)) ((((rd (four w) (4 * (i : Int) + 3)) % 4294967296) * 16777216) % 4294967296)
      = w.getD i 0 := by
  have hv := hw (w.getD i 0) (by rw [getD_at _ _ _ hi]; exact List.getElem_mem hi)
  have e0 : rd (four w) (4 * (i : Int)) = w.getD i 0 % 256 := by
    rw [show (4 * (i : Int)) = ((4 * i + 0 : Nat) : Int) by omega, rd_nat, four_getD w i 0 hi (by omega)]; rfl
  have e1 : rd (four w) (4 * (i : Int) + 1) = w.getD i 0 / 256 % 256 := by
    rw [show (4 * (i : Int) + 1) = ((4 * i + 1 : Nat) : Int) by omega, rd_nat, four_getD w i 1 hi (by omega)]; rfl
  have e2 : rd (four w) (4 * (i : Int) + 2) = w.getD i 0 / 65536 % 256 := by
    rw [show (4 * (i : Int) + 2) = ((4 * i + 2 : Nat) : Int) by omega, rd_nat, four_getD w i 2 hi (by omega)]; rfl
  have e3 : rd (four w) (4 * (i : Int) + 3) = w.getD i 0 / 16777216 % 256 := by
    rw [show (4 * (i : Int) + 3) = ((4 * i + 3 : Nat) : Int) by omega, rd_nat, four_getD w i 3 hi (by omega)]; rfl
  rw [e0, e1, e2, e3, or_by _ _ _ _ (by omega) (by omega) (by omega) (by omega), by4_back _ hv.1 hv.2]

/-! ### chains -/
def chain (c : Nat → Int) : Int → List Nat → Prop
  | s, [] => s = 0
  | s, i :: is => s = (i : Int) ∧ 0 < i ∧ chain c (c i) is
theorem chain_same (c d : Nat → Int) : ∀ (is : List Nat) (s : Int), (∀ i ∈ is, c i = d i) → chain c s is → chain d s is
  | [], _, _, h => h
  | i :: is, s, e, h => ⟨h.1, h.2.1, by rw [← e i (by simp)]; exact chain_same c d is _ (fun j hj => e j (by simp [hj])) h.2.2⟩
/-- the places from m on -/
def ups (N m : Nat) : List Nat := List.range' m (N - m)
theorem ups_end (N : Nat) : ups N N = [] := by simp [ups]
theorem ups_step (N m : Nat) (h : m < N) : ups N m = m :: ups N (m + 1) := by
  unfold ups
  rw [show N - m = (N - (m + 1)) + 1 by omega, List.range'_succ]
theorem ups_mem (N m i : Nat) : i ∈ ups N m ↔ m ≤ i ∧ i < N := by
  unfold ups
  rw [List.mem_range'_1]
  omega
theorem ups_length (N m : Nat) : (ups N m).length = N - m := by simp [ups]
end Go.Proofs.Ythopdoamajjojaa.HashTab
