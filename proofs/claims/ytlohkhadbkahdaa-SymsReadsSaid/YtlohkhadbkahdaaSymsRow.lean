/- The symbols of a file: the plain function. -/
import Derived.Test.YtlohkhadbkahdaaSymsNum
namespace Go.Proofs.Ytlohkhadbkahdaa.SymsSpec
open Go Go.RowKit Go.Proofs.Ytlohkhadbkahdaa.QSyms Go.Proofs.YtlohkhadbkahdaaW.PrintWords
open TextFacts (zeroAt textS u64_in)

def badKind (x : List Int) : Prop := rd x 4 / 16 > 2 ∨ (rd x 4 % 16 > 6 ∧ rd x 4 % 16 ≠ 10) ∨ rd x 4 % 16 = 5
instance (x : List Int) : Decidable (badKind x) := inferInstanceAs (Decidable (_ ∨ _ ∨ _))
def row (s x : List Int) : S68 × Int :=
  if (textS s (num (x.take 4))).2 ≠ 0 then (z68, (textS s (num (x.take 4))).2) else
  if badKind x then (z68, 3) else
  (⟨(textS s (num (x.take 4))).1, rd x 4 / 16, rd x 4 % 16, rd x 5 % 4, rd x 6 + 256 * rd x 7, num ((x.take 16).drop 8), num (x.drop 16)⟩, 0)
def zeros (x : List Int) : Bool := x.all (fun v => v == 0)
def cell (t : List Int) (i : Nat) : List Int := (t.take (24 * i + 24)).drop (24 * i)
def readL (s t : List Int) : Nat → Nat → List S68 → List S68 × Int
  | 0, _, acc => (acc, 0)
  | d + 1, i, acc =>
    if i = 0 ∧ zeros (cell t i) = false then ([], 3) else
    if (row s (cell t i)).2 ≠ 0 then ([], (row s (cell t i)).2) else readL s t d (i + 1) (acc ++ [(row s (cell t i)).1])
def readS (b : List Int) (ps : List S95) (tab sz sym n : Int) : List S68 × Int :=
  if n < 0 then ([], 1) else if n > 4096 then ([], 2) else
  if (strS b ps tab sz).2 ≠ 0 then ([], (strS b ps tab sz).2) else
  match slc b ps sym (24 * n) with
  | none => ([], 4)
  | some t => readL (strS b ps tab sz).1 t n.toNat 0 []
theorem row_code (s x : List Int) : (row s x).2 = 0 ∨ (row s x).2 = 2 ∨ (row s x).2 = 3 ∨ (row s x).2 = 4 := by
  have := text_code s (num (x.take 4))
  unfold row
  split
  · rcases this with e | e | e <;> simp [e]
  · split <;> simp
theorem readL_code (s t : List Int) : ∀ d i acc, (readL s t d i acc).2 = 0 ∨ ((readL s t d i acc).1 = [] ∧ ((readL s t d i acc).2 = 2 ∨ (readL s t d i acc).2 = 3 ∨ (readL s t d i acc).2 = 4))
  | 0, _, _ => .inl rfl
  | d + 1, i, acc => by
    unfold readL
    split
    · simp
    · split
      · rename_i h
        have := row_code s (cell t i)
        simp only [true_and]
        omega
      · exact readL_code s t d (i + 1) _
theorem readS_code (b : List Int) (ps : List S95) (tab sz sym n : Int) : (readS b ps tab sz sym n).2 = 0 ∨ ((readS b ps tab sz sym n).1 = [] ∧ 1 ≤ (readS b ps tab sz sym n).2 ∧ (readS b ps tab sz sym n).2 ≤ 4) := by
  unfold readS
  split
  · simp
  · split
    · simp
    · split
      · rename_i h3
        rcases strS_code b ps tab sz with h | ⟨h1, h2⟩
        · exact .inl h
        · exact .inr ⟨rfl, by simp only; omega⟩
      · split
        · simp
        · rename_i t _
          rcases readL_code (strS b ps tab sz).1 t n.toNat 0 [] with h | ⟨h1, h2⟩
          · exact .inl h
          · exact .inr ⟨h1, by omega⟩
theorem cell_len (t : List Int) (i n : Nat) (h : t.length = 24 * n) (hi : i < n) : (cell t i).length = 24 := by
  unfold cell; simp; omega
theorem cell_mem (t : List Int) (i : Nat) (x : Int) (h : x ∈ cell t i) : x ∈ t := List.mem_of_mem_take (List.mem_of_mem_drop h)
theorem rd_in {l : List Int} (h : ∀ x ∈ l, 0 ≤ x ∧ x ≤ 255) (i : Nat) (hi : i < l.length) : 0 ≤ rd l (i : Int) ∧ rd l (i : Int) ≤ 255 := by
  rw [rd_nat, getD_at _ _ _ hi]; exact h _ (List.getElem_mem hi)
theorem and_mask (a k m : Nat) (ha : a < 256) (hm : m = 2 ^ k - 1) (hm2 : m < 256) : Go.bits .and .u8 (a : Int) (m : Int) = ((a % 2 ^ k : Nat) : Int) := by
  have h := Nat.and_lt_two_pow (n := 8) a (y := m) hm2
  have ha' : a % 2 ^ IntKind.u8.bits = a := Nat.mod_eq_of_lt ha
  have hb' : m % 2 ^ IntKind.u8.bits = m := Nat.mod_eq_of_lt hm2
  simp only [bits, BitVec.ofInt_natCast, BitVec.toNat_and, BitVec.toNat_ofNat, ha', hb']
  rw [IntKind.wrap_u8, hm, Nat.and_two_pow_sub_one_eq_mod]
  have : a % 2 ^ k ≤ a := Nat.mod_le _ _
  omega
theorem and15 (a : Int) (h : 0 ≤ a ∧ a ≤ 255) : Go.bits .and .u8 a 15 = a % 16 := by
  obtain ⟨a, rfl⟩ := Int.eq_ofNat_of_zero_le h.1
  exact and_mask a 4 15 (by omega) rfl (by omega)
theorem and3 (a : Int) (h : 0 ≤ a ∧ a ≤ 255) : Go.bits .and .u8 a 3 = a % 4 := by
  obtain ⟨a, rfl⟩ := Int.eq_ofNat_of_zero_le h.1
  exact and_mask a 2 3 (by omega) rfl (by omega)
theorem num_two (l : List Int) (h : l.length = 2) : num l = rd l 0 + 256 * rd l 1 := by
  match l, h with
  | [a, b], _ => simp [num, rd]
theorem rd_cut (x : List Int) (a b i : Nat) (h : a + i < b) : rd ((x.take b).drop a) (i : Int) = rd x ((a + i : Nat) : Int) := by
  rw [rd_nat, rd_nat, List.getD_eq_getElem?_getD, List.getElem?_drop, List.getElem?_take, if_pos h, ← List.getD_eq_getElem?_getD]
theorem same_zero : ∀ (x : List Int), (∀ v ∈ x, 0 ≤ v ∧ v ≤ 255) → ((x.map fun n => UInt8.ofNat n.toNat) == ((List.replicate x.length (0 : Int)).map fun n => UInt8.ofNat n.toNat)) = zeros x
  | [], _ => rfl
  | v :: x, h => by
    have ih := same_zero x (fun w hw => h w (by simp [hw]))
    have h1 := h v (by simp)
    have h2 := TextFacts.byte_zero v h1.1 h1.2
    simp only [List.length_cons, List.replicate_succ, List.map_cons, List.cons_beq_cons]
    rw [ih, show (UInt8.ofNat (0 : Int).toNat) = (0 : UInt8) from rfl, h2]
    unfold zeros
    rw [List.all_cons]
    congr 1
theorem equal_f (x : List Int) (h : ∀ v ∈ x, 0 ≤ v ∧ v ≤ 255) (hl : x.length = 24) : bytes_Equal.f x (List.replicate 24 0) = some (zeros x) := by
  unfold bytes_Equal.f
  rw [ByteArray.toList_eq, ByteArray.toList_eq, strOfNums_data, strOfNums_data, ← hl, same_zero x h]
end Go.Proofs.Ytlohkhadbkahdaa.SymsSpec
