/- What the two functions Text (the program's, the reference's) answer: both the text that stands there, or how it is amiss. -/
import Derived.Test.YtlohkhadbkahdaaQSymsx3
import Derived.Test.YtlohkhadbkahdaaTextFacts
namespace Go.Proofs.Ytlohkhadbkahdaa.SymsText
open Go.RowKit Go.Proofs.Ytlohkhadbkahdaa.QSyms Go.Proofs.YtlohkhadbkahdaaW.PrintWords Go.Proofs.YtlohkhadbkahdaaW.PrintLast
open TextFacts (zeroAt textS u64_in)

/-- the number of an error, as an error -/
def errOf (c : Int) : Option Int := if c = 0 then none else some c
theorem wf8 {l : List Int} (h : ∀ x ∈ l, (Lit.int .u8 x).wf = true) : ∀ x ∈ l, 0 ≤ x ∧ x ≤ 255 := fun x hx => by
  simpa [Lit.wf, IntKind.min, IntKind.max, IntKind.signed, IntKind.bits] using h x hx
theorem wf64 {a : Int} (h : (Lit.int .u64 a).wf = true) : 0 ≤ a ∧ a ≤ 18446744073709551615 := by
  simpa [Lit.wf, IntKind.min, IntKind.max, IntKind.signed, IntKind.bits] using h

theorem text_code (l : List Int) (a : Int) : (textS l a).2 = 0 ∨ (textS l a).2 = 2 ∨ (textS l a).2 = 4 := by
  unfold textS; repeat' split
  all_goals simp
theorem text_f (l : List Int) (a : Int) (hl : ∀ x ∈ l, 0 ≤ x ∧ x ≤ 255) (hn : l.length ≤ 140737488351232) (h0 : 0 ≤ a) :
    syms_Text.f l a = some ((textS l a).1, errOf (textS l a).2) := by
  unfold syms_Text.f textS
  rw [u64_in l.length (by omega) (by omega)]
  by_cases h1 : a ≥ (l.length : Int)
  · rw [if_pos h1, if_pos h1]; rfl
  · rw [if_neg h1, if_neg h1, if_pos h0, if_pos (by omega)]
    have hd : (l.drop a.toNat).length = l.length - a.toNat := List.length_drop
    have hle := TextFacts.zeroAt_le (l.drop a.toNat)
    unfold bytes_IndexByte.f
    rw [TextFacts.index_zeroAt (l.drop a.toNat) (fun x hx => hl x (List.mem_of_mem_drop hx))]
    simp only [Option.bind_some]
    by_cases h2 : zeroAt (l.drop a.toNat) = (l.drop a.toNat).length
    · rw [if_pos h2, if_pos h2, if_pos (by omega)]; rfl
    · rw [if_neg h2, if_neg h2, if_neg (by omega)]
      by_cases h3 : zeroAt (l.drop a.toNat) > 255
      · rw [if_pos (by omega), if_pos h3]; rfl
      · rw [if_neg (by omega), if_neg h3]
        have e : IntKind.u64.wrap (a + IntKind.u64.wrap (zeroAt (l.drop a.toNat) : Int)) = a + (zeroAt (l.drop a.toNat) : Int) := by
          rw [u64_in (zeroAt (l.drop a.toNat) : Int) (by omega) (by omega), u64_in _ (by omega) (by omega)]
        rw [e, if_pos (by omega), if_pos (by omega)]
        rw [show (a + (zeroAt (l.drop a.toNat) : Int)).toNat = a.toNat + zeroAt (l.drop a.toNat) by omega, TextFacts.take_drop_eq]
        rfl

theorem ref_loop (l : List Int) (a : Int) (hn : l.length ≤ 140737488351232) (h0 : 0 ≤ a) (h1 : a < l.length) (d : Nat) : ∀ (k : Nat) (i : Int), a ≤ i → i ≤ a + zeroAt (l.drop a.toNat) → a + zeroAt (l.drop a.toNat) - i = d → d + 1 < k →
    shackleref06_Text.l0 k l a i = some (textS l a) := by
  have hd : (l.drop a.toNat).length = l.length - a.toNat := List.length_drop
  have hle := TextFacts.zeroAt_le (l.drop a.toNat)
  have hu := u64_in l.length (by omega) (by omega)
  have hrd : ∀ i : Int, a ≤ i → rd l i = (l.drop a.toNat).getD (i - a).toNat 0 := fun i hi => by
    rw [TextFacts.getD_drop, rd]; congr 1; omega
  induction d with
  | zero =>
    intro k i hi1 hi2 hd0 hk
    obtain ⟨k, rfl⟩ : ∃ m, k = m + 1 := ⟨k - 1, by omega⟩
    obtain ⟨k, rfl⟩ : ∃ m, k = m + 1 := ⟨k - 1, by omega⟩
    have hi : i = a + zeroAt (l.drop a.toNat) := by omega
    have e1 : IntKind.u64.wrap (i - a) = (zeroAt (l.drop a.toNat) : Int) := by rw [u64_in _ (by omega) (by omega)]; omega
    have last : shackleref06_Text.j1 (k + 1) l a i = some (textS l a) := by
      simp only [shackleref06_Text.j1]
      unfold textS
      rw [hu, e1, if_neg (by omega : ¬ a ≥ (l.length : Int))]
      by_cases g : zeroAt (l.drop a.toNat) = (l.drop a.toNat).length
      · rw [if_pos (by omega), if_pos g]
      · rw [if_neg (by omega), if_neg g]
        by_cases g3 : zeroAt (l.drop a.toNat) > 255
        · rw [if_pos (by omega), if_pos g3]
        · rw [if_neg (by omega), if_neg g3, if_pos h0, if_pos hi1, if_pos (by omega)]
          rw [show i.toNat = a.toNat + zeroAt (l.drop a.toNat) by omega, TextFacts.take_drop_eq]
    rw [shackleref06_Text.l0]
    rw [hu]
    by_cases g : zeroAt (l.drop a.toNat) = (l.drop a.toNat).length
    · rw [if_neg (by omega)]; exact last
    · have z := TextFacts.is_zero (l.drop a.toNat) (by omega)
      rw [if_pos (by omega), if_pos (by omega), if_pos (by omega), if_pos (by rw [hrd i hi1, show (i - a).toNat = zeroAt (l.drop a.toNat) by omega]; exact z)]
      exact last
  | succ d ih =>
    intro k i hi1 hi2 hd0 hk
    obtain ⟨k, rfl⟩ : ∃ m, k = m + 1 := ⟨k - 1, by omega⟩
    have nz := TextFacts.not_zero (l.drop a.toNat) (i - a).toNat (by omega)
    rw [shackleref06_Text.l0, hu, if_pos (by omega), if_pos (by omega), if_pos (by omega), if_neg (by rw [hrd i hi1]; exact nz), u64_in _ (by omega) (by omega)]
    exact ih k (i + 1) (by omega) (by omega) (by omega) (by omega)

theorem ref_f (l : List Int) (a : Int) (hn : l.length ≤ 140737488351232) (h0 : 0 ≤ a) (k : Nat) (hk : l.length + 2 < k) : shackleref06_Text.f k l a = some (textS l a) := by
  unfold shackleref06_Text.f
  rw [u64_in l.length (by omega) (by omega)]
  by_cases h1 : a ≥ (l.length : Int)
  · rw [if_pos h1]; unfold textS; rw [if_pos h1]
  · rw [if_neg h1]
    have hd : (l.drop a.toNat).length = l.length - a.toNat := List.length_drop
    have hle := TextFacts.zeroAt_le (l.drop a.toNat)
    exact ref_loop l a hn h0 (by omega) (zeroAt (l.drop a.toNat)) k a (by omega) (by omega) (by omega) (by omega)

theorem code_errOf (c : Int) (h0 : 0 ≤ c) (h1 : c ≤ 30) : shacklelaw00_Code.f (errOf c) = some c := by
  obtain ⟨n, rfl⟩ := Int.eq_ofNat_of_zero_le h0
  have hn : n ≤ 30 := by omega
  clear h0 h1
  have all : ∀ n : Nat, n < 31 → shacklelaw00_Code.f (errOf (n : Int)) = some (n : Int) := by decide +kernel
  exact all n (by omega)
end Go.Proofs.Ytlohkhadbkahdaa.SymsText
