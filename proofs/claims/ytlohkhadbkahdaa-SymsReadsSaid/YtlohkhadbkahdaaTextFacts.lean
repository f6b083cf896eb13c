/- Plain facts on the text that begins at a place of a table of strings: where its byte 0 stands. -/
import Derived.Lib.Bytealg
import Derived.Laws.BytesArg
import Derived.Laws.BitsLemmas
import Derived.Shelf.Bytes.SlIndexAt
namespace Go.Proofs.Ytlohkhadbkahdaa.TextFacts
open Go Go.RowKit

theorem u64_in (n : Int) (h0 : 0 ≤ n) (h1 : n < 18446744073709551616) : IntKind.u64.wrap n = n := by
  have e : IntKind.u64.wrap n = n % 18446744073709551616 := by simp [IntKind.wrap, IntKind.bits, IntKind.signed]
  rw [e]; omega
/-- so many elements stand ahead of the first 0 -/
def zeroAt (l : List Int) : Nat := l.findIdx (fun x => x == 0)
theorem zeroAt_le (l : List Int) : zeroAt l ≤ l.length := List.findIdx_le_length
theorem zeroAt_nil : zeroAt [] = 0 := rfl
theorem zeroAt_zero (l : List Int) : zeroAt (0 :: l) = 0 := by simp [zeroAt, List.findIdx_cons]
theorem zeroAt_cons (x : Int) (l : List Int) (h : x ≠ 0) : zeroAt (x :: l) = zeroAt l + 1 := by
  have : (x == 0) = false := by simpa using h
  simp [zeroAt, List.findIdx_cons, this]
theorem byte_zero (x : Int) (h0 : 0 ≤ x) (h1 : x ≤ 255) : ((UInt8.ofNat x.toNat) == (0 : UInt8)) = decide (x = 0) := by
  obtain ⟨n, rfl⟩ := Int.eq_ofNat_of_zero_le h0
  rw [Bool.eq_iff_iff]
  simp only [beq_iff_eq, decide_eq_true_eq, Int.toNat_natCast]
  constructor
  · intro h
    have := congrArg UInt8.toNat h
    simp at this
    omega
  · intro h
    have : n = 0 := by omega
    subst this; rfl
theorem index_zeroAt (l : List Int) (hl : ∀ x ∈ l, 0 ≤ x ∧ x ≤ 255) : Lib.indexByte (Lib.bytesOf l) (0 : Int).toNat.toUInt8 = if zeroAt l = l.length then -1 else (zeroAt l : Int) := by
  induction l with
  | nil => rfl
  | cons x l ih =>
    have hx := hl x (by simp)
    have ih := ih (fun y hy => hl y (by simp [hy]))
    have e : Lib.bytesOf (x :: l) = UInt8.ofNat x.toNat :: Lib.bytesOf l := by simp [Lib.bytesOf]
    have z : (0 : Int).toNat.toUInt8 = 0 := rfl
    rw [z] at ih ⊢
    rw [e, Lib.indexByte, byte_zero x hx.1 hx.2, ih]
    by_cases h : x = 0
    · subst h
      simp [zeroAt_zero]
    · have := zeroAt_le l
      rw [zeroAt_cons x l h]
      simp only [h, decide_false, Bool.false_eq_true, if_false, List.length_cons]
      by_cases g : zeroAt l = l.length
      · simp [g]
      · have h2 : ((zeroAt l : Int) == -1) = false := by rw [beq_eq_false_iff_ne]; omega
        have h3 : ¬ zeroAt l + 1 = l.length + 1 := by omega
        simp [g, h2]
/-- the text at a place, or how it is amiss -/
def textS (l : List Int) (a : Int) : ByteArray × Int :=
  if a ≥ (l.length : Int) then (⟨#[]⟩, 4) else
  if zeroAt (l.drop a.toNat) = (l.drop a.toNat).length then (⟨#[]⟩, 4) else
  if zeroAt (l.drop a.toNat) > 255 then (⟨#[]⟩, 2) else (strOfNums ((l.drop a.toNat).take (zeroAt (l.drop a.toNat))), 0)
theorem getD_drop (l : List Int) (a j : Nat) : (l.drop a).getD j 0 = l.getD (a + j) 0 := by
  simp [List.getD_eq_getElem?_getD]
theorem not_zero (l : List Int) (j : Nat) (h : j < zeroAt l) : l.getD j 0 ≠ 0 := by
  have hl : j < l.length := Nat.lt_of_lt_of_le h (zeroAt_le l)
  have := List.not_of_lt_findIdx h
  rw [List.getD_eq_getElem?_getD, List.getElem?_eq_getElem hl]
  simpa using this
theorem is_zero (l : List Int) (h : zeroAt l < l.length) : l.getD (zeroAt l) 0 = 0 := by
  have := List.findIdx_getElem (w := h)
  rw [List.getD_eq_getElem?_getD, List.getElem?_eq_getElem h]
  have e : l[zeroAt l] = 0 := eq_of_beq this
  exact e
theorem take_drop_eq (l : List Int) (a n : Nat) : (l.take (a + n)).drop a = (l.drop a).take n := by
  rw [List.drop_take, Nat.add_sub_cancel_left]
end Go.Proofs.Ytlohkhadbkahdaa.TextFacts
