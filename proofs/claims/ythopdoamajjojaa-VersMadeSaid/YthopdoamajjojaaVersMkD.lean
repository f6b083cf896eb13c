import Derived.Test.YthopdoamajjojaaVersMk
namespace Go.Proofs.Ythopdoamajjojaa.VersMk
open Go Go.RowKit Go.Proofs.Ythopdoamajjojaa.QVers Go.Proofs.Ythopdoamajjojaa.VersSpec Go.Proofs.Ythopdoamajjojaa.VersS Go.Proofs.YthopdoamajjojaaW.PrintWords
open TextFacts (zeroAt textS u64_in)
set_option linter.unusedSimpArgs false
set_option linter.unusedVariables false
def gN (D : List ByteArray) (i : Nat) : ByteArray := D.getD i ByteArray.empty
theorem gN_at {D : List ByteArray} {i : Nat} (h : i < D.length) : gN D i = D[i] := by unfold gN; rw [List.getD_eq_getElem?_getD, List.getElem?_eq_getElem h]; rfl
def defH (h nx : Int) (i : Nat) : List Int := leN 2 1 ++ leN 2 0 ++ leN 2 ((i : Int) + 1) ++ leN 2 1 ++ leN 4 h ++ leN 4 20 ++ leN 4 nx
def defA (a : Int) : List Int := leN 4 a ++ leN 4 0
def nextD (D : List ByteArray) (i : Nat) : Int := if i + 1 = D.length then 0 else 28
def defE (A D : List ByteArray) (i : Nat) : List Int := defH (sysv (gN D i)) (nextD D i) i ++ defA (atO A (1 + i))
theorem defE_len (A D : List ByteArray) (i : Nat) : (defE A D i).length = 28 := by simp [defE, defH, defA, leN_len]
def dfsOf : Nat → List ByteArray → List Df
  | _, [] => []
  | i, s :: l => ((i : Int) + 1, false, s, []) :: dfsOf (i + 1) l
theorem dfsOf_len (l : List ByteArray) : ∀ i, (dfsOf i l).length = l.length := by
  induction l with
  | nil => intro i; rfl
  | cons s l ih => intro i; simp [dfsOf, ih]
theorem text_num (A : List ByteArray) (hA : ∀ s ∈ A, okN s) (hl : A.length ≤ 41) (i : Nat) (hi : i < A.length) : textS (stringsT A) (num (leN 4 (atO A i))) = (gN A i, 0) := by
  have h := atO_in A hA hl i
  rw [num4 _ h.1 (by omega), text_at A hA i hi, gN_at hi]
theorem names_read (b X Z : List Int) (A : List ByteArray) (hA : ∀ s ∈ A, okN s) (hl : A.length ≤ 41) (j : Nat) (hj : j < A.length) (hb : b = X ++ (defA (atO A j) ++ Z)) (hbl : b.length ≤ 1000000) (a y : Int) (h0 : 0 ≤ a) (hy : 0 ≤ y) (ha : a + y = 4096 + (X.length : Int)) :
    namesS b [p0 (b.length : Int)] (stringsT A) 1 a y [] = .ok [gN A j] := by
  subst hb
  unfold namesS
  rw [at_at X (defA (atO A j)) Z hbl a y 8 h0 hy ha (by simp [defA, leN_len])]
  simp only
  rw [show (defA (atO A j)).take 4 = leN 4 (atO A j) from rfl, text_num A hA hl j hj]
  simp only [ne_eq, not_true_eq_false, if_false, and_false]
  rfl
theorem defs_read (A D : List ByteArray) (hA : ∀ s ∈ A, okN s) (hl : A.length ≤ 41) (hD : D.length ≤ 20) (hAD : ∀ i, i < D.length → 1 + i < A.length ∧ gN A (1 + i) = gN D i) (b Z : List Int) (hb : b = (List.range D.length).flatMap (defE A D) ++ Z) (hbl : b.length ≤ 1000000) :
    ∀ (n i : Nat) (a y : Int) (T : List Int) (acc : List Df), i + n = D.length → (0 ≤ a ∧ 0 ≤ y) → (n ≠ 0 → a + y = 4096 + 28 * (i : Int)) → (∀ x ∈ T, x ≤ (i : Int)) → (∀ j : Nat, 1 ≤ j → j ≤ i → (j : Int) ∈ T) →
      ∃ T', defsS b [p0 (b.length : Int)] (stringsT A) n a y T acc = .ok (acc ++ dfsOf i (D.drop i), T') ∧ (∀ x ∈ T', x ≤ (D.length : Int)) ∧ (∀ j : Nat, 1 ≤ j → j ≤ D.length → (j : Int) ∈ T')
  | 0, i, a, y, T, acc, hn, h0, ha, hT, hT2 => by
    refine ⟨T, ?_, ?_, ?_⟩
    · rw [List.drop_eq_nil_of_le (by omega)]
      simp [defsS, dfsOf]
    · intro x hx; have := hT x hx; omega
    · intro j h1 h2; exact hT2 j h1 (by omega)
  | n + 1, i, a, y, T, acc, hn, h0, ha, hT, hT2 => by
    have hi : i < D.length := by omega
    have ha := ha (by omega)
    obtain ⟨pre, post, e, hp⟩ := flat_at (defE_len A D) D.length i hi
    have e1 : b = pre ++ (defH (sysv (gN D i)) (nextD D i) i ++ (defA (atO A (1 + i)) ++ (post ++ Z))) := by rw [hb, e]; simp [defE, List.append_assoc]
    have hat : atS b [p0 (b.length : Int)] a y 20 = some (a + y, defH (sysv (gN D i)) (nextD D i) i) := by
      have := at_at pre (defH (sysv (gN D i)) (nextD D i) i) (defA (atO A (1 + i)) ++ (post ++ Z)) (by rw [← e1]; exact hbl) a y 20 h0.1 h0.2 (by rw [hp]; omega) (by simp [defH, leN_len])
      rw [← e1] at this
      exact this
    have hnm := names_read b (pre ++ defH (sysv (gN D i)) (nextD D i) i) (post ++ Z) A hA hl (1 + i) (hAD i hi).1 (by rw [e1]; simp [List.append_assoc]) hbl (a + y) 20 (by omega) (by omega) (by simp [defH, leN_len, hp]; omega)
    rw [(hAD i hi).2] at hnm
    have hh := sysv_in (gN D i)
    have hnx : 0 ≤ nextD D i ∧ nextD D i < 4294967296 := by unfold nextD; split <;> omega
    have hix : idxS ((i : Int) + 1) = (i : Int) + 1 := by unfold idxS; omega
    obtain ⟨T', hq, hq1, hq2⟩ := defs_read A D hA hl hD hAD b Z hb hbl n (i + 1) (a + y) (nextD D i) (((i : Int) + 1) :: T) (acc ++ [((i : Int) + 1, false, gN D i, [])]) (by omega) ⟨by omega, hnx.1⟩
      (fun hne => by unfold nextD; rw [if_neg (by omega), ha]; omega)
      (fun x hx => by rcases List.mem_cons.1 hx with rfl | h; · omega
                      · have := hT x h; omega)
      (fun j h1 h2 => by
        by_cases hj : j = i + 1
        · subst hj; exact List.mem_cons.2 (.inl (by omega))
        · exact List.mem_cons.2 (.inr (hT2 j h1 (by omega))))
    refine ⟨T', ?_, hq1, hq2⟩
    have hdrop : D.drop i = gN D i :: D.drop (i + 1) := by rw [gN_at hi]; exact List.drop_eq_getElem_cons hi
    unfold defsS
    rw [hat]
    simp only
    rw [show (defH (sysv (gN D i)) (nextD D i) i).take 2 = leN 2 1 from rfl, show ((defH (sysv (gN D i)) (nextD D i) i).take 6).drop 4 = leN 2 ((i : Int) + 1) from rfl, show ((defH (sysv (gN D i)) (nextD D i) i).take 8).drop 6 = leN 2 1 from rfl, show ((defH (sysv (gN D i)) (nextD D i) i).take 16).drop 12 = leN 4 20 from rfl, show ((defH (sysv (gN D i)) (nextD D i) i).take 12).drop 8 = leN 4 (sysv (gN D i)) from rfl, show (defH (sysv (gN D i)) (nextD D i) i).drop 16 = leN 4 (nextD D i) from rfl, show rd (defH (sysv (gN D i)) (nextD D i) i) 2 = 0 from rfl]
    rw [num2 1 (by omega) (by omega), num2 ((i : Int) + 1) (by omega) (by omega), num4 20 (by omega) (by omega), num4 (sysv (gN D i)) hh.1 (by omega), num4 (nextD D i) hnx.1 hnx.2, hix]
    rw [if_neg (by omega), if_neg (fun h => by have := hT _ h; omega), if_neg (by omega), show (1 : Int).toNat = 1 from rfl, hnm]
    simp only [List.headD_cons, List.tail_cons]
    rw [if_neg (by unfold nextD; split <;> omega), show baseS 0 = false from rfl, hq, hdrop, dfsOf]
    simp [List.append_assoc]
end Go.Proofs.Ythopdoamajjojaa.VersMk
