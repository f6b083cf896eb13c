import Derived.Test.YthopdoamajjojaaVersMkD
namespace Go.Proofs.Ythopdoamajjojaa.VersMk
open Go Go.RowKit Go.Proofs.Ythopdoamajjojaa.QVers Go.Proofs.Ythopdoamajjojaa.VersSpec Go.Proofs.Ythopdoamajjojaa.VersS Go.Proofs.YthopdoamajjojaaW.PrintWords
open TextFacts (zeroAt textS u64_in)
set_option linter.unusedSimpArgs false
set_option linter.unusedVariables false
def nextN (N : List ByteArray) (i : Nat) : Int := if i + 1 = N.length then 0 else 16
def verH (h ix a nx : Int) : List Int := leN 4 h ++ leN 2 0 ++ leN 2 ix ++ leN 4 a ++ leN 4 nx
def verE (A N : List ByteArray) (d : Nat) (first : Int) (k : Nat) : List Int := verH (sysv (gN N k)) (first + (k : Int)) (atO A (d + k)) (nextN N k)
theorem verE_len (A N : List ByteArray) (d : Nat) (first : Int) (k : Nat) : (verE A N d first k).length = 16 := by simp [verE, verH, leN_len]
def axOfN (first : Int) : Nat → List ByteArray → List Ax
  | _, [] => []
  | i, s :: l => (first + (i : Int), false, s) :: axOfN first (i + 1) l
theorem axOfN_len (first : Int) (l : List ByteArray) : ∀ i, (axOfN first i l).length = l.length := by
  induction l with
  | nil => intro i; rfl
  | cons s l ih => intro i; simp [axOfN, ih]
theorem vers_read (A N : List ByteArray) (d : Nat) (first : Int) (hA : ∀ s ∈ A, okN s) (hl : A.length ≤ 41) (hN : N.length ≤ 20) (hf : 2 ≤ first ∧ first ≤ 21) (hAN : ∀ i, i < N.length → d + i < A.length ∧ gN A (d + i) = gN N i) (b W Z : List Int) (hb : b = W ++ ((List.range N.length).flatMap (verE A N d first) ++ Z)) (hbl : b.length ≤ 1000000) :
    ∀ (n i : Nat) (a y : Int) (T : List Int) (acc : List Ax), i + n = N.length → (0 ≤ a ∧ 0 ≤ y) → (n ≠ 0 → a + y = 4096 + (W.length : Int) + 16 * (i : Int)) → (∀ x ∈ T, x < first + (i : Int)) →
      ∃ T', versionsS b [p0 (b.length : Int)] (stringsT A) n a y T acc = .ok (acc ++ axOfN first i (N.drop i), T') ∧ (∀ x ∈ T, x ∈ T') ∧ (∀ j : Nat, i ≤ j → j < N.length → first + (j : Int) ∈ T')
  | 0, i, a, y, T, acc, hn, h0, ha, hT => by
    refine ⟨T, ?_, fun x h => h, fun j h1 h2 => by omega⟩
    rw [List.drop_eq_nil_of_le (by omega)]
    simp [versionsS, axOfN]
  | n + 1, i, a, y, T, acc, hn, h0, ha, hT => by
    have hi : i < N.length := by omega
    have ha := ha (by omega)
    obtain ⟨pre, post, e, hp⟩ := flat_at (verE_len A N d first) N.length i hi
    have e1 : b = (W ++ pre) ++ (verE A N d first i ++ (post ++ Z)) := by rw [hb, e]; simp [List.append_assoc]
    have hat : atS b [p0 (b.length : Int)] a y 16 = some (a + y, verE A N d first i) := by
      have := at_at (W ++ pre) (verE A N d first i) (post ++ Z) (by rw [← e1]; exact hbl) a y 16 h0.1 h0.2 (by simp [hp]; omega) (by rw [verE_len]; rfl)
      rw [← e1] at this
      exact this
    have hh := sysv_in (gN N i)
    have hnx : 0 ≤ nextN N i ∧ nextN N i < 4294967296 := by unfold nextN; split <;> omega
    have hix : idxS (first + (i : Int)) = first + (i : Int) := by unfold idxS; omega
    obtain ⟨T', hq, hq1, hq2⟩ := vers_read A N d first hA hl hN hf hAN b W Z hb hbl n (i + 1) (a + y) (nextN N i) ((first + (i : Int)) :: T) (acc ++ [(first + (i : Int), false, gN N i)]) (by omega) ⟨by omega, hnx.1⟩
      (fun hne => by unfold nextN; rw [if_neg (by omega), ha]; omega)
      (fun x hx => by rcases List.mem_cons.1 hx with rfl | h; · omega
                      · have := hT x h; omega)
    refine ⟨T', ?_, fun x hx => hq1 x (List.mem_cons.2 (.inr hx)), fun j h1 h2 => ?_⟩
    · have hdrop : N.drop i = gN N i :: N.drop (i + 1) := by rw [gN_at hi]; exact List.drop_eq_getElem_cons hi
      unfold versionsS
      rw [hat]
      simp only
      unfold verE
      rw [show (verH (sysv (gN N i)) (first + (i : Int)) (atO A (d + i)) (nextN N i)).take 4 = leN 4 (sysv (gN N i)) from rfl, show ((verH (sysv (gN N i)) (first + (i : Int)) (atO A (d + i)) (nextN N i)).take 12).drop 8 = leN 4 (atO A (d + i)) from rfl, show ((verH (sysv (gN N i)) (first + (i : Int)) (atO A (d + i)) (nextN N i)).take 8).drop 6 = leN 2 (first + (i : Int)) from rfl, show (verH (sysv (gN N i)) (first + (i : Int)) (atO A (d + i)) (nextN N i)).drop 12 = leN 4 (nextN N i) from rfl, show rd (verH (sysv (gN N i)) (first + (i : Int)) (atO A (d + i)) (nextN N i)) 4 = 0 from rfl]
      rw [text_num A hA hl (d + i) (hAN i hi).1, (hAN i hi).2, num4 (sysv (gN N i)) hh.1 (by omega), num4 (nextN N i) hnx.1 hnx.2, num2 (first + (i : Int)) (by omega) (by omega), hix]
      rw [if_neg (by simp), if_neg (by simp; omega), if_neg (fun h => by have := hT _ h; omega), if_neg (by unfold nextN; split <;> omega), show weakS 0 = false from rfl, hq, hdrop, axOfN]
      simp [List.append_assoc]
    · by_cases hj : j = i
      · subst hj; exact hq1 _ (List.mem_cons.2 (.inl rfl))
      · exact hq2 j (by omega) h2
def needH (n a0 : Int) : List Int := leN 2 1 ++ leN 2 n ++ leN 4 a0 ++ leN 4 16 ++ leN 4 0
theorem needs_read (A N : List ByteArray) (d : Nat) (first : Int) (hA : ∀ s ∈ A, okN s) (hl : A.length ≤ 41) (hA0 : 0 < A.length) (hN : N.length ≤ 20) (hN0 : N.length ≠ 0) (hf : 2 ≤ first ∧ first ≤ 21) (hAN : ∀ i, i < N.length → d + i < A.length ∧ gN A (d + i) = gN N i) (b W Z : List Int) (hb : b = W ++ (needH (N.length : Int) (atO A 0) ++ ((List.range N.length).flatMap (verE A N d first) ++ Z))) (hbl : b.length ≤ 1000000) (T : List Int) (hT : ∀ x ∈ T, x < first) :
    ∃ T', needsT b [p0 (b.length : Int)] (stringsT A) 1 (4096 + (W.length : Int)) T = .ok ([(gN A 0, axOfN first 0 N)], T') ∧ (∀ x ∈ T, x ∈ T') ∧ (∀ j : Nat, j < N.length → first + (j : Int) ∈ T') := by
  have hat : atS b [p0 (b.length : Int)] (4096 + (W.length : Int)) 0 16 = some (4096 + (W.length : Int) + 0, needH (N.length : Int) (atO A 0)) := by
    have := at_at W (needH (N.length : Int) (atO A 0)) ((List.range N.length).flatMap (verE A N d first) ++ Z) (by rw [← hb]; exact hbl) (4096 + (W.length : Int)) 0 16 (by omega) (by omega) (by omega) (by simp [needH, leN_len])
    rw [← hb] at this
    exact this
  obtain ⟨T', h1, h2, h3⟩ := vers_read A N d first hA hl hN hf hAN b (W ++ needH (N.length : Int) (atO A 0)) Z (by rw [hb]; simp [List.append_assoc]) hbl N.length 0 (4096 + (W.length : Int) + 0) 16 T [] (by omega) ⟨by omega, by omega⟩ (fun _ => by simp [needH, leN_len]; omega) (fun x hx => by have := hT x hx; omega)
  refine ⟨T', ?_, h2, fun j hj => h3 j (by omega) hj⟩
  unfold needsT
  rw [if_neg (by omega), show (1 : Int).toNat = 1 from rfl]
  unfold needsS
  rw [hat]
  simp only
  rw [show (needH (N.length : Int) (atO A 0)).take 2 = leN 2 1 from rfl, show ((needH (N.length : Int) (atO A 0)).take 4).drop 2 = leN 2 (N.length : Int) from rfl, show ((needH (N.length : Int) (atO A 0)).take 8).drop 4 = leN 4 (atO A 0) from rfl, show ((needH (N.length : Int) (atO A 0)).take 12).drop 8 = leN 4 16 from rfl, show (needH (N.length : Int) (atO A 0)).drop 12 = leN 4 0 from rfl]
  rw [num2 1 (by omega) (by omega), num2 (N.length : Int) (by omega) (by omega), num4 16 (by omega) (by omega), num4 0 (by omega) (by omega), text_num A hA hl 0 hA0]
  rw [if_neg (by omega), if_neg (by omega), if_neg (by simp), show ((N.length : Int)).toNat = N.length by omega, h1]
  simp [needsS]
def wordsB (l : List Int) : List Int := l.flatMap (leN 2)
theorem wordsB_len (l : List Int) : (wordsB l).length = 2 * l.length := by
  induction l with
  | nil => rfl
  | cons x l ih =>
    have e : wordsB (x :: l) = leN 2 x ++ wordsB l := by simp [wordsB]
    rw [e, List.length_append, ih, leN_len, List.length_cons]; omega
theorem wordsB_at (l : List Int) : ∀ (i : Nat) (h : i < l.length), ((wordsB l).take (2 * i + 2)).drop (2 * i) = leN 2 l[i] := by
  intro i h
  have e : wordsB l = wordsB (l.take i) ++ (leN 2 l[i] ++ wordsB (l.drop (i + 1))) := by
    have e2 : wordsB l = wordsB (l.take i ++ l[i] :: l.drop (i + 1)) := congrArg wordsB (by rw [← List.drop_eq_getElem_cons h, List.take_append_drop])
    rw [e2]
    simp only [wordsB, List.flatMap_append, List.flatMap_cons]
  have hp : (wordsB (l.take i)).length = 2 * i := by rw [wordsB_len]; simp; omega
  rw [List.drop_take, show 2 * i + 2 - 2 * i = 2 by omega, e, ← hp, List.drop_left]
  exact List.take_left' (leN_len 2 _)
theorem of_read (T l : List Int) (hl : ∀ x ∈ l, (0 ≤ x ∧ x < 32768) ∧ (x ≤ 1 ∨ x ∈ T)) : ∀ (n i : Nat) (acc : List Int), i + n = l.length → ofS T (wordsB l) n i acc = .ok (acc ++ l.drop i)
  | 0, i, acc, hn => by rw [List.drop_eq_nil_of_le (by omega)]; simp [ofS]
  | n + 1, i, acc, hn => by
    have hi : i < l.length := by omega
    have hx := hl l[i] (List.getElem_mem hi)
    unfold ofS
    rw [wordsB_at l i hi, num2 _ hx.1.1 (by omega), show l[i] % 32768 = l[i] by omega, if_neg (fun h => hx.2.elim (fun h1 => by omega) (fun h1 => h.2 h1)), of_read T l hl n (i + 1) _ (by omega), List.drop_eq_getElem_cons hi]
    simp
end Go.Proofs.Ythopdoamajjojaa.VersMk
