import Derived.Test.YthopdoamajjojaaVersMkN
namespace Go.Proofs.Ythopdoamajjojaa.VersMk
open Go Go.RowKit Go.Proofs.Ythopdoamajjojaa.QVers Go.Proofs.Ythopdoamajjojaa.VersSpec Go.Proofs.Ythopdoamajjojaa.VersS Go.Proofs.YthopdoamajjojaaW.PrintWords
open TextFacts (zeroAt textS u64_in)
set_option linter.unusedSimpArgs false
set_option linter.unusedVariables false
def allA (F : ByteArray) (D N : List ByteArray) : List ByteArray := [F] ++ D ++ N
def firstI (d : Nat) : Int := if (d : Int) + 1 < 2 then 2 else (d : Int) + 1
def defsB (A D : List ByteArray) : List Int := (List.range D.length).flatMap (defE A D)
def versB (A N : List ByteArray) (d : Nat) : List Int := (List.range N.length).flatMap (verE A N (1 + d) (firstI d))
def headB (A N : List ByteArray) : List Int := if 0 < N.length then needH (N.length : Int) (atO A 0) else []
def wantF (d n : Nat) (x : Int) : Int :=
  let y := if x < 0 then -(x + 1) else x
  let w := Int.tmod y (firstI d + (n : Int))
  if (w = (d : Int) + 1 ∧ n = 0) ∨ (w > (d : Int) ∧ w < firstI d) then 0 else w
theorem firstI_in (d : Nat) (hd : d ≤ 20) : 2 ≤ firstI d ∧ firstI d ≤ 21 ∧ (d : Int) + 1 ≤ firstI d ∧ (d ≠ 0 → firstI d = (d : Int) + 1) ∧ (d = 0 → firstI d = 2) := by
  unfold firstI; split <;> omega
theorem wantF_in (d n : Nat) (hd : d ≤ 20) (hn : n ≤ 20) (x : Int) : 0 ≤ wantF d n x ∧ (wantF d n x ≤ (d : Int) ∨ (firstI d ≤ wantF d n x ∧ wantF d n x < firstI d + (n : Int))) := by
  have hf := firstI_in d hd
  obtain ⟨y, hy⟩ : ∃ y, (if x < 0 then -(x + 1) else x) = y := ⟨_, rfl⟩
  have hy0 : 0 ≤ y := by rw [← hy]; split <;> omega
  unfold wantF
  simp only
  rw [hy]
  rw [Int.tmod_eq_emod_of_nonneg hy0]
  have h1 := Int.emod_nonneg y (show firstI d + (n : Int) ≠ 0 by omega)
  have h2 := Int.emod_lt_of_pos y (show 0 < firstI d + (n : Int) by omega)
  generalize y % (firstI d + (n : Int)) = w at h1 h2
  split <;> omega
def blob (A D N : List ByteArray) (W : List Int) : List Int := defsB A D ++ (headB A N ++ (versB A N D.length ++ (wordsB W ++ stringsT A)))
theorem defsB_len (A D : List ByteArray) : (defsB A D).length = 28 * D.length := flat_len (defE_len A D) _
theorem versB_len (A N : List ByteArray) (d : Nat) : (versB A N d).length = 16 * N.length := flat_len (verE_len A N _ _) _
theorem headB_len (A N : List ByteArray) : (headB A N).length = if 0 < N.length then 16 else 0 := by
  unfold headB; split <;> simp [needH, leN_len]
theorem str_last (A : List ByteArray) : ∃ pre, stringsT A = pre ++ [0] := by
  rcases List.eq_nil_or_concat A with h | ⟨l, s, h⟩
  · subst h; exact ⟨[], rfl⟩
  · subst h; rw [List.concat_eq_append, stringsT_snoc]; exact ⟨_, rfl⟩
theorem str_ok (A : List ByteArray) : (stringsT A).length ≠ 0 ∧ rd (stringsT A) 0 = 0 ∧ rd (stringsT A) (((stringsT A).length : Int) - 1) = 0 := by
  obtain ⟨pre, e⟩ := str_last A
  refine ⟨by simp [stringsT], rfl, ?_⟩
  have hl : (((pre ++ [(0 : Int)]).length : Nat) : Int) - 1 = (pre.length : Int) := by simp
  rw [e, hl, rd_nat, getD_at _ _ _ (by simp)]
  simp
theorem gN_defs (F : ByteArray) (D N : List ByteArray) (i : Nat) (hi : i < D.length) : 1 + i < (allA F D N).length ∧ gN (allA F D N) (1 + i) = gN D i := by
  refine ⟨by simp [allA]; omega, ?_⟩
  unfold gN allA
  rw [List.getD_eq_getElem?_getD, List.getD_eq_getElem?_getD, List.append_assoc, List.getElem?_append_right (by simp), List.length_singleton, Nat.add_sub_cancel_left, List.getElem?_append_left hi]
theorem gN_needs (F : ByteArray) (D N : List ByteArray) (i : Nat) (hi : i < N.length) : 1 + D.length + i < (allA F D N).length ∧ gN (allA F D N) (1 + D.length + i) = gN N i := by
  refine ⟨by simp [allA]; omega, ?_⟩
  unfold gN allA
  rw [List.getD_eq_getElem?_getD, List.getD_eq_getElem?_getD, List.getElem?_append_right (by simp; omega)]
  congr 2
  simp; omega
theorem blob_len (F : ByteArray) (D N : List ByteArray) (W : List Int) (hA : ∀ s ∈ allA F D N, okN s) (hD : D.length ≤ 20) (hN : N.length ≤ 20) (hW : W.length ≤ 60) : (blob (allA F D N) D N W).length ≤ 20000 := by
  have h1 := stringsT_len _ hA
  have h2 : (allA F D N).length = 1 + D.length + N.length := by simp [allA]; omega
  have h3 := headB_len (allA F D N) N
  unfold blob
  simp only [List.length_append, defsB_len, versB_len, wordsB_len]
  rw [h3]
  split <;> omega
theorem made_read (F : ByteArray) (D N : List ByteArray) (W : List Int) (hA : ∀ s ∈ allA F D N, okN s) (hD : D.length ≤ 20) (hN : N.length ≤ 20) (hW : W.length ≤ 60) (hw : ∀ x ∈ W, 0 ≤ x ∧ (x ≤ (D.length : Int) ∨ (firstI D.length ≤ x ∧ x < firstI D.length + (N.length : Int))))
    (words text : Nat) (h1 : words = (defsB (allA F D N) D).length + ((headB (allA F D N) N).length + (versB (allA F D N) N D.length).length)) (h2 : text = words + 2 * W.length) :
    readV (blob (allA F D N) D N W) [p0 ((blob (allA F D N) D N W).length : Int)] (4096 + (text : Int)) ((stringsT (allA F D N)).length : Int) (4096 + (words : Int)) (if 0 < D.length then 4096 else 0) (if 0 < D.length then (D.length : Int) else 0) (if 0 < N.length then 4096 + ((defsB (allA F D N) D).length : Int) else 0) (if 0 < N.length then 1 else 0) (W.length : Int) =
      .ok (true, W, dfsOf 0 D, if 0 < N.length then [(F, axOfN (firstI D.length) 0 N)] else []) := by
  have hbl := blob_len F D N W hA hD hN hW
  have hAl : (allA F D N).length = 1 + D.length + N.length := by simp [allA]; omega
  have hTl := stringsT_len _ hA
  have hf := firstI_in D.length hD
  have hso := str_ok (allA F D N)
  have gd := gN_defs F D N
  have gn := gN_needs F D N
  obtain ⟨A, hAe⟩ : ∃ A, allA F D N = A := ⟨_, rfl⟩
  have g0 : gN A 0 = F := by rw [← hAe]; rfl
  rw [hAe] at hbl hAl hTl hso gd gn hA ⊢
  rw [hAe] at h1
  obtain ⟨b, hb⟩ : ∃ b, blob A D N W = b := ⟨_, rfl⟩
  rw [hb] at hbl ⊢
  have eS : b = (defsB A D ++ (headB A N ++ (versB A N D.length ++ wordsB W))) ++ (stringsT A ++ []) := by rw [← hb]; simp [blob, List.append_assoc]
  have eW : b = (defsB A D ++ (headB A N ++ versB A N D.length)) ++ (wordsB W ++ stringsT A) := by rw [← hb]; simp [blob, List.append_assoc]
  have hs : slc b [p0 (b.length : Int)] (4096 + (text : Int)) ((stringsT A).length : Int) = some (stringsT A) := by
    have := slc_at (defsB A D ++ (headB A N ++ (versB A N D.length ++ wordsB W))) (stringsT A) [] (by rw [← eS]; omega) (4096 + (text : Int)) ((stringsT A).length : Int) (by simp only [List.length_append, wordsB_len]; omega) rfl
    rw [← eS] at this
    exact this
  have hws : slc b [p0 (b.length : Int)] (4096 + (words : Int)) (2 * (W.length : Int)) = some (wordsB W) := by
    have := slc_at (defsB A D ++ (headB A N ++ versB A N D.length)) (wordsB W) (stringsT A) (by rw [← eW]; omega) (4096 + (words : Int)) (2 * (W.length : Int)) (by simp only [List.length_append]; omega) (by rw [wordsB_len]; omega)
    rw [← eW] at this
    exact this
  have hstr : strS b [p0 (b.length : Int)] (4096 + (text : Int)) ((stringsT A).length : Int) = (stringsT A, 0) := by
    unfold strS
    rw [if_neg (by omega), hs]
    simp only
    rw [if_pos hso]
  obtain ⟨T1, hd, hT1, hT2⟩ : ∃ T1, (if (if 0 < D.length then (4096 : Int) else 0) = 0 then (.ok ([], []) : Except Int (List Df × List Int)) else defsT b [p0 (b.length : Int)] (stringsT A) (if 0 < D.length then (D.length : Int) else 0) (if 0 < D.length then 4096 else 0) []) = .ok (dfsOf 0 D, T1) ∧ (∀ x ∈ T1, x ≤ (D.length : Int)) ∧ (∀ j : Nat, 1 ≤ j → j ≤ D.length → (j : Int) ∈ T1) := by
    by_cases h : 0 < D.length
    · rw [if_pos h, if_pos h, if_neg (by omega)]
      obtain ⟨T', q1, q2, q3⟩ := defs_read A D hA (by omega) hD gd b (headB A N ++ (versB A N D.length ++ (wordsB W ++ stringsT A))) (by rw [← hb]; rfl) (by omega) D.length 0 4096 0 [] [] (by omega) ⟨by omega, by omega⟩ (fun _ => by omega) (fun x hx => by simp at hx) (fun j h1 h2 => by omega)
      refine ⟨T', ?_, q2, q3⟩
      unfold defsT
      rw [if_neg (by omega), show ((D.length : Int)).toNat = D.length by omega, q1]
      simp
    · have hD0 : D = [] := List.eq_nil_of_length_eq_zero (by omega)
      rw [if_neg h, if_pos rfl]
      refine ⟨[], by subst hD0; rfl, by simp, fun j h1 h2 => by omega⟩
  obtain ⟨T2, hn, hT3, hT4⟩ : ∃ T2, (if (if 0 < N.length then 4096 + ((defsB A D).length : Int) else 0) = 0 then (.ok ([], T1) : Except Int (List Nd × List Int)) else needsT b [p0 (b.length : Int)] (stringsT A) (if 0 < N.length then 1 else 0) (if 0 < N.length then 4096 + ((defsB A D).length : Int) else 0) T1) = .ok (if 0 < N.length then [(F, axOfN (firstI D.length) 0 N)] else [], T2) ∧ (∀ x ∈ T1, x ∈ T2) ∧ (∀ j : Nat, j < N.length → firstI D.length + (j : Int) ∈ T2) := by
    by_cases h : 0 < N.length
    · rw [if_pos h, if_pos h, if_pos h, if_neg (by omega)]
      have hh : headB A N = needH (N.length : Int) (atO A 0) := if_pos h
      obtain ⟨T', q1, q2, q3⟩ := needs_read A N (1 + D.length) (firstI D.length) hA (by omega) (by omega) hN (by omega) ⟨hf.1, hf.2.1⟩ gn b (defsB A D) (wordsB W ++ stringsT A) (by rw [← hb, ← hh]; simp [blob, versB, List.append_assoc]) (by omega) T1 (fun x hx => by have := hT1 x hx; omega)
      refine ⟨T', ?_, q2, q3⟩
      rw [q1, g0]
    · rw [if_neg h, if_pos rfl, if_neg h]
      exact ⟨T1, rfl, fun x h => h, fun j h1 => by omega⟩
  have hof := of_read T2 W (fun x hx => by
    obtain ⟨k1, k2⟩ := hw x hx
    refine ⟨by omega, ?_⟩
    by_cases hx1 : x ≤ 1
    · exact .inl hx1
    · refine .inr ?_
      rcases k2 with k2 | k2
      · have := hT3 _ (hT2 x.toNat (by omega) (by omega))
        rw [show ((x.toNat : Nat) : Int) = x by omega] at this
        exact this
      · have := hT4 (x - firstI D.length).toNat (by omega)
        rw [show firstI D.length + (((x - firstI D.length).toNat : Nat) : Int) = x by omega] at this
        exact this) W.length 0 [] (by omega)
  unfold readV
  rw [if_neg (by omega), if_neg (by omega), if_neg (by omega), hstr]
  simp only [ne_eq, not_true_eq_false, if_false]
  rw [hws]
  simp only
  rw [hd]
  simp only
  rw [hn]
  simp only
  rw [show ((W.length : Int)).toNat = W.length by omega, hof]
  simp
end Go.Proofs.Ythopdoamajjojaa.VersMk
