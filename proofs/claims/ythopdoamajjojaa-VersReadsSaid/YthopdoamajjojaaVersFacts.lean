import Derived.Test.YthopdoamajjojaaVersLaw
import Derived.Test.YthopdoamajjojaaVersTold
namespace Go.Proofs.Ythopdoamajjojaa.VersR
open Go Go.RowKit Go.Proofs.Ythopdoamajjojaa.QVers Go.Proofs.Ythopdoamajjojaa.VersSpec Go.Proofs.Ythopdoamajjojaa.VersS
open TextFacts (textS)
set_option linter.unusedVariables false
def Er (c : Int) : Prop := c = 1 ∨ c = 2 ∨ c = 3 ∨ c = 4 ∨ c = 5
theorem textS_er (l : List Int) (a : Int) (h : (textS l a).2 ≠ 0) : Er (textS l a).2 := by
  unfold textS at h ⊢
  unfold Er
  split
  · simp
  · split
    · simp
    · split
      · simp
      · rename_i h1 h2 h3
        rw [if_neg h1, if_neg h2, if_neg h3] at h
        exact absurd rfl h
section
variable {b : List Int} {ps : List S29} {ss : List Int}
theorem namesS_er : ∀ (n : Nat) (a y : Int) (acc : List ByteArray) (c : Int), namesS b ps ss n a y acc = .error c → Er c
  | 0, _, _, acc, c, h => by
    simp only [namesS] at h
    cases h
  | n + 1, a, y, acc, c, h => by
    simp only [namesS] at h
    split at h
    · injection h with h; subst h; unfold Er; decide
    · split at h
      · rename_i h2
        injection h with h; rw [← h]; exact textS_er _ _ h2
      · split at h
        · injection h with h; subst h; unfold Er; decide
        · exact namesS_er n _ _ _ c h
theorem versionsS_er : ∀ (n : Nat) (a y : Int) (T : List Int) (acc : List Ax) (c : Int), versionsS b ps ss n a y T acc = .error c → Er c
  | 0, _, _, T, acc, c, h => by
    simp only [versionsS] at h
    cases h
  | n + 1, a, y, T, acc, c, h => by
    simp only [versionsS] at h
    split at h
    · injection h with h; subst h; unfold Er; decide
    · split at h
      · rename_i h2
        injection h with h; rw [← h]; exact textS_er _ _ h2
      · split at h
        · injection h with h; subst h; unfold Er; decide
        · split at h
          · injection h with h; subst h; unfold Er; decide
          · split at h
            · injection h with h; subst h; unfold Er; decide
            · exact versionsS_er n _ _ _ _ c h
theorem needsS_er : ∀ (n : Nat) (a y : Int) (T : List Int) (acc : List Nd) (c : Int), needsS b ps ss n a y T acc = .error c → Er c
  | 0, _, _, T, acc, c, h => by
    simp only [needsS] at h
    cases h
  | n + 1, a, y, T, acc, c, h => by
    simp only [needsS] at h
    split at h
    · injection h with h; subst h; unfold Er; decide
    · split at h
      · injection h with h; subst h; unfold Er; decide
      · split at h
        · injection h with h; subst h; unfold Er; decide
        · split at h
          · rename_i h2
            injection h with h; rw [← h]; exact textS_er _ _ h2
          · split at h
            · rename_i h2
              injection h with h; rw [← h]; exact versionsS_er _ _ _ _ _ _ h2
            · split at h
              · injection h with h; subst h; unfold Er; decide
              · exact needsS_er n _ _ _ _ c h
theorem defsS_er : ∀ (n : Nat) (a y : Int) (T : List Int) (acc : List Df) (c : Int), defsS b ps ss n a y T acc = .error c → Er c
  | 0, _, _, T, acc, c, h => by
    simp only [defsS] at h
    cases h
  | n + 1, a, y, T, acc, c, h => by
    simp only [defsS] at h
    split at h
    · injection h with h; subst h; unfold Er; decide
    · split at h
      · injection h with h; subst h; unfold Er; decide
      · split at h
        · injection h with h; subst h; unfold Er; decide
        · split at h
          · injection h with h; subst h; unfold Er; decide
          · split at h
            · rename_i h2
              injection h with h; rw [← h]; exact namesS_er _ _ _ _ _ h2
            · split at h
              · injection h with h; subst h; unfold Er; decide
              · split at h
                · injection h with h; subst h; unfold Er; decide
                · exact defsS_er n _ _ _ _ c h
theorem needsT_er {n a : Int} {T : List Int} {c : Int} (h : needsT b ps ss n a T = .error c) : Er c := by
  unfold needsT at h
  split at h
  · injection h with h; subst h; unfold Er; decide
  · exact needsS_er _ _ _ _ _ _ h
theorem defsT_er {n a : Int} {T : List Int} {c : Int} (h : defsT b ps ss n a T = .error c) : Er c := by
  unfold defsT at h
  split at h
  · injection h with h; subst h; unfold Er; decide
  · exact defsS_er _ _ _ _ _ _ h
theorem strS_er (tab sz : Int) (h : (strS b ps tab sz).2 ≠ 0) : Er (strS b ps tab sz).2 := by
  unfold strS at h ⊢
  unfold Er
  split
  · simp
  · split
    · simp
    · rename_i h1 _ _ h2
      split
      · rename_i h3
        rw [if_neg h1, h2] at h
        simp only [if_pos h3] at h
        exact absurd rfl h
      · simp
theorem ofS_er {T ws : List Int} : ∀ (n i : Nat) (acc : List Int) (c : Int), ofS T ws n i acc = .error c → Er c
  | 0, _, _, c, h => by
    simp only [ofS] at h
    cases h
  | n + 1, i, acc, c, h => by
    simp only [ofS] at h
    split at h
    · injection h with h; subst h; unfold Er; decide
    · exact ofS_er n _ _ c h
theorem rest3_er {ws : List Int} {n : Int} {d : List Df} {nd : List Nd × List Int} {c : Int} (h : rest3 ws n d nd = .error c) : Er c := by
  unfold rest3 at h
  split at h
  · rename_i h2
    injection h with h; rw [← h]; exact ofS_er _ _ _ _ h2
  · cases h
theorem readV_er {tab sz versym verdef defnum verneed neednum n : Int} {c : Int} (h : readV b ps tab sz versym verdef defnum verneed neednum n = .error c) : Er c := by
  rw [readV_eq] at h
  split at h
  · injection h with h; subst h; unfold Er; decide
  · split at h
    · injection h with h; subst h; unfold Er; decide
    · split at h
      · cases h
      · split at h
        · rename_i h2
          injection h with h; rw [← h]; exact strS_er _ _ h2
        · split at h
          · injection h with h; subst h; unfold Er; decide
          · unfold rest1 rest2 at h
            split at h
            · split at h
              · exact rest3_er h
              · split at h
                · rename_i h2
                  injection h with h; rw [← h]; exact needsT_er h2
                · exact rest3_er h
            · split at h
              · rename_i h2
                injection h with h; rw [← h]; exact defsT_er h2
              · split at h
                · exact rest3_er h
                · split at h
                  · rename_i h2
                    injection h with h; rw [← h]; exact needsT_er h2
                  · exact rest3_er h
end
theorem code_er {c : Int} (h : Er c) : shacklelaw00_Code.f (some c) = some c := by
  rcases h with rfl | rfl | rfl | rfl | rfl <;> rfl
theorem code_read (r : Except Int Vs) (h : ∀ c, r = .error c → Er c) : shacklelaw00_Code.f (outR r).2 = some (outI r).2 := by
  cases r with
  | error c => exact code_er (h c rfl)
  | ok x => rfl
theorem out_read (r : Except Int Vs) : (outR r).1 = (outI r).1 := by
  cases r <;> rfl
theorem defsS_par {b : List Int} {ps : List S29} {ss : List Int} : ∀ (n : Nat) (a y : Int) (T : List Int) (acc : List Df) (l : List Df × List Int), defsS b ps ss n a y T acc = .ok l → ∀ p ∈ l.1, p ∈ acc ∨ p.2.2.2.length ≤ 64
  | 0, _, _, T, acc, l, h => by
    simp only [defsS] at h
    injection h with h
    rw [← h]; exact fun p hp => .inl hp
  | n + 1, a, y, T, acc, l, h => by
    simp only [defsS] at h
    split at h
    · cases h
    · split at h
      · cases h
      · split at h
        · cases h
        · split at h
          · cases h
          · rename_i h64
            split at h
            · cases h
            · rename_i hq
              split at h
              · cases h
              · split at h
                · cases h
                · intro p hp
                  rcases defsS_par n _ _ _ _ l h p hp with h1 | h1
                  · rcases List.mem_append.1 h1 with h2 | h2
                    · exact .inl h2
                    · rw [List.mem_singleton.1 h2]
                      have := namesS_len _ _ _ _ _ hq
                      right
                      simp only [List.length_tail, List.length_nil] at this ⊢
                      omega
                  · exact .inr h1
theorem defsT_par {b : List Int} {ps : List S29} {ss : List Int} {n a : Int} {T : List Int} {l : List Df × List Int} (h : defsT b ps ss n a T = .ok l) : ∀ p ∈ l.1, p.2.2.2.length ≤ 64 := by
  unfold defsT at h
  split at h
  · cases h
  · exact fun p hp => (defsS_par _ _ _ _ _ _ h p hp).elim (fun h => by cases h) id
theorem rest3_par {ws : List Int} {n : Int} {d : List Df} {nd : List Nd × List Int} {x : Vs} (h : rest3 ws n d nd = .ok x) : x.2.2.1 = d := by
  unfold rest3 at h
  split at h
  · cases h
  · injection h with h
    rw [← h]
theorem rest2_par {b : List Int} {ps : List S29} {ss ws : List Int} {verneed neednum n : Int} {d : List Df × List Int} {x : Vs} (h : rest2 b ps ss ws verneed neednum n d = .ok x) : x.2.2.1 = d.1 := by
  unfold rest2 at h
  split at h
  · exact rest3_par h
  · split at h
    · cases h
    · exact rest3_par h
theorem readV_par {b : List Int} {ps : List S29} {tab sz versym verdef defnum verneed neednum n : Int} {x : Vs} (h : readV b ps tab sz versym verdef defnum verneed neednum n = .ok x) : ∀ p ∈ x.2.2.1, p.2.2.2.length ≤ 64 := by
  rw [readV_eq] at h
  split at h
  · cases h
  · split at h
    · cases h
    · split at h
      · injection h with h
        rw [← h]; exact fun p hp => by cases hp
      · split at h
        · cases h
        · split at h
          · cases h
          · unfold rest1 at h
            split at h
            · rw [rest2_par h]; exact fun p hp => by cases hp
            · split at h
              · cases h
              · rename_i hq
                rw [rest2_par h]; exact defsT_par hq
theorem readV_lens {b : List Int} {ps : List S29} {tab sz versym verdef defnum verneed neednum n : Int} (b8 : ∀ x ∈ b, 0 ≤ x ∧ x ≤ 255) (po : ∀ p ∈ ps, okP p) (x : Vs) (hx : (outI (readV b ps tab sz versym verdef defnum verneed neednum n)).1 = x) :
    x.2.1.length ≤ 1000000 ∧ x.2.2.1.length ≤ 1000000 ∧ x.2.2.2.length ≤ 1000000 ∧ (∀ p ∈ x.2.2.1, p.2.2.2.length ≤ 1000000) ∧ (∀ p ∈ x.2.2.2, p.2.length ≤ 1000000) := by
  cases hq : readV b ps tab sz versym verdef defnum verneed neednum n with
  | error c =>
    rw [hq] at hx
    rw [← hx]
    exact ⟨by simp [outI], by simp [outI], by simp [outI], fun p hp => (by cases hp), fun p hp => (by cases hp)⟩
  | ok y =>
    rw [hq] at hx
    have hx : y = x := hx
    subst hx
    have hp := readV_par hq
    rcases readV_told b8 po hq with rfl | ⟨_, _, _, _, h1, h2, h3, h4⟩
    · exact ⟨by simp, by simp, by simp, fun p hp => (by cases hp), fun p hp => (by cases hp)⟩
    · refine ⟨by omega, ?_, by omega, fun p hq => Nat.le_trans (hp p hq) (by decide), fun q hq => ?_⟩
      · simp [told] at h3; omega
      · have h2 : (y.2.2.2.flatMap (fun y => y.2.map (fun a => a.1))).length ≤ 5000 := by simp [told] at h3 ⊢; omega
        have h3 : (q.2.map (fun a => a.1)).Sublist (y.2.2.2.flatMap (fun y => y.2.map (fun a => a.1))) := by
          obtain ⟨s, t, e⟩ := List.append_of_mem hq
          rw [e, List.flatMap_append, List.flatMap_cons]
          exact (List.sublist_append_left _ _).trans (List.sublist_append_right _ _)
        have h4 := h3.length_le
        rw [List.length_map] at h4
        omega
end Go.Proofs.Ythopdoamajjojaa.VersR
