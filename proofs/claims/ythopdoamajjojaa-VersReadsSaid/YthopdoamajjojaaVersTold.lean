import Derived.Test.YthopdoamajjojaaVersFin
namespace Go.Proofs.Ythopdoamajjojaa.VersS
open Go Go.RowKit Go.Proofs.Ythopdoamajjojaa.QVers Go.Proofs.Ythopdoamajjojaa.VersSpec Go.Proofs.YthopdoamajjojaaW.PrintWords
open TextFacts (textS u64_in)
def GoodT (T : List Int) : Prop := T.Nodup ∧ ∀ x ∈ T, 1 ≤ x ∧ x ≤ 32767
theorem GoodT.cons {T : List Int} {x : Int} (h : GoodT T) (hx : x ∉ T) (h1 : 1 ≤ x) (h2 : x ≤ 32767) : GoodT (x :: T) :=
  ⟨List.nodup_cons.2 ⟨hx, h.1⟩, fun y hy => by
    rcases List.mem_cons.1 hy with rfl | hy
    · exact ⟨h1, h2⟩
    · exact h.2 y hy⟩
section
variable {b : List Int} {ps : List S29} {ss : List Int}
theorem versionsS_told : ∀ (n : Nat) (a y : Int) (T : List Int) (acc : List Ax) (l : List Ax × List Int), versionsS b ps ss n a y T acc = .ok l → GoodT T → ∃ new : List Ax, l.1 = acc ++ new ∧ l.2 = (new.map (fun x => x.1)).reverse ++ T ∧ GoodT l.2
  | 0, _, _, T, acc, l, h, hT => by
    simp only [versionsS] at h
    injection h with h
    exact ⟨[], by rw [← h]; simp, by rw [← h]; simp, by rw [← h]; exact hT⟩
  | n + 1, a, y, T, acc, l, h, hT => by
    simp only [versionsS] at h
    split at h
    · cases h
    · split at h
      · cases h
      · split at h
        · cases h
        · rename_i h1
          split at h
          · cases h
          · rename_i h2
            split at h
            · cases h
            · rename_i x _ _ _
              have h3 := idx_in (num ((x.2.take 8).drop 6))
              have h4 : ¬ idxS (num ((x.2.take 8).drop 6)) < 2 := fun h => h1 (.inr h)
              obtain ⟨new, e1, e2, e3⟩ := versionsS_told n _ _ _ _ l h (hT.cons h2 (by omega) h3.2)
              exact ⟨_ :: new, by rw [e1, List.append_assoc]; rfl, by rw [e2]; simp, e3⟩
theorem defsS_told : ∀ (n : Nat) (a y : Int) (T : List Int) (acc : List Df) (l : List Df × List Int), defsS b ps ss n a y T acc = .ok l → GoodT T → ∃ new : List Df, l.1 = acc ++ new ∧ l.2 = (new.map (fun x => x.1)).reverse ++ T ∧ GoodT l.2
  | 0, _, _, T, acc, l, h, hT => by
    simp only [defsS] at h
    injection h with h
    exact ⟨[], by rw [← h]; simp, by rw [← h]; simp, by rw [← h]; exact hT⟩
  | n + 1, a, y, T, acc, l, h, hT => by
    simp only [defsS] at h
    split at h
    · cases h
    · split at h
      · cases h
      · rename_i h1
        split at h
        · cases h
        · rename_i h2
          split at h
          · cases h
          · split at h
            · cases h
            · split at h
              · cases h
              · split at h
                · cases h
                · rename_i x _ _ _ _ _ _ _
                  have h3 := idx_in (num ((x.2.take 6).drop 4))
                  have h4 : ¬ idxS (num ((x.2.take 6).drop 4)) = 0 := fun h => h1 (.inr (.inl h))
                  obtain ⟨new, e1, e2, e3⟩ := defsS_told n _ _ _ _ l h (hT.cons h2 (by omega) h3.2)
                  exact ⟨_ :: new, by rw [e1, List.append_assoc]; rfl, by rw [e2]; simp, e3⟩
theorem needsS_told : ∀ (n : Nat) (a y : Int) (T : List Int) (acc : List Nd) (l : List Nd × List Int), needsS b ps ss n a y T acc = .ok l → GoodT T → ∃ new : List Nd, l.1 = acc ++ new ∧ l.2 = (new.flatMap (fun x => x.2.map (fun y => y.1))).reverse ++ T ∧ GoodT l.2 ∧ l.2.length ≤ T.length + 64 * n ∧ new.length = n
  | 0, _, _, T, acc, l, h, hT => by
    simp only [needsS] at h
    injection h with h
    exact ⟨[], by rw [← h]; simp, by rw [← h]; simp, by rw [← h]; exact hT, by rw [← h]; simp, rfl⟩
  | n + 1, a, y, T, acc, l, h, hT => by
    simp only [needsS] at h
    split at h
    · cases h
    · split at h
      · cases h
      · split at h
        · cases h
        · rename_i hm
          split at h
          · cases h
          · split at h
            · cases h
            · rename_i lv hv
              split at h
              · cases h
              · obtain ⟨nv, v1, v2, v3⟩ := versionsS_told _ _ _ _ _ lv hv hT
                have hl := versionsS_len _ _ _ _ _ _ hv
                obtain ⟨new, e1, e2, e3, e4, e5⟩ := needsS_told n _ _ _ _ l h v3
                rw [List.nil_append] at v1
                refine ⟨_ :: new, by rw [e1, List.append_assoc]; rfl, ?_, e3, by omega, by rw [List.length_cons, e5]⟩
                rw [e2, v2, v1]
                simp
theorem ofS_told {T ws : List Int} (h8 : ∀ x ∈ ws, 0 ≤ x ∧ x ≤ 255) : ∀ (n i : Nat) (acc l : List Int), ofS T ws n i acc = .ok l → l.length = acc.length + n ∧ ∀ w ∈ l, w ∈ acc ∨ (0 ≤ w ∧ (w % 32768 ≤ 1 ∨ w % 32768 ∈ T))
  | 0, _, acc, l, h => by
    simp only [ofS] at h
    injection h with h
    rw [h]; exact ⟨rfl, fun w hw => .inl hw⟩
  | n + 1, i, acc, l, h => by
    simp only [ofS] at h
    split at h
    · cases h
    · rename_i hc
      obtain ⟨e1, e2⟩ := ofS_told h8 n (i + 1) _ l h
      refine ⟨by rw [e1, List.length_append, List.length_singleton]; omega, fun w hw => ?_⟩
      rcases e2 w hw with h1 | h1
      · rcases List.mem_append.1 h1 with h2 | h2
        · exact .inl h2
        · rw [List.mem_singleton.1 h2]
          refine .inr ⟨(num_in _ (fun x hx => h8 x (List.mem_of_mem_take (List.mem_of_mem_drop hx)))).1, ?_⟩
          by_cases h3 : num ((ws.take (2 * i + 2)).drop (2 * i)) % 32768 > 1
          · by_cases h4 : num ((ws.take (2 * i + 2)).drop (2 * i)) % 32768 ∈ T
            · exact .inr h4
            · exact absurd ⟨h3, h4⟩ hc
          · exact .inl (by omega)
      · exact .inr h1
end
def told (x : Vs) : List Int := x.2.2.1.map (fun d => d.1) ++ x.2.2.2.flatMap (fun y => y.2.map (fun a => a.1))
theorem readV_told {b : List Int} {ps : List S29} {tab sz versym verdef defnum verneed neednum n : Int} {x : Vs} (b8 : ∀ x ∈ b, 0 ≤ x ∧ x ≤ 255) (po : ∀ p ∈ ps, okP p) (h : readV b ps tab sz versym verdef defnum verneed neednum n = .ok x) :
    x = (false, [], [], []) ∨ (x.1 = true ∧ (told x).Nodup ∧ (∀ y ∈ told x, 1 ≤ y ∧ y ≤ 32767) ∧ (∀ w ∈ x.2.1, 0 ≤ w ∧ (w % 32768 ≤ 1 ∨ w % 32768 ∈ told x)) ∧ (x.2.1.length : Int) = n ∧ n ≤ 4096 ∧ (told x).length ≤ 5000 ∧ x.2.2.2.length ≤ 64) := by
  unfold readV at h
  split at h
  · cases h
  split at h
  · cases h
  split at h
  · injection h with h
    exact .inl h.symm
  split at h
  · cases h
  split at h
  · cases h
  rename_i hn hn2 _ _ ws hws
  split at h
  · cases h
  rename_i d hd
  split at h
  · cases h
  rename_i nd hnd
  split at h
  · cases h
  rename_i l hl
  injection h with h
  have h0 : GoodT [] := ⟨List.nodup_nil, fun _ h => by cases h⟩
  have hD : d.2 = (d.1.map (fun x => x.1)).reverse ∧ GoodT d.2 ∧ d.2.length ≤ 64 := by
    split at hd
    · injection hd with hd
      rw [← hd]
      exact ⟨rfl, h0, by simp⟩
    · have h64 := defsT_len hd
      unfold defsT at hd
      split at hd
      · cases hd
      · obtain ⟨new, e1, e2, e3⟩ := defsS_told _ _ _ _ _ _ hd h0
        rw [List.nil_append] at e1
        rw [List.append_nil] at e2
        exact ⟨by rw [e2, e1], e3, h64⟩
  have hN : nd.2 = (nd.1.flatMap (fun x => x.2.map (fun y => y.1))).reverse ++ d.2 ∧ GoodT nd.2 ∧ nd.2.length ≤ 64 + 64 * 64 ∧ nd.1.length ≤ 64 := by
    split at hnd
    · injection hnd with hnd
      rw [← hnd]
      exact ⟨rfl, hD.2.1, Nat.le_trans hD.2.2 (by decide), by simp⟩
    · unfold needsT at hnd
      split at hnd
      · cases hnd
      · obtain ⟨new, e1, e2, e3, e4, e5⟩ := needsS_told _ _ _ _ _ _ hnd hD.2.1
        rw [List.nil_append] at e1
        exact ⟨by rw [e2, e1], e3, by have := hD.2.2; omega, by rw [e1, e5]; omega⟩
  have hT : nd.2 = (told (true, l, d.1, nd.1)).reverse := by
    rw [hN.1, hD.1]
    simp [told]
  have hO := ofS_told (fun x hx => b8 x ((slc_len po (by omega) hws).2.2 x hx)) _ _ _ _ hl
  rw [← h]
  refine .inr ⟨rfl, ?_, ?_, ?_, ?_, by omega, ?_, hN.2.2.2⟩
  · have := hN.2.1.1
    rw [hT] at this
    exact (List.reverse_perm _).nodup_iff.1 this
  · intro y hy
    exact hN.2.1.2 y (by rw [hT]; exact List.mem_reverse.2 hy)
  · intro w hw
    rcases hO.2 w hw with h1 | ⟨h1, h2⟩
    · cases h1
    · refine ⟨h1, h2.imp id (fun h => ?_)⟩
      rw [hT] at h
      exact List.mem_reverse.1 h
  · have := hO.1
    simp only [List.length_nil] at this
    show (l.length : Int) = n
    omega
  · have := hN.2.2.1
    rw [hT, List.length_reverse] at this
    omega
end Go.Proofs.Ythopdoamajjojaa.VersS
