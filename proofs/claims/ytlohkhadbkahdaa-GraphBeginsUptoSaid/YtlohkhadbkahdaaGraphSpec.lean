/- Plain theory of dependencies: what is reached; the order by breadth. -/
import Derived.Test.YtlohkhadbkahdaaGraphWalk
namespace Go.Proofs.Ytlohkhadbkahdaa.GraphS
open Go Go.RowKit Go.Proofs.YtlohkhadbkahdaaW.PrintWords Go.Proofs.YtlohkhadbkahdaaW.PrintLast Go.Proofs.YtlohkhadbkahdaaW.PrintMore
set_option linter.unusedVariables false

/-- a number of one of n objects -/
def Okx (n : Nat) (x : Int) : Prop := 0 ≤ x ∧ x < (n : Int)
theorem Okx.nat {n : Nat} {x : Int} (h : Okx n x) : ∃ j : Nat, x = (j : Int) ∧ j < n := by
  obtain ⟨h0, h1⟩ := h
  obtain ⟨j, rfl⟩ := Int.eq_ofNat_of_zero_le h0
  exact ⟨j, rfl, by omega⟩
/-- what an object depends on -/
def kids (deps : List (List Int)) (x : Int) : List Int := deps.getD x.toNat []
inductive Reach (deps : List (List Int)) (roots : List Int) : Int → Prop
  | root {x : Int} : x ∈ roots → Okx deps.length x → Reach deps roots x
  | step {x y : Int} : Reach deps roots x → y ∈ kids deps x → Okx deps.length y → Reach deps roots y
theorem Reach.ok {deps : List (List Int)} {roots : List Int} {x : Int} (h : Reach deps roots x) : Okx deps.length x := by
  cases h <;> assumption
theorem Reach.mono {deps : List (List Int)} {r1 r2 : List Int} (h : ∀ x ∈ r1, Okx deps.length x → x ∈ r2) {x : Int} (hx : Reach deps r1 x) : Reach deps r2 x := by
  induction hx with
  | root hm ho => exact .root (h _ hm ho) ho
  | step _ hk ho ih => exact .step ih hk ho
theorem Reach.trans {deps : List (List Int)} {r : List Int} {x y : Int} (hx : Reach deps r x) (hy : Reach deps (kids deps x) y) : Reach deps r y := by
  induction hy with
  | root hm ho => exact .step hx hm ho
  | step _ hk ho ih => exact .step ih hk ho
/-- what is marked is what P says, of all objects -/
def Marks (n : Nat) (had : List Bool) (P : Int → Prop) : Prop := had.length = n ∧ ∀ x, Okx n x → (rdOf false had x = true ↔ P x)
theorem rd_set {had : List Bool} {x y : Int} (hx : Okx had.length x) (hy : 0 ≤ y) : rdOf false (had.set x.toNat true) y = if y = x then true else rdOf false had y := by
  obtain ⟨j, rfl, hj⟩ := hx.nat
  obtain ⟨i, rfl⟩ := Int.eq_ofNat_of_zero_le hy
  unfold rdOf
  simp only [Int.toNat_natCast]
  by_cases h : i = j
  · subst h
    simp [hj]
  · rw [if_neg (by omega)]
    simp [List.getD_eq_getElem?_getD, List.getElem?_set_ne (Ne.symm h)]
theorem Marks.none (n : Nat) : Marks n (List.replicate n false) (fun _ => False) := by
  refine ⟨by simp, fun x hx => ?_⟩
  obtain ⟨j, rfl, hj⟩ := hx.nat
  simp [rdOf, hj]
theorem Marks.set {n : Nat} {had : List Bool} {P : Int → Prop} {x : Int} (h : Marks n had P) (hx : Okx n x) : Marks n (had.set x.toNat true) (fun y => y = x ∨ P y) := by
  refine ⟨by rw [List.length_set]; exact h.1, fun y hy => ?_⟩
  rw [rd_set (by rw [h.1]; exact hx) hy.1]
  by_cases e : y = x
  · simp [e]
  · rw [if_neg e, h.2 y hy]
    simp [e]
theorem Marks.congr {n : Nat} {had : List Bool} {P Q : Int → Prop} (h : Marks n had P) (hpq : ∀ x, Okx n x → (P x ↔ Q x)) : Marks n had Q := ⟨h.1, fun x hx => (h.2 x hx).trans (hpq x hx)⟩
theorem Marks.ext {n : Nat} {h1 h2 : List Bool} {P : Int → Prop} (a : Marks n h1 P) (b : Marks n h2 P) : h1 = h2 := by
  refine List.ext_getElem (by rw [a.1, b.1]) fun i hi1 hi2 => ?_
  have ha := a.2 (i : Int) ⟨by omega, by have := a.1; omega⟩
  have hb := b.2 (i : Int) ⟨by omega, by have := a.1; omega⟩
  have e1 : rdOf false h1 (i : Int) = h1[i] := by simp [rdOf, hi1]
  have e2 : rdOf false h2 (i : Int) = h2[i] := by simp [rdOf, hi2]
  rw [e1] at ha
  rw [e2] at hb
  exact Bool.eq_iff_iff.2 (ha.trans hb.symm)
/-- a list of objects, each once, and marked -/
structure Told (n : Nat) (had : List Bool) (out : List Int) : Prop where
  m : Marks n had (fun x => x ∈ out)
  ok : ∀ y ∈ out, Okx n y
  nd : out.Nodup
  len : out.length = had.count true
theorem Told.le {n : Nat} {had : List Bool} {out : List Int} (h : Told n had out) : out.length ≤ n := by
  rw [h.len]
  exact Nat.le_trans List.count_le_length (Nat.le_of_eq h.m.1)
theorem Told.nil (n : Nat) : Told n (List.replicate n false) [] := ⟨(Marks.none n).congr (fun x _ => by simp), by simp, by simp, by simp [List.count_replicate]⟩
theorem Told.add {n : Nat} {had : List Bool} {out : List Int} {x : Int} (h : Told n had out) (hx : Okx n x) (hf : rdOf false had x = false) : Told n (had.set x.toNat true) (out ++ [x]) := by
  have hni : x ∉ out := fun hm => by rw [(h.m.2 x hx).2 hm] at hf; cases hf
  refine ⟨(h.m.set hx).congr (fun y _ => by simp [or_comm]), ?_, ?_, ?_⟩
  · intro y hy
    rcases List.mem_append.1 hy with hy | hy
    · exact h.ok y hy
    · rw [List.mem_singleton] at hy; rw [hy]; exact hx
  · rw [List.nodup_append]
    refine ⟨h.nd, by simp, ?_⟩
    intro a ha b hb
    rw [List.mem_singleton] at hb
    rintro rfl
    exact hni (hb ▸ ha)
  · rw [count_set hx.1 (by rw [h.m.1]; exact hx.2) hf, List.length_append, h.len]; rfl
theorem layF_spec (n : Nat) : ∀ (l : List Int) (had : List Bool) (out : List Int), Told n had out → Told n (layF n l had out).1 (layF n l had out).2 ∧ (∀ y, y ∈ (layF n l had out).2 ↔ y ∈ out ∨ (y ∈ l ∧ Okx n y)) ∧ ∃ more, (layF n l had out).2 = out ++ more := by
  intro l
  induction l with
  | nil => intro had out h; exact ⟨h, fun y => by simp [layF], [], by simp [layF]⟩
  | cons x l ih =>
    intro had out h
    unfold layF
    by_cases hc : 0 ≤ x ∧ x < (n : Int) ∧ rdOf false had x = false
    · rw [if_pos hc]
      obtain ⟨h1, h2, more, h3⟩ := ih _ _ (h.add ⟨hc.1, hc.2.1⟩ hc.2.2)
      refine ⟨h1, fun y => ?_, x :: more, by rw [h3]; simp⟩
      rw [h2 y]
      simp only [List.mem_append, List.mem_cons, List.not_mem_nil, or_false]
      constructor
      · rintro ((h | h) | h)
        · exact .inl h
        · exact .inr ⟨.inl h, h ▸ ⟨hc.1, hc.2.1⟩⟩
        · exact .inr ⟨.inr h.1, h.2⟩
      · rintro (h | ⟨h | h, ho⟩)
        · exact .inl (.inl h)
        · exact .inl (.inr h)
        · exact .inr ⟨h, ho⟩
    · rw [if_neg hc]
      obtain ⟨h1, h2, h3⟩ := ih _ _ h
      refine ⟨h1, fun y => ?_, h3⟩
      rw [h2 y]
      simp only [List.mem_cons]
      constructor
      · rintro (h | h)
        · exact .inl h
        · exact .inr ⟨.inr h.1, h.2⟩
      · rintro (h' | ⟨h' | h', ho⟩)
        · exact .inl h'
        · subst h'
          refine .inl ((h.m.2 y ho).1 ?_)
          rcases hb : rdOf false had y with _ | _
          · exact absurd ⟨ho.1, ho.2, hb⟩ hc
          · rfl
        · exact .inr ⟨h', ho⟩
theorem rd_mem {out : List Int} {i : Int} (h0 : 0 ≤ i) (h1 : i < (out.length : Int)) : rd out i ∈ out := by
  obtain ⟨j, rfl⟩ := Int.eq_ofNat_of_zero_le h0
  have hj : j < out.length := by omega
  have : rd out (j : Int) = out[j] := by simp [rd, hj]
  rw [this]
  exact List.getElem_mem _
theorem rd_append {out more : List Int} {i : Int} (h0 : 0 ≤ i) (h1 : i < (out.length : Int)) : rd (out ++ more) i = rd out i := by
  obtain ⟨j, rfl⟩ := Int.eq_ofNat_of_zero_le h0
  have hj : j < out.length := by omega
  simp [rd, List.getElem?_append_left hj]
theorem mem_rd {out : List Int} {y : Int} (h : y ∈ out) : ∃ i : Int, 0 ≤ i ∧ i < (out.length : Int) ∧ rd out i = y := by
  obtain ⟨j, hj, e⟩ := List.mem_iff_getElem.1 h
  exact ⟨(j : Int), by omega, by omega, by simp [rd, hj, e]⟩
theorem scopeL_spec (deps : List (List Int)) (roots : List Int) : ∀ (f : Nat) (i : Int) (had : List Bool) (out : List Int), 0 ≤ i → deps.length + 1 ≤ f + i.toNat → Told deps.length had out → (∀ y ∈ out, Reach deps roots y) → (∀ x ∈ roots, Okx deps.length x → x ∈ out) →
    (∀ j : Int, 0 ≤ j → j < i → j < (out.length : Int) → ∀ y ∈ kids deps (rd out j), Okx deps.length y → y ∈ out) → (scopeL deps f i had out).Nodup ∧ (∀ y, y ∈ scopeL deps f i had out ↔ Reach deps roots y) ∧ (scopeL deps f i had out).length ≤ deps.length := by
  intro f
  induction f with
  | zero =>
    intro i had out h0 hf ht hr hroots hc
    have hle := ht.le
    refine ⟨ht.nd, fun y => ⟨hr y, fun h => ?_⟩, hle⟩
    unfold scopeL
    induction h with
    | root hm ho => exact hroots _ hm ho
    | step _ hk ho ih =>
      obtain ⟨j, hj0, hj1, rfl⟩ := mem_rd ih
      exact hc j hj0 (by omega) hj1 _ hk ho
  | succ f ih =>
    intro i had out h0 hf ht hr hroots hc
    unfold scopeL
    by_cases hi : i < (out.length : Int)
    · rw [if_pos hi]
      obtain ⟨h1, h2, more, h3⟩ := layF_spec deps.length (deps.getD (rd out i).toNat []) had out ht
      refine ih (i + 1) _ _ (by omega) (by omega) h1 ?_ ?_ ?_
      · intro y hy
        rcases (h2 y).1 hy with hy | ⟨hy, ho⟩
        · exact hr y hy
        · exact .step (hr _ (rd_mem h0 hi)) hy ho
      · exact fun x hx ho => (h2 x).2 (.inl (hroots x hx ho))
      · intro j hj0 hj1 _ y hy ho
        have hjl : j < (out.length : Int) := by omega
        rw [h3, rd_append hj0 hjl] at hy
        rcases (show j < i ∨ j = i by omega) with hj | rfl
        · exact (h2 y).2 (.inl (hc j hj0 hj hjl y hy ho))
        · exact (h2 y).2 (.inr ⟨hy, ho⟩)
    · rw [if_neg hi]
      refine ⟨ht.nd, fun y => ⟨hr y, fun h => ?_⟩, ht.le⟩
      induction h with
      | root hm ho => exact hroots _ hm ho
      | step _ hk ho ih2 =>
        obtain ⟨j, hj0, hj1, rfl⟩ := mem_rd ih2
        exact hc j hj0 (by omega) hj1 _ hk ho
/-- What is reached, by breadth: each once. -/
theorem scopeF_spec (deps : List (List Int)) (roots : List Int) : (scopeF deps roots).Nodup ∧ (∀ y, y ∈ scopeF deps roots ↔ Reach deps roots y) ∧ (scopeF deps roots).length ≤ deps.length := by
  obtain ⟨h1, h2, _⟩ := layF_spec deps.length roots _ _ (Told.nil deps.length)
  refine scopeL_spec deps roots _ 0 _ _ (by omega) (by simp) h1 ?_ ?_ ?_
  · intro y hy
    rcases (h2 y).1 hy with hy | ⟨hy, ho⟩
    · simp at hy
    · exact .root hy ho
  · exact fun x hx ho => (h2 x).2 (.inr ⟨hx, ho⟩)
  · intro j hj0 hj1; omega
end Go.Proofs.Ytlohkhadbkahdaa.GraphS
