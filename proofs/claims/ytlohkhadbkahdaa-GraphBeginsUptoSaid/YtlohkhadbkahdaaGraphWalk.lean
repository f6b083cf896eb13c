/- The reference's walk: an object, its dependencies first; by a function that calls itself. Plain part, and what stands in memory. -/
import Derived.Test.YtlohkhadbkahdaaGraphLay
namespace Go.Proofs.Ytlohkhadbkahdaa.GraphS
open Go Go.RowKit Go.Proofs.YtlohkhadbkahdaaW.PrintWords Go.Proofs.YtlohkhadbkahdaaW.PrintLast Go.Proofs.YtlohkhadbkahdaaW.PrintMore
set_option linter.unusedVariables false
set_option linter.unusedSimpArgs false

/-- One behind the other. -/
def walkL (f : Int → List Bool × List Int → Option (List Bool × List Int)) : List Int → List Bool × List Int → Option (List Bool × List Int)
  | [], s => some s
  | y :: l, s => (f y s).bind (walkL f l)
/-- An object: its dependencies, then it; to a depth. -/
def walkO (deps : List (List Int)) : Nat → Int → List Bool × List Int → Option (List Bool × List Int)
  | 0, _, _ => none
  | k + 1, x, s => if 0 ≤ x ∧ x < (deps.length : Int) ∧ rdOf false s.1 x = false then (walkL (walkO deps k) (deps.getD x.toNat []) (s.1.set x.toNat true, s.2)).bind fun t => some (t.1, t.2 ++ [x]) else some s
theorem walkL_inv {f : Int → List Bool × List Int → Option (List Bool × List Int)} {R : List Bool × List Int → List Bool × List Int → Prop} (hr : ∀ s, R s s) (ht : ∀ a b c, R a b → R b c → R a c) (hf : ∀ y s t, f y s = some t → R s t) : ∀ l s t, walkL f l s = some t → R s t := by
  intro l
  induction l with
  | nil => intro s t h; obtain rfl := Option.some.inj h; exact hr _
  | cons y l ih =>
    intro s t h
    obtain ⟨u, hu, h⟩ := Option.bind_eq_some_iff.1 h
    exact ht _ _ _ (hf _ _ _ hu) (ih _ _ h)
/-- As long as there was, and as many more laid as marked. -/
def Even (N : Nat) (s t : List Bool × List Int) : Prop := s.1.length = N → t.1.length = N ∧ t.1.count true + s.2.length = s.1.count true + t.2.length
theorem walkO_even (deps : List (List Int)) : ∀ k x s t, walkO deps k x s = some t → Even deps.length s t := by
  intro k
  induction k with
  | zero => intro x s t h; cases h
  | succ k ih =>
    intro x s t h
    unfold walkO at h
    by_cases hc : 0 ≤ x ∧ x < (deps.length : Int) ∧ rdOf false s.1 x = false
    · rw [if_pos hc] at h
      obtain ⟨u, hu, h⟩ := Option.bind_eq_some_iff.1 h
      obtain rfl := Option.some.inj h
      intro hs
      have h1 := walkL_inv (R := Even deps.length) (fun s hs => ⟨hs, by omega⟩) (fun a b c h1 h2 ha => by have h3 := h1 ha; have h4 := h2 h3.1; exact ⟨h4.1, by omega⟩) ih _ _ _ hu (by simpa using hs)
      have h2 := count_set hc.1 (by rw [hs]; exact hc.2.1) hc.2.2
      refine ⟨h1.1, ?_⟩
      have h3 := h1.2
      simp only [List.length_append, List.length_singleton] at h3 ⊢
      omega
    · rw [if_neg hc] at h
      obtain rfl := Option.some.inj h
      exact fun hs => ⟨hs, by omega⟩
/-- The walker: a block of three cells, and the rows of two of them. -/
structure PartsW (w0 : World) (b : Nat) (vd vh vo : Value) (had : List Bool) (out : List Int) (w : World) : Prop where
  hB : Below w0.heap.size w0 w
  bk : w.heap[b]? = some (.cells #[vd, vh, vo] 80 (0, 0))
  rh : Kd.R Kd.bool 4 w w0.heap.size (fun _ => True) vh had
  ro : Kd.R (Kd.int .i64) 3 w w0.heap.size (fun _ => True) vo out
  gb : w0.heap.size ≤ b
section
variable {w0 w w1 : World} {b : Nat} {vd vh vo v1 : Value} {had : List Bool} {out : List Int} {x : Int}
theorem PartsW.cells (h : PartsW w0 b vd vh vo had out w) : w.cell? ⟨b, 0, none⟩ = some vd ∧ w.cell? ⟨b, 1, none⟩ = some vh ∧ w.cell? ⟨b, 2, none⟩ = some vo ∧ w.frozen? ⟨b, 2, none⟩ = false := by
  have := h.bk
  refine ⟨?_, ?_, ?_, ?_⟩ <;> simp [World.cell?, World.frozen?, this]
theorem PartsW.put {g cap : Nat} (h : PartsW w0 b vd (.slice (some ⟨g, 0, none⟩) had.length cap) vo had out w) (hg0 : w0.heap.size ≤ g) (hG : ∃ cells, w.heap[g]? = some (.cells cells 4 (0, 0))) :
    PartsW w0 b vd (.slice (some ⟨g, 0, none⟩) had.length cap) vo (had.set x.toNat true) out (w.setCell ⟨g, x.toNat, none⟩ (.bool true)) := by
  obtain ⟨hp, hg⟩ := Kd.R_putg h.rh x true
  have hty : ∀ k, some g = some k → ∃ cells, w.heap[k]? = some (.cells cells 4 (0, 0)) := fun k hk => by injection hk with hk; subst hk; exact hG
  refine ⟨below_set h.hB hg0, blk_grown h.bk hg hty (by decide), hp, ?_, h.gb⟩
  exact Kd.R_over' (v := .slice (some ⟨g, 0, none⟩) had.length cap) h.ro (Kd.R_typed h.rh) (by decide) hg
theorem three_setCell {w : World} {b : Nat} {v0 v1 v2 u : Value} {t : TypeId} (h : w.heap[b]? = some (.cells #[v0, v1, v2] t (0, 0))) : (w.setCell ⟨b, 2, none⟩ u).heap[b]? = some (.cells #[v0, v1, u] t (0, 0)) := by
  have hlt := lt_of_block h
  have h' : w.heap[b] = .cells #[v0, v1, v2] t (0, 0) := by simpa [Array.getElem?_eq_getElem hlt] using h
  show (w.heap.modify b _)[b]? = _
  rw [Array.getElem?_eq_getElem (by simpa using hlt), Array.getElem_modify_self, h']
  rfl
theorem PartsW.app (h : PartsW w0 b vd vh vo had out w) (hb : Below w0.heap.size w0 w1) (ho : Kd.R (Kd.int .i64) 3 w1 w0.heap.size (fun _ => True) v1 (out ++ [x])) (hg : w.grownBy w1 vo.ownBlock) :
    (w1.cell? ⟨b, 2, none⟩ = some vo ∧ w1.frozen? ⟨b, 2, none⟩ = false) ∧ PartsW w0 b vd vh v1 had (out ++ [x]) (w1.setCell ⟨b, 2, none⟩ v1) := by
  have hty := Kd.R_typed h.ro
  have o1 := blk_grown h.bk hg hty (by decide)
  have r1 : Kd.R Kd.bool 4 w1 w0.heap.size (fun _ => True) vh had := Kd.R_over' h.rh hty (by decide) hg
  exact ⟨⟨by simp [World.cell?, o1], by simp [World.frozen?, o1]⟩, below_set hb h.gb, three_setCell o1, Kd.R_set r1 o1 (by decide) 2 v1, Kd.R_set ho o1 (by decide) 2 v1, h.gb⟩
end
theorem at_row {w : World} {A : Option Addr} {n : Nat} {xs : List (List Int)} (h : Kd.C (Kd.slice 3 (Kd.int .i64)) w A n xs) (i : Int) (h0 : 0 ≤ i) (h1 : i < n) : ∃ ad A0 c0, A = some ad ∧ w.cell? (ad.add i.toNat) = some (.slice A0 (xs.getD i.toNat ([] : List Int)).length c0) ∧ (xs.getD i.toNat ([] : List Int)).length ≤ c0 ∧ (Kd.int .i64).C w A0 (xs.getD i.toNat ([] : List Int)).length (xs.getD i.toNat ([] : List Int)) := by
  obtain ⟨ad, c, e, _, hK, hc0⟩ := Kd.C_get h ([] : List Int) i h0 h1
  have hc : ∀ j u, c[j]? = some u → w.cell? (ad.add (i.toNat * 1 + j)) = some u := hc0
  obtain ⟨A0, c0, rfl, l0, g0⟩ := hK
  exact ⟨ad, A0, c0, e, by have hq := hc 0 _ rfl; rwa [Nat.mul_one, Nat.add_zero] at hq, l0, g0⟩
end Go.Proofs.Ytlohkhadbkahdaa.GraphS
