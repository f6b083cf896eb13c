/- graph.Live comes to what is reached from those whose count is above 0. -/
import Derived.Test.YtlohkhadbkahdaaQGraphx3
import Derived.Test.YtlohkhadbkahdaaGraphBase
namespace Go.Proofs.Ytlohkhadbkahdaa.Pure
open Go.RowKit Go.Proofs.Ytlohkhadbkahdaa.QGraph Go.Proofs.YtlohkhadbkahdaaW.PrintWords Go.Proofs.YtlohkhadbkahdaaW.PrintLast Go.Proofs.Ytlohkhadbkahdaa.GraphS
set_option linter.unusedVariables false
namespace Gr
/-- those below i whose count is above 0 -/
def rootsTo (counts : List Int) : Nat → List Int
  | 0 => []
  | i + 1 => if (i : Int) < (counts.length : Int) ∧ rd counts i > 0 then rootsTo counts i ++ [(i : Int)] else rootsTo counts i
theorem mem_rootsTo (counts : List Int) (x : Int) : ∀ n, x ∈ rootsTo counts n ↔ Okx n x ∧ x < (counts.length : Int) ∧ rd counts x > 0 := by
  intro n
  induction n with
  | zero => simp [rootsTo, Okx]; omega
  | succ n ih =>
    unfold rootsTo
    by_cases h : (n : Int) < (counts.length : Int) ∧ rd counts n > 0
    · rw [if_pos h, List.mem_append, List.mem_singleton, ih]
      constructor
      · rintro (h2 | rfl)
        · exact ⟨⟨h2.1.1, by have := h2.1.2; omega⟩, h2.2⟩
        · exact ⟨⟨by omega, by omega⟩, h⟩
      · rintro ⟨h2, h3⟩
        by_cases e : x = n
        · exact .inr e
        · exact .inl ⟨⟨h2.1, by have := h2.2; omega⟩, h3⟩
    · rw [if_neg h, ih]
      constructor
      · rintro ⟨h2, h3⟩
        exact ⟨⟨h2.1, by have := h2.2; omega⟩, h3⟩
      · rintro ⟨h2, h3⟩
        refine ⟨⟨h2.1, ?_⟩, h3⟩
        by_cases e : x = n
        · subst e; exact absurd h3 h
        · have := h2.2; omega
theorem len_rootsTo (counts : List Int) : ∀ n, (rootsTo counts n).length ≤ n := by
  intro n
  induction n with
  | zero => simp [rootsTo]
  | succ n ih =>
    unfold rootsTo
    split
    · simp; omega
    · omega
/-- a list, marked -/
def marksOf (n : Nat) (l : List Int) : List Bool := l.foldl (fun h x => h.set x.toNat true) (List.replicate n false)
theorem marks_l (n : Nat) : ∀ (l : List Int) (had : List Bool) (out : List Int), GraphS.Told n had out → (∀ y ∈ l, Okx n y) → (out ++ l).Nodup → GraphS.Told n (l.foldl (fun h x => h.set x.toNat true) had) (out ++ l) := by
  intro l
  induction l with
  | nil => intro had out h _ _; simpa using h
  | cons x l ih =>
    intro had out h hok hnd
    have hx : x ∉ out := by
      intro hm
      exact (List.nodup_append.1 hnd).2.2 x hm x (by simp) rfl
    have hf : rdOf false had x = false := by
      rcases hb : rdOf false had x with _ | _
      · rfl
      · exact absurd ((h.m.2 x (hok x (by simp))).1 hb) hx
    have := ih (had.set x.toNat true) (out ++ [x]) (h.add (hok x (by simp)) hf) (fun y hy => hok y (by simp [hy])) (by simpa using hnd)
    simpa using this
theorem marks_told (n : Nat) (l : List Int) (hok : ∀ y ∈ l, Okx n y) (hnd : l.Nodup) : GraphS.Told n (marksOf n l) l := by
  have := marks_l n l _ [] (GraphS.Told.nil n) hok (by simpa using hnd)
  simpa [marksOf] using this
theorem live_l1 (n : Nat) (hn : n ≤ 1048576) (t : List Int) (ht : t.length ≤ 1048576) (hok : ∀ y ∈ t, Okx n y) : ∀ (d : Nat) (i : Int) (had : List Bool), 0 ≤ i → i + d = t.length → had.length = n → Ev (fun k => graph_Live.l1 k had t t.length i) ((t.drop i.toNat).foldl (fun h x => h.set x.toNat true) had) := by
  intro d
  induction d with
  | zero =>
    intro i had h0 h1 hl
    rw [List.drop_eq_nil_of_le (by omega)]
    refine Ev.step (f := fun _ => some had) (fun k => ?_) (Ev.now _)
    rw [graph_Live.l1, if_neg (by omega)]
  | succ d ih =>
    intro i had h0 h1 hl
    have ho := hok _ (rd_mem h0 (show i < (t.length : Int) by omega))
    rw [drop_rd h0 (by omega), List.foldl_cons]
    refine Ev.step (fun k => ?_) (ih (i + 1) _ (by omega) (by omega) (by simpa using hl))
    rw [graph_Live.l1, if_pos (by omega), if_pos h0, if_pos (by omega), if_pos ho.1, if_pos (by rw [hl]; exact ho.2), wrap_in i h0 (by omega)]
/-- what lives -/
def liveF (deps : List (List Int)) (counts : List Int) : List Bool := marksOf deps.length (scopeF deps (rootsTo counts deps.length))
theorem liveF_told (deps : List (List Int)) (counts : List Int) : GraphS.Told deps.length (liveF deps counts) (scopeF deps (rootsTo counts deps.length)) := by
  have h := scopeF_spec deps (rootsTo counts deps.length)
  exact marks_told _ _ (fun y hy => ((h.2.1 y).1 hy).ok) h.1
theorem liveF_spec (deps : List (List Int)) (counts : List Int) : Marks deps.length (liveF deps counts) (GraphS.Reach deps (rootsTo counts deps.length)) :=
  (liveF_told deps counts).m.congr (fun x _ => (scopeF_spec deps (rootsTo counts deps.length)).2.1 x)
theorem live_l0 (deps : List (List Int)) (counts : List Int) (hn : deps.length ≤ 1048576) (hc : counts.length ≤ 1048576) : ∀ (d i : Nat), i + d = deps.length → Ev (fun k => graph_Live.l0 k deps counts (rootsTo counts i) deps.length i) (liveF deps counts) := by
  intro d
  induction d with
  | zero =>
    intro i hi
    obtain rfl : i = deps.length := by omega
    have h := scopeF_spec deps (rootsTo counts deps.length)
    have h2 := live_l1 deps.length hn (scopeF deps (rootsTo counts deps.length)) (by omega) (fun y hy => ((h.2.1 y).1 hy).ok) (scopeF deps (rootsTo counts deps.length)).length 0 (List.replicate deps.length false) (by omega) (by omega) (by simp)
    refine Ev.step (fun k => ?_) h2
    rw [graph_Live.l0, if_neg (by omega), if_pos (by omega), if_pos (by simp; omega), Gr.scopeO_some _ _ hn, Option.bind_some, Int.toNat_natCast]
  | succ d ih =>
    intro i hi
    have h := ih (i + 1) (by omega)
    have hlen := len_rootsTo counts i
    refine Ev.step (fun k => ?_) h
    have hw := wrap_in (i : Int) (by omega) (by omega)
    rw [graph_Live.l0, if_pos (by omega)]
    by_cases h1 : (i : Int) < (counts.length : Int)
    · rw [if_pos h1, if_pos (by omega)]
      by_cases h2 : rd counts i > 0
      · rw [if_pos h2, if_pos (by omega), hw, rootsTo, if_pos ⟨h1, h2⟩]
        simp
      · rw [if_neg h2, hw, rootsTo, if_neg (fun h => h2 h.2)]
        simp
    · rw [if_neg h1, hw, rootsTo, if_neg (fun h => h1 h.1)]
      simp
theorem live (deps : List (List Int)) (counts : List Int) (hn : deps.length ≤ 1048576) (hc : counts.length ≤ 1048576) : Ev (fun k => graph_Live.f k deps counts) (liveF deps counts) := live_l0 deps counts hn hc deps.length 0 (by omega)
end Gr
end Go.Proofs.Ytlohkhadbkahdaa.Pure
