/- What the printed functions of graph come to: equal lists; few enough; the order by breadth of the reference; the order in which objects are begun. -/
import Derived.Test.YtlohkhadbkahdaaQGraphx4
import Derived.Test.YtlohkhadbkahdaaQGraphx2
import Derived.Test.YtlohkhadbkahdaaGraphDfs
namespace Go.Proofs.Ytlohkhadbkahdaa.Pure
open Go.RowKit Go.Proofs.Ytlohkhadbkahdaa.QGraph Go.Proofs.YtlohkhadbkahdaaW.PrintWords Go.Proofs.YtlohkhadbkahdaaW.PrintLast Go.Proofs.Ytlohkhadbkahdaa.GraphS
namespace Gr
theorem wrap_in (i : Int) (h0 : 0 ≤ i) (hn : i < 9223372036854775807) : wrap64 (i + 1) = i + 1 := by
  unfold wrap64
  omega
theorem wrap_dec (i : Int) (h0 : 1 ≤ i) (hn : i < 9223372036854775807) : wrap64 (i - 1) = i - 1 := by
  unfold wrap64
  omega
theorem count_both (l : List Bool) : l.count true + l.count false = l.length := by
  induction l with
  | nil => rfl
  | cons b l ih => cases b <;> simp <;> omega
/-- a list is itself -/
theorem same_l (a : List Int) (ha : a.length ≤ 1048576) : ∀ (d : Nat) (i : Int), 0 ≤ i → i + d = a.length → Ev (fun k => shackleref16_Same.l0 k a a i) true := by
  intro d
  induction d with
  | zero =>
    intro i h0 h1
    refine Ev.step (f := fun _ => some true) (fun k => ?_) (Ev.now _)
    simp only [shackleref16_Same.l0]
    rw [if_neg (by omega)]
  | succ d ih =>
    intro i h0 h1
    refine Ev.step (f := fun k => shackleref16_Same.l0 k a a (i + 1)) (fun k => ?_) (ih (i + 1) (by omega) (by omega))
    simp only [shackleref16_Same.l0]
    rw [if_pos (by omega), if_pos h0, if_pos (by omega), if_pos trivial, wrap_in i h0 (by omega)]
theorem same (a : List Int) (ha : a.length ≤ 1048576) : Ev (fun k => shackleref16_Same.f k a a) true := by
  refine Ev.congr (f := fun k => shackleref16_Same.l0 k a a 0) (fun k => ?_) (same_l a ha a.length 0 (by omega) (by omega))
  unfold shackleref16_Same.f
  rw [if_pos rfl]
theorem small_l (deps : List (List Int)) (hn : deps.length ≤ 1048576) : ∀ (d : Nat) (m i : Int), 0 ≤ i → i + d = deps.length → ∃ b, Ev (fun k => shacklelaw16_small.l0 k deps m i) b := by
  intro d
  induction d with
  | zero =>
    intro m i h0 h1
    refine ⟨_, Ev.step (f := fun _ => some (decide (m ≤ 4000))) (fun k => ?_) (Ev.now _)⟩
    simp only [shacklelaw16_small.l0]
    rw [if_neg (by omega)]
  | succ d ih =>
    intro m i h0 h1
    obtain ⟨b, hb⟩ := ih (wrap64 (m + ((rd_L1 deps i).length : Int))) (i + 1) (by omega) (by omega)
    refine ⟨b, Ev.step (f := fun k => shacklelaw16_small.l0 k deps (wrap64 (m + ((rd_L1 deps i).length : Int))) (i + 1)) (fun k => ?_) hb⟩
    simp only [shacklelaw16_small.l0]
    rw [if_pos (by omega), if_pos h0, wrap_in i h0 (by omega)]
theorem small (deps : List (List Int)) (hn : deps.length ≤ 1048576) : ∃ b, Ev (fun k => shacklelaw16_small.f k deps) b := small_l deps hn deps.length _ 0 (by omega) (by omega)
/-- is a number in a list -/
theorem has_l (a : List Int) (x : Int) (ha : a.length ≤ 1048576) : ∀ (d : Nat) (i : Int), 0 ≤ i → i + d = a.length → Ev (fun k => shackleref16_has.l0 k a x i) (decide (x ∈ a.drop i.toNat)) := by
  intro d
  induction d with
  | zero =>
    intro i h0 h1
    refine Ev.step (f := fun _ => some (decide (x ∈ a.drop i.toNat))) (fun k => ?_) (Ev.now _)
    simp only [shackleref16_has.l0]
    rw [if_neg (by omega), List.drop_eq_nil_of_le (by omega)]
    simp
  | succ d ih =>
    intro i h0 h1
    by_cases e : rd a i = x
    · refine Ev.step (f := fun _ => some (decide (x ∈ a.drop i.toNat))) (fun k => ?_) (Ev.now _)
      simp only [shackleref16_has.l0]
      rw [if_pos (by omega), if_pos h0, if_pos e, drop_rd h0 (by omega), ← e]
      simp
    · have h := ih (i + 1) (by omega) (by omega)
      refine Ev.step (f := fun k => shackleref16_has.l0 k a x (i + 1)) (fun k => ?_) ?_
      · simp only [shackleref16_has.l0]
        rw [if_pos (by omega), if_pos h0, if_neg e, wrap_in i h0 (by omega)]
      · rw [drop_rd h0 (by omega)]
        have : decide (x ∈ rd a i :: a.drop (i + 1).toNat) = decide (x ∈ a.drop (i + 1).toNat) := by
          rw [decide_eq_decide, List.mem_cons]
          exact ⟨fun h => h.resolve_left (fun h => e h.symm), .inr⟩
        rw [this]
        exact h
theorem has (a : List Int) (x : Int) (ha : a.length ≤ 1048576) : Ev (fun k => shackleref16_has.f k a x) (decide (x ∈ a)) := by
  have := has_l a x ha a.length 0 (by omega) (by omega)
  rw [Int.toNat_zero, List.drop_zero] at this
  exact this
theorem lay_l (n : Nat) (hn : n ≤ 1048576) (l : List Int) (hl : l.length ≤ 1048576) : ∀ (d : Nat) (i : Int) (had : List Bool) (out : List Int), 0 ≤ i → i + d = l.length → GraphS.Told n had out → Ev (fun k => shackleref16_lay.l0 k out l n i) (layF n (l.drop i.toNat) had out).2 := by
  intro d
  induction d with
  | zero =>
    intro i had out h0 h1 ht
    refine Ev.step (f := fun _ => some out) (fun k => ?_) ?_
    · simp only [shackleref16_lay.l0]
      rw [if_neg (by omega)]
    · rw [List.drop_eq_nil_of_le (by omega)]
      exact Ev.now _
  | succ d ih =>
    intro i had out h0 h1 ht
    have hle := ht.le
    have hh := has out (rd l i) (by omega)
    by_cases hc : 0 ≤ rd l i ∧ rd l i < (n : Int)
    · by_cases hv : rdOf false had (rd l i) = false
      · have hm : rd l i ∉ out := fun hm => by rw [(ht.m.2 _ hc).2 hm] at hv; cases hv
        have hlt : out.length < n := by
          rw [ht.len]
          have h2 := count_set_false hc.1 (by rw [ht.m.1]; exact hc.2) hv
          have h3 := count_both had
          have h4 := ht.m.1
          omega
        rw [layF_hit h0 (by omega) hc.1 hc.2 hv]
        refine Ev.step (f := fun k => (shackleref16_has.f k out (rd l i)).bind fun t => if rd l i ≥ 0 then (if rd l i < (n : Int) then (if t = true then (shackleref16_lay.l0 k out l n (i + 1)) else (if out.length < 17592186044416 then (shackleref16_lay.l0 k (out ++ [rd l i]) l n (i + 1)) else none)) else (shackleref16_lay.l0 k out l n (i + 1))) else (shackleref16_lay.l0 k out l n (i + 1))) (fun k => ?_) (Ev.bind hh ?_)
        · simp only [shackleref16_lay.l0]
          rw [if_pos (by omega), if_pos h0, wrap_in i h0 (by omega)]
        · refine Ev.congr (f := fun k => shackleref16_lay.l0 k (out ++ [rd l i]) l n (i + 1)) (fun k => ?_) (ih (i + 1) _ _ (by omega) (by omega) (ht.add hc hv))
          rw [if_pos hc.1, if_pos hc.2, if_neg (by simpa using hm), if_pos (by omega)]
      · have hm : rd l i ∈ out := (ht.m.2 _ hc).1 (by simpa using hv)
        rw [layF_miss h0 (by omega) (fun h => hv h.2.2)]
        refine Ev.step (f := fun k => (shackleref16_has.f k out (rd l i)).bind fun t => if rd l i ≥ 0 then (if rd l i < (n : Int) then (if t = true then (shackleref16_lay.l0 k out l n (i + 1)) else (if out.length < 17592186044416 then (shackleref16_lay.l0 k (out ++ [rd l i]) l n (i + 1)) else none)) else (shackleref16_lay.l0 k out l n (i + 1))) else (shackleref16_lay.l0 k out l n (i + 1))) (fun k => ?_) (Ev.bind hh ?_)
        · simp only [shackleref16_lay.l0]
          rw [if_pos (by omega), if_pos h0, wrap_in i h0 (by omega)]
        · refine Ev.congr (f := fun k => shackleref16_lay.l0 k out l n (i + 1)) (fun k => ?_) (ih (i + 1) _ _ (by omega) (by omega) ht)
          rw [if_pos hc.1, if_pos hc.2, if_pos (by simpa using hm)]
    · rw [layF_miss h0 (by omega) (fun h => hc ⟨h.1, h.2.1⟩)]
      refine Ev.step (f := fun k => (shackleref16_has.f k out (rd l i)).bind fun t => if rd l i ≥ 0 then (if rd l i < (n : Int) then (if t = true then (shackleref16_lay.l0 k out l n (i + 1)) else (if out.length < 17592186044416 then (shackleref16_lay.l0 k (out ++ [rd l i]) l n (i + 1)) else none)) else (shackleref16_lay.l0 k out l n (i + 1))) else (shackleref16_lay.l0 k out l n (i + 1))) (fun k => ?_) (Ev.bind hh ?_)
      · simp only [shackleref16_lay.l0]
        rw [if_pos (by omega), if_pos h0, wrap_in i h0 (by omega)]
      · refine Ev.congr (f := fun k => shackleref16_lay.l0 k out l n (i + 1)) (fun k => ?_) (ih (i + 1) _ _ (by omega) (by omega) ht)
        by_cases h : rd l i ≥ 0
        · rw [if_pos h, if_neg (fun h2 => hc ⟨h, h2⟩)]
        · rw [if_neg h]
theorem lay (n : Nat) (hn : n ≤ 1048576) (l : List Int) (hl : l.length ≤ 1048576) (had : List Bool) (out : List Int) (ht : GraphS.Told n had out) : Ev (fun k => shackleref16_lay.f k out l n) (layF n l had out).2 := by
  have := lay_l n hn l hl l.length 0 had out (by omega) (by omega) ht
  rw [Int.toNat_zero, List.drop_zero] at this
  exact this
theorem rd_L (deps : List (List Int)) (x : Int) : rd_L1 deps x = kids deps x := rfl
theorem kids_len {deps : List (List Int)} (hr : ∀ z ∈ deps, z.length ≤ 1048576) (x : Int) : (kids deps x).length ≤ 1048576 := by
  unfold kids
  rw [List.getD_eq_getElem?_getD]
  rcases h : deps[x.toNat]? with _ | z
  · simp
  · exact hr z (List.mem_of_getElem? h)
theorem rscope_l (deps : List (List Int)) (hn : deps.length ≤ 1048576) (hr : ∀ z ∈ deps, z.length ≤ 1048576) : ∀ (f : Nat) (i : Int) (had : List Bool) (out : List Int), 0 ≤ i → deps.length + 1 ≤ f + i.toNat → GraphS.Told deps.length had out → Ev (fun k => shackleref16_Scope.l0 k deps out i) (scopeL deps f i had out) := by
  intro f
  induction f with
  | zero =>
    intro i had out h0 hf ht
    have hle := ht.le
    refine Ev.step (f := fun _ => some out) (fun k => ?_) (Ev.now _)
    simp only [shackleref16_Scope.l0]
    rw [if_neg (by omega)]
  | succ f ih =>
    intro i had out h0 hf ht
    have hle := ht.le
    unfold scopeL
    by_cases hi : i < (out.length : Int)
    · rw [if_pos hi]
      have ho := ht.ok _ (rd_mem h0 hi)
      refine Ev.step (f := fun k => (shackleref16_lay.f k out (kids deps (rd out i)) deps.length).bind fun t => shackleref16_Scope.l0 k deps t (i + 1)) (fun k => ?_) (Ev.bind (lay deps.length hn _ (kids_len hr _) had out ht) (ih (i + 1) _ _ (by omega) (by omega) (layF_spec deps.length _ had out ht).1))
      simp only [shackleref16_Scope.l0]
      rw [if_pos hi, if_pos h0, if_pos ho.1, if_pos ho.2, wrap_in i h0 (by omega)]
      rfl
    · rw [if_neg hi]
      refine Ev.step (f := fun _ => some out) (fun k => ?_) (Ev.now _)
      simp only [shackleref16_Scope.l0]
      rw [if_neg hi]
theorem rscope (deps : List (List Int)) (roots : List Int) (hn : deps.length ≤ 1048576) (hr : ∀ z ∈ deps, z.length ≤ 1048576) (hl : roots.length ≤ 1048576) : Ev (fun k => shackleref16_Scope.f k deps roots) (scopeF deps roots) :=
  Ev.bind (f := fun k t => shackleref16_Scope.l0 k deps t 0) (lay deps.length hn roots hl _ _ (GraphS.Told.nil _)) (rscope_l deps hn hr _ 0 _ _ (by omega) (by simp) (layF_spec deps.length roots _ _ (GraphS.Told.nil _)).1)
theorem in_f (x n : Int) : graph_in.f x n = some (decide (0 ≤ x ∧ x < n)) := by
  unfold graph_in.f
  by_cases h : x ≥ 0
  · rw [if_pos h]
    congr 1
    rw [decide_eq_decide]
    exact ⟨fun h2 => ⟨h, h2⟩, fun h2 => h2.2⟩
  · rw [if_neg h]
    congr 1
    rw [eq_comm, decide_eq_false_iff_not]
    exact fun h2 => h h2.1
end Gr
end Go.Proofs.Ytlohkhadbkahdaa.Pure
