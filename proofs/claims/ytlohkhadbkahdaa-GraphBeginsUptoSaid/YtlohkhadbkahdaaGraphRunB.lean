/- graph.Begin, with its own stack, comes to the order that the reference's walk gives. -/
import Derived.Test.YtlohkhadbkahdaaGraphRunA
namespace Go.Proofs.Ytlohkhadbkahdaa.Pure
open Go.RowKit Go.Proofs.Ytlohkhadbkahdaa.QGraph Go.Proofs.YtlohkhadbkahdaaW.PrintWords Go.Proofs.YtlohkhadbkahdaaW.PrintLast Go.Proofs.Ytlohkhadbkahdaa.GraphS
namespace Gr
theorem top (st : List S75) (a : S75) (h : st.length ≤ 2097152) : wrap64 (((st ++ [a]).length : Int) - 1) = (st.length : Int) := by
  rw [List.length_append, List.length_singleton, wrap_dec _ (by omega) (by omega)]
  omega
theorem top_rd (st : List S75) (a : S75) : rd_T75 (st ++ [a]) (st.length : Int) = a := by
  simp [rd_T75]
theorem top_take (st : List S75) (a : S75) : (st ++ [a]).take ((st.length : Int)).toNat = st := by
  simp
theorem top_set (st : List S75) (a b : S75) : (st ++ [a]).set ((st.length : Int)).toNat b = st ++ [b] := by
  simp
section
variable {deps : List (List Int)} {had : List Bool} {out roots : List Int} {st : List S75} {x j m i : Int} {k : Nat}
theorem pop (hx : Okx deps.length x) (hj : j = ((kids deps x).length : Int)) (ho : out.length ≤ 1048576) (hs : st.length ≤ 2097152) :
    graph_Begin.l1 (k + 1) deps had out (st ++ [⟨x, j⟩]) roots m i = graph_Begin.l1 k deps had (out ++ [x]) st roots m i := by
  have hl : ((st ++ [(⟨x, j⟩ : S75)]).length : Int) = (st.length : Int) + 1 := by simp
  rw [graph_Begin.l1]
  simp only [top st _ hs, top_rd, top_take]
  rw [if_pos (by omega), if_pos (by omega), if_pos (by omega), if_pos hx.1, if_pos hx.2, if_pos (by rw [rd_L]; exact hj), if_pos (by omega), if_pos (by omega)]
theorem step_in (hx : Okx deps.length x) (h0 : 0 ≤ j) (hj : j < ((kids deps x).length : Int)) (hs : st.length ≤ 2097152) (hk : (kids deps x).length ≤ 1048576) :
    graph_Begin.l1 (k + 1) deps had out (st ++ [⟨x, j⟩]) roots m i = if 0 ≤ rd (kids deps x) j ∧ rd (kids deps x) j < (deps.length : Int) then (if rd (kids deps x) j < (had.length : Int) then (if rdOf false had (rd (kids deps x) j) = true then graph_Begin.l1 k deps had out (st ++ [⟨x, j + 1⟩]) roots m i else graph_Begin.l1 k deps (had.set (rd (kids deps x) j).toNat true) out (st ++ [⟨x, j + 1⟩] ++ [⟨rd (kids deps x) j, 0⟩]) roots m i) else none) else graph_Begin.l1 k deps had out (st ++ [⟨x, j + 1⟩]) roots m i := by
  have hl : ((st ++ [(⟨x, j⟩ : S75)]).length : Int) = (st.length : Int) + 1 := by simp
  have hl2 : (st ++ [(⟨x, j + 1⟩ : S75)]).length = st.length + 1 := by simp
  rw [graph_Begin.l1]
  simp only [top st _ hs, top_rd, top_set, rd_L, in_f, Option.bind_some, wrap_in j h0 (by omega)]
  rw [if_pos (by omega), if_pos (by omega), if_pos (by omega), if_pos hx.1, if_pos hx.2, if_neg (by omega), if_pos h0, if_pos hj]
  by_cases h : 0 ≤ rd (kids deps x) j ∧ rd (kids deps x) j < (deps.length : Int)
  · rw [if_pos h, if_pos (by simpa using h), if_pos h.1]
    by_cases h2 : rd (kids deps x) j < (had.length : Int)
    · rw [if_pos h2, if_pos h2]
      by_cases h3 : rdOf false had (rd (kids deps x) j) = true
      · rw [if_pos h3, if_pos h3]
      · rw [if_neg h3, if_neg h3, if_pos (by omega)]
    · rw [if_neg h2, if_neg h2]
  · rw [if_neg h, if_neg (by simpa using h)]
end
theorem sim (deps : List (List Int)) (hn : deps.length ≤ 1048576) (hr : ∀ z ∈ deps, z.length ≤ 1048576) (roots : List Int) (m i : Int) : ∀ (k : Nat) (ys : List Int) (x j : Int) (had : List Bool) (out : List Int) (st : List S75) (s1 : St), Okx deps.length x → 0 ≤ j → j ≤ ((kids deps x).length : Int) → ys = (kids deps x).drop j.toNat →
    had.length = deps.length → out.length ≤ had.count true → st.length + k ≤ 2097152 → walkL (walkO deps k) ys (had, out) = some s1 → ∀ r, Ev (fun q => graph_Begin.l1 q deps s1.1 (s1.2 ++ [x]) st roots m i) r → Ev (fun q => graph_Begin.l1 q deps had out (st ++ [⟨x, j⟩]) roots m i) r := by
  intro k
  induction k with
  | zero =>
    intro ys x j had out st s1 hx h0 hj hy hl hc hs hw r h
    have hcl : had.count true ≤ had.length := List.count_le_length
    cases ys with
    | nil =>
      obtain rfl := Option.some.inj hw
      have hje : j = ((kids deps x).length : Int) := by
        have := List.drop_eq_nil_iff.1 hy.symm
        omega
      exact Ev.step (fun q => pop hx hje (by omega) (by omega)) h
    | cons y ys => cases hw
  | succ k ihk =>
    intro ys
    induction ys with
    | nil =>
      intro x j had out st s1 hx h0 hj hy hl hc hs hw r h
      have hcl : had.count true ≤ had.length := List.count_le_length
      obtain rfl := Option.some.inj hw
      have hje : j = ((kids deps x).length : Int) := by
        have := List.drop_eq_nil_iff.1 hy.symm
        omega
      exact Ev.step (fun q => pop hx hje (by omega) (by omega)) h
    | cons y ys ih =>
      intro x j had out st s1 hx h0 hj hy hl hc hs hw r h
      have hcl : had.count true ≤ had.length := List.count_le_length
      have hkl := kids_len hr x
      have hjl : j < ((kids deps x).length : Int) := by
        rcases (show j < ((kids deps x).length : Int) ∨ ((kids deps x).length : Int) ≤ j by omega) with h | h
        · exact h
        · rw [List.drop_eq_nil_of_le (by omega)] at hy; cases hy
      rw [drop_rd h0 hjl] at hy
      injection hy with e1 e2
      obtain ⟨u, hu, hw⟩ := Option.bind_eq_some_iff.1 hw
      have he := walkO_even deps _ _ _ _ hu hl
      have hin := ih x (j + 1) u.1 u.2 st s1 hx (by omega) (by omega) e2 he.1 (by have := he.2; simp only at this; omega) hs hw r h
      unfold walkO at hu
      by_cases hc3 : 0 ≤ y ∧ y < (deps.length : Int) ∧ rdOf false had y = false
      · rw [if_pos hc3] at hu
        obtain ⟨t, ht, hu⟩ := Option.bind_eq_some_iff.1 hu
        have hu := Option.some.inj hu
        subst hu
        simp only at hin ht
        have hcs := count_set hc3.1 (by rw [hl]; exact hc3.2.1) hc3.2.2
        have := ihk (kids deps y) y 0 (had.set y.toNat true) out (st ++ [⟨x, j + 1⟩]) t ⟨hc3.1, hc3.2.1⟩ (by omega) (by omega) (by simp) (by simpa using hl) (by omega) (by simp; omega) ht r hin
        refine Ev.step (fun q => ?_) this
        rw [step_in hx h0 hjl (by omega) hkl, ← e1, if_pos ⟨hc3.1, hc3.2.1⟩, if_pos (by rw [hl]; exact hc3.2.1), if_neg (by rw [hc3.2.2]; decide)]
      · rw [if_neg hc3] at hu
        have hu := Option.some.inj hu
        subst hu
        refine Ev.step (fun q => ?_) hin
        rw [step_in hx h0 hjl (by omega) hkl, ← e1]
        by_cases h4 : 0 ≤ y ∧ y < (deps.length : Int)
        · rw [if_pos h4, if_pos (by rw [hl]; exact h4.2), if_pos (by rcases hb : rdOf false had y with _ | _; · exact absurd ⟨h4.1, h4.2, hb⟩ hc3
                                                                     · rfl)]
        · rw [if_neg h4]
theorem begin_l (deps : List (List Int)) (hn : deps.length ≤ 1048576) (hr : ∀ z ∈ deps, z.length ≤ 1048576) (roots : List Int) (hl : roots.length ≤ 1048576) : ∀ (ys : List Int) (i : Int) (had : List Bool) (out : List Int) (s1 : St), 0 ≤ i → i ≤ (roots.length : Int) → ys = roots.drop i.toNat → had.length = deps.length → out.length ≤ had.count true →
    walkL (walkO deps (deps.length + 1)) ys (had, out) = some s1 → Ev (fun q => graph_Begin.l0 q deps had out roots roots.length i) s1.2 := by
  intro ys
  induction ys with
  | nil =>
    intro i had out s1 h0 hi hy hh hc hw
    obtain rfl := Option.some.inj hw
    have := List.drop_eq_nil_iff.1 hy.symm
    refine Ev.step (f := fun _ => some out) (fun k => ?_) (Ev.now _)
    rw [graph_Begin.l0, if_neg (by omega)]
  | cons y ys ih =>
    intro i had out s1 h0 hi hy hh hc hw
    have hil : i < (roots.length : Int) := by
      rcases (show i < (roots.length : Int) ∨ (roots.length : Int) ≤ i by omega) with h | h
      · exact h
      · rw [List.drop_eq_nil_of_le (by omega)] at hy; cases hy
    rw [drop_rd h0 hil] at hy
    injection hy with e1 e2
    obtain ⟨u, hu, hw⟩ := Option.bind_eq_some_iff.1 hw
    have he := walkO_even deps _ _ _ _ hu hh
    have hin := ih (i + 1) u.1 u.2 s1 (by omega) (by omega) e2 he.1 (by have := he.2; simp only at this; omega) hw
    have hfirst : ∀ k, graph_Begin.l0 (k + 1) deps had out roots roots.length i = if 0 ≤ y ∧ y < (deps.length : Int) then graph_Begin.j1 k deps had out y roots roots.length i (rdOf false had y) else graph_Begin.j1 k deps had out y roots roots.length i true := by
      intro k
      rw [graph_Begin.l0, if_pos hil, if_pos h0, if_pos hil, ← e1, in_f, Option.bind_some]
      by_cases h4 : 0 ≤ y ∧ y < (deps.length : Int)
      · rw [if_pos (by simpa using h4), if_pos h4.1, if_pos (by rw [hh]; exact h4.2), if_pos h4]
      · rw [if_neg (by simpa using h4), if_neg h4]
    unfold walkO at hu
    by_cases hc3 : 0 ≤ y ∧ y < (deps.length : Int) ∧ rdOf false had y = false
    · rw [if_pos hc3] at hu
      obtain ⟨t, ht, hu⟩ := Option.bind_eq_some_iff.1 hu
      have hu := Option.some.inj hu
      subst hu
      simp only at hin ht
      have hcs := count_set hc3.1 (by rw [hh]; exact hc3.2.1) hc3.2.2
      have hend : Ev (fun q => graph_Begin.l1 q deps t.1 (t.2 ++ [y]) [] roots roots.length i) s1.2 := by
        refine Ev.step (fun q => ?_) hin
        rw [graph_Begin.l1, if_neg (by simp), wrap_in i h0 (by omega)]
      have := sim deps hn hr roots roots.length i deps.length (kids deps y) y 0 (had.set y.toNat true) out [] t ⟨hc3.1, hc3.2.1⟩ (by omega) (by omega) (by simp) (by simpa using hh) (by omega) (by simp; omega) ht _ hend
      refine Ev.step (f := fun k => graph_Begin.j1 k deps had out y roots roots.length i false) (fun k => ?_) (Ev.step (fun q => ?_) this)
      · rw [hfirst, if_pos ⟨hc3.1, hc3.2.1⟩, hc3.2.2]
      · rw [graph_Begin.j1, if_neg (by decide), if_pos hc3.1, if_pos (by rw [hh]; exact hc3.2.1)]
        rfl
    · rw [if_neg hc3] at hu
      have hu := Option.some.inj hu
      subst hu
      refine Ev.step (f := fun k => graph_Begin.j1 k deps had out y roots roots.length i true) (fun k => ?_) (Ev.step (fun q => ?_) hin)
      · rw [hfirst]
        by_cases h4 : 0 ≤ y ∧ y < (deps.length : Int)
        · rw [if_pos h4]
          rcases hb : rdOf false had y with _ | _
          · exact absurd ⟨h4.1, h4.2, hb⟩ hc3
          · rfl
        · rw [if_neg h4]
      · rw [graph_Begin.j1, if_pos rfl, wrap_in i h0 (by omega)]
theorem gbegin (deps : List (List Int)) (roots : List Int) (hn : deps.length ≤ 1048576) (hr : ∀ z ∈ deps, z.length ≤ 1048576) (hl : roots.length ≤ 1048576) (r : List Int) (h : beginO deps roots = some r) : Ev (fun k => graph_Begin.f k deps roots) r := by
  unfold beginO at h
  rw [if_pos (by omega)] at h
  obtain ⟨u, hu, h⟩ := Option.map_eq_some_iff.1 h
  subst h
  have := begin_l deps hn hr roots hl roots 0 _ _ u (by omega) (by omega) (by simp) (by simp) (by simp) hu
  refine Ev.congr (fun k => ?_) this
  unfold graph_Begin.f
  rw [if_pos (by omega), if_pos (by simp; omega), Int.toNat_natCast]
end Gr
end Go.Proofs.Ytlohkhadbkahdaa.Pure
