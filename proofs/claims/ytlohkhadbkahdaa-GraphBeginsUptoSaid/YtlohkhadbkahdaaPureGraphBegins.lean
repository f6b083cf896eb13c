/- Both orders have the same members, each once: those that live; without a ring every object is begun behind all that it depends on; of any dependencies of a bulk of at most 1048576. -/
import Derived.Test.YtlohkhadbkahdaaSaidGraphBegins
import Derived.Test.YtlohkhadbkahdaaGraphRunD
namespace Go.Proofs.Ytlohkhadbkahdaa.Pure
open Go.RowKit Go.Proofs.Ytlohkhadbkahdaa.QGraph Go.Proofs.YtlohkhadbkahdaaW.PrintWords Go.Proofs.YtlohkhadbkahdaaW.PrintLast Go.Proofs.Ytlohkhadbkahdaa.GraphS Go.Proofs.Ytlohkhadbkahdaa
set_option linter.unusedVariables false
namespace Gr
/-- the first place of a number in a list; -1: none -/
def Place (l : List Int) (x p : Int) : Prop := (p = -1 ∧ x ∉ l) ∨ (0 ≤ p ∧ p < (l.length : Int) ∧ rd l p = x ∧ ∀ j : Int, 0 ≤ j → j < p → rd l j ≠ x)
theorem place_l (l : List Int) (x : Int) (hl : l.length ≤ 1048576) : ∀ (d : Nat) (i : Int), 0 ≤ i → i + d = l.length → (∀ j : Int, 0 ≤ j → j < i → rd l j ≠ x) → ∃ p, Place l x p ∧ Ev (fun k => shacklelaw16_place.l0 k l x i) p := by
  intro d
  induction d with
  | zero =>
    intro i h0 h1 hb
    refine ⟨-1, .inl ⟨rfl, fun hm => ?_⟩, Ev.step (f := fun _ => some (-1)) (fun k => ?_) (Ev.now _)⟩
    · obtain ⟨j, h2, h3, h4⟩ := mem_rd hm
      exact hb j h2 (by omega) h4
    · rw [shacklelaw16_place.l0, if_neg (by omega)]
  | succ d ih =>
    intro i h0 h1 hb
    by_cases e : rd l i = x
    · refine ⟨i, .inr ⟨h0, by omega, e, hb⟩, Ev.step (f := fun _ => some i) (fun k => ?_) (Ev.now _)⟩
      rw [shacklelaw16_place.l0, if_pos (by omega), if_pos h0, if_pos e]
    · obtain ⟨p, hp, he⟩ := ih (i + 1) (by omega) (by omega) (fun j h2 h3 => by
        by_cases e2 : j = i
        · rw [e2]; exact e
        · exact hb j h2 (by omega))
      refine ⟨p, hp, Ev.step (fun k => ?_) he⟩
      rw [shacklelaw16_place.l0, if_pos (by omega), if_pos h0, if_neg e, wrap_in i h0 (by omega)]
theorem place (l : List Int) (x : Int) (hl : l.length ≤ 1048576) : ∃ p, Place l x p ∧ Ev (fun k => shacklelaw16_place.f k l x) p := place_l l x hl l.length 0 (by omega) (by omega) (fun j h0 h1 => by omega)
theorem Place.ge {l : List Int} {x p : Int} (h : Place l x p) : decide (p ≥ 0) = decide (x ∈ l) := by
  rw [decide_eq_decide]
  rcases h with ⟨rfl, h⟩ | ⟨h0, h1, h2, _⟩
  · exact ⟨fun h => by omega, fun h2 => absurd h2 h⟩
  · exact ⟨fun _ => h2 ▸ rd_mem h0 h1, fun _ => h0⟩
section
variable {deps : List (List Int)} {a r : List Int} {L : List Bool} {ring : Bool}
/-- what is asked of each object that lives, and of each that it depends on -/
theorem begins_l2 (hn : deps.length ≤ 1048576) (hr : ∀ z ∈ deps, z.length ≤ 1048576) (hrl : r.length ≤ 1048576) (hring : ring = false → ∀ x ∈ r, ∀ y ∈ kids deps x, ∀ p q, Place r x p → Place r y q → q < p) (m i y : Int) (hi : Okx deps.length i) (hir : i ∈ r) (hy : Place r i y) (hnext : Ev (fun k => shacklelaw16_GraphBegins.l1 k deps true a r L ring m (i + 1)) true) :
    ∀ (d : Nat) (j : Int), 0 ≤ j → j + d = (kids deps i).length → Ev (fun k => shacklelaw16_GraphBegins.l2 k deps true a r L ring m i y j) true := by
  have hkl := kids_len hr i
  intro d
  induction d with
  | zero =>
    intro j h0 h1
    refine Ev.step (fun k => ?_) hnext
    rw [shacklelaw16_GraphBegins.l2, if_pos hi.1, if_pos hi.2, if_neg (by rw [rd_L]; omega), wrap_in i hi.1 (by have := hi.2; omega)]
  | succ d ih =>
    intro j h0 h1
    have hj : j < ((kids deps i).length : Int) := by omega
    obtain ⟨q, hq, he⟩ := place r (rd (kids deps i) j) hrl
    have := Ev.bind he (f := fun k t328 => if ring = true then shacklelaw16_GraphBegins.l2 k deps true a r L ring m i y (j + 1) else (if t328 ≥ y then some false else shacklelaw16_GraphBegins.l2 k deps true a r L ring m i y (j + 1))) (r := true) (by
      refine Ev.congr (fun k => ?_) (ih (j + 1) (by omega) (by omega))
      cases hb : ring with
      | true => rw [if_pos rfl]
      | false =>
        have := hring hb i hir _ (rd_mem h0 hj) y q hy hq
        rw [if_neg (by decide), if_neg (by omega)])
    refine Ev.step (fun k => ?_) this
    rw [shacklelaw16_GraphBegins.l2, if_pos hi.1, if_pos hi.2, if_pos (by rw [rd_L]; exact hj), if_pos h0, wrap_in j h0 (by omega), rd_L]
theorem begins_l1 (hn : deps.length ≤ 1048576) (hr : ∀ z ∈ deps, z.length ≤ 1048576) (hal : a.length ≤ 1048576) (hrl : r.length ≤ 1048576) (hL : Marks deps.length L (fun x => x ∈ a)) (hsame : ∀ x, x ∈ a ↔ x ∈ r) (hcount : L.count true = a.length)
    (hring : ring = false → ∀ x ∈ r, ∀ y ∈ kids deps x, ∀ p q, Place r x p → Place r y q → q < p) :
    ∀ (d i : Nat), i + d = deps.length → Ev (fun k => shacklelaw16_GraphBegins.l1 k deps true a r L ring ((L.take i).count true : Nat) i) true := by
  have hlen := hL.1
  intro d
  induction d with
  | zero =>
    intro i hi
    refine Ev.step (f := fun _ => some true) (fun k => ?_) (Ev.now _)
    rw [shacklelaw16_GraphBegins.l1, if_neg (by omega), if_pos rfl, List.take_of_length_le (by omega), hcount]
    simp
  | succ d ih =>
    intro i hi
    have hok : Okx deps.length (i : Int) := ⟨by omega, by omega⟩
    have hil : i < L.length := by omega
    have hrdi : rdOf false L (i : Int) = L[i] := by simp [rdOf, hil]
    have hm := hL.2 (i : Int) hok
    have htake : (L.take (i + 1)).count true = (L.take i).count true + if L[i] = true then 1 else 0 := by
      rw [List.take_succ_eq_append_getElem hil, List.count_append]
      congr 1
      cases L[i] <;> simp
    have hcl : (L.take i).count true ≤ (L.take i).length := List.count_le_length
    have hcl2 : (L.take i).length ≤ 1048576 := by rw [List.length_take]; omega
    have hnext := ih (i + 1) (by omega)
    rw [show (((i + 1 : Nat) : Int)) = (i : Int) + 1 by omega] at hnext
    obtain ⟨p, hp, hpe⟩ := place a (i : Int) hal
    obtain ⟨q, hq, hqe⟩ := place r (i : Int) hrl
    have e1 : decide (p ≥ 0) = rdOf false L (i : Int) := by
      rw [hp.ge]
      exact Bool.eq_iff_iff.2 (by rw [decide_eq_true_iff]; exact hm.symm)
    have e2 : decide (q ≥ 0) = rdOf false L (i : Int) := by
      rw [hq.ge]
      exact Bool.eq_iff_iff.2 (by rw [decide_eq_true_iff, ← hsame]; exact hm.symm)
    have hj3 : Ev (fun k => shacklelaw16_GraphBegins.j3 k deps true a r L ring ((L.take i).count true : Nat) i q false) true := by
      by_cases hv : rdOf false L (i : Int) = true
      · have hir : (i : Int) ∈ r := (hsame _).1 (hm.1 hv)
        rw [htake, if_pos (by rw [← hrdi]; exact hv)] at hnext
        have := begins_l2 hn hr hrl hring _ (i : Int) q hok hir hq hnext (kids deps i).length 0 (by omega) (by omega)
        refine Ev.step (fun k => ?_) this
        rw [shacklelaw16_GraphBegins.j3, if_neg (by decide), if_pos hok.1, if_pos (by omega), if_pos hv, wrap_in _ (by omega) (by omega)]
        rfl
      · rw [htake, if_neg (by rw [← hrdi]; exact hv), Nat.add_zero] at hnext
        refine Ev.step (fun k => ?_) hnext
        rw [shacklelaw16_GraphBegins.j3, if_neg (by decide), if_pos hok.1, if_pos (by omega), if_neg hv, wrap_in _ (by omega) (by omega)]
    have := Ev.bind hpe (f := fun k t320 => (shacklelaw16_place.f k r (i : Int)).bind fun t321 => if ((decide (t320 ≥ 0)) != (rdOf false L (i : Int))) = true then (shacklelaw16_GraphBegins.j3 k deps true a r L ring ((L.take i).count true : Nat) i t321 true) else (shacklelaw16_GraphBegins.j3 k deps true a r L ring ((L.take i).count true : Nat) i t321 ((decide (t321 ≥ 0)) != (rdOf false L (i : Int))))) (r := true) (Ev.bind hqe (by
      refine Ev.congr (fun k => ?_) hj3
      rw [e1, e2, if_neg (by simp)]
      simp))
    refine Ev.step (fun k => ?_) this
    rw [shacklelaw16_GraphBegins.l1, if_pos (by omega)]
    refine congrArg _ (funext fun t => congrArg _ (funext fun u => ?_))
    rw [if_pos hok.1, if_pos (by omega)]
end
/-- the counts of roots -/
theorem counts_l (deps : List (List Int)) (hn : deps.length ≤ 1048576) (roots a r : List Int) (hl : roots.length ≤ 1048576) (hend : ∀ C : List Int, C.length = deps.length → (∀ x, Okx deps.length x → (rd C x > 0 ↔ x ∈ roots)) → Ev (fun k => (graph_Live.f k deps C).bind fun t316 => ((graph_Loop.f k deps).bind fun t319 => (if (a.length : Int) = (r.length : Int) then (shacklelaw16_GraphBegins.j1 k deps true a r t316 t319 ((t316.length : Int) != (deps.length : Int))) else (shacklelaw16_GraphBegins.j1 k deps true a r t316 t319 true)))) true) :
    ∀ (d : Nat) (i : Int) (C : List Int), 0 ≤ i → i + d = roots.length → C.length = deps.length → (∀ x, Okx deps.length x → (rd C x > 0 ↔ x ∈ roots.take i.toNat)) → Ev (fun k => shacklelaw16_GraphBegins.l0 k deps roots true a r C i) true := by
  intro d
  induction d with
  | zero =>
    intro i C h0 h1 hC hc
    refine Ev.step (fun k => ?_) (hend C hC (fun x hx => by have := hc x hx; rwa [List.take_of_length_le (by omega)] at this))
    rw [shacklelaw16_GraphBegins.l0, if_neg (by omega)]
  | succ d ih =>
    intro i C h0 h1 hC hc
    have hil : i < (roots.length : Int) := by omega
    have htake : ∀ x, x ∈ roots.take (i + 1).toNat ↔ x ∈ roots.take i.toNat ∨ x = rd roots i := by
      intro x
      obtain ⟨j, rfl⟩ := Int.eq_ofNat_of_zero_le h0
      have hj : j < roots.length := by omega
      rw [show ((j : Int) + 1).toNat = j + 1 by omega, Int.toNat_natCast, List.take_succ_eq_append_getElem hj, List.mem_append, List.mem_singleton]
      have : rd roots (j : Int) = roots[j] := by simp [rd, hj]
      rw [this]
    by_cases ho : rd roots i ≥ 0 ∧ rd roots i < (deps.length : Int)
    · have := ih (i + 1) (C.set (rd roots i).toNat 1) (by omega) (by omega) (by simpa using hC) (fun x hx => by
        rw [rd_setn ho.1 (by rw [hC]; exact ho.2) hx.1, htake]
        by_cases e : x = rd roots i
        · rw [if_pos e]; exact ⟨fun _ => .inr e, fun _ => by decide⟩
        · rw [if_neg e, hc x hx]; exact ⟨.inl, fun h => h.resolve_right e⟩)
      refine Ev.step (fun k => ?_) this
      rw [shacklelaw16_GraphBegins.l0, if_pos hil, if_pos h0, if_pos ho.1, if_pos ho.2, if_pos ho.1, if_pos (by rw [hC]; exact ho.2), wrap_in i h0 (by omega)]
    · have := ih (i + 1) C (by omega) (by omega) hC (fun x hx => by
        rw [hc x hx, htake]
        exact ⟨.inl, fun h => h.elim id (fun e => absurd (e ▸ ⟨hx.1, hx.2⟩ : rd roots i ≥ 0 ∧ rd roots i < (deps.length : Int)) ho)⟩)
      refine Ev.step (fun k => ?_) this
      rw [shacklelaw16_GraphBegins.l0, if_pos hil, if_pos h0, wrap_in i h0 (by omega)]
      by_cases g : rd roots i ≥ 0
      · rw [if_pos g, if_neg (fun h => ho ⟨g, h⟩)]
      · rw [if_neg g]
theorem ahead_of (deps : List (List Int)) (r : List Int) (hmem : ∀ y ∈ r, Okx deps.length y) (hpost : Post deps [] r) (hnd : r.Nodup) (hno : ¬ Ring deps) : ∀ x ∈ r, ∀ y ∈ kids deps x, ∀ p q, Place r x p → Place r y q → q < p := by
  intro x hx y hy p q hp hq
  rcases hp with ⟨_, h⟩ | ⟨p0, p1, p2, p3⟩
  · exact absurd hx h
  rcases hq with ⟨rfl, h⟩ | ⟨q0, q1, q2, q3⟩
  · omega
  · have hyr : y ∈ r := q2 ▸ rd_mem q0 q1
    have hoy := hmem y hyr
    obtain ⟨a, b, hab⟩ := List.append_of_mem hx
    have hpost2 := hpost
    rw [hab] at hpost2
    rcases hpost2.at y hy hoy with h | h
    · simp only [List.nil_append] at h
      obtain ⟨s, s0, s1, se⟩ := mem_rd h
      have e1 : rd r s = y := by rw [hab, rd_append s0 s1, se]
      have hqs : q ≤ s := by
        rcases (show q ≤ s ∨ s < q by omega) with h | h
        · exact h
        · exact absurd e1 (q3 s s0 h)
      have hpa : (a.length : Int) = p := by
        have e2 : rd r (a.length : Int) = x := by rw [hab]; simp [rd]
        have hal : a.length < r.length := by rw [hab]; simp
        obtain ⟨pn, rfl⟩ := Int.eq_ofNat_of_zero_le p0
        have hpn : pn < r.length := by omega
        have g1 : r[a.length] = x := by rw [← e2]; simp [rd, hal]
        have g2 : r[pn] = x := by rw [← p2]; simp [rd, hpn]
        have := getElem_inj hnd hal hpn (g1.trans g2.symm)
        omega
      omega
    · exact absurd ⟨y, hoy, .step h hy hoy⟩ hno
end Gr
theorem GraphBegins : shacklelaw16_GraphBegins.PureU := by
  intro l0 l1 _ _ hb
  obtain ⟨hn, hr, hl⟩ := Gr.bounds hb
  obtain ⟨b, hs⟩ := Gr.small l0 hn
  obtain ⟨r, hbeg, hnd, hmem, hpost⟩ := beginO_spec l0 l1 (by omega)
  have hsc := scopeF_spec l0 l1
  have hsub1 : r.length ≤ (scopeF l0 l1).length := hnd.length_le_of_subset (fun y hy => (hsc.2.1 y).2 ((hmem y).1 hy))
  have hsub2 : (scopeF l0 l1).length ≤ r.length := hsc.1.length_le_of_subset (fun y hy => (hmem y).2 ((hsc.2.1 y).1 hy))
  obtain ⟨c, hc⟩ : ∃ c : Bool, c = true ↔ Gr.Ring l0 := by
    by_cases h : Gr.Ring l0
    · exact ⟨true, by simp [h]⟩
    · exact ⟨false, by simp [h]⟩
  have e : ∀ k, shacklelaw16_GraphBegins.f k l0 l1 = (shacklelaw16_up.f k).bind fun t301 => ((shacklelaw16_small.f k l0).bind fun t302 => (if t302 = true then ((graph_Begin.f k l0 l1).bind fun t306 => shacklelaw16_GraphBegins.l0 k l0 l1 t301 (scopeF l0 l1) t306 (List.replicate l0.length 0) 0) else (some t301))) := by
    intro k
    unfold shacklelaw16_GraphBegins.f
    rw [Gr.scopeO_some l0 l1 hn]
    refine congrArg _ (funext fun t => congrArg _ (funext fun u => ?_))
    by_cases hu : u = true
    · rw [if_pos hu, if_pos hu, Option.bind_some]
      refine congrArg _ (funext fun v => ?_)
      rw [if_pos (by omega), if_pos (by simp; omega), Int.toNat_natCast]
    · rw [if_neg hu, if_neg hu]
  refine Ev.rounds (Ev.congr e (Ev.bind Gr.up (Ev.bind hs ?_)))
  cases b with
  | false => exact Ev.now _
  | true =>
    refine Ev.congr (fun k => if_pos rfl) ?_
    refine Ev.bind (Gr.gbegin l0 l1 hn hr hl r hbeg) ?_
    refine Gr.counts_l l0 hn l1 (scopeF l0 l1) r hl ?_ l1.length 0 _ (by omega) (by omega) (by simp) (fun x hx => ?_)
    · intro C hC hCm
      have hroots : ∀ x, x ∈ Gr.rootsTo C l0.length ↔ x ∈ l1 ∧ Okx l0.length x := by
        intro x
        rw [Gr.mem_rootsTo]
        exact ⟨fun h => ⟨(hCm x h.1).1 h.2.2, h.1⟩, fun h => ⟨h.2, by have := h.2.2; omega, (hCm x h.2).2 h.1⟩⟩
      have hL := Gr.liveF_told l0 C
      have hmm : ∀ x, x ∈ scopeF l0 (Gr.rootsTo C l0.length) ↔ x ∈ scopeF l0 l1 := by
        intro x
        rw [(scopeF_spec l0 (Gr.rootsTo C l0.length)).2.1 x, hsc.2.1 x]
        exact ⟨GraphS.Reach.mono (fun y hy _ => ((hroots y).1 hy).1), GraphS.Reach.mono (fun y hy ho => (hroots y).2 ⟨hy, ho⟩)⟩
      have hlen : (scopeF l0 (Gr.rootsTo C l0.length)).length = (scopeF l0 l1).length := by
        have h1 := (scopeF_spec l0 (Gr.rootsTo C l0.length)).1.length_le_of_subset (fun y hy => (hmm y).1 hy)
        have h2 := hsc.1.length_le_of_subset (fun y hy => (hmm y).2 hy)
        omega
      refine Ev.bind (Gr.live l0 C hn (by omega)) (Ev.bind (Gr.gloop l0 hn hr c hc) ?_)
      have hl1 := Gr.begins_l1 (ring := c) hn hr (a := scopeF l0 l1) (r := r) (by omega) (by omega) (hL.m.congr (fun x _ => hmm x)) (fun x => (hsc.2.1 x).trans (hmem x).symm) (by rw [← hL.len]; exact hlen) (fun hcf => Gr.ahead_of l0 r (fun y hy => ((hmem y).1 hy).ok) hpost hnd (fun h => by rw [hc.2 h] at hcf; cases hcf)) l0.length 0 (by omega)
      refine Ev.congr (f := fun k => shacklelaw16_GraphBegins.j1 k l0 true (scopeF l0 l1) r (Gr.liveF l0 C) c false) (fun k => ?_) (Ev.step (fun k => ?_) hl1)
      · rw [if_pos (by omega), hL.m.1]
        simp
      · rw [shacklelaw16_GraphBegins.j1, if_neg (by decide)]
        simp
    · obtain ⟨j, rfl, hj⟩ := hx.nat
      simp [rd, hj]
end Go.Proofs.Ytlohkhadbkahdaa.Pure
