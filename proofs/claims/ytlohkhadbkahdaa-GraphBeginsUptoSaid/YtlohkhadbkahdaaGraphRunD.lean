/- Whether there is a ring: graph.Loop tells it by the order in which objects are begun. -/
import Derived.Test.YtlohkhadbkahdaaGraphRunC
namespace Go.Proofs.Ytlohkhadbkahdaa.Pure
open Go.RowKit Go.Proofs.Ytlohkhadbkahdaa.QGraph Go.Proofs.YtlohkhadbkahdaaW.PrintWords Go.Proofs.YtlohkhadbkahdaaW.PrintLast Go.Proofs.Ytlohkhadbkahdaa.GraphS
set_option linter.unusedVariables false
namespace Gr
/-- an object is reached from one that it depends on -/
def Ring (deps : List (List Int)) : Prop := ∃ i, Okx deps.length i ∧ GraphS.Reach deps (kids deps i) i
theorem rd_setn {l : List Int} {x y v : Int} (h0 : 0 ≤ x) (h1 : x < (l.length : Int)) (hy : 0 ≤ y) : rd (l.set x.toNat v) y = if y = x then v else rd l y := by
  obtain ⟨j, rfl⟩ := Int.eq_ofNat_of_zero_le h0
  obtain ⟨i, rfl⟩ := Int.eq_ofNat_of_zero_le hy
  unfold rd
  simp only [Int.toNat_natCast]
  by_cases h : i = j
  · subst h
    have : i < l.length := by omega
    simp [this]
  · rw [if_neg (by omega)]
    simp [List.getD_eq_getElem?_getD, List.getElem?_set_ne (Ne.symm h)]
/-- an edge to one that is not begun ahead -/
def Bad (deps : List (List Int)) (P : List Int) (i j : Int) : Prop := Okx deps.length (rd (kids deps i) j) ∧ rd P (rd (kids deps i) j) ≥ rd P i
theorem loop_l3 (deps : List (List Int)) (hn : deps.length ≤ 1048576) (hr : ∀ z ∈ deps, z.length ≤ 1048576) (P : List Int) (hP : P.length = deps.length) (i : Int) (hi : Okx deps.length i) (b : Bool) (hnext : ∀ b', (b' = true ↔ ∃ i', i + 1 ≤ i' ∧ i' < (deps.length : Int) ∧ ∃ j, 0 ≤ j ∧ j < ((kids deps i').length : Int) ∧ Bad deps P i' j) → Ev (fun k => graph_Loop.l2 k deps P deps deps.length (i + 1)) b') :
    ∀ (d : Nat) (j : Int), 0 ≤ j → j + d = (kids deps i).length → (b = true ↔ (∃ j', j ≤ j' ∧ j' < ((kids deps i).length : Int) ∧ Bad deps P i j') ∨ ∃ i', i + 1 ≤ i' ∧ i' < (deps.length : Int) ∧ ∃ j, 0 ≤ j ∧ j < ((kids deps i').length : Int) ∧ Bad deps P i' j) →
      Ev (fun k => graph_Loop.l3 k deps P i deps deps.length i (kids deps i) (kids deps i).length j) b := by
  have hkl := kids_len hr i
  intro d
  induction d with
  | zero =>
    intro j h0 h1 hb
    have := hnext b (hb.trans ⟨fun h => h.elim (fun ⟨j', h1, h2, _⟩ => by omega) id, .inr⟩)
    refine Ev.step (fun k => ?_) this
    rw [graph_Loop.l3, if_neg (by omega), wrap_in i hi.1 (by have := hi.2; omega)]
  | succ d ih =>
    intro j h0 h1 hb
    by_cases hbad : Bad deps P i j
    · have hbt : b = true := hb.2 (.inl ⟨j, by omega, by omega, hbad⟩)
      subst hbt
      refine Ev.step (f := fun _ => some true) (fun k => ?_) (Ev.now _)
      rw [graph_Loop.l3, if_pos (by omega), if_pos h0, if_pos (by omega), in_f, Option.bind_some, if_pos (decide_eq_true (show 0 ≤ rd (kids deps i) j ∧ rd (kids deps i) j < (deps.length : Int) from hbad.1)), if_pos hbad.1.1, if_pos (by rw [hP]; exact hbad.1.2), if_pos hi.1, if_pos (by rw [hP]; exact hi.2), if_pos hbad.2]
    · have := ih (j + 1) (by omega) (by omega) (hb.trans ⟨fun h => h.elim (fun ⟨j', h1, h2, h3⟩ => by
        by_cases e : j' = j
        · subst e; exact absurd h3 hbad
        · exact .inl ⟨j', by omega, h2, h3⟩) .inr, fun h => h.elim (fun ⟨j', h1, h2, h3⟩ => .inl ⟨j', by omega, h2, h3⟩) .inr⟩)
      refine Ev.step (fun k => ?_) this
      rw [graph_Loop.l3, if_pos (by omega), if_pos h0, if_pos (by omega), in_f, Option.bind_some, wrap_in j h0 (by omega)]
      by_cases h4 : 0 ≤ rd (kids deps i) j ∧ rd (kids deps i) j < (deps.length : Int)
      · rw [if_pos (by simpa using h4), if_pos h4.1, if_pos (by rw [hP]; exact h4.2), if_pos hi.1, if_pos (by rw [hP]; exact hi.2), if_neg (fun h5 => hbad ⟨h4, h5⟩)]
      · rw [if_neg (by simpa using h4)]
theorem loop_l2 (deps : List (List Int)) (hn : deps.length ≤ 1048576) (hr : ∀ z ∈ deps, z.length ≤ 1048576) (P : List Int) (hP : P.length = deps.length) :
    ∀ (d : Nat) (i : Int) (b : Bool), 0 ≤ i → i + d = deps.length → (b = true ↔ ∃ i', i ≤ i' ∧ i' < (deps.length : Int) ∧ ∃ j, 0 ≤ j ∧ j < ((kids deps i').length : Int) ∧ Bad deps P i' j) → Ev (fun k => graph_Loop.l2 k deps P deps deps.length i) b := by
  intro d
  induction d with
  | zero =>
    intro i b h0 h1 hb
    have : b = false := by
      rcases b with _ | _
      · rfl
      · obtain ⟨i', h2, h3, _⟩ := hb.1 rfl
        omega
    subst this
    refine Ev.step (f := fun _ => some false) (fun k => ?_) (Ev.now _)
    rw [graph_Loop.l2, if_neg (by omega)]
  | succ d ih =>
    intro i b h0 h1 hb
    have := loop_l3 deps hn hr P hP i ⟨h0, by omega⟩ b (fun b' hb' => ih (i + 1) b' (by omega) (by omega) hb') (kids deps i).length 0 (by omega) (by omega) (hb.trans ⟨fun ⟨i', h2, h3, j, h4, h5, h6⟩ => by
      by_cases e : i' = i
      · subst e; exact .inl ⟨j, h4, h5, h6⟩
      · exact .inr ⟨i', by omega, h3, j, h4, h5, h6⟩, fun h => h.elim (fun ⟨j, h4, h5, h6⟩ => ⟨i, by omega, by omega, j, h4, h5, h6⟩) (fun ⟨i', h2, h3, h4⟩ => ⟨i', by omega, h3, h4⟩)⟩)
    refine Ev.step (fun k => ?_) this
    rw [graph_Loop.l2, if_pos (by omega), if_pos h0, if_pos (by omega), rd_L]
theorem getElem_inj {l : List Int} (h : l.Nodup) {i j : Nat} (hi : i < l.length) (hj : j < l.length) (e : l[i] = l[j]) : i = j := by
  have hp := List.pairwise_iff_getElem.1 h
  rcases Nat.lt_trichotomy i j with h1 | h1 | h1
  · exact absurd e (hp i j hi hj h1)
  · exact h1
  · exact absurd e.symm (hp j i hj hi h1)
/-- where each of a list stands -/
def Places (n : Nat) (r P : List Int) : Prop := P.length = n ∧ ∀ j : Int, 0 ≤ j → j < (r.length : Int) → rd P (rd r j) = j
theorem loop_l1 (deps : List (List Int)) (hn : deps.length ≤ 1048576) (hr : ∀ z ∈ deps, z.length ≤ 1048576) (r : List Int) (hrl : r.length ≤ deps.length) (hok : ∀ y ∈ r, Okx deps.length y) (hnd : r.Nodup) (b : Bool) (hend : ∀ P, Places deps.length r P → Ev (fun k => graph_Loop.l2 k deps P deps deps.length 0) b) :
    ∀ (d : Nat) (i : Int) (P : List Int), 0 ≤ i → i + d = r.length → P.length = deps.length → (∀ j : Int, 0 ≤ j → j < i → rd P (rd r j) = j) → Ev (fun k => graph_Loop.l1 k deps P r r.length i) b := by
  intro d
  induction d with
  | zero =>
    intro i P h0 h1 hP hp
    refine Ev.step (fun k => ?_) (hend P ⟨hP, fun j h2 h3 => hp j h2 (by omega)⟩)
    rw [graph_Loop.l1, if_neg (by omega)]
  | succ d ih =>
    intro i P h0 h1 hP hp
    have ho := hok _ (rd_mem h0 (show i < (r.length : Int) by omega))
    have := ih (i + 1) (P.set (rd r i).toNat i) (by omega) (by omega) (by simpa using hP) (fun j h2 h3 => by
      have hoj := hok _ (rd_mem h2 (show j < (r.length : Int) by omega))
      rw [rd_setn ho.1 (by rw [hP]; exact ho.2) hoj.1]
      by_cases e : j = i
      · rw [e, if_pos rfl]
      · rw [if_neg, hp j h2 (by omega)]
        intro he
        apply e
        obtain ⟨a, rfl⟩ := Int.eq_ofNat_of_zero_le h0
        obtain ⟨c, rfl⟩ := Int.eq_ofNat_of_zero_le h2
        have hc : c < r.length := by omega
        have ha : a < r.length := by omega
        have e1 : r[c] = r[a] := by simpa [rd, hc, ha] using he
        rw [getElem_inj hnd hc ha e1])
    refine Ev.step (fun k => ?_) this
    rw [graph_Loop.l1, if_pos (by omega), if_pos h0, if_pos (by omega), if_pos ho.1, if_pos (by rw [hP]; exact ho.2), wrap_in i h0 (by omega)]
theorem ring_bad (deps : List (List Int)) (r P : List Int) (hp : Places deps.length r P) (hmem : ∀ y, y ∈ r ↔ Okx deps.length y) (hpost : Post deps [] r) (hnd : r.Nodup) :
    Ring deps ↔ ∃ i', 0 ≤ i' ∧ i' < (deps.length : Int) ∧ ∃ j, 0 ≤ j ∧ j < ((kids deps i').length : Int) ∧ Bad deps P i' j := by
  constructor
  · rintro ⟨i, hi, hreach⟩
    by_cases hex : ∃ i', 0 ≤ i' ∧ i' < (deps.length : Int) ∧ ∃ j, 0 ≤ j ∧ j < ((kids deps i').length : Int) ∧ Bad deps P i' j
    · exact hex
    · exfalso
      have hlow : ∀ x, Okx deps.length x → ∀ y ∈ kids deps x, Okx deps.length y → rd P y < rd P x := by
        intro x hx y hy hoy
        obtain ⟨j, h0, h1, rfl⟩ := mem_rd hy
        rcases (show rd P (rd (kids deps x) j) < rd P x ∨ rd P (rd (kids deps x) j) ≥ rd P x by omega) with h | h
        · exact h
        · exact absurd ⟨x, hx.1, hx.2, j, h0, h1, hoy, h⟩ hex
      have : ∀ y, GraphS.Reach deps (kids deps i) y → rd P y < rd P i := by
        intro y hy
        induction hy with
        | root hm ho => exact hlow i hi _ hm ho
        | step hr hk ho ih => have := hlow _ hr.ok _ hk ho; omega
      have := this i hreach
      omega
  · rintro ⟨i, h0, h1, j, hj0, hj1, hok, hge⟩
    have him : i ∈ r := (hmem i).2 ⟨h0, h1⟩
    obtain ⟨a, b, hab⟩ := List.append_of_mem him
    rw [hab] at hpost
    rcases hpost.at _ (rd_mem hj0 hj1) hok with h | h
    · exfalso
      simp only [List.nil_append] at h
      obtain ⟨p, hp0, hp1, hpe⟩ := mem_rd h
      have e1 : rd r p = rd (kids deps i) j := by rw [hab, rd_append hp0 hp1, hpe]
      have e2 : rd r (a.length : Int) = i := by rw [hab]; simp [rd]
      have hlen : (r.length : Int) = a.length + (b.length + 1) := by rw [hab]; simp
      have f1 := hp.2 p hp0 (by omega)
      have f2 := hp.2 (a.length : Int) (by omega) (by omega)
      rw [e1] at f1
      rw [e2] at f2
      omega
    · exact ⟨rd (kids deps i) j, hok, .step h (rd_mem hj0 hj1) hok⟩
/-- all objects, in their order -/
def allTo : Nat → List Int
  | 0 => []
  | i + 1 => allTo i ++ [(i : Int)]
theorem mem_allTo (x : Int) : ∀ n, x ∈ allTo n ↔ Okx n x := by
  intro n
  induction n with
  | zero => simp [allTo, Okx] <;> omega
  | succ n ih =>
    rw [allTo, List.mem_append, List.mem_singleton, ih]
    unfold Okx
    omega
theorem len_allTo : ∀ n, (allTo n).length = n := by
  intro n
  induction n with
  | zero => rfl
  | succ n ih => simp [allTo, ih]
theorem loop_l0 (deps : List (List Int)) (hn : deps.length ≤ 1048576) (P : List Int) (b : Bool) (hend : Ev (fun k => (graph_Begin.f k deps (allTo deps.length)).bind fun t => graph_Loop.l1 k deps P t t.length 0) b) :
    ∀ (d i : Nat), i + d = deps.length → Ev (fun k => graph_Loop.l0 k deps P (allTo i) deps.length i) b := by
  intro d
  induction d with
  | zero =>
    intro i h
    obtain rfl : i = deps.length := by omega
    refine Ev.step (fun k => ?_) hend
    rw [graph_Loop.l0, if_neg (by omega)]
  | succ d ih =>
    intro i h
    have := ih (i + 1) (by omega)
    have hl := len_allTo i
    refine Ev.step (fun k => ?_) this
    rw [graph_Loop.l0, if_pos (by omega), if_pos (by omega), wrap_in (i : Int) (by omega) (by omega), allTo]
    simp
theorem gloop (deps : List (List Int)) (hn : deps.length ≤ 1048576) (hr : ∀ z ∈ deps, z.length ≤ 1048576) (b : Bool) (hb : b = true ↔ Ring deps) : Ev (fun k => graph_Loop.f k deps) b := by
  obtain ⟨r, hbeg, hnd, hmem, hpost⟩ := beginO_spec deps (allTo deps.length) (by omega)
  have hok : ∀ y, y ∈ r ↔ Okx deps.length y := fun y => (hmem y).trans ⟨fun h => h.ok, fun h => .root ((mem_allTo y _).2 h) h⟩
  have hrl : r.length ≤ deps.length := by
    have : r.length ≤ (allTo deps.length).length := hnd.length_le_of_subset (fun y hy => (mem_allTo y _).2 ((hok y).1 hy))
    rwa [len_allTo] at this
  have h1 := loop_l1 deps hn hr r hrl (fun y hy => (hok y).1 hy) hnd b (fun P hP => loop_l2 deps hn hr P hP.1 deps.length 0 b (by omega) (by omega) (hb.trans (ring_bad deps r P hP hok hpost hnd))) r.length 0 (List.replicate deps.length 0) (by omega) (by omega) (by simp) (fun j h0 h1 => by omega)
  have h0 := loop_l0 deps hn (List.replicate deps.length 0) b (Ev.bind (gbegin deps (allTo deps.length) hn hr (by rw [len_allTo]; exact hn) r hbeg) h1) deps.length 0 (by omega)
  refine Ev.congr (fun k => ?_) h0
  unfold graph_Loop.f
  rw [if_pos (by omega), if_pos (by simp; omega), Int.toNat_natCast]
  rfl
end Gr
end Go.Proofs.Ytlohkhadbkahdaa.Pure
