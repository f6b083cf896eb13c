/- Plain theory of the order in which objects are begun: depth first; who is told ahead of whom. -/
import Derived.Test.YtlohkhadbkahdaaGraphSpec
import Derived.Test.YtlohkhadbkahdaaGraphBeg
namespace Go.Proofs.Ytlohkhadbkahdaa.GraphS
open Go Go.RowKit Go.Proofs.YtlohkhadbkahdaaW.PrintWords Go.Proofs.YtlohkhadbkahdaaW.PrintLast Go.Proofs.YtlohkhadbkahdaaW.PrintMore
set_option linter.unusedVariables false
abbrev St := List Bool × List Int

theorem count_set_false {had : List Bool} {x : Int} (h0 : 0 ≤ x) (h1 : x < had.length) (h : rdOf false had x = false) : (had.set x.toNat true).count false + 1 = had.count false := by
  obtain ⟨j, rfl⟩ := Int.eq_ofNat_of_zero_le h0
  have hj : j < had.length := by omega
  have he : had[j] = false := by simpa [rdOf, hj] using h
  have hp : 0 < had.count false := List.count_pos_iff.2 (he ▸ List.getElem_mem hj)
  rw [Int.toNat_natCast, List.count_set hj]
  simp [he]
  omega
theorem walkL_some {f : Int → St → Option St} {Q : St → Prop} (hf : ∀ y s, Q s → ∃ t, f y s = some t ∧ Q t) : ∀ l s, Q s → ∃ t, walkL f l s = some t ∧ Q t := by
  intro l
  induction l with
  | nil => intro s hs; exact ⟨s, rfl, hs⟩
  | cons y l ih =>
    intro s hs
    obtain ⟨t, h1, h2⟩ := hf y s hs
    obtain ⟨u, h3, h4⟩ := ih t h2
    exact ⟨u, by simp only [walkL, h1, Option.bind_some, h3], h4⟩
/-- A depth above what is not yet marked does. -/
theorem walkO_some (deps : List (List Int)) : ∀ k x (s : St), s.1.length = deps.length → s.1.count false < k → ∃ t, walkO deps k x s = some t ∧ t.1.length = deps.length ∧ t.1.count false ≤ s.1.count false := by
  intro k
  induction k with
  | zero => intro x s _ h; omega
  | succ k ih =>
    intro x s hl hc
    unfold walkO
    by_cases hx : 0 ≤ x ∧ x < (deps.length : Int) ∧ rdOf false s.1 x = false
    · rw [if_pos hx]
      have h1 := count_set_false hx.1 (by rw [hl]; exact hx.2.1) hx.2.2
      obtain ⟨t, h2, h3, h4⟩ := walkL_some (f := walkO deps k) (Q := fun t => t.1.length = deps.length ∧ t.1.count false ≤ (s.1.set x.toNat true).count false) (fun y u hu => by
        obtain ⟨v, a, b, c⟩ := ih y u hu.1 (by omega)
        exact ⟨v, a, b, by omega⟩) (deps.getD x.toNat []) (s.1.set x.toNat true, s.2) ⟨by simpa using hl, Nat.le_refl _⟩
      exact ⟨(t.1, t.2 ++ [x]), by rw [h2]; rfl, h3, by simp only; omega⟩
    · rw [if_neg hx]
      exact ⟨s, rfl, hl, Nat.le_refl _⟩
/-- What is marked: what was told, and what is being walked (each once). -/
structure Open (n : Nat) (s : St) (op : List Int) : Prop where
  m : Marks n s.1 (fun x => x ∈ s.2 ∨ x ∈ op)
  ok : ∀ y ∈ s.2, Okx n y
  nd : s.2.Nodup
  ap : ∀ y ∈ s.2, y ∉ op
/-- Of what is told behind bf: each one's dependencies stand ahead of it, or it is reached from them (a ring). -/
def Post (deps : List (List Int)) : List Int → List Int → Prop
  | _, [] => True
  | bf, y :: m => (∀ z ∈ kids deps y, Okx deps.length z → z ∈ bf ∨ Reach deps (kids deps z) y) ∧ Post deps (bf ++ [y]) m
theorem Post.app {deps : List (List Int)} : ∀ {m1 m2 bf : List Int}, Post deps bf m1 → Post deps (bf ++ m1) m2 → Post deps bf (m1 ++ m2) := by
  intro m1
  induction m1 with
  | nil => intro m2 bf _ h; simpa using h
  | cons y m1 ih =>
    intro m2 bf h1 h2
    refine ⟨h1.1, ih h1.2 ?_⟩
    simpa using h2
theorem Post.at {deps : List (List Int)} : ∀ {a : List Int} {y : Int} {b bf : List Int}, Post deps bf (a ++ y :: b) → ∀ z ∈ kids deps y, Okx deps.length z → z ∈ bf ++ a ∨ Reach deps (kids deps z) y := by
  intro a
  induction a with
  | nil => intro y b bf h z hz ho; simpa using h.1 z hz ho
  | cons x a ih =>
    intro y b bf h z hz ho
    have := ih h.2 z hz ho
    simpa using this
/-- What a walk does. -/
def Does (deps : List (List Int)) (op : List Int) (P : Int → Prop) (s t : St) : Prop :=
  Open deps.length t op ∧ ∃ m, t.2 = s.2 ++ m ∧ (∀ y ∈ m, P y) ∧ (∀ y ∈ m, ∀ z ∈ kids deps y, Okx deps.length z → z ∈ t.2 ∨ z ∈ op) ∧ Post deps s.2 m
theorem Does.refl {deps : List (List Int)} {op : List Int} {P : Int → Prop} {s : St} (h : Open deps.length s op) : Does deps op P s s := ⟨h, [], by simp, by simp, by simp, trivial⟩
theorem Does.trans {deps : List (List Int)} {op : List Int} {P Q : Int → Prop} {s t u : St} (h1 : Does deps op P s t) (h2 : Does deps op Q t u) : Does deps op (fun y => P y ∨ Q y) s u := by
  obtain ⟨o1, m1, e1, p1, c1, q1⟩ := h1
  obtain ⟨o2, m2, e2, p2, c2, q2⟩ := h2
  refine ⟨o2, m1 ++ m2, by rw [e2, e1, List.append_assoc], ?_, ?_, q1.app (by rw [← e1]; exact q2)⟩
  · intro y hy
    rcases List.mem_append.1 hy with hy | hy
    · exact .inl (p1 y hy)
    · exact .inr (p2 y hy)
  · intro y hy z hz ho
    rcases List.mem_append.1 hy with hy | hy
    · rcases c1 y hy z hz ho with h | h
      · left; rw [e2]; exact List.mem_append_left _ h
      · exact .inr h
    · exact c2 y hy z hz ho
theorem Does.imp {deps : List (List Int)} {op : List Int} {P Q : Int → Prop} {s t : St} (h : Does deps op P s t) (hp : ∀ y, P y → Q y) : Does deps op Q s t := by
  obtain ⟨o1, m1, e1, p1, c1, q1⟩ := h
  exact ⟨o1, m1, e1, fun y hy => hp y (p1 y hy), c1, q1⟩
theorem Does.sub {deps : List (List Int)} {op : List Int} {P : Int → Prop} {s t : St} (h : Does deps op P s t) {y : Int} (hy : y ∈ s.2) : y ∈ t.2 := by
  obtain ⟨_, m, e, _⟩ := h
  rw [e]; exact List.mem_append_left _ hy
/-- from an object on -/
def From (deps : List (List Int)) (x y : Int) : Prop := Okx deps.length x ∧ (y = x ∨ Reach deps (kids deps x) y)
theorem walkL_does {deps : List (List Int)} {f : Int → St → Option St} {op : List Int}
    (hf : ∀ x s t, f x s = some t → Open deps.length s op → (∀ a ∈ op, Okx deps.length x → Reach deps (kids deps a) x) → Does deps op (From deps x) s t ∧ (Okx deps.length x → x ∈ t.2 ∨ x ∈ op)) :
    ∀ (l : List Int) (s t : St), walkL f l s = some t → Open deps.length s op → (∀ x ∈ l, ∀ a ∈ op, Okx deps.length x → Reach deps (kids deps a) x) → Does deps op (fun y => ∃ x ∈ l, From deps x y) s t ∧ ∀ x ∈ l, Okx deps.length x → x ∈ t.2 ∨ x ∈ op := by
  intro l
  induction l with
  | nil =>
    intro s t h ho _
    obtain rfl := Option.some.inj h
    exact ⟨Does.refl ho, by simp⟩
  | cons x l ih =>
    intro s t h ho ha
    obtain ⟨u, hu, h⟩ := Option.bind_eq_some_iff.1 h
    obtain ⟨d1, i1⟩ := hf x s u hu ho (ha x (by simp))
    obtain ⟨d2, i2⟩ := ih u t h d1.1 (fun y hy => ha y (by simp [hy]))
    refine ⟨(d1.trans d2).imp ?_, ?_⟩
    · rintro y (h | ⟨z, hz, h⟩)
      · exact ⟨x, by simp, h⟩
      · exact ⟨z, by simp [hz], h⟩
    · intro y hy hok
      rcases List.mem_cons.1 hy with rfl | hy
      · rcases i1 hok with h | h
        · exact .inl (d2.sub h)
        · exact .inr h
      · exact i2 y hy hok
theorem walkO_does (deps : List (List Int)) : ∀ k (op : List Int) x (s t : St), walkO deps k x s = some t → Open deps.length s op → (∀ a ∈ op, Okx deps.length x → Reach deps (kids deps a) x) → Does deps op (From deps x) s t ∧ (Okx deps.length x → x ∈ t.2 ∨ x ∈ op) := by
  intro k
  induction k with
  | zero => intro op x s t h; cases h
  | succ k ih =>
    intro op x s t h ho ha
    unfold walkO at h
    by_cases hx : 0 ≤ x ∧ x < (deps.length : Int) ∧ rdOf false s.1 x = false
    · rw [if_pos hx] at h
      obtain ⟨u, hu, h⟩ := Option.bind_eq_some_iff.1 h
      obtain rfl := Option.some.inj h
      have hok : Okx deps.length x := ⟨hx.1, hx.2.1⟩
      have hno : ¬ (x ∈ s.2 ∨ x ∈ op) := fun hm => by have := (ho.m.2 x hok).2 hm; rw [hx.2.2] at this; cases this
      have ho2 : Open deps.length (s.1.set x.toNat true, s.2) (x :: op) := by
        refine ⟨(ho.m.set hok).congr (fun y _ => by simp only [List.mem_cons]; exact ⟨fun h => h.elim (fun h => .inr (.inl h)) (fun h => h.elim .inl (fun h => .inr (.inr h))), fun h => h.elim (fun h => .inr (.inl h)) (fun h => h.elim .inl (fun h => .inr (.inr h)))⟩), ho.ok, ho.nd, ?_⟩
        intro y hy hm
        rcases List.mem_cons.1 hm with rfl | hm
        · exact hno (.inl hy)
        · exact ho.ap y hy hm
      obtain ⟨⟨o1, m, e1, p1, c1, q1⟩, i1⟩ := walkL_does (op := x :: op) (fun y s t => ih (x :: op) y s t) (kids deps x) _ _ hu ho2 (by
        intro y hy a hm hyo
        rcases List.mem_cons.1 hm with rfl | hm
        · exact .root hy hyo
        · exact .step (ha a hm hok) hy hyo)
      have hxu : x ∉ u.2 := fun hm => o1.ap x hm (by simp)
      simp only at e1 q1
      refine ⟨⟨⟨?_, ?_, ?_, ?_⟩, m ++ [x], ?_, ?_, ?_, ?_⟩, fun _ => .inl (by simp)⟩
      · refine o1.m.congr (fun y _ => ?_)
        simp only [List.mem_append, List.mem_cons, List.not_mem_nil, or_false]
        exact ⟨fun h => h.elim (fun h => .inl (.inl h)) (fun h => h.elim (fun h => .inl (.inr h)) .inr), fun h => h.elim (fun h => h.elim .inl (fun h => .inr (.inl h))) (fun h => .inr (.inr h))⟩
      · intro y hy
        rcases List.mem_append.1 hy with hy | hy
        · exact o1.ok y hy
        · rw [List.mem_singleton] at hy; rw [hy]; exact hok
      · rw [List.nodup_append]
        refine ⟨o1.nd, by simp, ?_⟩
        intro a ha2 b hb
        rw [List.mem_singleton] at hb
        rintro rfl
        exact hxu (hb ▸ ha2)
      · intro y hy hm
        rcases List.mem_append.1 hy with hy | hy
        · exact o1.ap y hy (by simp [hm])
        · rw [List.mem_singleton] at hy; rw [hy] at hm; exact hno (.inr hm)
      · simp [e1]
      · intro y hy
        rcases List.mem_append.1 hy with hy | hy
        · obtain ⟨z, hz, hzo, h | h⟩ := p1 y hy
          · exact ⟨hok, .inr (h ▸ .root hz hzo)⟩
          · exact ⟨hok, .inr (Reach.trans (.root hz hzo) h)⟩
        · rw [List.mem_singleton] at hy; exact ⟨hok, .inl hy⟩
      · intro y hy z hz hzo
        have h2 : z ∈ u.2 ∨ z ∈ x :: op := by
          rcases List.mem_append.1 hy with hy | hy
          · exact c1 y hy z hz hzo
          · rw [List.mem_singleton] at hy; subst hy; exact i1 z hz hzo
        rcases h2 with h | h
        · exact .inl (by simp [h])
        · rcases List.mem_cons.1 h with rfl | h
          · exact .inl (by simp)
          · exact .inr h
      · refine q1.app ⟨?_, trivial⟩
        intro z hz hzo
        rcases i1 z hz hzo with h | h
        · exact .inl (by rw [← e1]; exact h)
        · rcases List.mem_cons.1 h with rfl | h
          · exact .inr (.root hz hzo)
          · exact .inr (ha z h hok)
    · rw [if_neg hx] at h
      obtain rfl := Option.some.inj h
      refine ⟨Does.refl ho, fun hok => (ho.m.2 x hok).1 ?_⟩
      rcases hb : rdOf false s.1 x with _ | _
      · exact absurd ⟨hok.1, hok.2, hb⟩ hx
      · rfl
/-- The order in which objects are begun: what is reached, each once; what depends on another stands behind it, but for rings. -/
theorem beginO_spec (deps : List (List Int)) (roots : List Int) (hn : deps.length ≤ 2199023255552) : ∃ r, beginO deps roots = some r ∧ r.Nodup ∧ (∀ y, y ∈ r ↔ Reach deps roots y) ∧ Post deps [] r := by
  have h0 : (List.replicate deps.length false).count false < deps.length + 1 := Nat.lt_succ_of_le (Nat.le_trans List.count_le_length (by simp))
  obtain ⟨t, ht, _⟩ := walkL_some (f := walkO deps (deps.length + 1)) (Q := fun t => t.1.length = deps.length ∧ t.1.count false < deps.length + 1) (fun y u hu => by
    obtain ⟨v, a, b, c⟩ := walkO_some deps (deps.length + 1) y u hu.1 hu.2
    exact ⟨v, a, b, by omega⟩) roots (List.replicate deps.length false, []) ⟨by simp, h0⟩
  have hO : Open deps.length (List.replicate deps.length false, []) [] := ⟨(Marks.none _).congr (fun x _ => by simp), by simp, by simp, by simp⟩
  obtain ⟨⟨o1, m, e1, p1, c1, q1⟩, i1⟩ := walkL_does (op := []) (fun x s t => walkO_does deps (deps.length + 1) [] x s t) roots _ _ ht hO (by simp)
  simp only [List.nil_append] at e1 q1
  refine ⟨t.2, by unfold beginO; rw [if_pos hn, ht]; rfl, o1.nd, fun y => ⟨fun hy => ?_, fun hy => ?_⟩, by rw [e1]; exact q1⟩
  · rw [e1] at hy
    obtain ⟨x, hx, hok, h | h⟩ := p1 y hy
    · exact h ▸ .root hx hok
    · exact Reach.trans (.root hx hok) h
  · induction hy with
    | root hm ho => simpa using i1 _ hm ho
    | step _ hk ho ih =>
      rw [e1] at ih
      simpa using c1 _ ih _ hk ho
end Go.Proofs.Ytlohkhadbkahdaa.GraphS
