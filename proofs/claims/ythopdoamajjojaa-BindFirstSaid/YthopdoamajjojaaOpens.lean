import Derived.Test.YthopdoamajjojaaRows
import Derived.Test.YthopdoamajjojaaWMore
import Derived.Test.YthopdoamajjojaaWFoot
import Derived.ProofKit
import Derived.ChangeSlices
import Derived.DataReads
namespace Go.Proofs.Ythopdoamajjojaa.Opn
open Go Go.RowKit Go.Proofs.YthopdoamajjojaaW.PrintWords
section
variable {H : Type} (enc : TypeId × Value → H) (P : Program) (W : World)
def Opens {α : Type} (d : Kd α) (t : TypeId) (good : α → Prop) (wt : α → Nat) : Prop :=
  ∀ (fuel : Nat) (cs : List Value) (dat : DataW H) (ps : List MemPlace), DataW.trod enc P W 0 (fun _ => true) true fuel t cs = some (dat, ps) → ∃ x, d.K W x cs ∧ good x ∧ wt x ≤ Rows.uptoBulk dat
theorem bulk_pos (d : DataW H) : 1 ≤ Rows.uptoBulk d := by
  cases d with
  | lit l => cases l <;> simp [Rows.uptoBulk]
  | nil => simp [Rows.uptoBulk]
  | ptr d => simp [Rows.uptoBulk]
  | slice elems spare => simp [Rows.uptoBulk]
  | agg parts => simp [Rows.uptoBulk]
  | iface t d => simp [Rows.uptoBulk]
  | map entries => simp [Rows.uptoBulk]
  | held h => simp [Rows.uptoBulk]
variable {enc P W}
theorem opens_int {t : TypeId} {k : IntKind} (hu : P.underlying t = some (.int k)) : Opens enc P W (Kd.int k) t (fun x => (Lit.int k x).wf = true) (fun _ => 1) := by
  intro fuel cs dat ps h
  cases fuel with
  | zero => simp [DataW.trod] at h
  | succ n =>
    unfold DataW.trod at h
    rw [hu] at h
    split at h <;> simp_all
    rename_i k' x hk
    obtain ⟨⟨rfl, hw⟩, rfl, _⟩ := h
    exact ⟨x, rfl, hw, by simp [Rows.uptoBulk]⟩
theorem bool_shape {t : TypeId} (hu : P.underlying t = some .bool) {n : Nat} {cs : List Value} {x : DataW H × List MemPlace} (h : DataW.trod enc P W 0 (fun _ => true) true (n + 1) t cs = some x) : ∃ b, cs = [.bool b] := by
  unfold DataW.trod at h
  rw [hu] at h
  split at h <;> simp_all
theorem opens_bool {t : TypeId} (hu : P.underlying t = some .bool) : Opens enc P W Kd.bool t (fun _ => True) (fun _ => 1) := by
  intro fuel cs dat ps h
  cases fuel with
  | zero => simp [DataW.trod] at h
  | succ n =>
    obtain ⟨b, rfl⟩ := bool_shape hu h
    exact ⟨b, rfl, trivial, bulk_pos dat⟩
theorem opens_string {t : TypeId} (hu : P.underlying t = some .string) : Opens enc P W Kd.string t (fun s => s.size ≤ maxLen) (fun s => s.size + 1) := by
  intro fuel cs dat ps h
  cases fuel with
  | zero => simp [DataW.trod] at h
  | succ n =>
    unfold DataW.trod at h
    rw [hu] at h
    split at h <;> simp_all
    obtain ⟨hs, rfl, _⟩ := h
    exact ⟨_, rfl, hs, by simp [Rows.uptoBulk]⟩
def wts {α : Type} (wt : α → Nat) : List α → Nat
  | [] => 0
  | x :: l => wt x + wts wt l
theorem each {α β : Type} {Q : Nat → β → α → Prop} (good : α → Prop) (wt : α → Nat) (bulk : β → Nat) : ∀ (ys : List β) (o : Nat), (∀ j y, ys[j]? = some y → ∃ x, Q (o + j) y x ∧ good x ∧ wt x ≤ bulk y) →
    ∃ xs : List α, xs.length = ys.length ∧ (∀ j x, xs[j]? = some x → ∃ y, ys[j]? = some y ∧ Q (o + j) y x) ∧ (∀ x ∈ xs, good x) ∧ wts wt xs ≤ (ys.map bulk).sum := by
  intro ys
  induction ys with
  | nil => intro o _; exact ⟨[], rfl, fun j x h => by simp at h, fun x h => by simp at h, by simp [wts]⟩
  | cons y ys ih =>
    intro o h
    obtain ⟨x, hq, hg, hw⟩ := h 0 y rfl
    obtain ⟨xs, hl, hx, hgs, hws⟩ := ih (o + 1) (fun j y' hy => by
      have := h (j + 1) y' (by simpa using hy)
      rwa [show o + (j + 1) = o + 1 + j by omega] at this)
    refine ⟨x :: xs, by simp [hl], ?_, ?_, ?_⟩
    · intro j z hz
      cases j with
      | zero => simp at hz; subst hz; exact ⟨y, rfl, hq⟩
      | succ j =>
        obtain ⟨y', hy', hq'⟩ := hx j z (by simpa using hz)
        exact ⟨y', by simpa using hy', by rwa [show o + (j + 1) = o + 1 + j by omega]⟩
    · intro z hz
      rcases List.mem_cons.1 hz with rfl | hz
      · exact hg
      · exact hgs z hz
    · simp only [wts, List.map_cons, List.sum_cons]; omega
theorem bulkAll_sum (l : List (DataW H × List MemPlace)) : Rows.uptoBulkAll (l.map (·.1)) = (l.map fun y => Rows.uptoBulk y.1).sum := by
  induction l with
  | nil => simp [Rows.uptoBulkAll]
  | cons x l ih => simp only [List.map_cons, Rows.uptoBulkAll, ih, List.sum_cons]
theorem slice_shape {t e : TypeId} (hu : P.underlying t = some (.slice e)) {n : Nat} {cs : List Value} {x : DataW H × List MemPlace} (h : DataW.trod enc P W 0 (fun _ => true) true (n + 1) t cs = some x) : cs = [.slice none 0 0] ∨ ∃ a len cap, cs = [.slice (some a) len cap] := by
  unfold DataW.trod at h
  rw [hu] at h
  split at h <;> simp_all
theorem opens_slice {α : Type} {d : Kd α} {t e : TypeId} {good : α → Prop} {wt : α → Nat} (hu : P.underlying t = some (.slice e)) (hc : P.cellsOf e = d.sz) (h : Opens enc P W d e good wt) :
    Opens enc P W (Kd.slice e d) t (fun l => l.length ≤ maxLen ∧ ∀ x ∈ l, good x) (fun l => wts wt l + 1) := by
  intro fuel cs dat ps ht
  cases fuel with
  | zero => simp [DataW.trod] at ht
  | succ n =>
    rcases slice_shape hu ht with rfl | ⟨a, len, cap, rfl⟩
    · simp only [DataW.trod, hu, Option.some.injEq, Prod.mk.injEq] at ht
      obtain ⟨rfl, _⟩ := ht
      refine ⟨[], ⟨none, 0, rfl, Nat.le_refl _, ⟨rfl, by simp, fun hn => by simp at hn⟩⟩, ⟨by simp, fun x hx => by simp at hx⟩, ?_⟩
      simp [wts, Rows.uptoBulk]
    · simp only [DataW.trod, hu] at ht
      split at ht
      · rename_i hh
        obtain ⟨hb, hl, hm⟩ := hh
        obtain ⟨elems, hel, ht⟩ := Option.bind_eq_some_iff.1 ht
        obtain ⟨rest, _, ht⟩ := Option.map_eq_some_iff.1 ht
        have hd := (Prod.mk.inj ht).1
        subst hd
        have hlen := mapM_some_length hel
        simp at hlen
        obtain ⟨xs, hxl, hx, hgs, hws⟩ := each (Q := fun j y x => ∃ c, W.cells? 0 (a.add (j * d.sz)) d.sz = some c ∧ d.K W x c) good wt (fun y : DataW H × List MemPlace => Rows.uptoBulk y.1) elems 0 (by
          intro j y hy
          have hj : j < len := by have := (List.getElem?_eq_some_iff.1 hy).1; omega
          have g := mapM_some_get hel j j (by simp [hj])
          rw [hy] at g
          obtain ⟨c, hc1, hc2⟩ := Option.bind_eq_some_iff.1 g
          obtain ⟨x, hk, hg, hw⟩ := h n c y.1 y.2 hc2
          exact ⟨x, ⟨c, by simpa [hc] using hc1, hk⟩, hg, hw⟩)
        refine ⟨xs, ⟨some a, cap, by rw [hxl, hlen], by omega, ⟨rfl, by unfold maxLen at hm; omega, fun _ => ⟨a, rfl, ?_⟩⟩⟩, ⟨by omega, hgs⟩, ?_⟩
        · intro j p hp
          obtain ⟨y, _, c, hc1, hk⟩ := hx j p hp
          rw [Nat.zero_add] at hc1
          obtain ⟨_, hcl, hcc⟩ := World.cells?_some hc1
          refine ⟨c, hcl, hk, fun i u hui => ?_⟩
          have hi : i < d.sz := by have := (List.getElem?_eq_some_iff.1 hui).1; omega
          have g := hcc i hi
          rw [hui, add_add] at g
          exact g
        · simp only [Rows.uptoBulk, bulkAll_sum]
          omega
      · cases ht
def OpensF {α : Type} (enc : TypeId × Value → H) (P : Program) (W : World) (d : Kd α) (fs : List Field) (off : Nat) (good : α → Prop) (wt : α → Nat) : Prop :=
  ∀ (fuel : Nat) (cs : List Value) (xs : List (DataW H × List MemPlace)), cs.length = off + d.sz → (fs.mapM fun f => DataW.trod enc P W 0 (fun _ => true) true fuel f.type ((cs.drop f.offset).take (P.cellsOf f.type))) = some xs →
    ∃ x, d.K W x (cs.drop off) ∧ good x ∧ wt x ≤ Rows.uptoBulkAll (xs.map (·.1))
theorem opensF_last {α : Type} {d : Kd α} {f : Field} {off : Nat} {good : α → Prop} {wt : α → Nat} (h : Opens enc P W d f.type good wt) (ho : f.offset = off) (hc : P.cellsOf f.type = d.sz) : OpensF enc P W d [f] off good wt := by
  intro fuel cs xs hl hm
  rw [List.mapM_cons] at hm
  simp only [List.mapM_nil, Option.pure_def, Option.bind_eq_bind, Option.bind_some] at hm
  obtain ⟨y, hy, hm⟩ := Option.bind_eq_some_iff.1 hm
  simp at hm
  subst hm
  rw [ho, hc, List.take_of_length_le (by simp [hl])] at hy
  obtain ⟨x, hk, hg, hw⟩ := h fuel _ y.1 y.2 hy
  exact ⟨x, hk, hg, by simp [Rows.uptoBulkAll]; exact hw⟩
theorem opensF_cons {α β : Type} {d : Kd α} {d' : Kd β} {f : Field} {fs : List Field} {off : Nat} {good : α → Prop} {wt : α → Nat} {good' : β → Prop} {wt' : β → Nat} (h : Opens enc P W d f.type good wt) (ho : f.offset = off) (hc : P.cellsOf f.type = d.sz)
    (hr : OpensF enc P W d' fs (off + d.sz) good' wt') : OpensF enc P W (Kd.pair d d') (f :: fs) off (fun x => good x.1 ∧ good' x.2) (fun x => wt x.1 + wt' x.2) := by
  intro fuel cs xs hl hm
  have hsz : (Kd.pair d d').sz = d.sz + d'.sz := rfl
  rw [List.mapM_cons] at hm
  simp only [Option.pure_def, Option.bind_eq_bind] at hm
  obtain ⟨y, hy, hm⟩ := Option.bind_eq_some_iff.1 hm
  obtain ⟨ys, hys, hm⟩ := Option.bind_eq_some_iff.1 hm
  simp at hm
  subst hm
  rw [ho, hc] at hy
  obtain ⟨x, hk, hg, hw⟩ := h fuel _ y.1 y.2 hy
  obtain ⟨x', hk', hg', hw'⟩ := hr fuel cs ys (by omega) hys
  refine ⟨(x, x'), ⟨(cs.drop off).take d.sz, cs.drop (off + d.sz), ?_, hk, hk'⟩, ⟨hg, hg'⟩, ?_⟩
  · rw [← List.drop_drop, List.take_append_drop]
  · simp only [List.map_cons, Rows.uptoBulkAll]; omega
theorem opens_struct {α β : Type} {d : Kd α} {t : TypeId} {fs : Array Field} {good : α → Prop} {wt : α → Nat} {f : β → α} (g : α → β) (hg : ∀ a, f (g a) = a) (hu : P.underlying t = some (.struct fs)) (hc : P.cellsOf t = d.sz) (h : OpensF enc P W d fs.toList 0 good wt) :
    Opens enc P W (Kd.iso d f) t (fun b => good (f b)) (fun b => wt (f b)) := by
  intro fuel cs dat ps ht
  cases fuel with
  | zero => simp [DataW.trod] at ht
  | succ n =>
    unfold DataW.trod at ht
    rw [hu] at ht
    simp only at ht
    split at ht
    · rename_i hl
      obtain ⟨xs, hx, hm⟩ := Option.map_eq_some_iff.1 ht
      have hd := (Prod.mk.inj hm).1
      subst hd
      obtain ⟨x, hk, hgd, hw⟩ := h n cs xs (by rw [hl, hc]; omega) hx
      refine ⟨g x, ?_, by show good (f (g x)); rw [hg]; exact hgd, ?_⟩
      · show d.K W (f (g x)) cs
        rw [hg]; simpa using hk
      · show wt (f (g x)) ≤ _
        rw [hg]; simp only [Rows.uptoBulk]; omega
    · cases ht
theorem slice_arg {α : Type} {d : Kd α} {t e : TypeId} {good : α → Prop} {wt : α → Nat} (h : Opens enc P W (Kd.slice e d) t (fun l => l.length ≤ maxLen ∧ ∀ x ∈ l, good x) (fun l => wts wt l + 1)) {a : Option Addr} {n c : Nat} {dat : DataW H} {ps : List MemPlace}
    (ht : DataW.Trod enc P W 0 (fun _ => true) true t (.slice a n c) dat ps) : ∃ l : List α, n = l.length ∧ l.length ≤ c ∧ d.C W a l.length l ∧ l.length ≤ maxLen ∧ (∀ x ∈ l, good x) ∧ wts wt l + 1 ≤ Rows.uptoBulk dat := by
  obtain ⟨fuel, hf⟩ := ht
  obtain ⟨l, ⟨A, c', hcs, hl, hC⟩, ⟨hm, hg⟩, hw⟩ := h fuel _ dat ps hf
  simp [Value.cells] at hcs
  obtain ⟨rfl, rfl, rfl⟩ := hcs
  exact ⟨l, rfl, hl, hC, hm, hg, hw⟩
end
end Go.Proofs.Ythopdoamajjojaa.Opn
