/- What the document's strings and symbols are: plain functions; and the program's own functions answer so. -/
import Derived.Test.YtlohkhadbkahdaaQSymsx2
import Derived.Test.YtlohkhadbkahdaaQSymsx3
import Derived.Test.YtlohkhadbkahdaaQSymsx4
import Derived.Test.YtlohkhadbkahdaaQSymsx5
import Derived.Test.YtlohkhadbkahdaaGoodSyms
import Derived.Test.YtlohkhadbkahdaaTextFacts
namespace Go.Proofs.Ytlohkhadbkahdaa.SymsSpec
open Go Go.RowKit Go.Proofs.Ytlohkhadbkahdaa.QSyms Go.Proofs.YtlohkhadbkahdaaW.PrintWords
open TextFacts (zeroAt textS u64_in)

/-! ### words -/
theorem Ev_after {α β : Type} {g : Nat → Option α} {a : Nat → Option β} {x : β} {r : α} (ha : Ev a x) (h : ∀ k, a k = some x → g (k + 1) = some r) : Ev g r := by
  obtain ⟨J, hJ⟩ := ha
  refine ⟨J + 1, fun k hk => ?_⟩
  obtain ⟨k, rfl⟩ : ∃ j, k = j + 1 := ⟨k - 1, by omega⟩
  exact h k (hJ k (by omega))
theorem Ev_one {α β : Type} {g : Nat → Option α} {a : Nat → Option β} {x : β} {r : α} (ha : Ev a x) (h : ∀ k, a k = some x → g k = some r) : Ev g r := by
  obtain ⟨J, hJ⟩ := ha
  exact ⟨J, fun k hk => h k (hJ k hk)⟩
theorem Ev_both {α β γ : Type} {g : Nat → Option α} {a : Nat → Option β} {b : Nat → Option γ} {x : β} {y : γ} {r : α} (ha : Ev a x) (hb : Ev b y) (h : ∀ k, a k = some x → b k = some y → g k = some r) : Ev g r := by
  obtain ⟨J, hJ⟩ := ha
  obtain ⟨K, hK⟩ := hb
  exact ⟨J + K, fun k hk => h k (hJ k (by omega)) (hK k (by omega))⟩
theorem rd_nat (l : List Int) (i : Nat) : rd l (i : Int) = l.getD i 0 := by simp [rd]
theorem getD_at {α : Type} (l : List α) (d : α) (i : Nat) (h : i < l.length) : l.getD i d = l[i] := by
  rw [List.getD_eq_getElem?_getD, List.getElem?_eq_getElem h]; rfl
theorem w64 (n : Int) (h0 : -9223372036854775808 ≤ n) (h : n ≤ 9223372036854775807) : wrap64 n = n := by
  unfold wrap64
  omega
/-- the number of an error, as an error -/
def errOf (c : Int) : Option Int := if c = 0 then none else some c
theorem wf8 {l : List Int} (h : ∀ x ∈ l, (Lit.int .u8 x).wf = true) : ∀ x ∈ l, 0 ≤ x ∧ x ≤ 255 := fun x hx => by
  simpa [Lit.wf, IntKind.min, IntKind.max, IntKind.signed, IntKind.bits] using h x hx
theorem wf64 {a : Int} (h : (Lit.int .u64 a).wf = true) : 0 ≤ a ∧ a ≤ 18446744073709551615 := by
  simpa [Lit.wf, IntKind.min, IntKind.max, IntKind.signed, IntKind.bits] using h
theorem code_errOf (c : Int) (h0 : 0 ≤ c) (h1 : c ≤ 30) : shacklelaw00_Code.f (errOf c) = some c := by
  obtain ⟨n, rfl⟩ := Int.eq_ofNat_of_zero_le h0
  have hn : n ≤ 30 := by omega
  clear h0 h1
  have all : ∀ n : Nat, n < 31 → shacklelaw00_Code.f (errOf (n : Int)) = some (n : Int) := by decide +kernel
  exact all n (by omega)

/-! ### where an address stands in the file -/
def fits (p : S95) (a n : Int) : Bool := decide (p.f0 = 1) && decide (p.f3 ≤ a) && decide (a - p.f3 ≤ p.f4) && decide (n ≤ p.f4 - (a - p.f3))
def osp : List S95 → Int → Int → Option Int
  | [], _, _ => none
  | p :: ps, a, n => if fits p a n then (if p.f2 + (a - p.f3) < 18446744073709551616 then some (p.f2 + (a - p.f3)) else none) else osp ps a n
def slc (b : List Int) (ps : List S95) (a n : Int) : Option (List Int) :=
  match osp ps a n with
  | none => none
  | some o => if o > (b.length : Int) ∨ n > (b.length : Int) - o then none else some ((b.drop o.toNat).take n.toNat)
def strS (b : List Int) (ps : List S95) (tab sz : Int) : List Int × Int :=
  if sz > 1048576 then ([], 2) else
  match slc b ps tab sz with
  | none => ([], 4)
  | some l => if l.length ≠ 0 ∧ rd l 0 = 0 ∧ rd l ((l.length : Int) - 1) = 0 then (l, 0) else ([], 3)
def ok95 (p : S95) : Prop := (0 ≤ p.f2 ∧ p.f2 ≤ 18446744073709551615) ∧ (0 ≤ p.f3 ∧ p.f3 ≤ 18446744073709551615) ∧ (0 ≤ p.f4 ∧ p.f4 ≤ 18446744073709551615)
theorem ok_of {ps : List S95} (h : ∀ z ∈ ps, good95 z) : ∀ p ∈ ps, ok95 p := fun p hp => by
  have := h p hp
  exact ⟨wf64 this.2.2.1, wf64 this.2.2.2.1, wf64 this.2.2.2.2.1⟩
theorem osp_nonneg {ps : List S95} (h : ∀ p ∈ ps, ok95 p) (a n o : Int) (e : osp ps a n = some o) : 0 ≤ o ∧ o < 18446744073709551616 := by
  induction ps with
  | nil => cases e
  | cons p ps ih =>
    unfold osp at e
    split at e
    · rename_i hf
      split at e
      · have hp := h p (by simp)
        unfold fits at hf
        simp only [Bool.and_eq_true, decide_eq_true_eq] at hf
        unfold ok95 at hp
        cases e
        omega
      · cases e
    · exact ih (fun p hp => h p (by simp [hp])) e
theorem rd95 (ps : List S95) (i : Nat) (h : i < ps.length) : rd_T95 ps (i : Int) = ps[i] := by
  unfold rd_T95
  rw [Int.toNat_natCast, getD_at _ _ _ h]

def offR (r : Option Int) : Int × Option Int := match r with | none => (0, some 4) | some o => (o, none)
theorem offset_ev (ps : List S95) (hl : ps.length ≤ 9223372036854775807) (hp : ∀ p ∈ ps, ok95 p) (a n : Int) (ha : 0 ≤ a ∧ a ≤ 18446744073709551615) (d : Nat) : ∀ i : Nat, i ≤ ps.length → ps.length - i = d →
    Ev (fun k => dyn_Offset.l0 k a n ps (ps.length : Int) (i : Int)) (offR (osp (ps.drop i) a n)) := by
  induction d with
  | zero =>
    intro i hi hd
    refine Ev_after (Ev.now (0 : Nat)) (fun k _ => ?_)
    rw [List.drop_of_length_le (by omega)]
    simp only [dyn_Offset.l0]
    rw [if_neg (by omega)]
    rfl
  | succ d ih =>
    intro i hi hd
    have hil : i < ps.length := by omega
    have hpi := hp ps[i] (List.getElem_mem hil)
    have hnext := ih (i + 1) (by omega) (by omega)
    rw [List.drop_eq_getElem_cons hil]
    generalize hps : ps[i] = p at hpi
    unfold ok95 at hpi
    have hskip : fits p a n = false → ∀ x y0 y1 y2 y3 y4 y5 y6, x = true → Ev (fun k => dyn_Offset.j1 k a n ps (ps.length : Int) (i : Int) x y0 y1 y2 y3 y4 y5 y6) (offR (osp (p :: ps.drop (i + 1)) a n)) := by
      intro hf x y0 y1 y2 y3 y4 y5 y6 hx
      subst hx
      refine Ev_after hnext (fun k h => ?_)
      simp only [dyn_Offset.j1]
      rw [if_pos trivial, w64 ((i : Int) + 1) (by omega) (by omega), show (i : Int) + 1 = ((i + 1 : Nat) : Int) by omega]
      unfold osp
      rw [hf]
      exact h
    have hskip2 : fits p a n = false → ∀ z y0 y1 y2 y3 y4 y5 y6, Ev (fun k => dyn_Offset.j2 k a n z ps (ps.length : Int) (i : Int) true y0 y1 y2 y3 y4 y5 y6) (offR (osp (p :: ps.drop (i + 1)) a n)) := by
      intro hf z y0 y1 y2 y3 y4 y5 y6
      refine Ev_after hnext (fun k h => ?_)
      simp only [dyn_Offset.j2]
      rw [if_pos trivial, w64 ((i : Int) + 1) (by omega) (by omega), show (i : Int) + 1 = ((i + 1 : Nat) : Int) by omega]
      unfold osp
      rw [hf]
      exact h
    have key : Ev (fun k => if p.f0 = 1 then dyn_Offset.j1 k a n ps (ps.length : Int) (i : Int) (decide (a < p.f3)) p.f0 p.f1 p.f2 p.f3 p.f4 p.f5 p.f6 else dyn_Offset.j1 k a n ps (ps.length : Int) (i : Int) true p.f0 p.f1 p.f2 p.f3 p.f4 p.f5 p.f6) (offR (osp (p :: ps.drop (i + 1)) a n)) := by
      by_cases e0 : p.f0 = 1
      · by_cases e1 : a < p.f3
        · refine Ev_one (hskip (by unfold fits; simp; omega) true p.f0 p.f1 p.f2 p.f3 p.f4 p.f5 p.f6 rfl) (fun k h => ?_)
          rw [if_pos e0, decide_eq_true e1]; exact h
        · have hd0 : IntKind.u64.wrap (a - p.f3) = a - p.f3 := u64_in _ (by omega) (by omega)
          have hj1 : ∀ z : Bool, (∀ k, (if a - p.f3 > p.f4 then dyn_Offset.j2 k a n (a - p.f3) ps (ps.length : Int) (i : Int) true p.f0 p.f1 p.f2 p.f3 p.f4 p.f5 p.f6 else dyn_Offset.j2 k a n (a - p.f3) ps (ps.length : Int) (i : Int) (decide (n > IntKind.u64.wrap (p.f4 - (a - p.f3)))) p.f0 p.f1 p.f2 p.f3 p.f4 p.f5 p.f6) = dyn_Offset.j2 k a n (a - p.f3) ps (ps.length : Int) (i : Int) z p.f0 p.f1 p.f2 p.f3 p.f4 p.f5 p.f6) →
              Ev (fun k => dyn_Offset.j2 k a n (a - p.f3) ps (ps.length : Int) (i : Int) z p.f0 p.f1 p.f2 p.f3 p.f4 p.f5 p.f6) (offR (osp (p :: ps.drop (i + 1)) a n)) →
              Ev (fun k => if p.f0 = 1 then dyn_Offset.j1 k a n ps (ps.length : Int) (i : Int) (decide (a < p.f3)) p.f0 p.f1 p.f2 p.f3 p.f4 p.f5 p.f6 else dyn_Offset.j1 k a n ps (ps.length : Int) (i : Int) true p.f0 p.f1 p.f2 p.f3 p.f4 p.f5 p.f6) (offR (osp (p :: ps.drop (i + 1)) a n)) := by
            intro z hz h
            refine Ev_after h (fun k h => ?_)
            rw [if_pos e0, decide_eq_false e1]
            simp only [dyn_Offset.j1]
            rw [if_neg (by simp), hd0, hz]
            exact h
          by_cases e2 : a - p.f3 > p.f4
          · exact hj1 true (fun k => if_pos e2) (hskip2 (by unfold fits; simp; omega) (a - p.f3) p.f0 p.f1 p.f2 p.f3 p.f4 p.f5 p.f6)
          · have hd1 : IntKind.u64.wrap (p.f4 - (a - p.f3)) = p.f4 - (a - p.f3) := u64_in _ (by omega) (by omega)
            by_cases e3 : n > p.f4 - (a - p.f3)
            · exact hj1 true (fun k => by rw [if_neg e2, hd1, decide_eq_true e3]) (hskip2 (by unfold fits; simp; omega) (a - p.f3) p.f0 p.f1 p.f2 p.f3 p.f4 p.f5 p.f6)
            · have hf : fits p a n = true := by unfold fits; simp; omega
              refine hj1 false (fun k => by rw [if_neg e2, hd1, decide_eq_false e3]) (Ev_after (Ev.now (0 : Nat)) (fun k _ => ?_))
              simp only [dyn_Offset.j2]
              rw [if_neg (by simp), u64_in (18446744073709551615 - (a - p.f3)) (by omega) (by omega)]
              unfold osp
              rw [hf, if_pos rfl]
              by_cases e4 : p.f2 > 18446744073709551615 - (a - p.f3)
              · rw [if_pos e4, if_neg (by omega)]; rfl
              · rw [if_neg e4, if_pos (by omega), u64_in _ (by omega) (by omega)]; rfl
      · refine Ev_one (hskip (by unfold fits; simp [e0]) true p.f0 p.f1 p.f2 p.f3 p.f4 p.f5 p.f6 rfl) (fun k h => ?_)
        rw [if_neg e0]; exact h
    refine Ev_after key (fun k h => ?_)
    simp only [dyn_Offset.l0]
    rw [if_pos (by omega), if_pos (by omega), if_pos (by omega), rd95 ps i hil, hps]
    exact h
theorem cut_f (b : List Int) (o n : Int) (hb : b.length ≤ 9223372036854775807) (ho : 0 ≤ o) (hn : 0 ≤ n) (hn2 : n ≤ 4294967296) :
    dyn_cut.f b o n = some (if o > (b.length : Int) ∨ n > (b.length : Int) - o then ([], some 4) else ((b.drop o.toNat).take n.toNat, none)) := by
  unfold dyn_cut.f
  rw [u64_in (b.length : Int) (by omega) (by omega)]
  by_cases e1 : o > (b.length : Int)
  · rw [if_pos e1, if_pos (.inl e1)]
  · rw [if_neg e1, u64_in ((b.length : Int) - o) (by omega) (by omega)]
    by_cases e2 : n > (b.length : Int) - o
    · rw [if_pos e2, if_pos (.inr e2)]
    · rw [if_neg e2, if_neg (by omega), u64_in (o + n) (by omega) (by omega), Option.bind_some, if_pos ho, if_pos (by omega), if_pos (by omega), if_pos (by simp; omega), List.nil_append, List.drop_take, show (o + n).toNat - o.toNat = n.toNat by omega]
def slcR (r : Option (List Int)) : List Int × Option Int := match r with | none => ([], some 4) | some l => (l, none)
theorem slice_ev (b : List Int) (ps : List S95) (x y a n : Int) (hb : b.length ≤ 9223372036854775807) (hl : ps.length ≤ 9223372036854775807) (hp : ∀ p ∈ ps, ok95 p) (ha : 0 ≤ a ∧ a ≤ 18446744073709551615) (hn : 0 ≤ n) (hn2 : n ≤ 4294967296) :
    Ev (fun k => dyn_Slice.f k b x y ps a n) (slcR (slc b ps a n)) := by
  refine Ev_one (offset_ev ps hl hp a n ha ps.length 0 (by omega) (by omega)) (fun k h => ?_)
  unfold dyn_Slice.f dyn_Offset.f
  rw [List.drop_zero] at h
  have h : dyn_Offset.l0 k a n ps (ps.length : Int) 0 = some (offR (osp ps a n)) := h
  rw [h, Option.bind_some]
  unfold slc
  cases e : osp ps a n with
  | none => simp [offR, slcR]
  | some o =>
    have ho := osp_nonneg hp a n o e
    simp only [offR, Option.isNone_none, if_true]
    rw [cut_f b o n hb ho.1 hn hn2, Option.bind_some]
    split <;> rfl
theorem slc_len {b : List Int} {ps : List S95} {a n : Int} {l : List Int} (hp : ∀ p ∈ ps, ok95 p) (hn : 0 ≤ n) (h : slc b ps a n = some l) : (l.length : Int) = n ∧ l.length ≤ b.length ∧ ∀ x ∈ l, x ∈ b := by
  unfold slc at h
  cases e : osp ps a n with
  | none => rw [e] at h; cases h
  | some o =>
    have ho := osp_nonneg hp a n o e
    rw [e] at h
    simp only at h
    split at h
    · cases h
    · cases h
      refine ⟨by simp; omega, by simp; omega, fun x hx => List.mem_of_mem_drop (List.mem_of_mem_take hx)⟩
end Go.Proofs.Ytlohkhadbkahdaa.SymsSpec
