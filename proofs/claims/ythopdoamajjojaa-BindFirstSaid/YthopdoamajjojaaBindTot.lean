import Derived.Laws.BitsLemmas
import Derived.Test.YthopdoamajjojaaHashBits
import Derived.Test.YthopdoamajjojaaQBindFx5
import Derived.Test.YthopdoamajjojaaQBindFx7
import Derived.Test.YthopdoamajjojaaQBindFx9
import Derived.Test.YthopdoamajjojaaQBindFx10
namespace Go.Proofs.Ythopdoamajjojaa.BSpec
open Go Go.RowKit Go.Proofs.Ythopdoamajjojaa.QBindF Go.Proofs.YthopdoamajjojaaW.PrintWords
open Go.Proofs.YthopdoamajjojaaW.PrintMore Go.Proofs.YthopdoamajjojaaW.PrintLast
set_option linter.unusedVariables false
set_option linter.unusedSimpArgs false
theorem u64_in (n : Int) (h0 : 0 ≤ n) (h1 : n < 18446744073709551616) : IntKind.u64.wrap n = n := by
  have e : IntKind.u64.wrap n = n % 18446744073709551616 := by simp [IntKind.wrap, IntKind.bits, IntKind.signed]
  rw [e]; omega
theorem Ev_after {α β : Type} {g : Nat → Option α} {a : Nat → Option β} {x : β} {r : α} (ha : Ev a x) (h : ∀ k, a k = some x → g (k + 1) = some r) : Ev g r := by
  obtain ⟨J, hJ⟩ := ha
  refine ⟨J + 1, fun k hk => ?_⟩
  obtain ⟨k, rfl⟩ : ∃ j, k = j + 1 := ⟨k - 1, by omega⟩
  exact h k (hJ k (by omega))
theorem Ev_one {α β : Type} {g : Nat → Option α} {a : Nat → Option β} {x : β} {r : α} (ha : Ev a x) (h : ∀ k, a k = some x → g k = some r) : Ev g r := by
  obtain ⟨J, hJ⟩ := ha
  exact ⟨J, fun k hk => h k (hJ k hk)⟩
theorem getD_at {α : Type} (l : List α) (d : α) (i : Nat) (h : i < l.length) : l.getD i d = l[i] := by
  rw [List.getD_eq_getElem?_getD, List.getElem?_eq_getElem h]; rfl
theorem w64 (n : Int) (h0 : -9223372036854775808 ≤ n) (h : n ≤ 9223372036854775807) : wrap64 n = n := by
  unfold wrap64
  omega
def fits (p : S29) (a n : Int) : Bool := decide (p.f0 = 1) && decide (p.f3 ≤ a) && decide (a - p.f3 ≤ p.f4) && decide (n ≤ p.f4 - (a - p.f3))
def osp : List S29 → Int → Int → Option Int
  | [], _, _ => none
  | p :: ps, a, n => if fits p a n then (if p.f2 + (a - p.f3) < 18446744073709551616 then some (p.f2 + (a - p.f3)) else none) else osp ps a n
def slc (b : List Int) (ps : List S29) (a n : Int) : Option (List Int) :=
  match osp ps a n with
  | none => none
  | some o => if o > (b.length : Int) ∨ n > (b.length : Int) - o then none else some ((b.drop o.toNat).take n.toNat)
def okP (p : S29) : Prop := (0 ≤ p.f2 ∧ p.f2 ≤ 18446744073709551615) ∧ (0 ≤ p.f3 ∧ p.f3 ≤ 18446744073709551615) ∧ (0 ≤ p.f4 ∧ p.f4 ≤ 18446744073709551615)
theorem osp_nonneg {ps : List S29} (h : ∀ p ∈ ps, okP p) (a n o : Int) (e : osp ps a n = some o) : 0 ≤ o ∧ o < 18446744073709551616 := by
  induction ps with
  | nil => cases e
  | cons p ps ih =>
    unfold osp at e
    split at e
    · rename_i hf
      split at e
      · have hp := h p (by simp)
        unfold fits at hf
        simp only [Bool.and_eq_true, decide_eq_true_eq] at hf
        unfold okP at hp
        cases e
        omega
      · cases e
    · exact ih (fun p hp => h p (by simp [hp])) e
theorem rdP (ps : List S29) (i : Nat) (h : i < ps.length) : rd_T29 ps (i : Int) = ps[i] := by
  unfold rd_T29
  rw [Int.toNat_natCast, getD_at _ _ _ h]
def offR (r : Option Int) : Int × Option Int := match r with | none => (0, some 4) | some o => (o, none)
theorem offset_ev (ps : List S29) (hl : ps.length ≤ 9223372036854775807) (hp : ∀ p ∈ ps, okP p) (a n : Int) (ha : 0 ≤ a ∧ a ≤ 18446744073709551615) (d : Nat) : ∀ i : Nat, i ≤ ps.length → ps.length - i = d →
    Ev (fun k => dyn_Offset.l0 k a n ps (ps.length : Int) (i : Int)) (offR (osp (ps.drop i) a n)) := by
  induction d with
  | zero =>
    intro i hi hd
    refine Ev_after (Ev.now (0 : Nat)) (fun k _ => ?_)
    rw [List.drop_of_length_le (by omega)]
    simp only [dyn_Offset.l0]
    rw [if_neg (by omega)]
    rfl
  | succ d ih =>
    intro i hi hd
    have hil : i < ps.length := by omega
    have hpi := hp ps[i] (List.getElem_mem hil)
    have hnext := ih (i + 1) (by omega) (by omega)
    rw [List.drop_eq_getElem_cons hil]
    generalize hps : ps[i] = p at hpi
    unfold okP at hpi
    have hskip : fits p a n = false → ∀ x y0 y1 y2 y3 y4 y5 y6, x = true → Ev (fun k => dyn_Offset.j1 k a n ps (ps.length : Int) (i : Int) x y0 y1 y2 y3 y4 y5 y6) (offR (osp (p :: ps.drop (i + 1)) a n)) := by
      intro hf x y0 y1 y2 y3 y4 y5 y6 hx
      subst hx
      refine Ev_after hnext (fun k h => ?_)
      simp only [dyn_Offset.j1]
      rw [if_pos trivial, w64 ((i : Int) + 1) (by omega) (by omega), show (i : Int) + 1 = ((i + 1 : Nat) : Int) by omega]
      unfold osp
      rw [hf]
      exact h
    have hskip2 : fits p a n = false → ∀ z y0 y1 y2 y3 y4 y5 y6, Ev (fun k => dyn_Offset.j2 k a n z ps (ps.length : Int) (i : Int) true y0 y1 y2 y3 y4 y5 y6) (offR (osp (p :: ps.drop (i + 1)) a n)) := by
      intro hf z y0 y1 y2 y3 y4 y5 y6
      refine Ev_after hnext (fun k h => ?_)
      simp only [dyn_Offset.j2]
      rw [if_pos trivial, w64 ((i : Int) + 1) (by omega) (by omega), show (i : Int) + 1 = ((i + 1 : Nat) : Int) by omega]
      unfold osp
      rw [hf]
      exact h
    have key : Ev (fun k => if p.f0 = 1 then dyn_Offset.j1 k a n ps (ps.length : Int) (i : Int) (decide (a < p.f3)) p.f0 p.f1 p.f2 p.f3 p.f4 p.f5 p.f6 else dyn_Offset.j1 k a n ps (ps.length : Int) (i : Int) true p.f0 p.f1 p.f2 p.f3 p.f4 p.f5 p.f6) (offR (osp (p :: ps.drop (i + 1)) a n)) := by
      by_cases e0 : p.f0 = 1
      · by_cases e1 : a < p.f3
        · refine Ev_one (hskip (by unfold fits; simp; omega) true p.f0 p.f1 p.f2 p.f3 p.f4 p.f5 p.f6 rfl) (fun k h => ?_)
          rw [if_pos e0, decide_eq_true e1]; exact h
        · have hd0 : IntKind.u64.wrap (a - p.f3) = a - p.f3 := u64_in _ (by omega) (by omega)
          have hj1 : ∀ z : Bool, (∀ k, (if a - p.f3 > p.f4 then dyn_Offset.j2 k a n (a - p.f3) ps (ps.length : Int) (i : Int) true p.f0 p.f1 p.f2 p.f3 p.f4 p.f5 p.f6 else dyn_Offset.j2 k a n (a - p.f3) ps (ps.length : Int) (i : Int) (decide (n > IntKind.u64.wrap (p.f4 - (a - p.f3)))) p.f0 p.f1 p.f2 p.f3 p.f4 p.f5 p.f6) = dyn_Offset.j2 k a n (a - p.f3) ps (ps.length : Int) (i : Int) z p.f0 p.f1 p.f2 p.f3 p.f4 p.f5 p.f6) →
              Ev (fun k => dyn_Offset.j2 k a n (a - p.f3) ps (ps.length : Int) (i : Int) z p.f0 p.f1 p.f2 p.f3 p.f4 p.f5 p.f6) (offR (osp (p :: ps.drop (i + 1)) a n)) →
              Ev (fun k => if p.f0 = 1 then dyn_Offset.j1 k a n ps (ps.length : Int) (i : Int) (decide (a < p.f3)) p.f0 p.f1 p.f2 p.f3 p.f4 p.f5 p.f6 else dyn_Offset.j1 k a n ps (ps.length : Int) (i : Int) true p.f0 p.f1 p.f2 p.f3 p.f4 p.f5 p.f6) (offR (osp (p :: ps.drop (i + 1)) a n)) := by
            intro z hz h
            refine Ev_after h (fun k h => ?_)
            rw [if_pos e0, decide_eq_false e1]
            simp only [dyn_Offset.j1]
            rw [if_neg (by simp), hd0, hz]
            exact h
          by_cases e2 : a - p.f3 > p.f4
          · exact hj1 true (fun k => if_pos e2) (hskip2 (by unfold fits; simp; omega) (a - p.f3) p.f0 p.f1 p.f2 p.f3 p.f4 p.f5 p.f6)
          · have hd1 : IntKind.u64.wrap (p.f4 - (a - p.f3)) = p.f4 - (a - p.f3) := u64_in _ (by omega) (by omega)
            by_cases e3 : n > p.f4 - (a - p.f3)
            · exact hj1 true (fun k => by rw [if_neg e2, hd1, decide_eq_true e3]) (hskip2 (by unfold fits; simp; omega) (a - p.f3) p.f0 p.f1 p.f2 p.f3 p.f4 p.f5 p.f6)
            · have hf : fits p a n = true := by unfold fits; simp; omega
              refine hj1 false (fun k => by rw [if_neg e2, hd1, decide_eq_false e3]) (Ev_after (Ev.now (0 : Nat)) (fun k _ => ?_))
              simp only [dyn_Offset.j2]
              rw [if_neg (by simp), u64_in (18446744073709551615 - (a - p.f3)) (by omega) (by omega)]
              unfold osp
              rw [hf, if_pos rfl]
              by_cases e4 : p.f2 > 18446744073709551615 - (a - p.f3)
              · rw [if_pos e4, if_neg (by omega)]; rfl
              · rw [if_neg e4, if_pos (by omega), u64_in _ (by omega) (by omega)]; rfl
      · refine Ev_one (hskip (by unfold fits; simp [e0]) true p.f0 p.f1 p.f2 p.f3 p.f4 p.f5 p.f6 rfl) (fun k h => ?_)
        rw [if_neg e0]; exact h
    refine Ev_after key (fun k h => ?_)
    simp only [dyn_Offset.l0]
    rw [if_pos (by omega), if_pos (by omega), if_pos (by omega), rdP ps i hil, hps]
    exact h
theorem cut_f (b : List Int) (o n : Int) (hb : b.length ≤ 9223372036854775807) (ho : 0 ≤ o) (hn : 0 ≤ n) (hn2 : n ≤ 4294967296) :
    dyn_cut.f b o n = some (if o > (b.length : Int) ∨ n > (b.length : Int) - o then ([], some 4) else ((b.drop o.toNat).take n.toNat, none)) := by
  unfold dyn_cut.f
  rw [u64_in (b.length : Int) (by omega) (by omega)]
  by_cases e1 : o > (b.length : Int)
  · rw [if_pos e1, if_pos (.inl e1)]
  · rw [if_neg e1, u64_in ((b.length : Int) - o) (by omega) (by omega)]
    by_cases e2 : n > (b.length : Int) - o
    · rw [if_pos e2, if_pos (.inr e2)]
    · rw [if_neg e2, if_neg (by omega), u64_in (o + n) (by omega) (by omega), Option.bind_some, if_pos ho, if_pos (by omega), if_pos (by omega), if_pos (by simp; omega), List.nil_append, List.drop_take, show (o + n).toNat - o.toNat = n.toNat by omega]
def slcR (r : Option (List Int)) : List Int × Option Int := match r with | none => ([], some 4) | some l => (l, none)
theorem slice_ev (b : List Int) (ps : List S29) (x y a n : Int) (hb : b.length ≤ 9223372036854775807) (hl : ps.length ≤ 9223372036854775807) (hp : ∀ p ∈ ps, okP p) (ha : 0 ≤ a ∧ a ≤ 18446744073709551615) (hn : 0 ≤ n) (hn2 : n ≤ 4294967296) :
    Ev (fun k => dyn_Slice.f k b x y ps a n) (slcR (slc b ps a n)) := by
  refine Ev_one (offset_ev ps hl hp a n ha ps.length 0 (by omega) (by omega)) (fun k h => ?_)
  unfold dyn_Slice.f dyn_Offset.f
  rw [List.drop_zero] at h
  have h : dyn_Offset.l0 k a n ps (ps.length : Int) 0 = some (offR (osp ps a n)) := h
  rw [h, Option.bind_some]
  unfold slc
  cases e : osp ps a n with
  | none => simp [offR, slcR]
  | some o =>
    have ho := osp_nonneg hp a n o e
    simp only [offR, Option.isNone_none, if_true]
    rw [cut_f b o n hb ho.1 hn hn2, Option.bind_some]
    split <;> rfl
theorem slc_len {b : List Int} {ps : List S29} {a n : Int} {l : List Int} (hp : ∀ p ∈ ps, okP p) (hn : 0 ≤ n) (h : slc b ps a n = some l) : (l.length : Int) = n ∧ l.length ≤ b.length ∧ ∀ x ∈ l, x ∈ b := by
  unfold slc at h
  cases e : osp ps a n with
  | none => rw [e] at h; cases h
  | some o =>
    have ho := osp_nonneg hp a n o e
    rw [e] at h
    simp only at h
    split at h
    · cases h
    · cases h
      refine ⟨by simp; omega, by simp; omega, fun x hx => List.mem_of_mem_drop (List.mem_of_mem_take hx)⟩
theorem Ev_same {α : Type} {g : Nat → Option α} {r s : α} (h : Ev g r) (h' : Ev g s) : r = s := by
  obtain ⟨J, hJ⟩ := h
  obtain ⟨K, hK⟩ := h'
  exact Option.some.inj ((hJ (J + K) (by omega)).symm.trans (hK (J + K) (by omega)))
def S {α : Type} (g : Nat → Option α) (P : α → Prop) : Prop := ∃ r, Ev g r ∧ P r
section
variable {α β : Type} {g f : Nat → Option α} {P : α → Prop} {c : Prop} [Decidable c]
theorem S_pure {r : α} (h : P r) : S (fun _ => some r) P := ⟨r, Ev.now r, h⟩
theorem S_succ (h : S (fun k => g (k + 1)) P) : S g P := by
  obtain ⟨r, h, p⟩ := h
  exact ⟨r, Ev_after h (fun k e => e), p⟩
theorem S_pos (hc : c) (h : S g P) : S (fun k => if c then g k else f k) P := by simpa only [if_pos hc] using h
theorem S_neg (hc : ¬ c) (h : S f P) : S (fun k => if c then g k else f k) P := by simpa only [if_neg hc] using h
theorem S_if (h : c → S g P) (h' : ¬ c → S f P) : S (fun k => if c then g k else f k) P := by
  by_cases e : c
  · exact S_pos e (h e)
  · exact S_neg e (h' e)
theorem S_bind {a : Nat → Option β} {b : Nat → β → Option α} {Q : β → Prop} (h : S a Q) (k : ∀ x, Q x → S (fun n => b n x) P) : S (fun n => (a n).bind (b n)) P := by
  obtain ⟨x, hx, q⟩ := h
  obtain ⟨r, hr, p⟩ := k x q
  exact ⟨r, Ev.bind hx hr, p⟩
theorem S_some {b : Nat → β → Option α} {x : β} (k : S (fun n => b n x) P) : S (fun n => (some x).bind (b n)) P := k
theorem S_mono {Q : α → Prop} (h : S g P) (k : ∀ x, P x → Q x) : S g Q := by
  obtain ⟨x, hx, p⟩ := h
  exact ⟨x, hx, k x p⟩
end
def W32 (l : List Int) : Prop := ∀ v ∈ l, 0 ≤ v ∧ v < 4294967296
theorem rd_in (l : List Int) (i : Int) (h0 : 0 ≤ i) (h1 : i < (l.length : Int)) : rd l i ∈ l := by
  unfold rd
  rw [getD_at _ _ _ (by omega)]
  exact List.getElem_mem _
theorem W32.get {l : List Int} (h : W32 l) {i : Int} (h0 : 0 ≤ i) (h1 : i < (l.length : Int)) : 0 ≤ rd l i ∧ rd l i < 4294967296 := h _ (rd_in l i h0 h1)
theorem or32 (x y : Int) : 0 ≤ bits .or .u32 x y ∧ bits .or .u32 x y < 4294967296 := by
  simp only [bits]; rw [IntKind.wrap_u32]; omega
theorem andNot32 (x y : Int) : 0 ≤ bits .andNot .u32 x y ∧ bits .andNot .u32 x y < 4294967296 := by
  simp only [bits]; rw [IntKind.wrap_u32]; omega
theorem and255 (x : Int) (h0 : 0 ≤ x) (h1 : x < 4294967296) : 0 ≤ bits .and .u32 x 255 ∧ bits .and .u32 x 255 < 256 := by
  obtain ⟨n, rfl⟩ := Int.eq_ofNat_of_zero_le h0
  have := HashBits.bits_and32 n 255 (by omega) (by omega)
  have h : n &&& 255 ≤ 255 := Nat.and_le_right
  rw [show (255 : Int) = ((255 : Nat) : Int) from rfl, this]
  omega
theorem wrap_u64 (x : Int) : 0 ≤ IntKind.u64.wrap x ∧ IntKind.u64.wrap x ≤ 18446744073709551615 := by
  have e : IntKind.u64.wrap x = x % 18446744073709551616 := by simp [IntKind.wrap, IntKind.bits, IntKind.signed]
  rw [e]; omega
theorem words_loop (s : List Int) (n : Nat) (hn : n ≤ 1000000) (hs : (s.length : Int) = 4 * (n : Int)) (d : Nat) : ∀ (i : Nat) (l : List Int), i + d = n → l.length = n → W32 l →
    S (fun k => hash_file_words.l0 k s l (n : Int) (i : Int)) (fun r => ∃ l', r = (l', none) ∧ l'.length = n ∧ W32 l') := by
  induction d with
  | zero =>
    intro i l hi hl hw
    refine S_succ ?_
    simp only [hash_file_words.l0]
    exact S_neg (by omega) (S_pure ⟨l, rfl, hl, hw⟩)
  | succ d ih =>
    intro i l hi hl hw
    refine S_succ ?_
    simp only [hash_file_words.l0]
    rw [w64 (4 * (i : Int)) (by omega) (by omega), w64 (4 * (i : Int) + 1) (by omega) (by omega), w64 (4 * (i : Int) + 2) (by omega) (by omega), w64 (4 * (i : Int) + 3) (by omega) (by omega), w64 ((i : Int) + 1) (by omega) (by omega)]
    refine S_pos (by omega) (S_pos (by omega) (S_pos (by omega) (S_pos (by omega) (S_pos (by omega) (S_pos (by omega) (S_pos (by omega) (S_pos (by omega) (S_pos (by omega) (S_pos (by omega) (S_pos (by omega) ?_))))))))))
    exact ih (i + 1) _ (by omega) (by simpa using hl) (fun v hv => (List.mem_or_eq_of_mem_set hv).elim (hw v) (fun e => e ▸ or32 _ _))
section
variable (b : List Int) (ps : List S29) (x y : Int) (hb : b.length ≤ 9223372036854775807) (hl : ps.length ≤ 9223372036854775807) (hp : ∀ p ∈ ps, okP p)
include hb hl hp
theorem words_S (a n : Int) (ha : 0 ≤ a ∧ a ≤ 18446744073709551615) (hn : 0 ≤ n) (hn2 : n ≤ 1000000) :
    S (fun k => hash_file_words.f k b x y ps a n) (fun r => (∃ c, r = ([], some c)) ∨ ∃ l, r = (l, none) ∧ (l.length : Int) = n ∧ W32 l) := by
  have hs := slice_ev b ps x y a (4 * n) hb hl hp ha (by omega) (by omega)
  unfold hash_file_words.f
  rw [u64_in (4 * n) (by omega) (by omega)]
  refine S_bind (Q := fun r => r = slcR (slc b ps a (4 * n))) ⟨_, hs, rfl⟩ ?_
  rintro _ rfl
  cases e : slc b ps a (4 * n) with
  | none =>
    refine S_neg (by simp [slcR]) (S_pure (.inl ⟨4, rfl⟩))
  | some s =>
    have hsl := slc_len hp (by omega) e
    refine S_pos rfl (S_pos hn (S_pos (by omega) (S_some ?_)))
    simp only [List.length_replicate, slcR]
    refine S_mono (words_loop s n.toNat (by omega) (by omega) n.toNat 0 (List.replicate n.toNat 0) (by omega) (by simp) (fun v hv => by have := List.eq_of_mem_replicate hv; omega)) ?_
    rintro r ⟨l, rfl, h1, h2⟩
    exact .inr ⟨l, rfl, by omega, h2⟩
theorem sysv_S (a : Int) (ha : 0 ≤ a ∧ a ≤ 18446744073709551615) :
    S (fun k => hash_file_sysv.f k b x y ps a) (fun r => (∃ c, r = ([], [], some c)) ∨ ∃ l1 l2, r = (l1, l2, none) ∧ (0 < l1.length ∧ l1.length ≤ 4096) ∧ (0 < l2.length ∧ l2.length ≤ 4096) ∧ W32 l1 ∧ W32 l2) := by
  unfold hash_file_sysv.f
  refine S_bind (words_S b ps x y hb hl hp a 2 ha (by omega) (by omega)) ?_
  rintro _ (⟨c, rfl⟩ | ⟨l, rfl, h2, hw⟩)
  · exact S_neg (by simp) (S_pure (.inl ⟨c, rfl⟩))
  have w0 := hw.get (i := 0) (by omega) (by omega)
  have w1 := hw.get (i := 1) (by omega) (by omega)
  have J1 : ∀ z, (z = false → rd l 0 ≠ 0 ∧ rd l 1 ≠ 0 ∧ rd l 0 ≤ 4096 ∧ rd l 1 ≤ 4096) → S (fun k => hash_file_sysv.j1 k a l z b x y ps) (fun r => (∃ c, r = ([], [], some c)) ∨ ∃ l1 l2, r = (l1, l2, none) ∧ (0 < l1.length ∧ l1.length ≤ 4096) ∧ (0 < l2.length ∧ l2.length ≤ 4096) ∧ W32 l1 ∧ W32 l2) := by
    intro z hz
    refine S_succ ?_
    simp only [hash_file_sysv.j1]
    refine S_if (fun _ => S_pure (.inl ⟨2, rfl⟩)) (fun e => ?_)
    obtain ⟨b0, b1, b2, b3⟩ := hz (by simpa using e)
    rw [u64_in (rd l 0) (by omega) (by omega), u64_in (2 + rd l 0) (by omega) (by omega), u64_in (rd l 1) (by omega) (by omega), u64_in (2 + rd l 0 + rd l 1) (by omega) (by omega), Int.emod_eq_of_lt (a := 2 + rd l 0) (by omega) (by omega)]
    refine S_pos (by omega) (S_pos (by omega) (S_bind (words_S b ps x y hb hl hp a (2 + rd l 0 + rd l 1) ha (by omega) (by omega)) ?_))
    rintro _ (⟨c, rfl⟩ | ⟨l', rfl, h3, hw'⟩)
    · exact S_neg (by simp) (S_pure (.inl ⟨c, rfl⟩))
    refine S_pos rfl (S_pos (by omega) (S_pos (by show _ ≤ (l'.length : Int); omega) (S_pos (by omega) (S_pure (.inr ⟨_, _, rfl, ?_, ?_, ?_, ?_⟩)))))
    · simp only [List.length_drop, List.length_take]; omega
    · simp only [List.length_drop]; omega
    · exact fun v hv => hw' v (List.mem_of_mem_take (List.mem_of_mem_drop hv))
    · exact fun v hv => hw' v (List.mem_of_mem_drop hv)
  have J0 : ∀ z, (z = false → rd l 0 ≠ 0 ∧ rd l 1 ≠ 0) → S (fun k => hash_file_sysv.j0 k a l z b x y ps) (fun r => (∃ c, r = ([], [], some c)) ∨ ∃ l1 l2, r = (l1, l2, none) ∧ (0 < l1.length ∧ l1.length ≤ 4096) ∧ (0 < l2.length ∧ l2.length ≤ 4096) ∧ W32 l1 ∧ W32 l2) := by
    intro z hz
    refine S_succ ?_
    simp only [hash_file_sysv.j0]
    refine S_if (fun _ => S_pure (.inl ⟨3, rfl⟩)) (fun e => S_pos (by omega) (S_if (fun _ => J1 true (by simp)) (fun e0 => S_pos (by omega) (J1 _ (fun e1 => ?_)))))
    have := hz (by simpa using e)
    have e1 := of_decide_eq_false e1
    exact ⟨this.1, this.2, by omega, by omega⟩
  refine S_pos rfl (S_pos (by show 0 < (l.length : Int); omega) (S_if (fun _ => J0 true (by simp)) (fun e0 => S_pos (by show 1 < (l.length : Int); omega) (J0 _ (fun e1 => ⟨e0, by simpa using e1⟩)))))
end
theorem ones_S (z : Int) (h0 : 0 ≤ z) (h1 : z < 4294967296) : ∃ r, bits_OnesCount32.f z = some r := by
  have a1 := and255 (z / 65536) (by omega) (by omega)
  have a2 := and255 (z / 256) (by omega) (by omega)
  have a3 := and255 z (by omega) (by omega)
  unfold bits_OnesCount32.f
  exact ⟨_, (if_pos (by omega)).trans ((if_pos (by omega)).trans ((if_pos a1.1).trans ((if_pos a1.2).trans ((if_pos a2.1).trans ((if_pos a2.2).trans ((if_pos a3.1).trans (if_pos a3.2)))))))⟩
structure G (bl bu : List Int) (base sh ch : Int) : Prop where
  b0 : 2 ≤ bl.length
  b1 : bl.length ≤ 8192
  u0 : 0 < bu.length
  u1 : bu.length ≤ 4096
  uw : W32 bu
  s : 0 ≤ base ∧ base ≤ 4096
  h : 0 ≤ sh ∧ sh ≤ 31
  c : 0 ≤ ch ∧ ch ≤ 18446744073709551615
abbrev GR := List Int × Int × Int × List S29 × List Int × List Int × Int × Int × Int × Option Int
def GP (b : List Int) (x y : Int) (ps : List S29) (r : GR) : Prop := (∃ c, r = ([], 0, 0, [], [], [], 0, 0, 0, some c)) ∨ ∃ bl bu base sh ch, r = (b, x, y, ps, bl, bu, base, sh, ch, none) ∧ G bl bu base sh ch
theorem gnu_loop (b : List Int) (ps : List S29) (x y : Int) (bl bu : List Int) (base sh ch : Int) (hg : G bl bu base sh ch) (d : Nat) : ∀ i : Nat, i + d = bu.length →
    S (fun k => hash_file_gnu.l0 k bu (bu.length : Int) (i : Int) b x y ps bl bu base sh ch) (GP b x y ps) := by
  have hu := hg.u1
  induction d with
  | zero =>
    intro i hi
    refine S_succ ?_
    simp only [hash_file_gnu.l0]
    exact S_neg (by omega) (S_pure (.inr ⟨_, _, _, _, _, rfl, hg⟩))
  | succ d ih =>
    intro i hi
    refine S_succ ?_
    simp only [hash_file_gnu.l0]
    rw [w64 ((i : Int) + 1) (by omega) (by omega)]
    refine S_pos (by omega) (S_pos (by omega) (S_pos (by omega) (S_if (fun _ => ih (i + 1) (by omega)) (fun _ => S_if (fun _ => S_pure (.inl ⟨3, rfl⟩)) (fun _ => ih (i + 1) (by omega))))))
section
variable (b : List Int) (ps : List S29) (x y : Int) (hb : b.length ≤ 9223372036854775807) (hl : ps.length ≤ 9223372036854775807) (hp : ∀ p ∈ ps, okP p)
include hb hl hp
theorem gnu_S (a : Int) (ha : 0 ≤ a ∧ a ≤ 18446744073709551615) : S (fun k => hash_file_gnu.f k b x y ps a) (GP b x y ps) := by
  unfold hash_file_gnu.f
  refine S_bind (words_S b ps x y hb hl hp a 4 ha (by omega) (by omega)) ?_
  rintro _ (⟨c, rfl⟩ | ⟨l, rfl, h2, hw⟩)
  · exact S_neg (by simp) (S_pure (.inl ⟨c, rfl⟩))
  have w0 := hw.get (i := 0) (by omega) (by omega)
  have w1 := hw.get (i := 1) (by omega) (by omega)
  have w2 := hw.get (i := 2) (by omega) (by omega)
  have w3 := hw.get (i := 3) (by omega) (by omega)
  have J0 : ∀ z, (z = false → rd l 0 ≠ 0 ∧ rd l 2 ≠ 0 ∧ rd l 3 ≤ 31) → S (fun k => hash_file_gnu.j0 k a l z b x y ps) (GP b x y ps) := by
    intro z hz
    refine S_succ ?_
    simp only [hash_file_gnu.j0]
    refine S_if (fun _ => S_pure (.inl ⟨3, rfl⟩)) (fun e => ?_)
    obtain ⟨b0, b1, b2⟩ := hz (by simpa using e)
    refine S_pos (by omega) (S_if (fun _ => S_pure (.inl ⟨2, rfl⟩)) (fun c0 => S_pos (by omega) (S_if (fun _ => S_pure (.inl ⟨2, rfl⟩)) (fun c1 => S_pos (by omega) (S_if (fun _ => S_pure (.inl ⟨2, rfl⟩)) (fun c2 => ?_))))))
    rw [u64_in (rd l 2) (by omega) (by omega), u64_in (2 * rd l 2) (by omega) (by omega), u64_in (4 + 2 * rd l 2) (by omega) (by omega), u64_in (rd l 0) (by omega) (by omega), u64_in (4 + 2 * rd l 2 + rd l 0) (by omega) (by omega)]
    refine S_bind (words_S b ps x y hb hl hp a (4 + 2 * rd l 2 + rd l 0) ha (by omega) (by omega)) ?_
    rintro _ (⟨c, rfl⟩ | ⟨l', rfl, h3, hw'⟩)
    · exact S_neg (by simp) (S_pure (.inl ⟨c, rfl⟩))
    refine S_pos rfl (S_pos (by omega) (S_pos (by show _ ≤ (l'.length : Int); omega) (S_pos (by omega) (S_some (S_pos (by omega) ?_)))))
    refine gnu_loop b ps x y _ _ _ _ _ ⟨?_, ?_, ?_, ?_, ?_, ?_, ?_, wrap_u64 _⟩ _ 0 (Nat.zero_add _)
    · simp only [List.length_drop, List.length_take]; omega
    · simp only [List.length_drop, List.length_take]; omega
    · simp only [List.length_drop]; omega
    · simp only [List.length_drop]; omega
    · exact fun v hv => hw' v (List.mem_of_mem_drop hv)
    · exact ⟨w1.1, by omega⟩
    · exact ⟨w3.1, b2⟩
  obtain ⟨o, ho⟩ := ones_S (rd l 2) w2.1 w2.2
  refine S_pos rfl (S_pos (by show 0 < (l.length : Int); omega) (S_if (fun _ => J0 true (by simp)) (fun e0 => S_pos (by show 2 < (l.length : Int); omega) (S_if (fun _ => J0 true (by simp)) (fun e1 => ?_)))))
  simp only [ho]
  refine S_some (S_if (fun _ => S_pos (by show 3 < (l.length : Int); omega) (J0 _ (fun e2 => ⟨e0, e1, ?_⟩))) (fun _ => J0 true (by simp)))
  have e2 := of_decide_eq_false e2
  show rd l 3 ≤ 31
  have e2 : ¬ rd l 3 > 31 := e2
  omega
variable (bl bu : List Int) (base sh ch : Int)
theorem chain_S (i : Int) : S (fun k => hash_second_chain.f k b x y ps bl bu base sh ch i) (fun r => (∃ c, r = (0, some c)) ∨ ∃ v, r = (v, none)) := by
  unfold hash_second_chain.f
  refine S_bind (words_S b ps x y hb hl hp _ 1 (wrap_u64 _) (by omega) (by omega)) ?_
  rintro _ (⟨c, rfl⟩ | ⟨l, rfl, h2, hw⟩)
  · exact S_neg (by simp) (S_pure (.inl ⟨c, rfl⟩))
  exact S_pos rfl (S_pos (by show 0 < (l.length : Int); omega) (S_pure (.inr ⟨_, rfl⟩)))
def End (i c : Int) : Prop := i ≤ c ∧ c < 4096 ∧ ∃ v, Ev (fun k => hash_second_chain.f k b x y ps bl bu base sh ch c) (v, none) ∧ Go.bits .and .u32 v 1 = 1
omit hb hl hp in
theorem End.le {i j c : Int} (h : End b ps x y bl bu base sh ch i c) (hj : j ≤ i) : End b ps x y bl bu base sh ch j c := ⟨Int.le_trans hj h.1, h.2⟩
theorem count_l1 (d : Nat) : ∀ i : Int, 0 ≤ i → i < 4294967296 → 4096 - i ≤ (d : Int) →
    S (fun k => hash_second_count.l1 k i b x y ps bl bu base sh ch) (fun r => r.2 = none → ∃ c, End b ps x y bl bu base sh ch i c) := by
  induction d with
  | zero =>
    intro i h0 h1 hd
    refine S_succ ?_
    simp only [hash_second_count.l1]
    exact S_pos (by omega) (S_pure (by simp))
  | succ d ih =>
    intro i h0 h1 hd
    refine S_succ ?_
    simp only [hash_second_count.l1]
    refine S_if (fun _ => S_pure (by simp)) (fun hi => ?_)
    obtain ⟨r, hr, hk⟩ := chain_S b ps x y hb hl hp bl bu base sh ch i
    refine S_bind (Q := fun r' => r' = r) ⟨r, hr, rfl⟩ ?_
    rintro _ rfl
    rcases hk with ⟨c, rfl⟩ | ⟨v, rfl⟩
    · exact S_neg (by simp) (S_pure (by simp))
    refine S_pos rfl (S_if (fun e => S_pure (fun _ => ⟨i, Int.le_refl _, by omega, v, hr, e⟩)) (fun _ => ?_))
    rw [Int.emod_eq_of_lt (by omega) (by omega)]
    exact S_mono (ih (i + 1) (by omega) (by omega) (by omega)) (fun r h e => (h e).imp fun c hc => hc.le b ps x y bl bu base sh ch (by omega))
theorem count_l0 (hw : W32 bu) (hu : bu.length ≤ 4096) (d : Nat) : ∀ (i : Nat) (t : Int), i + d = bu.length → 0 ≤ t → t < 4294967296 → (∀ j : Nat, j < i → rd bu (j : Int) ≤ t) →
    S (fun k => hash_second_count.l0 k t bu (bu.length : Int) (i : Int) b x y ps bl bu base sh ch) (fun r => r.2 = none → ∃ t', (∀ j : Nat, j < bu.length → rd bu (j : Int) ≤ t') ∧ (t' = 0 ∨ ∃ c, End b ps x y bl bu base sh ch t' c)) := by
  induction d with
  | zero =>
    intro i t hi h0 h1 hm
    refine S_succ ?_
    simp only [hash_second_count.l0]
    have hm' : ∀ j : Nat, j < bu.length → rd bu (j : Int) ≤ t := fun j hj => hm j (by omega)
    exact S_neg (by omega) (S_if (fun e => S_pure (fun _ => ⟨t, hm', .inl e⟩)) (fun _ => S_mono (count_l1 b ps x y hb hl hp bl bu base sh ch 4096 t h0 h1 (by omega)) (fun r h e => ⟨t, hm', .inr (h e)⟩)))
  | succ d ih =>
    intro i t hi h0 h1 hm
    refine S_succ ?_
    simp only [hash_second_count.l0]
    rw [w64 ((i : Int) + 1) (by omega) (by omega)]
    have hr := hw.get (i := (i : Int)) (by omega) (by omega)
    have hx : t ≤ mx t (rd bu (i : Int)) ∧ rd bu (i : Int) ≤ mx t (rd bu (i : Int)) ∧ mx t (rd bu (i : Int)) < 4294967296 := by
      unfold mx; split <;> omega
    refine S_pos (by omega) (S_pos (by omega) (S_pos (by omega) (ih (i + 1) _ (by omega) (by omega) hx.2.2 (fun j hj => ?_))))
    by_cases e : j = i
    · subst e; exact hx.2.1
    · exact Int.le_trans (hm j (by omega)) hx.1
theorem count_S (hg : G bl bu base sh ch) : S (fun k => hash_second_count.f k b x y ps bl bu base sh ch) (fun r => r.2 = none → ∃ t', (∀ j : Nat, j < bu.length → rd bu (j : Int) ≤ t') ∧ (t' = 0 ∨ ∃ c, End b ps x y bl bu base sh ch t' c)) := by
  unfold hash_second_count.f
  exact count_l0 b ps x y hb hl hp bl bu base sh ch hg.uw hg.u1 bu.length 0 0 (by omega) (by omega) (by omega) (fun j hj => by omega)
end
theorem gnuHash_loop (s : ByteArray) (hs : s.size ≤ 9223372036854775807) (d : Nat) : ∀ (i : Nat) (t : Int), i + d = s.size → 0 ≤ t → t < 4294967296 → S (fun k => hash_Gnu.l0 k s t (s.size : Int) (i : Int)) (fun r => 0 ≤ r ∧ r < 4294967296) := by
  induction d with
  | zero =>
    intro i t hi h0 h1
    refine S_succ ?_
    simp only [hash_Gnu.l0]
    exact S_neg (by omega) (S_pure ⟨h0, h1⟩)
  | succ d ih =>
    intro i t hi h0 h1
    refine S_succ ?_
    simp only [hash_Gnu.l0]
    rw [w64 ((i : Int) + 1) (by omega) (by omega)]
    exact S_pos (by omega) (S_pos (by omega) (S_pos (by omega) (ih (i + 1) _ (by omega) (by omega) (by omega))))
theorem sysvHash_loop (s : ByteArray) (hs : s.size ≤ 9223372036854775807) (d : Nat) : ∀ (i : Nat) (t : Int), i + d = s.size → 0 ≤ t → t < 4294967296 → S (fun k => hash_Sysv.l0 k s t (s.size : Int) (i : Int)) (fun r => 0 ≤ r ∧ r < 4294967296) := by
  induction d with
  | zero =>
    intro i t hi h0 h1
    refine S_succ ?_
    simp only [hash_Sysv.l0]
    exact S_neg (by omega) (S_pure ⟨h0, h1⟩)
  | succ d ih =>
    intro i t hi h0 h1
    refine S_succ ?_
    simp only [hash_Sysv.l0]
    rw [w64 ((i : Int) + 1) (by omega) (by omega)]
    exact S_pos (by omega) (S_pos (by omega) (S_pos (by omega) (ih (i + 1) _ (by omega) (andNot32 _ _).1 (andNot32 _ _).2)))
def In (ss : List S39) (r : List Int × Option Int) : Prop := ∀ x ∈ r.1, 0 ≤ x ∧ x < (ss.length : Int)
theorem first_loop (ss : List S39) (hss : ss.length ≤ 9223372036854775807) (name : ByteArray) (l1 l2 : List Int) (h2 : l2.length ≤ 4096) (hw : W32 l2) (d : Nat) : ∀ (i : Nat) (z : Int) (out : List Int), i + d = l2.length → 0 ≤ z → z < 4294967296 → out.length ≤ i → (∀ x ∈ out, 0 ≤ x ∧ x < (ss.length : Int)) →
    S (fun k => hash_first_look.l0 k ss name out (i : Int) z l1 l2) (In ss) := by
  have hnil : ∀ c : Option Int, In ss ([], c) := fun c x hx => by cases hx
  have J : ∀ (i : Nat) (z : Int) (out : List Int) (t : Bool), i ≤ l2.length → 0 ≤ z → z < 4294967296 → out.length ≤ i → (∀ x ∈ out, 0 ≤ x ∧ x < (ss.length : Int)) → (t = false → z < (l2.length : Int) ∧ z < (ss.length : Int)) →
      (i < l2.length → ∀ (z' : Int) (out' : List Int), 0 ≤ z' → z' < 4294967296 → out'.length ≤ i + 1 → (∀ x ∈ out', 0 ≤ x ∧ x < (ss.length : Int)) → S (fun k => hash_first_look.l0 k ss name out' ((i + 1 : Nat) : Int) z' l1 l2) (In ss)) →
      S (fun k => hash_first_look.j1 k ss name out (i : Int) z t l1 l2) (In ss) := by
    intro i z out t hi h0 h1 ho hin ht ih
    refine S_succ ?_
    simp only [hash_first_look.j1]
    rw [w64 ((i : Int) + 1) (by omega) (by omega), w64 z (by omega) (by omega), show ((i : Int) + 1) = ((i + 1 : Nat) : Int) by omega]
    refine S_if (fun _ => S_pure (hnil _)) (fun e => S_if (fun _ => S_pure (hnil _)) (fun e1 => ?_))
    have hb := ht (by simpa using e)
    have hz := hw.get h0 hb.1
    refine S_pos h0 (S_pos hb.2 (S_if (fun _ => S_pos (by omega) (S_pos hb.1 (ih (by omega) _ _ hz.1 hz.2 (by simp; omega) (fun x hx => ?_)))) (fun _ => S_pos hb.1 (ih (by omega) _ _ hz.1 hz.2 (by omega) hin))))
    rcases List.mem_append.1 hx with hx | hx
    · exact hin x hx
    · rw [List.mem_singleton] at hx; subst hx; exact ⟨h0, hb.2⟩
  induction d with
  | zero =>
    intro i z out hi h0 h1 ho hin
    refine S_succ ?_
    simp only [hash_first_look.l0]
    rw [w64 z (by omega) (by omega)]
    refine S_if (fun _ => S_pure hin) (fun _ => S_if (fun _ => J i z out true (by omega) h0 h1 ho hin (by simp) (fun h => absurd h (by omega))) (fun e => J i z out _ (by omega) h0 h1 ho hin (fun e1 => ⟨by omega, by have := of_decide_eq_false e1; omega⟩) (fun h => absurd h (by omega))))
  | succ d ih =>
    intro i z out hi h0 h1 ho hin
    refine S_succ ?_
    simp only [hash_first_look.l0]
    rw [w64 z (by omega) (by omega)]
    have ih' := fun (_ : i < l2.length) (z' : Int) (out' : List Int) a1 a2 a3 a4 => ih (i + 1) z' out' (by omega) a1 a2 a3 a4
    refine S_if (fun _ => S_pure hin) (fun _ => S_if (fun _ => J i z out true (by omega) h0 h1 ho hin (by simp) ih') (fun e => J i z out _ (by omega) h0 h1 ho hin (fun e1 => ⟨by omega, by have := of_decide_eq_false e1; omega⟩) ih'))
theorem first_S (ss : List S39) (hss : ss.length ≤ 9223372036854775807) (name : ByteArray) (hs : name.size ≤ 9223372036854775807) (l1 l2 : List Int) (h1 : 0 < l1.length ∧ l1.length ≤ 4096) (h2 : 0 < l2.length ∧ l2.length ≤ 4096) (w1 : W32 l1) (w2 : W32 l2) :
    S (fun k => hash_first_look.f k l1 l2 ss name) (In ss) := by
  unfold hash_first_look.f hash_Sysv.f
  refine S_bind (sysvHash_loop name hs name.size 0 0 (by omega) (by omega) (by omega)) (fun t ht => ?_)
  rw [Int.emod_eq_of_lt (a := (l1.length : Int)) (by omega) (by omega), Int.tmod_eq_emod_of_nonneg ht.1]
  have m0 := Int.emod_nonneg t (b := (l1.length : Int)) (by omega)
  have m1 := Int.emod_lt_of_pos t (b := (l1.length : Int)) (by omega)
  have hz := w1.get m0 m1
  exact S_neg (by omega) (S_pos m0 (S_pos m1 (first_loop ss hss name l1 l2 h2.2 w2 l2.length 0 _ [] (by omega) hz.1 hz.2 (by simp) (fun x hx => by cases hx))))
section
variable (b : List Int) (ps : List S29) (x y : Int) (hb : b.length ≤ 9223372036854775807) (hl : ps.length ≤ 9223372036854775807) (hp : ∀ p ∈ ps, okP p)
include hb hl hp
variable (bl bu : List Int) (base sh ch : Int)
theorem second_loop (ss : List S39) (hss : ss.length ≤ 9223372036854775807) (name : ByteArray) (t c : Int) (hc : c < 4096) (hend : ∃ v, Ev (fun k => hash_second_chain.f k b x y ps bl bu base sh ch c) (v, none) ∧ Go.bits .and .u32 v 1 = 1) (d : Nat) : ∀ (i : Int) (out : List Int), 0 ≤ i → i ≤ c → c - i ≤ (d : Int) → (out.length : Int) ≤ i → (∀ x ∈ out, 0 ≤ x ∧ x < (ss.length : Int)) →
    S (fun k => hash_second_look.l0 k ss name t out i b x y ps bl bu base sh ch) (In ss) := by
  have hnil : ∀ c : Option Int, In ss ([], c) := fun c x hx => by cases hx
  have J : ∀ (i : Int) (out : List Int) (v : Int) (z : Bool), 0 ≤ i → i ≤ c → (out.length : Int) ≤ i → (∀ x ∈ out, 0 ≤ x ∧ x < (ss.length : Int)) → i < (ss.length : Int) → (i = c → Go.bits .and .u32 v 1 = 1) →
      (i < c → ∀ out' : List Int, (out'.length : Int) ≤ i + 1 → (∀ x ∈ out', 0 ≤ x ∧ x < (ss.length : Int)) → S (fun k => hash_second_look.l0 k ss name t out' (i + 1) b x y ps bl bu base sh ch) (In ss)) →
      S (fun k => hash_second_look.j2 k ss name t out i v z b x y ps bl bu base sh ch) (In ss) := by
    intro i out v z h0 h1 ho hin hi hv ih
    refine S_succ ?_
    simp only [hash_second_look.j2]
    rw [w64 i (by omega) (by omega), Int.emod_eq_of_lt (a := i + 1) (by omega) (by omega)]
    have hin' : ∀ x ∈ out ++ [i], 0 ≤ x ∧ x < (ss.length : Int) := by
      intro x hx
      rcases List.mem_append.1 hx with hx | hx
      · exact hin x hx
      · rw [List.mem_singleton] at hx; subst hx; exact ⟨h0, hi⟩
    have hlt : ¬ Go.bits .and .u32 v 1 = 1 → i < c := fun e => by
      have : i ≠ c := fun e2 => e (hv e2)
      omega
    exact S_if (fun _ => S_pos (by omega) (S_some (S_if (fun _ => S_pure hin') (fun e => ih (hlt e) _ (by simp; omega) hin')))) (fun _ => S_if (fun _ => S_pure hin) (fun e => ih (hlt e) _ (by omega) hin))
  have step : ∀ (i : Int) (out : List Int), 0 ≤ i → i ≤ c → (out.length : Int) ≤ i → (∀ x ∈ out, 0 ≤ x ∧ x < (ss.length : Int)) →
      (i < c → ∀ out' : List Int, (out'.length : Int) ≤ i + 1 → (∀ x ∈ out', 0 ≤ x ∧ x < (ss.length : Int)) → S (fun k => hash_second_look.l0 k ss name t out' (i + 1) b x y ps bl bu base sh ch) (In ss)) →
      S (fun k => hash_second_look.l0 k ss name t out i b x y ps bl bu base sh ch) (In ss) := by
    intro i out h0 h1 ho hin ih
    refine S_succ ?_
    simp only [hash_second_look.l0]
    rw [w64 i (by omega) (by omega)]
    refine S_if (fun _ => S_pure (hnil _)) (fun hi => ?_)
    obtain ⟨r, hr, hk⟩ := chain_S b ps x y hb hl hp bl bu base sh ch i
    have hv : i = c → ∃ v, r = (v, none) ∧ Go.bits .and .u32 v 1 = 1 := by
      rintro rfl
      obtain ⟨v, hv, e⟩ := hend
      exact ⟨v, Ev_same hr hv, e⟩
    refine S_bind (Q := fun r' => r' = r) ⟨r, hr, rfl⟩ ?_
    rintro _ rfl
    rcases hk with ⟨c', rfl⟩ | ⟨v, rfl⟩
    · exact S_neg (by simp) (S_pure (hnil _))
    have hv' : i = c → Go.bits .and .u32 v 1 = 1 := fun e => by
      obtain ⟨v', h, h'⟩ := hv e
      cases h; exact h'
    exact S_pos rfl (S_if (fun _ => S_pos h0 (S_pos (by omega) (J i out v _ h0 h1 ho hin (by omega) hv' ih))) (fun _ => J i out v _ h0 h1 ho hin (by omega) hv' ih))
  induction d with
  | zero => exact fun i out h0 h1 hd ho hin => step i out h0 h1 ho hin (fun h => absurd h (by omega))
  | succ d ih => exact fun i out h0 h1 hd ho hin => step i out h0 h1 ho hin (fun h out' a1 a2 => ih (i + 1) out' (by omega) (by omega) (by omega) a1 a2)
theorem second_S (ss : List S39) (hss : ss.length ≤ 9223372036854775807) (name : ByteArray) (hs : name.size ≤ 9223372036854775807) (hg : G bl bu base sh ch)
    (hcnt : ∃ t', (∀ j : Nat, j < bu.length → rd bu (j : Int) ≤ t') ∧ (t' = 0 ∨ ∃ c, End b ps x y bl bu base sh ch t' c)) :
    S (fun k => hash_second_look.f k b x y ps bl bu base sh ch ss name) (In ss) := by
  have hnil : ∀ c : Option Int, In ss ([], c) := fun c x hx => by cases hx
  obtain ⟨b0, b1, u0, u1, uw, s, h, c⟩ := hg
  unfold hash_second_look.f hash_Gnu.f
  refine S_bind (gnuHash_loop name hs name.size 0 5381 (by omega) (by omega) (by omega)) (fun t ht => ?_)
  have J : ∀ z, S (fun k => hash_second_look.j0 k ss name t z b x y ps bl bu base sh ch) (In ss) := by
    intro z
    refine S_succ ?_
    simp only [hash_second_look.j0]
    rw [Int.emod_eq_of_lt (a := (bu.length : Int)) (by omega) (by omega), Int.tmod_eq_emod_of_nonneg ht.1]
    have m0 := Int.emod_nonneg t (b := (bu.length : Int)) (by omega)
    have m1 := Int.emod_lt_of_pos t (b := (bu.length : Int)) (by omega)
    have hz := uw.get m0 m1
    refine S_if (fun _ => S_pure (hnil _)) (fun _ => S_neg (by omega) (S_pos m0 (S_pos m1 (S_if (fun _ => S_pure (hnil _)) (fun e => ?_)))))
    obtain ⟨t', hm, ht'⟩ := hcnt
    have hle := hm (t % (bu.length : Int)).toNat (by omega)
    rw [Int.toNat_of_nonneg m0] at hle
    rcases ht' with rfl | ⟨c, h1, h2, h3⟩
    · exact absurd (Int.le_antisymm hle hz.1) e
    · exact second_loop b ps x y hb hl hp bl bu base sh ch ss hss name t c h2 h3 c.toNat _ [] hz.1 (by omega) (by omega) (by simpa using hz.1) (fun x hx => by cases hx)
  have hB : wrap64 ((bl.length : Int) / 2) = (bl.length : Int) / 2 := w64 _ (by omega) (by omega)
  rw [hB, Int.emod_eq_of_lt (a := (bl.length : Int) / 2) (by omega) (by omega), Int.tdiv_eq_ediv_of_nonneg ht.1, Int.tmod_eq_emod_of_nonneg ht.1, Int.emod_eq_of_lt (a := t / 64) (by omega) (by omega)]
  have m0 := Int.emod_nonneg (t / 64) (b := (bl.length : Int) / 2) (by omega)
  have m1 := Int.emod_lt_of_pos (t / 64) (b := (bl.length : Int) / 2) (by omega)
  have hsr : 0 ≤ shr .u32 t sh := by unfold shr; exact Int.ediv_nonneg ht.1 (Int.le_of_lt (Int.pow_pos (by omega)))
  generalize (t / 64) % ((bl.length : Int) / 2) = q at m0 m1
  rw [Int.emod_eq_of_lt (a := 2 * q) (by omega) (by omega), Int.emod_eq_of_lt (a := 2 * q + 1) (by omega) (by omega), Int.tmod_eq_emod_of_nonneg hsr]
  refine S_neg (by omega) (S_pos (by omega) (S_pos (by omega) (S_pos (by omega) (S_pos (by omega) (S_pos (by omega) (S_if (fun _ => J true) (fun _ => S_pos h.1 (S_pos (by omega) (J _)))))))))
end
end Go.Proofs.Ythopdoamajjojaa.BSpec
