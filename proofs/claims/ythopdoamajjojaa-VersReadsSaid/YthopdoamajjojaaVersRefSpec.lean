import Derived.Test.YthopdoamajjojaaVersSpec
import Derived.Test.YthopdoamajjojaaQVersx3
namespace Go.Proofs.Ythopdoamajjojaa.VersRefSpec
open Go Go.RowKit Go.Proofs.Ythopdoamajjojaa.QVers Go.Proofs.YthopdoamajjojaaW.PrintWords Go.Proofs.Ythopdoamajjojaa.VersSpec
open TextFacts (zeroAt textS u64_in)
def offC (r : Option Int) : Int × Int := match r with | none => (0, 4) | some o => (o, 0)
theorem offset_ev (ps : List S29) (x y : Int) (hl : ps.length ≤ 9223372036854775807) (hp : ∀ p ∈ ps, okP p) (a n : Int) (ha : 0 ≤ a ∧ a ≤ 18446744073709551615) (d : Nat) : ∀ i : Nat, i ≤ ps.length → ps.length - i = d →
    Ev (fun k => shackleref05_Offset.l0 k a n (i : Int) x y ps) (offC (osp (ps.drop i) a n)) := by
  induction d with
  | zero =>
    intro i hi hd
    refine Ev_after (Ev.now (0 : Nat)) (fun k _ => ?_)
    rw [List.drop_of_length_le (by omega)]
    simp only [shackleref05_Offset.l0]
    rw [if_neg (by omega)]
    rfl
  | succ d ih =>
    intro i hi hd
    have hil : i < ps.length := by omega
    have hpi := hp ps[i] (List.getElem_mem hil)
    have hnext := ih (i + 1) (by omega) (by omega)
    rw [List.drop_eq_getElem_cons hil]
    generalize hps : ps[i] = p at hpi
    unfold okP at hpi
    have hskip : fits p a n = false → Ev (fun k => shackleref05_Offset.j1 k a n (i : Int) true x y ps p.f0 p.f1 p.f2 p.f3 p.f4 p.f5 p.f6) (offC (osp (p :: ps.drop (i + 1)) a n)) := by
      intro hf
      refine Ev_after hnext (fun k h => ?_)
      simp only [shackleref05_Offset.j1]
      rw [if_pos trivial, w64 ((i : Int) + 1) (by omega) (by omega), show (i : Int) + 1 = ((i + 1 : Nat) : Int) by omega]
      unfold osp
      rw [hf]
      exact h
    have hgo : fits p a n = true → Ev (fun k => shackleref05_Offset.j1 k a n (i : Int) false x y ps p.f0 p.f1 p.f2 p.f3 p.f4 p.f5 p.f6) (offC (osp (p :: ps.drop (i + 1)) a n)) := by
      intro hf
      have hf' := hf
      unfold fits at hf'
      simp only [Bool.and_eq_true, decide_eq_true_eq] at hf'
      refine Ev_after (Ev.now (0 : Nat)) (fun k _ => ?_)
      simp only [shackleref05_Offset.j1]
      rw [if_neg (by simp), u64_in (a - p.f3) (by omega) (by omega)]
      unfold osp
      rw [hf, if_pos rfl]
      have ew : IntKind.u64.wrap (p.f2 + (a - p.f3)) = (p.f2 + (a - p.f3)) % 18446744073709551616 := by simp [IntKind.wrap, IntKind.bits, IntKind.signed]
      rw [ew]
      by_cases e4 : p.f2 + (a - p.f3) < 18446744073709551616
      · rw [if_neg (by omega), if_pos e4]
        have : (p.f2 + (a - p.f3)) % 18446744073709551616 = p.f2 + (a - p.f3) := by omega
        rw [this]; rfl
      · rw [if_pos (by omega), if_neg e4]; rfl
    cases hf : fits p a n with
    | false =>
      refine Ev_after (hskip hf) (fun k h => ?_)
      simp only [shackleref05_Offset.l0]
      rw [if_pos (by omega), if_pos (by omega), rdP ps i hil, hps]
      by_cases e0 : p.f0 = 1
      · rw [if_pos e0]
        by_cases e1 : a < p.f3
        · rw [if_pos e1]; exact h
        · rw [if_neg e1, u64_in (a - p.f3) (by omega) (by omega)]
          by_cases e2 : a - p.f3 > p.f4
          · rw [if_pos e2]; exact h
          · have hf' := hf
            unfold fits at hf'
            rw [decide_eq_true e0, decide_eq_true (by omega : p.f3 ≤ a), decide_eq_true (by omega : a - p.f3 ≤ p.f4)] at hf'
            simp only [Bool.true_and, decide_eq_false_iff_not] at hf'
            rw [if_neg e2, u64_in (p.f4 - (a - p.f3)) (by omega) (by omega), decide_eq_true (by omega)]; exact h
      · rw [if_neg e0]; exact h
    | true =>
      have hf' := hf
      unfold fits at hf'
      simp only [Bool.and_eq_true, decide_eq_true_eq] at hf'
      refine Ev_after (hgo hf) (fun k h => ?_)
      simp only [shackleref05_Offset.l0]
      rw [if_pos (by omega), if_pos (by omega), rdP ps i hil, hps, if_pos hf'.1.1.1, if_neg (by omega), u64_in (a - p.f3) (by omega) (by omega), if_neg (by omega), u64_in (p.f4 - (a - p.f3)) (by omega) (by omega), decide_eq_false (by omega)]
      exact h
theorem cut_f (b : List Int) (o n : Int) (hb : b.length ≤ 9223372036854775807) (ho : 0 ≤ o) (hn : 0 ≤ n) :
    shackleref05_Cut.f b o n = some (if o > (b.length : Int) ∨ n > (b.length : Int) - o then ([], false) else ((b.drop o.toNat).take n.toNat, true)) := by
  unfold shackleref05_Cut.f
  rw [u64_in (b.length : Int) (by omega) (by omega)]
  by_cases e1 : o > (b.length : Int)
  · rw [if_pos e1, if_pos (.inl e1)]
  · rw [if_neg e1, u64_in ((b.length : Int) - o) (by omega) (by omega)]
    by_cases e2 : n > (b.length : Int) - o
    · rw [if_pos e2, if_pos (.inr e2)]
    · rw [if_neg e2, if_pos ho, u64_in (o + n) (by omega) (by omega), if_pos (by omega), if_pos (by omega), if_neg (by omega), List.drop_take, show (o + n).toNat - o.toNat = n.toNat by omega]
def slcC (r : Option (List Int)) : List Int × Int := match r with | none => ([], 4) | some l => (l, 0)
theorem slice_ev (b : List Int) (ps : List S29) (x y a n : Int) (hb : b.length ≤ 9223372036854775807) (hl : ps.length ≤ 9223372036854775807) (hp : ∀ p ∈ ps, okP p) (ha : 0 ≤ a ∧ a ≤ 18446744073709551615) (hn : 0 ≤ n) :
    Ev (fun k => shackleref05_Slice.f k b x y ps a n) (slcC (slc b ps a n)) := by
  refine Ev_one (offset_ev ps x y hl hp a n ha ps.length 0 (by omega) (by omega)) (fun k h => ?_)
  unfold shackleref05_Slice.f shackleref05_Offset.f
  rw [List.drop_zero] at h
  have h : shackleref05_Offset.l0 k a n 0 x y ps = some (offC (osp ps a n)) := h
  rw [h, Option.bind_some]
  unfold slc
  cases e : osp ps a n with
  | none => rfl
  | some o =>
    have ho := osp_nonneg hp a n o e
    rw [show offC (some o) = (o, 0) from rfl, if_pos (c := (o, (0 : Int)).2 = 0) rfl, cut_f b o n hb ho.1 hn, Option.bind_some]
    by_cases e2 : o > (b.length : Int) ∨ n > (b.length : Int) - o
    · simp only [if_pos e2]; rfl
    · simp only [if_neg e2]; rfl
theorem strings_ev (b : List Int) (ps : List S29) (x y : Int) (l2 : List Int) (a2_1 a2_2 a2_3 a2_4 a2_5 a2_6 a2_7 a2_8 a2_9 a2_10 a2_11 a2_12 a2_13 : Int) (a2_14 a2_15 a2_16 : Bool) (a2_17 a2_18 a2_19 a2_20 a2_21 a2_22 a2_23 a2_24 a2_25 a2_26 a2_27 a2_28 a2_29 a2_30 a2_31 : Int) (a2_32 a2_33 a2_34 a2_35 a2_36 : Bool) (hb : b.length ≤ 9223372036854775807) (hl : ps.length ≤ 9223372036854775807) (hp : ∀ p ∈ ps, okP p) (h4 : 0 ≤ a2_4 ∧ a2_4 ≤ 18446744073709551615) (h8 : 0 ≤ a2_8 ∧ a2_8 ≤ 18446744073709551615) :
    Ev (fun k => shackleref06_Strings.f k b x y ps l2 a2_1 a2_2 a2_3 a2_4 a2_5 a2_6 a2_7 a2_8 a2_9 a2_10 a2_11 a2_12 a2_13 a2_14 a2_15 a2_16 a2_17 a2_18 a2_19 a2_20 a2_21 a2_22 a2_23 a2_24 a2_25 a2_26 a2_27 a2_28 a2_29 a2_30 a2_31 a2_32 a2_33 a2_34 a2_35 a2_36) (strS b ps a2_4 a2_8) := by
  by_cases e : a2_8 > 1048576
  · refine Ev_one (Ev.now (0 : Nat)) (fun k _ => ?_)
    unfold shackleref06_Strings.f strS
    rw [if_pos e, if_pos e]
  · refine Ev_one (slice_ev b ps x y a2_4 a2_8 hb hl hp h4 h8.1) (fun k h => ?_)
    unfold shackleref06_Strings.f strS
    rw [if_neg e, if_neg e, h, Option.bind_some]
    cases e2 : slc b ps a2_4 a2_8 with
    | none => rfl
    | some l =>
      have hlen := slc_len hp h8.1 e2
      rw [show slcC (some l) = (l, 0) from rfl]
      simp only [if_true]
      by_cases e3 : (l.length : Int) = 0
      · rw [if_pos e3, if_neg (fun z => z.1 (by omega))]
      · rw [if_neg e3, if_pos (by omega)]
        by_cases e4 : rd l 0 = 0
        · rw [if_pos e4, w64 ((l.length : Int) - 1) (by omega) (by omega), if_pos (by omega), if_pos (by omega)]
          by_cases e5 : rd l ((l.length : Int) - 1) = 0
          · rw [if_pos e5, if_pos ⟨by omega, e4, e5⟩]
          · rw [if_neg e5, if_neg (fun z => e5 z.2.2)]
        · rw [if_neg e4, if_neg (fun z => e4 z.2.1)]
theorem number_ev (l : List Int) (h : ∀ x ∈ l, 0 ≤ x ∧ x ≤ 255) (hl : l.length ≤ 8) : ∀ i : Nat, i ≤ l.length → Ev (fun k => shackleref05_Number.l0 k l (num (l.drop i)) ((i : Int) - 1)) (num l)
  | 0, _ => by
    refine Ev_after (Ev.now (0 : Nat)) (fun k _ => ?_)
    simp only [shackleref05_Number.l0]
    rw [if_neg (by omega), List.drop_zero]
  | i + 1, hi => by
    have hil : i < l.length := by omega
    have hx := h l[i] (List.getElem_mem hil)
    have hd : num (l.drop i) = l[i] + 256 * num (l.drop (i + 1)) := by rw [List.drop_eq_getElem_cons hil]; rfl
    have hb := num_lt (l.drop i) (fun x hx => h x (List.mem_of_mem_drop hx)) (by simp; omega)
    have hb1 := num_lt (l.drop (i + 1)) (fun x hx => h x (List.mem_of_mem_drop hx)) (by simp; omega)
    refine Ev_after (number_ev l h hl i (by omega)) (fun k hk => ?_)
    simp only [shackleref05_Number.l0]
    rw [show ((i + 1 : Nat) : Int) - 1 = (i : Int) by omega, if_pos (by omega), if_pos (by omega), if_pos (by omega), rd_nat, getD_at _ _ _ hil, u64_in (256 * num (l.drop (i + 1))) (by omega) (by omega), u64_in l[i] (by omega) (by omega), u64_in (256 * num (l.drop (i + 1)) + l[i]) (by omega) (by omega), w64 ((i : Int) - 1) (by omega) (by omega), show 256 * num (l.drop (i + 1)) + l[i] = num (l.drop i) by omega]
    exact hk
theorem number_f (l : List Int) (h : ∀ x ∈ l, 0 ≤ x ∧ x ≤ 255) (hl : l.length ≤ 8) : Ev (fun k => shackleref05_Number.f k l) (num l) := by
  refine Ev_one (number_ev l h hl l.length (Nat.le_refl _)) (fun k hk => ?_)
  unfold shackleref05_Number.f
  rw [List.drop_length] at hk
  rw [w64 ((l.length : Int) - 1) (by omega) (by omega)]
  exact hk
theorem ref_loop (l : List Int) (a : Int) (hn : l.length ≤ 140737488351232) (h0 : 0 ≤ a) (h1 : a < l.length) (d : Nat) : ∀ (k : Nat) (i : Int), a ≤ i → i ≤ a + zeroAt (l.drop a.toNat) → a + zeroAt (l.drop a.toNat) - i = d → d + 1 < k →
    shackleref06_Text.l0 k l a i = some (textS l a) := by
  have hd : (l.drop a.toNat).length = l.length - a.toNat := List.length_drop
  have hle := TextFacts.zeroAt_le (l.drop a.toNat)
  have hu := u64_in l.length (by omega) (by omega)
  have hrd : ∀ i : Int, a ≤ i → rd l i = (l.drop a.toNat).getD (i - a).toNat 0 := fun i hi => by
    rw [TextFacts.getD_drop, rd]; congr 1; omega
  induction d with
  | zero =>
    intro k i hi1 hi2 hd0 hk
    obtain ⟨k, rfl⟩ : ∃ m, k = m + 1 := ⟨k - 1, by omega⟩
    obtain ⟨k, rfl⟩ : ∃ m, k = m + 1 := ⟨k - 1, by omega⟩
    have hi : i = a + zeroAt (l.drop a.toNat) := by omega
    have e1 : IntKind.u64.wrap (i - a) = (zeroAt (l.drop a.toNat) : Int) := by rw [u64_in _ (by omega) (by omega)]; omega
    have last : shackleref06_Text.j1 (k + 1) l a i = some (textS l a) := by
      simp only [shackleref06_Text.j1]
      unfold textS
      rw [hu, e1, if_neg (by omega : ¬ a ≥ (l.length : Int))]
      by_cases g : zeroAt (l.drop a.toNat) = (l.drop a.toNat).length
      · rw [if_pos (by omega), if_pos g]
      · rw [if_neg (by omega), if_neg g]
        by_cases g3 : zeroAt (l.drop a.toNat) > 255
        · rw [if_pos (by omega), if_pos g3]
        · rw [if_neg (by omega), if_neg g3, if_pos h0, if_pos hi1, if_pos (by omega)]
          rw [show i.toNat = a.toNat + zeroAt (l.drop a.toNat) by omega, TextFacts.take_drop_eq]
    rw [shackleref06_Text.l0]
    rw [hu]
    by_cases g : zeroAt (l.drop a.toNat) = (l.drop a.toNat).length
    · rw [if_neg (by omega)]; exact last
    · have z := TextFacts.is_zero (l.drop a.toNat) (by omega)
      rw [if_pos (by omega), if_pos (by omega), if_pos (by omega), if_pos (by rw [hrd i hi1, show (i - a).toNat = zeroAt (l.drop a.toNat) by omega]; exact z)]
      exact last
  | succ d ih =>
    intro k i hi1 hi2 hd0 hk
    obtain ⟨k, rfl⟩ : ∃ m, k = m + 1 := ⟨k - 1, by omega⟩
    have nz := TextFacts.not_zero (l.drop a.toNat) (i - a).toNat (by omega)
    rw [shackleref06_Text.l0, hu, if_pos (by omega), if_pos (by omega), if_pos (by omega), if_neg (by rw [hrd i hi1]; exact nz), u64_in _ (by omega) (by omega)]
    exact ih k (i + 1) (by omega) (by omega) (by omega) (by omega)
theorem ref_f (l : List Int) (a : Int) (hn : l.length ≤ 140737488351232) (h0 : 0 ≤ a) (k : Nat) (hk : l.length + 2 < k) : shackleref06_Text.f k l a = some (textS l a) := by
  unfold shackleref06_Text.f
  rw [u64_in l.length (by omega) (by omega)]
  by_cases h1 : a ≥ (l.length : Int)
  · rw [if_pos h1]; unfold textS; rw [if_pos h1]
  · rw [if_neg h1]
    have hd : (l.drop a.toNat).length = l.length - a.toNat := List.length_drop
    have hle := TextFacts.zeroAt_le (l.drop a.toNat)
    exact ref_loop l a hn h0 (by omega) (zeroAt (l.drop a.toNat)) k a (by omega) (by omega) (by omega) (by omega)
theorem text_ev (l : List Int) (a : Int) (hn : l.length ≤ 140737488351232) (h0 : 0 ≤ a) : Ev (fun k => shackleref06_Text.f k l a) (textS l a) :=
  ⟨l.length + 3, fun k hk => ref_f l a hn h0 k (by omega)⟩
end Go.Proofs.Ythopdoamajjojaa.VersRefSpec
