/- The reference's strings and symbols are the plain functions'. -/
import Derived.Test.YtlohkhadbkahdaaSymsRow
import Derived.Test.YtlohkhadbkahdaaQSymsx7
import Derived.Test.YtlohkhadbkahdaaQSymsx8
namespace Go.Proofs.Ytlohkhadbkahdaa.SymsRef
open Go Go.RowKit Go.Proofs.Ytlohkhadbkahdaa.QSyms Go.Proofs.YtlohkhadbkahdaaW.PrintWords Go.Proofs.Ytlohkhadbkahdaa.SymsSpec
open TextFacts (zeroAt textS u64_in)

def offC (r : Option Int) : Int × Int := match r with | none => (0, 4) | some o => (o, 0)
theorem offset_ev (ps : List S95) (x y : Int) (hl : ps.length ≤ 9223372036854775807) (hp : ∀ p ∈ ps, ok95 p) (a n : Int) (ha : 0 ≤ a ∧ a ≤ 18446744073709551615) (d : Nat) : ∀ i : Nat, i ≤ ps.length → ps.length - i = d →
    Ev (fun k => shackleref05_Offset.l0 k a n (i : Int) x y ps) (offC (osp (ps.drop i) a n)) := by
  induction d with
  | zero =>
    intro i hi hd
    refine Ev_after (Ev.now (0 : Nat)) (fun k _ => ?_)
    rw [List.drop_of_length_le (by omega)]
    simp only [shackleref05_Offset.l0]
    rw [if_neg (by omega)]
    rfl
  | succ d ih =>
    intro i hi hd
    have hil : i < ps.length := by omega
    have hpi := hp ps[i] (List.getElem_mem hil)
    have hnext := ih (i + 1) (by omega) (by omega)
    rw [List.drop_eq_getElem_cons hil]
    generalize hps : ps[i] = p at hpi
    unfold ok95 at hpi
    have hskip : fits p a n = false → Ev (fun k => shackleref05_Offset.j1 k a n (i : Int) true x y ps p.f0 p.f1 p.f2 p.f3 p.f4 p.f5 p.f6) (offC (osp (p :: ps.drop (i + 1)) a n)) := by
      intro hf
      refine Ev_after hnext (fun k h => ?_)
      simp only [shackleref05_Offset.j1]
      rw [if_pos trivial, w64 ((i : Int) + 1) (by omega) (by omega), show (i : Int) + 1 = ((i + 1 : Nat) : Int) by omega]
      unfold osp
      rw [hf]
      exact h
    have hgo : fits p a n = true → Ev (fun k => shackleref05_Offset.j1 k a n (i : Int) false x y ps p.f0 p.f1 p.f2 p.f3 p.f4 p.f5 p.f6) (offC (osp (p :: ps.drop (i + 1)) a n)) := by
      intro hf
      have hf' := hf
      unfold fits at hf'
      simp only [Bool.and_eq_true, decide_eq_true_eq] at hf'
      refine Ev_after (Ev.now (0 : Nat)) (fun k _ => ?_)
      simp only [shackleref05_Offset.j1]
      rw [if_neg (by simp), u64_in (a - p.f3) (by omega) (by omega)]
      unfold osp
      rw [hf, if_pos rfl]
      have ew : IntKind.u64.wrap (p.f2 + (a - p.f3)) = (p.f2 + (a - p.f3)) % 18446744073709551616 := by simp [IntKind.wrap, IntKind.bits, IntKind.signed]
      rw [ew]
      by_cases e4 : p.f2 + (a - p.f3) < 18446744073709551616
      · rw [if_neg (by omega), if_pos e4]
        have : (p.f2 + (a - p.f3)) % 18446744073709551616 = p.f2 + (a - p.f3) := by omega
        rw [this]; rfl
      · rw [if_pos (by omega), if_neg e4]; rfl
    cases hf : fits p a n with
    | false =>
      refine Ev_after (hskip hf) (fun k h => ?_)
      simp only [shackleref05_Offset.l0]
      rw [if_pos (by omega), if_pos (by omega), rd95 ps i hil, hps]
      by_cases e0 : p.f0 = 1
      · rw [if_pos e0]
        by_cases e1 : a < p.f3
        · rw [if_pos e1]; exact h
        · rw [if_neg e1, u64_in (a - p.f3) (by omega) (by omega)]
          by_cases e2 : a - p.f3 > p.f4
          · rw [if_pos e2]; exact h
          · have hf' := hf
            unfold fits at hf'
            rw [decide_eq_true e0, decide_eq_true (by omega : p.f3 ≤ a), decide_eq_true (by omega : a - p.f3 ≤ p.f4)] at hf'
            simp only [Bool.true_and, decide_eq_false_iff_not] at hf'
            rw [if_neg e2, u64_in (p.f4 - (a - p.f3)) (by omega) (by omega), decide_eq_true (by omega)]; exact h
      · rw [if_neg e0]; exact h
    | true =>
      have hf' := hf
      unfold fits at hf'
      simp only [Bool.and_eq_true, decide_eq_true_eq] at hf'
      refine Ev_after (hgo hf) (fun k h => ?_)
      simp only [shackleref05_Offset.l0]
      rw [if_pos (by omega), if_pos (by omega), rd95 ps i hil, hps, if_pos hf'.1.1.1, if_neg (by omega), u64_in (a - p.f3) (by omega) (by omega), if_neg (by omega), u64_in (p.f4 - (a - p.f3)) (by omega) (by omega), decide_eq_false (by omega)]
      exact h
theorem cut_f (b : List Int) (o n : Int) (hb : b.length ≤ 9223372036854775807) (ho : 0 ≤ o) (hn : 0 ≤ n) :
    shackleref05_Cut.f b o n = some (if o > (b.length : Int) ∨ n > (b.length : Int) - o then ([], false) else ((b.drop o.toNat).take n.toNat, true)) := by
  unfold shackleref05_Cut.f
  rw [u64_in (b.length : Int) (by omega) (by omega)]
  by_cases e1 : o > (b.length : Int)
  · rw [if_pos e1, if_pos (.inl e1)]
  · rw [if_neg e1, u64_in ((b.length : Int) - o) (by omega) (by omega)]
    by_cases e2 : n > (b.length : Int) - o
    · rw [if_pos e2, if_pos (.inr e2)]
    · rw [if_neg e2, if_pos ho, u64_in (o + n) (by omega) (by omega), if_pos (by omega), if_pos (by omega), if_neg (by omega), List.drop_take, show (o + n).toNat - o.toNat = n.toNat by omega]
def slcC (r : Option (List Int)) : List Int × Int := match r with | none => ([], 4) | some l => (l, 0)
theorem slice_ev (b : List Int) (ps : List S95) (x y a n : Int) (hb : b.length ≤ 9223372036854775807) (hl : ps.length ≤ 9223372036854775807) (hp : ∀ p ∈ ps, ok95 p) (ha : 0 ≤ a ∧ a ≤ 18446744073709551615) (hn : 0 ≤ n) :
    Ev (fun k => shackleref05_Slice.f k b x y ps a n) (slcC (slc b ps a n)) := by
  refine Ev_one (offset_ev ps x y hl hp a n ha ps.length 0 (by omega) (by omega)) (fun k h => ?_)
  unfold shackleref05_Slice.f shackleref05_Offset.f
  rw [List.drop_zero] at h
  have h : shackleref05_Offset.l0 k a n 0 x y ps = some (offC (osp ps a n)) := h
  rw [h, Option.bind_some]
  unfold slc
  cases e : osp ps a n with
  | none => rfl
  | some o =>
    have ho := osp_nonneg hp a n o e
    rw [show offC (some o) = (o, 0) from rfl, if_pos (c := (o, (0 : Int)).2 = 0) rfl, cut_f b o n hb ho.1 hn, Option.bind_some]
    by_cases e2 : o > (b.length : Int) ∨ n > (b.length : Int) - o
    · simp only [if_pos e2]; rfl
    · simp only [if_neg e2]; rfl
theorem strings_ev (b : List Int) (ps : List S95) (x y : Int) (l2 : List Int) (a2_1 a2_2 a2_3 a2_4 a2_5 a2_6 a2_7 a2_8 a2_9 a2_10 a2_11 a2_12 a2_13 : Int) (a2_14 a2_15 a2_16 : Bool) (a2_17 a2_18 a2_19 a2_20 a2_21 a2_22 a2_23 a2_24 a2_25 a2_26 a2_27 a2_28 a2_29 a2_30 a2_31 : Int) (a2_32 a2_33 a2_34 a2_35 a2_36 : Bool) (hb : b.length ≤ 9223372036854775807) (hl : ps.length ≤ 9223372036854775807) (hp : ∀ p ∈ ps, ok95 p) (h4 : 0 ≤ a2_4 ∧ a2_4 ≤ 18446744073709551615) (h8 : 0 ≤ a2_8 ∧ a2_8 ≤ 18446744073709551615) :
    Ev (fun k => shackleref06_Strings.f k b x y ps l2 a2_1 a2_2 a2_3 a2_4 a2_5 a2_6 a2_7 a2_8 a2_9 a2_10 a2_11 a2_12 a2_13 a2_14 a2_15 a2_16 a2_17 a2_18 a2_19 a2_20 a2_21 a2_22 a2_23 a2_24 a2_25 a2_26 a2_27 a2_28 a2_29 a2_30 a2_31 a2_32 a2_33 a2_34 a2_35 a2_36) (strS b ps a2_4 a2_8) := by
  by_cases e : a2_8 > 1048576
  · refine Ev_one (Ev.now (0 : Nat)) (fun k _ => ?_)
    unfold shackleref06_Strings.f strS
    rw [if_pos e, if_pos e]
  · refine Ev_one (slice_ev b ps x y a2_4 a2_8 hb hl hp h4 h8.1) (fun k h => ?_)
    unfold shackleref06_Strings.f strS
    rw [if_neg e, if_neg e, h, Option.bind_some]
    cases e2 : slc b ps a2_4 a2_8 with
    | none => rfl
    | some l =>
      have hlen := slc_len hp h8.1 e2
      rw [show slcC (some l) = (l, 0) from rfl]
      simp only [if_true]
      by_cases e3 : (l.length : Int) = 0
      · rw [if_pos e3, if_neg (fun z => z.1 (by omega))]
      · rw [if_neg e3, if_pos (by omega)]
        by_cases e4 : rd l 0 = 0
        · rw [if_pos e4, w64 ((l.length : Int) - 1) (by omega) (by omega), if_pos (by omega), if_pos (by omega)]
          by_cases e5 : rd l ((l.length : Int) - 1) = 0
          · rw [if_pos e5, if_pos ⟨by omega, e4, e5⟩]
          · rw [if_neg e5, if_neg (fun z => e5 z.2.2)]
        · rw [if_neg e4, if_neg (fun z => e4 z.2.1)]

theorem number_ev (l : List Int) (h : ∀ x ∈ l, 0 ≤ x ∧ x ≤ 255) (hl : l.length ≤ 8) : ∀ i : Nat, i ≤ l.length → Ev (fun k => shackleref05_Number.l0 k l (num (l.drop i)) ((i : Int) - 1)) (num l)
  | 0, _ => by
    refine Ev_after (Ev.now (0 : Nat)) (fun k _ => ?_)
    simp only [shackleref05_Number.l0]
    rw [if_neg (by omega), List.drop_zero]
  | i + 1, hi => by
    have hil : i < l.length := by omega
    have hx := h l[i] (List.getElem_mem hil)
    have hd : num (l.drop i) = l[i] + 256 * num (l.drop (i + 1)) := by rw [List.drop_eq_getElem_cons hil]; rfl
    have hb := num_lt (l.drop i) (fun x hx => h x (List.mem_of_mem_drop hx)) (by simp; omega)
    have hb1 := num_lt (l.drop (i + 1)) (fun x hx => h x (List.mem_of_mem_drop hx)) (by simp; omega)
    refine Ev_after (number_ev l h hl i (by omega)) (fun k hk => ?_)
    simp only [shackleref05_Number.l0]
    rw [show ((i + 1 : Nat) : Int) - 1 = (i : Int) by omega, if_pos (by omega), if_pos (by omega), if_pos (by omega), rd_nat, getD_at _ _ _ hil, u64_in (256 * num (l.drop (i + 1))) (by omega) (by omega), u64_in l[i] (by omega) (by omega), u64_in (256 * num (l.drop (i + 1)) + l[i]) (by omega) (by omega), w64 ((i : Int) - 1) (by omega) (by omega), show 256 * num (l.drop (i + 1)) + l[i] = num (l.drop i) by omega]
    exact hk
theorem number_f (l : List Int) (h : ∀ x ∈ l, 0 ≤ x ∧ x ≤ 255) (hl : l.length ≤ 8) : Ev (fun k => shackleref05_Number.f k l) (num l) := by
  refine Ev_one (number_ev l h hl l.length (Nat.le_refl _)) (fun k hk => ?_)
  unfold shackleref05_Number.f
  rw [List.drop_length] at hk
  rw [w64 ((l.length : Int) - 1) (by omega) (by omega)]
  exact hk

/-! ### a text -/
theorem ref_loop (l : List Int) (a : Int) (hn : l.length ≤ 140737488351232) (h0 : 0 ≤ a) (h1 : a < l.length) (d : Nat) : ∀ (k : Nat) (i : Int), a ≤ i → i ≤ a + zeroAt (l.drop a.toNat) → a + zeroAt (l.drop a.toNat) - i = d → d + 1 < k →
    shackleref06_Text.l0 k l a i = some (textS l a) := by
  have hd : (l.drop a.toNat).length = l.length - a.toNat := List.length_drop
  have hle := TextFacts.zeroAt_le (l.drop a.toNat)
  have hu := u64_in l.length (by omega) (by omega)
  have hrd : ∀ i : Int, a ≤ i → rd l i = (l.drop a.toNat).getD (i - a).toNat 0 := fun i hi => by
    rw [TextFacts.getD_drop, rd]; congr 1; omega
  induction d with
  | zero =>
    intro k i hi1 hi2 hd0 hk
    obtain ⟨k, rfl⟩ : ∃ m, k = m + 1 := ⟨k - 1, by omega⟩
    obtain ⟨k, rfl⟩ : ∃ m, k = m + 1 := ⟨k - 1, by omega⟩
    have hi : i = a + zeroAt (l.drop a.toNat) := by omega
    have e1 : IntKind.u64.wrap (i - a) = (zeroAt (l.drop a.toNat) : Int) := by rw [u64_in _ (by omega) (by omega)]; omega
    have last : shackleref06_Text.j1 (k + 1) l a i = some (textS l a) := by
      simp only [shackleref06_Text.j1]
      unfold textS
      rw [hu, e1, if_neg (by omega : ¬ a ≥ (l.length : Int))]
      by_cases g : zeroAt (l.drop a.toNat) = (l.drop a.toNat).length
      · rw [if_pos (by omega), if_pos g]
      · rw [if_neg (by omega), if_neg g]
        by_cases g3 : zeroAt (l.drop a.toNat) > 255
        · rw [if_pos (by omega), if_pos g3]
        · rw [if_neg (by omega), if_neg g3, if_pos h0, if_pos hi1, if_pos (by omega)]
          rw [show i.toNat = a.toNat + zeroAt (l.drop a.toNat) by omega, TextFacts.take_drop_eq]
    rw [shackleref06_Text.l0]
    rw [hu]
    by_cases g : zeroAt (l.drop a.toNat) = (l.drop a.toNat).length
    · rw [if_neg (by omega)]; exact last
    · have z := TextFacts.is_zero (l.drop a.toNat) (by omega)
      rw [if_pos (by omega), if_pos (by omega), if_pos (by omega), if_pos (by rw [hrd i hi1, show (i - a).toNat = zeroAt (l.drop a.toNat) by omega]; exact z)]
      exact last
  | succ d ih =>
    intro k i hi1 hi2 hd0 hk
    obtain ⟨k, rfl⟩ : ∃ m, k = m + 1 := ⟨k - 1, by omega⟩
    have nz := TextFacts.not_zero (l.drop a.toNat) (i - a).toNat (by omega)
    rw [shackleref06_Text.l0, hu, if_pos (by omega), if_pos (by omega), if_pos (by omega), if_neg (by rw [hrd i hi1]; exact nz), u64_in _ (by omega) (by omega)]
    exact ih k (i + 1) (by omega) (by omega) (by omega) (by omega)

theorem ref_f (l : List Int) (a : Int) (hn : l.length ≤ 140737488351232) (h0 : 0 ≤ a) (k : Nat) (hk : l.length + 2 < k) : shackleref06_Text.f k l a = some (textS l a) := by
  unfold shackleref06_Text.f
  rw [u64_in l.length (by omega) (by omega)]
  by_cases h1 : a ≥ (l.length : Int)
  · rw [if_pos h1]; unfold textS; rw [if_pos h1]
  · rw [if_neg h1]
    have hd : (l.drop a.toNat).length = l.length - a.toNat := List.length_drop
    have hle := TextFacts.zeroAt_le (l.drop a.toNat)
    exact ref_loop l a hn h0 (by omega) (zeroAt (l.drop a.toNat)) k a (by omega) (by omega) (by omega) (by omega)
theorem text_ev (l : List Int) (a : Int) (hn : l.length ≤ 140737488351232) (h0 : 0 ≤ a) : Ev (fun k => shackleref06_Text.f k l a) (textS l a) :=
  ⟨l.length + 3, fun k hk => ref_f l a hn h0 k (by omega)⟩

/-! ### symbols -/
theorem flag_bad (q v : Int) (hv : 0 ≤ v) : (if q > 2 then true else if v = 0 then false else if v = 1 then false else if v = 2 then false else if v = 3 then false else if v = 4 then false else if v = 6 then false else (v != 10)) = decide (q > 2 ∨ (v > 6 ∧ v ≠ 10) ∨ v = 5) := by
  by_cases h : q > 2 ∨ (v > 6 ∧ v ≠ 10) ∨ v = 5
  · rw [decide_eq_true h]
    by_cases h1 : q > 2
    · rw [if_pos h1]
    · rw [if_neg h1, if_neg (by omega), if_neg (by omega), if_neg (by omega), if_neg (by omega), if_neg (by omega), if_neg (by omega), bne_iff_ne]; omega
  · rw [decide_eq_false h, if_neg (by omega)]
    by_cases h0 : v = 0
    · rw [if_pos h0]
    rw [if_neg h0]
    by_cases h1 : v = 1
    · rw [if_pos h1]
    rw [if_neg h1]
    by_cases h2 : v = 2
    · rw [if_pos h2]
    rw [if_neg h2]
    by_cases h3 : v = 3
    · rw [if_pos h3]
    rw [if_neg h3]
    by_cases h4 : v = 4
    · rw [if_pos h4]
    rw [if_neg h4]
    by_cases h6 : v = 6
    · rw [if_pos h6]
    rw [if_neg h6, bne_eq_false_iff_eq]; omega
theorem zero_step (x : List Int) (i : Nat) (hi : i < x.length) : zeros (x.take (i + 1)) = (zeros (x.take i) && (rd x (i : Int) == 0)) := by
  unfold zeros
  rw [List.take_succ_eq_append_getElem hi, List.all_append, rd_nat, getD_at _ _ _ hi]
  simp
theorem l1_ev (n : Int) (s t : List Int) (acc : List S68) (i : Nat) (x : List Int) (hx : x.length = 24) (R : List S68 × Int)
    (h : Ev (fun k => shackleref06_Read.j2 k n s t acc (i : Int) x (decide (i = 0) && !zeros x)) R) (d : Nat) : ∀ q : Nat, q ≤ 24 → 24 - q = d → Ev (fun k => shackleref06_Read.l1 k n s t acc (i : Int) x (zeros (x.take q)) (q : Int)) R := by
  induction d with
  | zero =>
    intro q hq hd
    obtain rfl : q = 24 := by omega
    refine Ev_after h (fun k h => ?_)
    rw [List.take_of_length_le (by omega)]
    simp only [shackleref06_Read.l1]
    rw [if_neg (by omega)]
    by_cases e : i = 0
    · rw [if_pos (by omega)]; rw [decide_eq_true e, Bool.true_and] at h; exact h
    · rw [if_neg (by omega)]; rw [decide_eq_false e, Bool.false_and] at h; exact h
  | succ d ih =>
    intro q hq hd
    refine Ev_after (ih (q + 1) (by omega) (by omega)) (fun k h => ?_)
    rw [zero_step x q (by omega)] at h
    simp only [shackleref06_Read.l1]
    rw [if_pos (by omega), w64 ((q : Int) + 1) (by omega) (by omega), show (q : Int) + 1 = ((q + 1 : Nat) : Int) by omega]
    cases e : zeros (x.take q) with
    | true => rw [e, Bool.true_and] at h; rw [if_pos rfl, if_pos (by omega), if_pos (by omega)]; exact h
    | false => rw [e, Bool.false_and] at h; rw [if_neg (by simp)]; exact h
theorem Ev_three {α β γ δ : Type} {g : Nat → Option α} {a : Nat → Option β} {b : Nat → Option γ} {c : Nat → Option δ} {x : β} {y : γ} {z : δ} {r : α} (ha : Ev a x) (hb : Ev b y) (hc : Ev c z) (h : ∀ k, a k = some x → b k = some y → c k = some z → g (k + 1) = some r) : Ev g r := by
  obtain ⟨A, hA⟩ := ha
  obtain ⟨B, hB⟩ := hb
  obtain ⟨C, hC⟩ := hc
  refine ⟨A + B + C + 1, fun k hk => ?_⟩
  obtain ⟨k, rfl⟩ : ∃ j, k = j + 1 := ⟨k - 1, by omega⟩
  exact h k (hA k (by omega)) (hB k (by omega)) (hC k (by omega))
theorem j2_ev (s t x : List Int) (acc : List S68) (n : Int) (i : Nat) (hsl : s.length ≤ 140737488351232) (hx : ∀ v ∈ x, 0 ≤ v ∧ v ≤ 255) (hxl : x.length = 24) (hacc : acc.length ≤ 4096) (R : List S68 × Int)
    (hi : i < 4096) (h1 : (row s x).2 ≠ 0 → R = ([], (row s x).2)) (h2 : (row s x).2 = 0 → Ev (fun k => shackleref06_Read.l0 k n s t (acc ++ [(row s x).1]) ((i + 1 : Nat) : Int)) R) :
    Ev (fun k => shackleref06_Read.j2 k n s t acc (i : Int) x false) R := by
  have sub : ∀ a b : Nat, ∀ v ∈ (x.take b).drop a, 0 ≤ v ∧ v ≤ 255 := fun a b v hv => hx v (List.mem_of_mem_take (List.mem_of_mem_drop hv))
  have n1 := number_f (x.take 4) (fun v hv => hx v (List.mem_of_mem_take hv)) (by simp; omega)
  have n3 := number_f ((x.take 16).drop 8) (sub 8 16) (by simp; omega)
  have n4 := number_f ((x.take 24).drop 16) (sub 16 24) (by simp; omega)
  have e24 : (x.take 24).drop 16 = x.drop 16 := by rw [List.take_of_length_le (by omega)]
  have hn1 := num_lt (x.take 4) (fun v hv => hx v (List.mem_of_mem_take hv)) (by simp; omega)
  have htx := text_ev s (num (x.take 4)) hsl hn1.1
  have hr4 : 0 ≤ rd x 4 ∧ rd x 4 ≤ 255 := rd_in hx 4 (by omega)
  have hr5 : 0 ≤ rd x 5 ∧ rd x 5 ≤ 255 := rd_in hx 5 (by omega)
  have hr6 : 0 ≤ rd x 6 ∧ rd x 6 ≤ 255 := rd_in hx 6 (by omega)
  have hr7 : 0 ≤ rd x 7 ∧ rd x 7 ≤ 255 := rd_in hx 7 (by omega)
  have w0 : wrap64 (rd x 4) = rd x 4 := w64 _ (by omega) (by omega)
  have w1 : wrap64 (Int.tdiv (rd x 4) 16) = rd x 4 / 16 := by rw [Int.tdiv_eq_ediv_of_nonneg hr4.1, w64 _ (by omega) (by omega)]
  have w2 : Int.tmod (rd x 4) 16 = rd x 4 % 16 := Int.tmod_eq_emod_of_nonneg hr4.1
  have w3 : Int.tmod (wrap64 (rd x 5)) 4 = rd x 5 % 4 := by rw [w64 _ (by omega) (by omega), Int.tmod_eq_emod_of_nonneg hr5.1]
  have w4 : wrap64 ((wrap64 (rd x 6)) + (wrap64 (256 * (wrap64 (rd x 7))))) = rd x 6 + 256 * rd x 7 := by
    rw [w64 (rd x 6) (by omega) (by omega), w64 (rd x 7) (by omega) (by omega), w64 (256 * rd x 7) (by omega) (by omega), w64 _ (by omega) (by omega)]
  have wi : wrap64 ((i : Int) + 1) = ((i + 1 : Nat) : Int) := by rw [w64 _ (by omega) (by omega)]; omega
  have hacc' : acc.length < 2199023255552 := Nat.lt_of_le_of_lt hacc (by decide)
  have hv0 : 0 ≤ rd x 4 % 16 := by omega
  by_cases ht : (textS s (num (x.take 4))).2 = 0
  · have hj3 : Ev (fun k => shackleref06_Read.j3 k n s t acc (i : Int) x (textS s (num (x.take 4))).1 (rd x 4 / 16) (rd x 4 % 16) (decide (badKind x))) R := by
      by_cases hb : badKind x
      · have hrow : (row s x).2 = 3 := by unfold row; rw [if_neg (fun z => z ht), if_pos hb]
        have hR := h1 (by omega)
        rw [hrow] at hR
        subst hR
        refine Ev_after (Ev.now (0 : Nat)) (fun k _ => ?_)
        simp only [shackleref06_Read.j3]
        rw [decide_eq_true hb, if_pos rfl]
      · have hrow : row s x = (⟨(textS s (num (x.take 4))).1, rd x 4 / 16, rd x 4 % 16, rd x 5 % 4, rd x 6 + 256 * rd x 7, num ((x.take 16).drop 8), num (x.drop 16)⟩, 0) := by
          unfold row; rw [if_neg (fun z => z ht), if_neg hb]
        have hnext := h2 (by rw [hrow])
        rw [hrow] at hnext
        refine Ev_three n3 n4 hnext (fun k k3 k4 k5 => ?_)
        simp only [shackleref06_Read.j3]
        rw [decide_eq_false hb, if_neg (by simp), if_pos (by omega), if_pos (by omega), if_pos (by omega), if_pos (by omega), if_pos (by omega), k3, Option.bind_some, if_pos (by omega), if_pos (by omega), k4, Option.bind_some, if_pos hacc', w3, w4, wi, e24]
        exact k5
    refine Ev_three n1 htx hj3 (fun k k1 k2 k3 => ?_)
    simp only [shackleref06_Read.j2]
    rw [if_neg (by simp), if_pos (by omega), k1, Option.bind_some, k2, Option.bind_some, if_pos ht, if_pos (by omega), w0, w1, w2]
    have hflag := flag_bad (rd x 4 / 16) (rd x 4 % 16) hv0
    have hdb : decide (badKind x) = decide (rd x 4 / 16 > 2 ∨ (rd x 4 % 16 > 6 ∧ rd x 4 % 16 ≠ 10) ∨ rd x 4 % 16 = 5) := rfl
    rw [hdb, ← hflag] at k3
    clear hflag hdb
    by_cases c0 : rd x 4 / 16 > 2
    · rw [if_pos c0] at k3 ⊢; exact k3
    rw [if_neg c0] at k3 ⊢
    by_cases c1 : rd x 4 % 16 = 0
    · rw [if_pos c1] at k3 ⊢; exact k3
    rw [if_neg c1] at k3 ⊢
    by_cases c2 : rd x 4 % 16 = 1
    · rw [if_pos c2] at k3 ⊢; exact k3
    rw [if_neg c2] at k3 ⊢
    by_cases c3 : rd x 4 % 16 = 2
    · rw [if_pos c3] at k3 ⊢; exact k3
    rw [if_neg c3] at k3 ⊢
    by_cases c4 : rd x 4 % 16 = 3
    · rw [if_pos c4] at k3 ⊢; exact k3
    rw [if_neg c4] at k3 ⊢
    by_cases c5 : rd x 4 % 16 = 4
    · rw [if_pos c5] at k3 ⊢; exact k3
    rw [if_neg c5] at k3 ⊢
    by_cases c6 : rd x 4 % 16 = 6
    · rw [if_pos c6] at k3 ⊢; exact k3
    rw [if_neg c6] at k3 ⊢
    exact k3
  · have hrow : row s x = (z68, (textS s (num (x.take 4))).2) := by unfold row; rw [if_pos ht]
    have hR := h1 (by rw [hrow]; exact ht)
    rw [hrow] at hR
    subst hR
    refine Ev_three n1 htx (Ev.now (0 : Nat)) (fun k k1 k2 _ => ?_)
    simp only [shackleref06_Read.j2]
    rw [if_neg (by simp), if_pos (by omega), k1, Option.bind_some, k2, Option.bind_some, if_neg ht]
theorem read_l0 (s t : List Int) (n : Nat) (hn : n ≤ 4096) (hsl : s.length ≤ 140737488351232) (ht : ∀ v ∈ t, 0 ≤ v ∧ v ≤ 255) (htl : t.length = 24 * n) (d : Nat) : ∀ (i : Nat) (acc : List S68), i ≤ n → n - i = d → acc.length = i →
    Ev (fun k => shackleref06_Read.l0 k (n : Int) s t acc (i : Int)) (readL s t d i acc) := by
  induction d with
  | zero =>
    intro i acc hi hd hacc
    refine Ev_after (Ev.now (0 : Nat)) (fun k _ => ?_)
    simp only [shackleref06_Read.l0]
    rw [if_neg (by omega)]
    rfl
  | succ d ih =>
    intro i acc hi hd hacc
    have hin : i < n := by omega
    have hcl := cell_len t i n htl hin
    have hcm : ∀ v ∈ cell t i, 0 ≤ v ∧ v ≤ 255 := fun v hv => ht v (cell_mem t i v hv)
    have ecell : (t.take (24 * (i : Int) + 24).toNat).drop (24 * (i : Int)).toNat = cell t i := by
      unfold cell; rw [show (24 * (i : Int) + 24).toNat = 24 * i + 24 by omega, show (24 * (i : Int)).toNat = 24 * i by omega]
    have hj2 : Ev (fun k => shackleref06_Read.j2 k (n : Int) s t acc (i : Int) (cell t i) (decide (i = 0) && !zeros (cell t i))) (readL s t (d + 1) i acc) := by
      by_cases hz : i = 0 ∧ zeros (cell t i) = false
      · have hR : readL s t (d + 1) i acc = ([], 3) := by unfold readL; rw [if_pos hz]
        rw [hR, hz.2, decide_eq_true hz.1]
        refine Ev_after (Ev.now (0 : Nat)) (fun k _ => ?_)
        simp only [shackleref06_Read.j2]
        rfl
      · have hR : readL s t (d + 1) i acc = if (row s (cell t i)).2 ≠ 0 then ([], (row s (cell t i)).2) else readL s t d (i + 1) (acc ++ [(row s (cell t i)).1]) := by
          conv => lhs; unfold readL
          rw [if_neg hz]
        have hfl : (decide (i = 0) && !zeros (cell t i)) = false := by
          by_cases e0 : i = 0
          · cases e : zeros (cell t i) with
            | true => simp
            | false => exact absurd ⟨e0, e⟩ hz
          · rw [decide_eq_false e0, Bool.false_and]
        rw [hfl]
        exact j2_ev s t (cell t i) acc (n : Int) i hsl hcm hcl (by omega) (readL s t (d + 1) i acc) (by omega) (fun h => by rw [hR, if_pos h]) (fun h => by
          rw [hR, if_neg (fun z => z h)]
          exact ih (i + 1) _ (by omega) (by omega) (by simp; omega))
    refine Ev_after (l1_ev (n : Int) s t acc i (cell t i) hcl _ hj2 24 0 (by omega) (by omega)) (fun k h => ?_)
    simp only [shackleref06_Read.l0]
    rw [if_pos (by omega), w64 (24 * (i : Int)) (by omega) (by omega), w64 (24 * (i : Int) + 24) (by omega) (by omega), if_pos (by omega), if_pos (by omega), if_pos (by omega), ecell]
    exact h
theorem read_ev (b : List Int) (ps : List S95) (x y : Int) (l2 : List Int) (a2_1 a2_2 a2_3 a2_4 a2_5 a2_6 a2_7 a2_8 a2_9 a2_10 a2_11 a2_12 a2_13 : Int) (a2_14 a2_15 a2_16 : Bool) (a2_17 a2_18 a2_19 a2_20 a2_21 a2_22 a2_23 a2_24 a2_25 a2_26 a2_27 a2_28 a2_29 a2_30 a2_31 : Int) (a2_32 a2_33 a2_34 a2_35 a2_36 : Bool) (n : Int) (hb : b.length ≤ 9223372036854775807) (hbb : ∀ v ∈ b, 0 ≤ v ∧ v ≤ 255) (hl : ps.length ≤ 9223372036854775807) (hp : ∀ p ∈ ps, ok95 p) (h4 : 0 ≤ a2_4 ∧ a2_4 ≤ 18446744073709551615) (h5 : 0 ≤ a2_5 ∧ a2_5 ≤ 18446744073709551615) (h8 : 0 ≤ a2_8 ∧ a2_8 ≤ 18446744073709551615) :
    Ev (fun k => shackleref06_Read.f k b x y ps l2 a2_1 a2_2 a2_3 a2_4 a2_5 a2_6 a2_7 a2_8 a2_9 a2_10 a2_11 a2_12 a2_13 a2_14 a2_15 a2_16 a2_17 a2_18 a2_19 a2_20 a2_21 a2_22 a2_23 a2_24 a2_25 a2_26 a2_27 a2_28 a2_29 a2_30 a2_31 a2_32 a2_33 a2_34 a2_35 a2_36 n) (readS b ps a2_4 a2_8 a2_5 n) := by
  by_cases e1 : n < 0
  · refine Ev_one (Ev.now (0 : Nat)) (fun k _ => ?_)
    unfold shackleref06_Read.f readS
    rw [if_pos e1, if_pos e1]
  by_cases e2 : n > 4096
  · refine Ev_one (Ev.now (0 : Nat)) (fun k _ => ?_)
    unfold shackleref06_Read.f readS
    rw [if_neg e1, if_neg e1, if_pos e2, if_pos e2]
  have hst := strings_ev b ps x y l2 a2_1 a2_2 a2_3 a2_4 a2_5 a2_6 a2_7 a2_8 a2_9 a2_10 a2_11 a2_12 a2_13 a2_14 a2_15 a2_16 a2_17 a2_18 a2_19 a2_20 a2_21 a2_22 a2_23 a2_24 a2_25 a2_26 a2_27 a2_28 a2_29 a2_30 a2_31 a2_32 a2_33 a2_34 a2_35 a2_36 hb hl hp h4 h8
  have ew : IntKind.u64.wrap (wrap64 (24 * n)) = 24 * n := by rw [w64 (24 * n) (by omega) (by omega), u64_in _ (by omega) (by omega)]
  by_cases e3 : (strS b ps a2_4 a2_8).2 = 0
  · have hsl := slice_ev b ps x y a2_5 (24 * n) hb hl hp h5 (by omega)
    have hok := strS_ok e3
    have hslen := slc_len hp h8.1 hok.1
    cases e4 : slc b ps a2_5 (24 * n) with
    | none =>
      refine Ev_both hst hsl (fun k h1 h2 => ?_)
      (try dsimp only at h1)
      have h2 : shackleref05_Slice.f k b x y ps a2_5 (24 * n) = some (slcC (slc b ps a2_5 (24 * n))) := h2
      unfold shackleref06_Read.f readS
      rw [if_neg e1, if_neg e1, if_neg e2, if_neg e2, h1, Option.bind_some, if_pos e3, ew, h2, e4, Option.bind_some, if_neg (c := (strS b ps a2_4 a2_8).2 ≠ 0) (fun z => z e3)]
      rfl
    | some t =>
      have htlen := slc_len hp (show 0 ≤ 24 * n by omega) e4
      have hloop := read_l0 (strS b ps a2_4 a2_8).1 t n.toNat (by omega) (by omega) (fun v hv => hbb v (htlen.2.2 v hv)) (by omega) n.toNat 0 [] (by omega) (by omega) rfl
      obtain ⟨A, hA⟩ := hst
      obtain ⟨B, hB⟩ := hsl
      obtain ⟨C, hC⟩ := hloop
      refine ⟨A + B + C, fun k hk => ?_⟩
      have h1 := hA k (by omega)
      (try dsimp only at h1)
      have h2 : shackleref05_Slice.f k b x y ps a2_5 (24 * n) = some (slcC (slc b ps a2_5 (24 * n))) := hB k (by omega)
      have h3 := hC k (by omega)
      show shackleref06_Read.f k b x y ps l2 a2_1 a2_2 a2_3 a2_4 a2_5 a2_6 a2_7 a2_8 a2_9 a2_10 a2_11 a2_12 a2_13 a2_14 a2_15 a2_16 a2_17 a2_18 a2_19 a2_20 a2_21 a2_22 a2_23 a2_24 a2_25 a2_26 a2_27 a2_28 a2_29 a2_30 a2_31 a2_32 a2_33 a2_34 a2_35 a2_36 n = _
      unfold shackleref06_Read.f readS
      rw [if_neg e1, if_neg e1, if_neg e2, if_neg e2, h1, Option.bind_some, if_pos e3, ew, h2, e4, Option.bind_some, if_neg (c := (strS b ps a2_4 a2_8).2 ≠ 0) (fun z => z e3), show slcC (some t) = (t, 0) from rfl, if_pos (c := (t, (0 : Int)).2 = 0) rfl]
      have h3 : shackleref06_Read.l0 k ((n.toNat : Nat) : Int) (strS b ps a2_4 a2_8).1 t [] ((0 : Nat) : Int) = some (readL (strS b ps a2_4 a2_8).1 t n.toNat 0 []) := h3
      rw [show ((n.toNat : Nat) : Int) = n by omega] at h3
      exact h3
  · refine Ev_one hst (fun k h => ?_)
    (try dsimp only at h)
    unfold shackleref06_Read.f readS
    rw [if_neg e1, if_neg e1, if_neg e2, if_neg e2, h, Option.bind_some, if_neg e3, if_pos (c := (strS b ps a2_4 a2_8).2 ≠ 0) e3]
end Go.Proofs.Ytlohkhadbkahdaa.SymsRef
