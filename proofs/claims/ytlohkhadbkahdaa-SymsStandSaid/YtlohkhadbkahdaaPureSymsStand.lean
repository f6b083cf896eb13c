/- Every symbol's name stands in the strings, with a byte 0 behind it, and there are as many symbols as were asked for. -/
import Derived.Test.YtlohkhadbkahdaaSaidSymsStand
import Derived.Test.YtlohkhadbkahdaaSymsRead
namespace Go.Proofs.Ytlohkhadbkahdaa.Pure
open Go Go.RowKit Go.Proofs.Ytlohkhadbkahdaa.QSyms Go.Proofs.YtlohkhadbkahdaaW.PrintWords Go.Proofs.Ytlohkhadbkahdaa.SymsSpec
open TextFacts (zeroAt textS u64_in)
namespace Stand
theorem readL_ok (s t : List Int) : ∀ d i acc, (readL s t d i acc).2 = 0 → (readL s t d i acc).1.length = acc.length + d ∧ ∀ z ∈ (readL s t d i acc).1, z ∈ acc ∨ ∃ x, (∀ v ∈ x, v ∈ t) ∧ (row s x).2 = 0 ∧ z = (row s x).1
  | 0, _, acc, _ => ⟨rfl, fun z hz => .inl hz⟩
  | d + 1, i, acc, h => by
    unfold readL at h ⊢
    by_cases e1 : i = 0 ∧ zeros (cell t i) = false
    · rw [if_pos e1] at h; simp at h
    · rw [if_neg e1] at h ⊢
      by_cases e2 : (row s (cell t i)).2 ≠ 0
      · rw [if_pos e2] at h; exact absurd h e2
      · rw [if_neg e2] at h ⊢
        have ih := readL_ok s t d (i + 1) _ h
        refine ⟨by rw [ih.1]; simp; omega, fun z hz => ?_⟩
        rcases ih.2 z hz with h1 | h1
        · rcases List.mem_append.1 h1 with h2 | h2
          · exact .inl h2
          · exact .inr ⟨cell t i, fun v hv => cell_mem t i v hv, by simpa using e2, by simpa using h2⟩
        · exact .inr h1
theorem row_ok {s x : List Int} (h : (row s x).2 = 0) : (textS s (num (x.take 4))).2 = 0 ∧ (row s x).1.f0 = (textS s (num (x.take 4))).1 := by
  unfold row at h ⊢
  by_cases e1 : (textS s (num (x.take 4))).2 ≠ 0
  · rw [if_pos e1] at h; exact absurd h e1
  · rw [if_neg e1] at h ⊢
    by_cases e2 : badKind x
    · rw [if_pos e2] at h; simp at h
    · rw [if_neg e2]; exact ⟨by simpa using e1, rfl⟩
/-- a name that stands at a place -/
def stands (s : List Int) (name : ByteArray) : Prop := ∃ a m : Nat, a + m < s.length ∧ m ≤ 255 ∧ s.getD (a + m) 0 = 0 ∧ name = strOfNums ((s.drop a).take m)
theorem text_stands {s : List Int} {a : Int} (h0 : 0 ≤ a) (h : (textS s a).2 = 0) : stands s (textS s a).1 := by
  unfold textS at h ⊢
  by_cases e1 : a ≥ (s.length : Int)
  · rw [if_pos e1] at h; simp at h
  rw [if_neg e1] at h ⊢
  by_cases e2 : zeroAt (s.drop a.toNat) = (s.drop a.toNat).length
  · rw [if_pos e2] at h; simp at h
  rw [if_neg e2] at h ⊢
  by_cases e3 : zeroAt (s.drop a.toNat) > 255
  · rw [if_pos e3] at h; simp at h
  rw [if_neg e3]
  have hd : (s.drop a.toNat).length = s.length - a.toNat := List.length_drop
  have hle := TextFacts.zeroAt_le (s.drop a.toNat)
  have hz := TextFacts.is_zero (s.drop a.toNat) (by omega)
  rw [TextFacts.getD_drop] at hz
  exact ⟨a.toNat, zeroAt (s.drop a.toNat), by omega, by omega, hz, rfl⟩

/-- found: on to the next symbol -/
theorem found_ev (l : List S68) (s : List Int) (i : Int) (name : ByteArray) (hm : name.size ≤ 255) (K : Int) (h : Ev (fun k => shacklelaw06_SymsStand.l0 k true l s (wrap64 (i + 1))) true) :
    Ev (fun k => shacklelaw06_SymsStand.l1 k true l s i true name K) true := by
  refine Ev_after h (fun k h => ?_)
  simp only [shacklelaw06_SymsStand.l1]
  by_cases e : wrap64 (K + (name.size : Int)) < (s.length : Int)
  · rw [if_pos e, if_pos trivial, if_neg (by omega)]; exact h
  · rw [if_neg e, if_pos trivial, if_neg (by omega)]; exact h
theorem seek_ev (l : List S68) (s : List Int) (hs : s.length ≤ 140737488351232) (i : Int) (name : ByteArray) (a m : Nat) (ha : a + m < s.length) (hm : m ≤ 255) (hz : s.getD (a + m) 0 = 0) (hn : name = strOfNums ((s.drop a).take m))
    (h : Ev (fun k => shacklelaw06_SymsStand.l0 k true l s (wrap64 (i + 1))) true) (d : Nat) : ∀ K : Nat, K ≤ a → a - K = d → Ev (fun k => shacklelaw06_SymsStand.l1 k true l s i false name (K : Int)) true := by
  have hsz : name.size = m := by rw [hn, strOfNums_size]; simp; omega
  induction d with
  | zero =>
    intro K hK hd
    obtain rfl : K = a := by omega
    refine Ev_after (found_ev l s i name (by omega) ((K : Int) + 1) h) (fun k h => ?_)
    simp only [shacklelaw06_SymsStand.l1]
    rw [hsz, w64 ((K : Int) + (m : Int)) (by omega) (by omega), if_pos (by omega), if_neg (by simp), if_pos (by omega), show (K : Int) + (m : Int) = ((K + m : Nat) : Int) by omega, rd_nat, if_pos hz, if_pos (by omega), if_pos (by omega), if_pos (by omega), Int.toNat_natCast, Int.toNat_natCast, TextFacts.take_drop_eq, ← hn, w64 ((K : Int) + 1) (by omega) (by omega), beq_self_eq_true]
    exact h
  | succ d ih =>
    intro K hK hd
    have hf := found_ev l s i name (by omega) ((K : Int) + 1) h
    have hg := ih (K + 1) (by omega) (by omega)
    by_cases e : rd s ((K + m : Nat) : Int) = 0
    · cases hb : ((strOfNums ((s.take ((K + m : Nat) : Int).toNat).drop (K : Int).toNat)).toList == name.toList) with
      | true =>
        refine Ev_after hf (fun k h1 => ?_)
        simp only [shacklelaw06_SymsStand.l1]
        rw [hsz, w64 ((K : Int) + (m : Int)) (by omega) (by omega), if_pos (by omega), if_neg (by simp), if_pos (by omega), show (K : Int) + (m : Int) = ((K + m : Nat) : Int) by omega, w64 ((K : Int) + 1) (by omega) (by omega),
          if_pos e, if_pos (by omega), if_pos (by omega), if_pos (by omega), hb]
        exact h1
      | false =>
        refine Ev_after hg (fun k h1 => ?_)
        simp only [shacklelaw06_SymsStand.l1]
        rw [hsz, w64 ((K : Int) + (m : Int)) (by omega) (by omega), if_pos (by omega), if_neg (by simp), if_pos (by omega), show (K : Int) + (m : Int) = ((K + m : Nat) : Int) by omega, w64 ((K : Int) + 1) (by omega) (by omega),
          if_pos e, if_pos (by omega), if_pos (by omega), if_pos (by omega), hb]
        exact h1
    · refine Ev_after hg (fun k h1 => ?_)
      simp only [shacklelaw06_SymsStand.l1]
      rw [hsz, w64 ((K : Int) + (m : Int)) (by omega) (by omega), if_pos (by omega), if_neg (by simp), if_pos (by omega), show (K : Int) + (m : Int) = ((K + m : Nat) : Int) by omega, w64 ((K : Int) + 1) (by omega) (by omega), if_neg e]
      exact h1
theorem all_ev (l : List S68) (s : List Int) (hs : s.length ≤ 140737488351232) (hst : ∀ z ∈ l, stands s z.f0) (d : Nat) : ∀ i : Nat, i ≤ l.length → l.length - i = d → Ev (fun k => shacklelaw06_SymsStand.l0 k true l s (i : Int)) true := by
  induction d with
  | zero =>
    intro i hi hd
    refine Ev_after (Ev_after (g := fun k => shacklelaw06_SymsStand.j2 k true l s (i : Int) false) (r := true) (Ev.now (0 : Nat)) (fun k _ => ?_)) (fun k h => ?_)
    · simp only [shacklelaw06_SymsStand.j2]; rfl
    · simp only [shacklelaw06_SymsStand.l0]
      rw [if_neg (by omega)]
      exact h
  | succ d ih =>
    intro i hi hd
    have hil : i < l.length := by omega
    have hrd : rd_T68 l (i : Int) = l[i] := by unfold rd_T68; rw [Int.toNat_natCast, getD_at _ _ _ hil]
    by_cases e : (i : Int) < 50
    · obtain ⟨a, m, h1, h2, h3, h4⟩ := hst l[i] (List.getElem_mem hil)
      have hn := ih (i + 1) (by omega) (by omega)
      rw [show ((i + 1 : Nat) : Int) = wrap64 ((i : Int) + 1) by rw [w64 _ (by omega) (by omega)]; omega] at hn
      refine Ev_after (Ev_after (g := fun k => shacklelaw06_SymsStand.j2 k true l s (i : Int) true) (r := true) (seek_ev l s hs (i : Int) l[i].f0 a m h1 h2 h3 h4 hn a 0 (by omega) (by omega)) (fun k h => ?_)) (fun k h => ?_)
      · simp only [shacklelaw06_SymsStand.j2]
        rw [if_pos trivial, if_pos (by omega), if_pos (by omega), hrd]
        exact h
      · simp only [shacklelaw06_SymsStand.l0]
        rw [if_pos (by omega), decide_eq_true e]
        exact h
    · refine Ev_after (Ev_after (g := fun k => shacklelaw06_SymsStand.j2 k true l s (i : Int) false) (r := true) (Ev.now (0 : Nat)) (fun k _ => ?_)) (fun k h => ?_)
      · simp only [shacklelaw06_SymsStand.j2]; rfl
      · simp only [shacklelaw06_SymsStand.l0]
        rw [if_pos (by omega), decide_eq_false e]
        exact h
end Stand

theorem SymsStand : shacklelaw06_SymsStand.PureU := by
  intro b x y ps l2 a2_1 a2_2 a2_3 a2_4 a2_5 a2_6 a2_7 a2_8 a2_9 a2_10 a2_11 a2_12 a2_13 a2_14 a2_15 a2_16 a2_17 a2_18 a2_19 a2_20 a2_21 a2_22 a2_23 a2_24 a2_25 a2_26 a2_27 a2_28 a2_29 a2_30 a2_31 a2_32 a2_33 a2_34 a2_35 a2_36 n ⟨hb, hbw⟩ hx hy ⟨hps, hpg⟩ hl2 ha2_1 ha2_2 ha2_3 ha2_4 ha2_5 ha2_6 ha2_7 ha2_8 ha2_9 ha2_10 ha2_11 ha2_12 ha2_13 ha2_17 ha2_18 ha2_19 ha2_20 ha2_21 ha2_22 ha2_23 ha2_24 ha2_25 ha2_26 ha2_27 ha2_28 ha2_29 ha2_30 ha2_31 hn
  have hbb := wf8 hbw
  have hp := ok_of hpg
  have hb' : b.length ≤ 9223372036854775807 := by unfold maxLen at hb; omega
  have hps' : ps.length ≤ 9223372036854775807 := by unfold maxLen at hps; omega
  have hst := strings_ev b ps x y l2 a2_1 a2_2 a2_3 a2_4 a2_5 a2_6 a2_7 a2_8 a2_9 a2_10 a2_11 a2_12 a2_13 a2_14 a2_15 a2_16 a2_17 a2_18 a2_19 a2_20 a2_21 a2_22 a2_23 a2_24 a2_25 a2_26 a2_27 a2_28 a2_29 a2_30 a2_31 a2_32 a2_33 a2_34 a2_35 a2_36 hb' hps' hp (wf64 ha2_4) (wf64 ha2_8)
  have hrd := read_ev b ps x y l2 a2_1 a2_2 a2_3 a2_4 a2_5 a2_6 a2_7 a2_8 a2_9 a2_10 a2_11 a2_12 a2_13 a2_14 a2_15 a2_16 a2_17 a2_18 a2_19 a2_20 a2_21 a2_22 a2_23 a2_24 a2_25 a2_26 a2_27 a2_28 a2_29 a2_30 a2_31 a2_32 a2_33 a2_34 a2_35 a2_36 n hb' hbb hps' hp (wf64 ha2_4) (wf64 ha2_5) (wf64 ha2_8)
  have hup : shacklelaw06_up.f = some true := rfl
  suffices h : Ev (fun k => shacklelaw06_SymsStand.f k b x y ps l2 a2_1 a2_2 a2_3 a2_4 a2_5 a2_6 a2_7 a2_8 a2_9 a2_10 a2_11 a2_12 a2_13 a2_14 a2_15 a2_16 a2_17 a2_18 a2_19 a2_20 a2_21 a2_22 a2_23 a2_24 a2_25 a2_26 a2_27 a2_28 a2_29 a2_30 a2_31 a2_32 a2_33 a2_34 a2_35 a2_36 n) true from h.rounds
  by_cases e1 : (readS b ps a2_4 a2_8 a2_5 n).2 = 0
  · -- all went well
    have hall : 0 ≤ n ∧ n ≤ 4096 ∧ (strS b ps a2_4 a2_8).2 = 0 ∧ ((readS b ps a2_4 a2_8 a2_5 n).1.length : Int) = n ∧ ∀ z ∈ (readS b ps a2_4 a2_8 a2_5 n).1, Stand.stands (strS b ps a2_4 a2_8).1 z.f0 := by
      unfold readS at e1 ⊢
      by_cases c1 : n < 0
      · rw [if_pos c1] at e1; simp at e1
      rw [if_neg c1] at e1 ⊢
      by_cases c2 : n > 4096
      · rw [if_pos c2] at e1; simp at e1
      rw [if_neg c2] at e1 ⊢
      by_cases c3 : (strS b ps a2_4 a2_8).2 ≠ 0
      · rw [if_pos c3] at e1; exact absurd e1 c3
      rw [if_neg c3] at e1 ⊢
      cases c4 : slc b ps a2_5 (24 * n) with
      | none => rw [c4] at e1; simp at e1
      | some t =>
        rw [c4] at e1
        simp only at e1 ⊢
        have h := Stand.readL_ok _ _ _ _ _ e1
        have htl := slc_len hp (show 0 ≤ 24 * n by omega) c4
        refine ⟨by omega, by omega, by simpa using c3, by rw [h.1]; simp; omega, fun z hz => ?_⟩
        rcases h.2 z hz with h1 | ⟨w, hw, h1, rfl⟩
        · simp at h1
        · have h2 := Stand.row_ok h1
          rw [h2.2]
          exact Stand.text_stands (num_in (w.take 4) (fun v hv => hbb v (htl.2.2 v (hw v (List.mem_of_mem_take hv))))).1 h2.1
    obtain ⟨n0, n1, hs0, hlen, hstands⟩ := hall
    have hok := strS_ok hs0
    have hsl := slc_len hp (wf64 ha2_8).1 hok.1
    have hloop := Stand.all_ev (readS b ps a2_4 a2_8 a2_5 n).1 (strS b ps a2_4 a2_8).1 (by omega) hstands _ 0 (by omega) rfl
    have hj : Ev (fun k => shacklelaw06_SymsStand.j0 k true (readS b ps a2_4 a2_8 a2_5 n).1 (strS b ps a2_4 a2_8).1 false) true := by
      refine Ev_after hloop (fun k h => ?_)
      simp only [shacklelaw06_SymsStand.j0]
      rw [if_neg (by simp)]
      exact h
    obtain ⟨A, hA⟩ := hst
    obtain ⟨B, hB⟩ := hrd
    obtain ⟨C, hC⟩ := hj
    refine ⟨A + B + C, fun k hk => ?_⟩
    have h1 : syms_Strings.f k b x y ps l2 a2_1 a2_2 a2_3 a2_4 a2_5 a2_6 a2_7 a2_8 a2_9 a2_10 a2_11 a2_12 a2_13 a2_14 a2_15 a2_16 a2_17 a2_18 a2_19 a2_20 a2_21 a2_22 a2_23 a2_24 a2_25 a2_26 a2_27 a2_28 a2_29 a2_30 a2_31 a2_32 a2_33 a2_34 a2_35 a2_36 = some ((strS b ps a2_4 a2_8).1, errOf (strS b ps a2_4 a2_8).2) := hA k (by omega)
    have h2 : syms_Read.f k b x y ps l2 a2_1 a2_2 a2_3 a2_4 a2_5 a2_6 a2_7 a2_8 a2_9 a2_10 a2_11 a2_12 a2_13 a2_14 a2_15 a2_16 a2_17 a2_18 a2_19 a2_20 a2_21 a2_22 a2_23 a2_24 a2_25 a2_26 a2_27 a2_28 a2_29 a2_30 a2_31 a2_32 a2_33 a2_34 a2_35 a2_36 n = some (readR (readS b ps a2_4 a2_8 a2_5 n)) := hB k (by omega)
    have h3 := hC k (by omega)
    show shacklelaw06_SymsStand.f k b x y ps l2 a2_1 a2_2 a2_3 a2_4 a2_5 a2_6 a2_7 a2_8 a2_9 a2_10 a2_11 a2_12 a2_13 a2_14 a2_15 a2_16 a2_17 a2_18 a2_19 a2_20 a2_21 a2_22 a2_23 a2_24 a2_25 a2_26 a2_27 a2_28 a2_29 a2_30 a2_31 a2_32 a2_33 a2_34 a2_35 a2_36 n = _
    unfold shacklelaw06_SymsStand.f
    rw [hup, Option.bind_some, h2, Option.bind_some]
    rw [show readR (readS b ps a2_4 a2_8 a2_5 n) = ((readS b ps a2_4 a2_8 a2_5 n).1, none) by unfold readR; rw [errOf_none e1]]
    simp only [Option.isNone_none, if_true]
    rw [h1, Option.bind_some, errOf_none hs0]
    simp only [Option.isNone_none, if_true]
    rw [if_pos hlen, show (((strS b ps a2_4 a2_8).1.length : Int) == 0) = false by rw [beq_eq_false_iff_ne]; omega]
    exact h3
  · refine Ev_one hrd (fun k h2 => ?_)
    have h2 : syms_Read.f k b x y ps l2 a2_1 a2_2 a2_3 a2_4 a2_5 a2_6 a2_7 a2_8 a2_9 a2_10 a2_11 a2_12 a2_13 a2_14 a2_15 a2_16 a2_17 a2_18 a2_19 a2_20 a2_21 a2_22 a2_23 a2_24 a2_25 a2_26 a2_27 a2_28 a2_29 a2_30 a2_31 a2_32 a2_33 a2_34 a2_35 a2_36 n = some (readR (readS b ps a2_4 a2_8 a2_5 n)) := h2
    have hc := readS_code b ps a2_4 a2_8 a2_5 n
    have he : (readS b ps a2_4 a2_8 a2_5 n).1 = [] := by
      rcases hc with h | h
      · exact absurd h e1
      · exact h.1
    unfold shacklelaw06_SymsStand.f
    rw [hup, Option.bind_some, h2, Option.bind_some]
    rw [show readR (readS b ps a2_4 a2_8 a2_5 n) = ([], some (readS b ps a2_4 a2_8 a2_5 n).2) by unfold readR; rw [errOf_some e1, he]]
    rfl
end Go.Proofs.Ytlohkhadbkahdaa.Pure
