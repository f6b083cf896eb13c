/- A table of strings ends what is read: of a table that is made of texts without a byte 0, every text is told again, or that it is too long; of every other place it is told that it is too long or that there is none. -/
import Derived.Test.YtlohkhadbkahdaaSaidSymsWhole
import Derived.Test.YtlohkhadbkahdaaSymsText
namespace Go.Proofs.Ytlohkhadbkahdaa.Pure
open Go.RowKit Go.Proofs.Ytlohkhadbkahdaa.QSyms Go.Proofs.YtlohkhadbkahdaaW.PrintWords Go.Proofs.YtlohkhadbkahdaaW.PrintLast
open TextFacts (zeroAt textS u64_in)
namespace Whole

/-- the table that is made of texts -/
def tab (ts : List ByteArray) : List Int := 0 :: ts.flatMap (fun t => bytesOf t ++ [0])
def plc (ts : List ByteArray) : List Int := (List.range ts.length).map fun j => ((tab (ts.take j)).length : Int)
def free (t : ByteArray) : Prop := ∀ j : Int, 0 ≤ j → j < t.size → bt t j ≠ 0
theorem tab_snoc (ts : List ByteArray) (t : ByteArray) : tab (ts ++ [t]) = (tab ts ++ bytesOf t) ++ [0] := by simp [tab]
theorem tab_app (ts us : List ByteArray) : tab (ts ++ us) = tab ts ++ us.flatMap (fun t => bytesOf t ++ [0]) := by simp [tab]
theorem take_snoc (ts : List ByteArray) (i : Nat) (h : i < ts.length) : ts.take (i + 1) = ts.take i ++ [ts[i]] := by
  rw [List.take_succ_eq_append_getElem h]
theorem plc_length (ts : List ByteArray) : (plc ts).length = ts.length := by simp [plc]
theorem plc_snoc (ts : List ByteArray) (t : ByteArray) : plc (ts ++ [t]) = plc ts ++ [((tab ts).length : Int)] := by
  unfold plc
  rw [List.length_append, List.length_singleton, List.range_succ, List.map_append]
  congr 1
  · apply List.map_congr_left
    intro j hj
    rw [List.take_append_of_le_length (by simp at hj; omega)]
  · simp
theorem rdOf_at (ts : List ByteArray) (i : Nat) (h : i < ts.length) : rdOf ByteArray.empty ts (i : Int) = ts[i] := by
  unfold rdOf
  rw [Int.toNat_natCast, List.getD_eq_getElem?_getD, List.getElem?_eq_getElem h]; rfl
theorem rd_plc (ts : List ByteArray) (m : Nat) (h : m < ts.length) : rd (plc ts) (m : Int) = ((tab (ts.take m)).length : Int) := by
  unfold rd
  rw [Int.toNat_natCast, List.getD_eq_getElem?_getD, List.getElem?_eq_getElem (by rw [plc_length]; exact h)]
  simp [plc]
theorem bytes_range (t : ByteArray) : ∀ x ∈ bytesOf t, 0 ≤ x ∧ x ≤ 255 := by
  intro x hx
  obtain ⟨b, _, rfl⟩ := List.mem_map.1 hx
  have := b.toNat_lt
  omega
theorem tab_range (ts : List ByteArray) : ∀ x ∈ tab ts, 0 ≤ x ∧ x ≤ 255 := by
  intro x hx
  rcases List.mem_cons.1 hx with rfl | hx
  · omega
  · obtain ⟨t, _, h⟩ := List.mem_flatMap.1 hx
    rcases List.mem_append.1 h with h | h
    · exact bytes_range t x h
    · simp at h; omega
theorem tab_len (ts : List ByteArray) : (tab ts).length = Opn.wts (fun z : ByteArray => z.size + 1) ts + 1 := by
  unfold tab
  rw [List.length_cons]
  congr 1
  induction ts with
  | nil => rfl
  | cons t ts ih => simp only [List.flatMap_cons, List.length_append, ih, bytesOf_length, Opn.wts, List.length_singleton]
theorem wts_take (ts : List ByteArray) (i : Nat) : Opn.wts (fun z : ByteArray => z.size + 1) (ts.take i) ≤ Opn.wts (fun z : ByteArray => z.size + 1) ts := by
  induction ts generalizing i with
  | nil => simp
  | cons t ts ih =>
    cases i with
    | zero => simp [Opn.wts]
    | succ i => have := ih i; simp only [List.take_succ_cons, Opn.wts]; omega
theorem size_le (ts : List ByteArray) (i : Nat) (h : i < ts.length) : ts[i].size + 1 ≤ Opn.wts (fun z : ByteArray => z.size + 1) ts := by
  induction ts generalizing i with
  | nil => simp at h
  | cons t ts ih =>
    cases i with
    | zero => simp [Opn.wts]
    | succ i => have := ih i (by simpa using h); simp only [List.getElem_cons_succ, Opn.wts]; omega
theorem zero_free (l r : List Int) (h : ∀ x ∈ l, x ≠ 0) : zeroAt (l ++ 0 :: r) = l.length := by
  induction l with
  | nil => exact TextFacts.zeroAt_zero r
  | cons x l ih =>
    rw [List.cons_append, TextFacts.zeroAt_cons x _ (h x (by simp)), ih (fun y hy => h y (by simp [hy])), List.length_cons]
theorem free_bytes {t : ByteArray} (h : free t) : ∀ x ∈ bytesOf t, x ≠ 0 := by
  intro x hx
  obtain ⟨j, hj, rfl⟩ := List.mem_iff_getElem.1 hx
  have hl := bytesOf_length t
  have g := h (j : Int) (by omega) (by omega)
  rw [← rd_bytesOf, rd, Int.toNat_natCast, List.getD_eq_getElem?_getD, List.getElem?_eq_getElem hj] at g
  exact g
theorem str_back (t : ByteArray) : (strOfNums (bytesOf t)).toList = t.toList := by
  have e : strOfNums (bytesOf t) = t := by
    unfold strOfNums bytesOf
    apply ByteArray.ext
    rw [List.map_map]
    have : ((fun n : Int => UInt8.ofNat n.toNat) ∘ fun b : UInt8 => (b.toNat : Int)) = id := by
      funext b; simp
    rw [this]; simp
  rw [e]
/-- where text m stands -/
theorem at_place (ts : List ByteArray) (m : Nat) (h : m < ts.length) : (tab ts).drop (tab (ts.take m)).length = bytesOf ts[m] ++ 0 :: (ts.drop (m + 1)).flatMap (fun t => bytesOf t ++ [0]) := by
  have e : ts = ts.take m ++ ts.drop m := (List.take_append_drop m ts).symm
  have e2 : tab ts = tab (ts.take m) ++ (ts.drop m).flatMap (fun t => bytesOf t ++ [0]) := by
    rw [← tab_app, List.take_append_drop]
  rw [e2, List.drop_left, List.drop_eq_getElem_cons h, List.flatMap_cons]
  simp
theorem text_at (ts : List ByteArray) (m : Nat) (h : m < ts.length) (hf : free ts[m]) : textS (tab ts) ((tab (ts.take m)).length : Int) = if ts[m].size > 255 then ((⟨#[]⟩ : ByteArray), 2) else (strOfNums (bytesOf ts[m]), 0) := by
  have hd := at_place ts m h
  have hz := zero_free (bytesOf ts[m]) ((ts.drop (m + 1)).flatMap (fun t => bytesOf t ++ [0])) (free_bytes hf)
  have hl : (tab ts).length = (tab (ts.take m)).length + (bytesOf ts[m] ++ 0 :: (ts.drop (m + 1)).flatMap (fun t => bytesOf t ++ [0])).length := by
    rw [← hd, List.length_drop]
    have := wts_take ts m
    have := tab_len ts
    have := tab_len (ts.take m)
    omega
  have hlen : (bytesOf ts[m] ++ 0 :: (ts.drop (m + 1)).flatMap (fun t => bytesOf t ++ [0])).length = (bytesOf ts[m]).length + 1 + ((ts.drop (m + 1)).flatMap (fun t => bytesOf t ++ [0])).length := by
    simp; omega
  unfold textS
  rw [if_neg (by omega), Int.toNat_natCast, hd, hz, if_neg (by omega)]
  rw [bytesOf_length, ← bytesOf_length, List.take_left]
theorem tab_last (ts : List ByteArray) : ∃ l, tab ts = l ++ [0] := by
  rcases List.eq_nil_or_concat ts with rfl | ⟨l, b, rfl⟩
  · exact ⟨[], rfl⟩
  · exact ⟨_, by rw [List.concat_eq_append]; exact tab_snoc l b⟩
theorem text_any (ts : List ByteArray) (a : Int) (h0 : 0 ≤ a) : (a < (tab ts).length → (textS (tab ts) a).2 = 0 ∨ (textS (tab ts) a).2 = 2) ∧ (¬ a < (tab ts).length → (textS (tab ts) a).2 = 4) := by
  constructor
  · intro h
    obtain ⟨l, hl⟩ := tab_last ts
    have hne : zeroAt ((tab ts).drop a.toNat) ≠ ((tab ts).drop a.toNat).length := by
      have hlen : (tab ts).length = l.length + 1 := by rw [hl]; simp
      rw [hl, List.drop_append_of_le_length (by omega)]
      intro e
      have : ¬ (0 : Int) ∈ l.drop a.toNat ++ [0] := by
        intro hm
        have := List.findIdx_lt_length_of_exists (p := fun x : Int => x == 0) ⟨0, hm, rfl⟩
        unfold zeroAt at e
        omega
      simp at this
    unfold textS
    rw [if_neg (by omega), if_neg hne]
    split <;> simp
  · intro h
    unfold textS
    rw [if_pos (by omega)]

variable (ts : List ByteArray) (a : Int) (hs : Opn.wts (fun z : ByteArray => z.size + 1) ts ≤ 1048576) (ha : 0 ≤ a ∧ a ≤ 18446744073709551615)
theorem wrap_in (i : Int) (h0 : 0 ≤ i) (h : i ≤ 140737488351232) : wrap64 (i + 1) = i + 1 := by
  unfold wrap64
  omega
theorem errOf_none : SymsText.errOf 0 = none := rfl
include hs ha in
theorem l2_ev (n : Nat) (hn : n ≤ ts.length) (hf : ∀ j, (h : j < n) → free (ts[j]'(by omega))) (d : Nat) : ∀ m : Nat, m ≤ n → n - m = d →
    Ev (fun k => shacklelaw06_SymsWhole.l2 k ts a true (tab (ts.take n)) (plc (ts.take n)) (m : Int)) true := by
  have hwl : (tab (ts.take n)).length ≤ 1048577 := by have := wts_take ts n; have := tab_len (ts.take n); omega
  have hpl : (plc (ts.take n)).length = n := by rw [plc_length]; simp; omega
  have hlt := Opn.length_wts (wt := fun z : ByteArray => z.size + 1) (fun z => by omega) ts
  have hT : ∀ b : Int, 0 ≤ b → syms_Text.f (tab (ts.take n)) b = some ((textS (tab (ts.take n)) b).1, SymsText.errOf (textS (tab (ts.take n)) b).2) := fun b hb => SymsText.text_f _ b (tab_range _) (by omega) hb
  induction d with
  | zero =>
    intro m hm hd
    obtain rfl : m = n := by omega
    refine Ev.step (f := fun _ => some true) (fun k => ?_) (Ev.now true)
    simp only [shacklelaw06_SymsWhole.l2]
    rw [if_neg (by omega), hT a ha.1, u64_in _ (by omega) (by omega)]
    simp only [Option.bind_some, if_true]
    have hany := text_any (ts.take m) a ha.1
    by_cases h : a < ((tab (ts.take m)).length : Int)
    · rw [if_pos h]
      rcases hany.1 h with e | e <;> rw [e] <;> simp [SymsText.errOf]
    · rw [if_neg h, hany.2 h]; simp [SymsText.errOf]
  | succ d ih =>
    intro m hm hd
    have hml : m < ts.length := by omega
    have hmt : m < (ts.take n).length := by simp; omega
    refine Ev.step (f := fun k => shacklelaw06_SymsWhole.l2 k ts a true (tab (ts.take n)) (plc (ts.take n)) ((m + 1 : Nat) : Int)) (fun k => ?_) (ih (m + 1) (by omega) (by omega))
    simp only [shacklelaw06_SymsWhole.l2]
    rw [if_pos (by omega), if_pos (by omega), rd_plc (ts.take n) m hmt, hT _ (by omega)]
    have hg : (ts.take n)[m] = ts[m] := by simp
    have ht := text_at (ts.take n) m hmt (by rw [hg]; exact hf m (by omega))
    rw [ht, hg]
    simp only [Option.bind_some]
    rw [if_pos (by omega), rdOf_at ts m hml, wrap_in (m : Int) (by omega) (by omega)]
    by_cases h255 : ts[m].size > 255
    · rw [if_pos h255, if_pos (by omega)]
      simp [SymsText.errOf]
    · rw [if_neg h255, if_neg (by omega)]
      simp [SymsText.errOf, str_back]
include hs ha in
theorem l0_ev (d : Nat) : ∀ i : Nat, i ≤ ts.length → i ≤ 40 → 40 - i = d → (∀ j, (h : j < i) → (hl : j < ts.length) → free (ts[j]'hl)) →
    Ev (fun k => shacklelaw06_SymsWhole.l0 k ts a true (tab (ts.take i)) (plc (ts.take i)) (i : Int)) true := by
  have hlt := Opn.length_wts (wt := fun z : ByteArray => z.size + 1) (fun z => by omega) ts
  have done : ∀ i : Nat, i ≤ ts.length → (∀ j, (h : j < i) → (hl : j < ts.length) → free (ts[j]'hl)) → ¬ (i < ts.length ∧ i < 40) → Ev (fun k => shacklelaw06_SymsWhole.l0 k ts a true (tab (ts.take i)) (plc (ts.take i)) (i : Int)) true := by
    intro i hi hf hno
    have l2 := l2_ev ts a hs ha i hi (fun j h => hf j h (by omega)) i 0 (by omega) (by omega)
    refine Ev.step (f := fun k => shacklelaw06_SymsWhole.j1 k ts a true (tab (ts.take i)) (plc (ts.take i)) (i : Int) false) (fun k => ?_) ?_
    · simp only [shacklelaw06_SymsWhole.l0]
      by_cases h : (i : Int) < (ts.length : Int)
      · rw [if_pos h, decide_eq_false (by omega)]
      · rw [if_neg h]
    · refine Ev.step (f := fun k => shacklelaw06_SymsWhole.l2 k ts a true (tab (ts.take i)) (plc (ts.take i)) 0) (fun k => ?_) l2
      simp only [shacklelaw06_SymsWhole.j1]
      simp
  induction d with
  | zero =>
    intro i hi h40 hd hf
    exact done i hi hf (by omega)
  | succ d ih =>
    intro i hi h40 hd hf
    by_cases hil : i < ts.length
    · have hsz := size_le ts i hil
      have hwl : (tab (ts.take i)).length ≤ 1048577 := by have := wts_take ts i; have := tab_len (ts.take i); omega
      have hpl : (plc (ts.take i)).length = i := by rw [plc_length]; simp; omega
      -- the inner loop
      have inner : ∀ (e j : Nat), j ≤ ts[i].size → ts[i].size - j = e → (∀ z : Int, 0 ≤ z → z < j → bt ts[i] z ≠ 0) →
          Ev (fun k => shacklelaw06_SymsWhole.l1 k ts a true (tab (ts.take i)) (plc (ts.take i)) (i : Int) (j : Int)) true := by
        intro e
        induction e with
        | zero =>
          intro j hj he hz
          obtain rfl : j = ts[i].size := by omega
          have hfree : free ts[i] := fun z h0 h1 => hz z h0 h1
          have next := ih (i + 1) (by omega) (by omega) (by omega) (fun j h hl => by
            by_cases hji : j = i
            · subst hji; exact hfree
            · exact hf j (by omega) hl)
          refine Ev.step (f := fun k => shacklelaw06_SymsWhole.l0 k ts a true (tab (ts.take (i + 1))) (plc (ts.take (i + 1))) ((i + 1 : Nat) : Int)) (fun k => ?_) next
          simp only [shacklelaw06_SymsWhole.l1]
          rw [if_pos (by omega), if_pos (by omega), rdOf_at ts i hil, if_neg (by omega), if_pos (by omega), if_pos (by omega)]
          simp only [Option.bind_some]
          rw [if_pos (by rw [List.length_append, bytesOf_length]; omega), wrap_in (i : Int) (by omega) (by omega), u64_in _ (by omega) (by omega)]
          rw [take_snoc ts i hil, tab_snoc, plc_snoc]
          rfl
        | succ e ihe =>
          intro j hj he hz
          by_cases hb : bt ts[i] (j : Int) = 0
          · refine Ev.step (f := fun _ => some true) (fun k => ?_) (Ev.now true)
            simp only [shacklelaw06_SymsWhole.l1]
            rw [if_pos (by omega), if_pos (by omega), rdOf_at ts i hil, if_pos (by omega), if_pos (by omega), if_pos hb]
          · refine Ev.step (f := fun k => shacklelaw06_SymsWhole.l1 k ts a true (tab (ts.take i)) (plc (ts.take i)) (i : Int) ((j + 1 : Nat) : Int)) (fun k => ?_) (ihe (j + 1) (by omega) (by omega) (fun z h0 h1 => by
              by_cases hzj : z = j
              · subst hzj; exact hb
              · exact hz z h0 (by omega)))
            simp only [shacklelaw06_SymsWhole.l1]
            rw [if_pos (by omega), if_pos (by omega), rdOf_at ts i hil, if_pos (by omega), if_pos (by omega), if_neg hb, wrap_in (j : Int) (by omega) (by omega)]
            rfl
      refine Ev.step (f := fun k => shacklelaw06_SymsWhole.j1 k ts a true (tab (ts.take i)) (plc (ts.take i)) (i : Int) true) (fun k => ?_) ?_
      · simp only [shacklelaw06_SymsWhole.l0]
        rw [if_pos (by omega), decide_eq_true (by omega)]
      · refine Ev.step (f := fun k => shacklelaw06_SymsWhole.l1 k ts a true (tab (ts.take i)) (plc (ts.take i)) (i : Int) 0) (fun k => ?_) (inner ts[i].size 0 (by omega) (by omega) (fun z h0 h1 => by omega))
        simp only [shacklelaw06_SymsWhole.j1, if_true]
    · exact done i hi hf (by omega)
end Whole

theorem SymsWhole : shacklelaw06_SymsWhole.PureU := by
  intro ts a _ ha hs
  have h := Whole.l0_ev ts a (by omega) (SymsText.wf64 ha) 40 0 (by omega) (by omega) (by omega) (fun j h => by omega)
  obtain ⟨k, hk⟩ := h.rounds
  refine ⟨k, ?_⟩
  unfold shacklelaw06_SymsWhole.f shacklelaw06_up.f
  simpa [Whole.tab, Whole.plc] using hk

end Go.Proofs.Ytlohkhadbkahdaa.Pure
