/- The program's own symbols are the plain function's. -/
import Derived.Test.YtlohkhadbkahdaaSymsRow
import Derived.Test.YtlohkhadbkahdaaQSymsx6
namespace Go.Proofs.Ytlohkhadbkahdaa.SymsSpec
open Go Go.RowKit Go.Proofs.Ytlohkhadbkahdaa.QSyms Go.Proofs.YtlohkhadbkahdaaW.PrintWords
open TextFacts (zeroAt textS u64_in)

theorem errOf_none {c : Int} (h : c = 0) : errOf c = none := by unfold errOf; rw [if_pos h]
theorem errOf_some {c : Int} (h : c ≠ 0) : errOf c = some c := by unfold errOf; rw [if_neg h]
theorem Ev_five {α β γ δ ε ζ : Type} {g : Nat → Option α} {a : Nat → Option β} {b : Nat → Option γ} {c : Nat → Option δ} {d : Nat → Option ε} {e : Nat → Option ζ} {x : β} {y : γ} {z : δ} {u : ε} {v : ζ} {r : α} (ha : Ev a x) (hb : Ev b y) (hc : Ev c z) (hd : Ev d u) (he : Ev e v)
    (h : ∀ k, a k = some x → b k = some y → c k = some z → d k = some u → e k = some v → g (k + 1) = some r) : Ev g r := by
  obtain ⟨A, hA⟩ := ha
  obtain ⟨B, hB⟩ := hb
  obtain ⟨C, hC⟩ := hc
  obtain ⟨D, hD⟩ := hd
  obtain ⟨E, hE⟩ := he
  refine ⟨A + B + C + D + E + 1, fun k hk => ?_⟩
  obtain ⟨k, rfl⟩ : ∃ j, k = j + 1 := ⟨k - 1, by omega⟩
  exact h k (hA k (by omega)) (hB k (by omega)) (hC k (by omega)) (hD k (by omega)) (hE k (by omega))
theorem good_cases (q v : Int) (h : ¬ (q > 2 ∨ (v > 6 ∧ v ≠ 10) ∨ v = 5)) : ¬ q > 2 ∧ (v > 6 → v = 10) ∧ ¬ v = 5 := by omega
theorem bad_cases (q v : Int) (h : q > 2 ∨ (v > 6 ∧ v ≠ 10) ∨ v = 5) (h1 : ¬ q > 2) : (v > 6 → ¬ v = 10) ∧ (¬ v > 6 → v = 5) := by omega
def readR (r : List S68 × Int) : List S68 × Option Int := (r.1, errOf r.2)
theorem j1_ev (s t x : List Int) (acc : List S68) (n i : Nat) (hs : ∀ v ∈ s, 0 ≤ v ∧ v ≤ 255) (hsl : s.length ≤ 140737488351232) (hx : ∀ v ∈ x, 0 ≤ v ∧ v ≤ 255) (hxl : x.length = 24) (hacc : acc.length ≤ 4096) (R : List S68 × Int)
    (hi : i < 4096) (h1 : (row s x).2 ≠ 0 → R = ([], (row s x).2)) (h2 : (row s x).2 = 0 → Ev (fun k => syms_Read.l0 k s t (acc ++ [(row s x).1]) (n : Int) ((i + 1 : Nat) : Int)) (readR R)) :
    Ev (fun k => syms_Read.j1 k s t acc x (n : Int) (i : Int) false) (readR R) := by
  have sub : ∀ a b : Nat, ∀ v ∈ (x.take b).drop a, 0 ≤ v ∧ v ≤ 255 := fun a b v hv => hx v (List.mem_of_mem_take (List.mem_of_mem_drop hv))
  have n1 := number_f (x.take 4) (fun v hv => hx v (List.mem_of_mem_take hv)) (by simp; omega)
  have n2 := number_f ((x.take 8).drop 6) (sub 6 8) (by simp; omega)
  have n3 := number_f ((x.take 16).drop 8) (sub 8 16) (by simp; omega)
  have n4 := number_f (x.drop 16) (fun v hv => hx v (List.mem_of_mem_drop hv)) (by simp; omega)
  have hn1 := num_lt (x.take 4) (fun v hv => hx v (List.mem_of_mem_take hv)) (by simp; omega)
  have htx := text_f s (num (x.take 4)) hs hsl hn1.1
  have hr4 := rd_in hx 4 (by omega)
  have hr5 := rd_in hx 5 (by omega)
  have hr6 := rd_in hx 6 (by omega)
  have hr7 := rd_in hx 7 (by omega)
  have e2 : num ((x.take 8).drop 6) = rd x 6 + 256 * rd x 7 := by
    rw [num_two _ (by simp; omega)]
    have q0 : rd ((x.take 8).drop 6) 0 = rd x 6 := rd_cut x 6 8 0 (by omega)
    have q1 : rd ((x.take 8).drop 6) 1 = rd x 7 := rd_cut x 6 8 1 (by omega)
    rw [q0, q1]
  have hr4' : 0 ≤ rd x 4 ∧ rd x 4 ≤ 255 := hr4
  have hr5' : 0 ≤ rd x 5 ∧ rd x 5 ≤ 255 := hr5
  have hr6' : 0 ≤ rd x 6 ∧ rd x 6 ≤ 255 := hr6
  have hr7' : 0 ≤ rd x 7 ∧ rd x 7 ≤ 255 := hr7
  have w1 : wrap64 (rd x 4 / 16) = rd x 4 / 16 := w64 _ (by omega) (by omega)
  have w2 : wrap64 (Go.bits .and .u8 (rd x 4) 15) = rd x 4 % 16 := by rw [and15 _ hr4', w64 _ (by omega) (by omega)]
  have w3 : wrap64 (Go.bits .and .u8 (rd x 5) 3) = rd x 5 % 4 := by rw [and3 _ hr5', w64 _ (by omega) (by omega)]
  by_cases ht : (textS s (num (x.take 4))).2 = 0
  · by_cases hb : badKind x
    · have hrow : (row s x).2 = 3 := by unfold row; rw [if_neg (by simpa using ht), if_pos hb]
      have hR := h1 (by omega)
      rw [hrow] at hR
      subst hR
      refine Ev_five n1 n2 n3 n4 (Ev.now (0 : Nat)) (fun k k1 k2 k3 k4 _ => ?_)
      simp only [syms_Read.j1]
      rw [if_neg (by simp), if_pos (by omega), k1, Option.bind_some, htx, Option.bind_some]
      rw [errOf_none ht, if_pos (c := ((textS s (num (x.take 4))).1, (none : Option Int)).2.isNone = true) rfl]
      rw [if_pos (by omega), if_pos (by omega), if_pos (by omega), if_pos (by omega), k2, Option.bind_some, if_pos (by omega), if_pos (by omega), k3, Option.bind_some, k4, Option.bind_some, w1, w2]
      by_cases b1 : rd x 4 / 16 > 2
      · rw [if_pos b1]; rfl
      · have hk := bad_cases _ _ hb b1
        rw [if_neg b1]
        by_cases b2 : rd x 4 % 16 > 6
        · rw [if_pos b2, if_neg (hk.1 b2)]; rfl
        · rw [if_neg b2, if_pos (hk.2 b2)]; rfl
    · have hrow : row s x = (⟨(textS s (num (x.take 4))).1, rd x 4 / 16, rd x 4 % 16, rd x 5 % 4, rd x 6 + 256 * rd x 7, num ((x.take 16).drop 8), num (x.drop 16)⟩, 0) := by
        unfold row; rw [if_neg (by simpa using ht), if_neg hb]
      have hnext := h2 (by rw [hrow])
      rw [hrow] at hnext
      refine Ev_five n1 n2 n3 n4 hnext (fun k k1 k2 k3 k4 k5 => ?_)
      simp only [syms_Read.j1]
      rw [if_neg (by simp), if_pos (by omega), k1, Option.bind_some, htx, Option.bind_some]
      rw [errOf_none ht, if_pos (c := ((textS s (num (x.take 4))).1, (none : Option Int)).2.isNone = true) rfl]
      rw [if_pos (by omega), if_pos (by omega), if_pos (by omega), if_pos (by omega), k2, Option.bind_some, if_pos (by omega), if_pos (by omega), k3, Option.bind_some, k4, Option.bind_some, w1, w2, w3, e2, w64 (rd x 6 + 256 * rd x 7) (by omega) (by omega), w64 ((i : Int) + 1) (by omega) (by omega), show (i : Int) + 1 = ((i + 1 : Nat) : Int) by omega]
      have hk := good_cases _ _ hb
      have hacc' : acc.length < 2199023255552 := Nat.lt_of_le_of_lt hacc (by decide)
      rw [if_neg hk.1]
      by_cases b2 : rd x 4 % 16 > 6
      · rw [if_pos b2, if_pos (hk.2.1 b2), if_neg hk.2.2, if_pos hacc']; exact k5
      · rw [if_neg b2, if_neg hk.2.2, if_pos hacc']; exact k5
  · have hrow : row s x = (z68, (textS s (num (x.take 4))).2) := by unfold row; rw [if_pos ht]
    have hR := h1 (by rw [hrow]; exact ht)
    rw [hrow] at hR
    subst hR
    refine Ev_after n1 (fun k k1 => ?_)
    simp only [syms_Read.j1]
    rw [if_neg (by simp), if_pos (by omega), k1, Option.bind_some, htx, Option.bind_some]
    simp only [errOf_some ht, readR]
    rfl
theorem read_l0 (s t : List Int) (n : Nat) (hn : n ≤ 4096) (hs : ∀ v ∈ s, 0 ≤ v ∧ v ≤ 255) (hsl : s.length ≤ 140737488351232) (ht : ∀ v ∈ t, 0 ≤ v ∧ v ≤ 255) (htl : t.length = 24 * n) (d : Nat) : ∀ (i : Nat) (acc : List S68), i ≤ n → n - i = d → acc.length = i →
    Ev (fun k => syms_Read.l0 k s t acc (n : Int) (i : Int)) (readR (readL s t d i acc)) := by
  induction d with
  | zero =>
    intro i acc hi hd hacc
    refine Ev_after (Ev.now (0 : Nat)) (fun k _ => ?_)
    simp only [syms_Read.l0]
    rw [if_neg (by omega)]
    rfl
  | succ d ih =>
    intro i acc hi hd hacc
    have hin : i < n := by omega
    have hcl := cell_len t i n htl hin
    have hcm : ∀ v ∈ cell t i, 0 ≤ v ∧ v ≤ 255 := fun v hv => ht v (cell_mem t i v hv)
    have ecell : (t.take (24 * (i : Int) + 24).toNat).drop (24 * (i : Int)).toNat = cell t i := by
      unfold cell; rw [show (24 * (i : Int) + 24).toNat = 24 * i + 24 by omega, show (24 * (i : Int)).toNat = 24 * i by omega]
    by_cases hz : i = 0 ∧ zeros (cell t i) = false
    · have hR : readL s t (d + 1) i acc = ([], 3) := by unfold readL; rw [if_pos hz]
      rw [hR]
      refine Ev_after (Ev_after (g := fun k => syms_Read.j1 k s t acc (cell t i) (n : Int) (i : Int) true) (r := readR ([], 3)) (Ev.now (0 : Nat)) (fun k _ => ?_)) (fun k h => ?_)
      · simp only [syms_Read.j1]; rfl
      · simp only [syms_Read.l0]
        rw [w64 (24 * (i : Int)) (by omega) (by omega), w64 (24 * (i : Int) + 24) (by omega) (by omega), if_pos (by omega), if_pos (by omega), if_pos (by omega), if_pos (by omega), Option.bind_some, ecell, if_pos (by omega), if_pos (by omega), equal_f _ hcm hcl, Option.bind_some, hz.2]
        exact h
    · have hR : readL s t (d + 1) i acc = if (row s (cell t i)).2 ≠ 0 then ([], (row s (cell t i)).2) else readL s t d (i + 1) (acc ++ [(row s (cell t i)).1]) := by
        conv => lhs; unfold readL
        rw [if_neg hz]
      have hj := j1_ev s t (cell t i) acc n i hs hsl hcm hcl (by omega) (readL s t (d + 1) i acc) (by omega) (fun h => by rw [hR, if_pos h]) (fun h => by
        rw [hR, if_neg (by simpa using h)]
        exact ih (i + 1) _ (by omega) (by omega) (by simp; omega))
      refine Ev_after hj (fun k h => ?_)
      simp only [syms_Read.l0]
      rw [w64 (24 * (i : Int)) (by omega) (by omega), w64 (24 * (i : Int) + 24) (by omega) (by omega), if_pos (by omega), if_pos (by omega), if_pos (by omega), if_pos (by omega), Option.bind_some, ecell]
      by_cases e0 : i = 0
      · have hzt : zeros (cell t i) = true := by
          cases e : zeros (cell t i) with
          | true => rfl
          | false => exact absurd ⟨e0, e⟩ hz
        rw [if_pos (by omega), if_pos (by omega), equal_f _ hcm hcl, Option.bind_some, hzt]
        exact h
      · rw [if_neg (by omega)]
        exact h
theorem read_ev (b : List Int) (ps : List S95) (x y : Int) (l2 : List Int) (a2_1 a2_2 a2_3 a2_4 a2_5 a2_6 a2_7 a2_8 a2_9 a2_10 a2_11 a2_12 a2_13 : Int) (a2_14 a2_15 a2_16 : Bool) (a2_17 a2_18 a2_19 a2_20 a2_21 a2_22 a2_23 a2_24 a2_25 a2_26 a2_27 a2_28 a2_29 a2_30 a2_31 : Int) (a2_32 a2_33 a2_34 a2_35 a2_36 : Bool) (n : Int) (hb : b.length ≤ 9223372036854775807) (hbb : ∀ v ∈ b, 0 ≤ v ∧ v ≤ 255) (hl : ps.length ≤ 9223372036854775807) (hp : ∀ p ∈ ps, ok95 p) (h4 : 0 ≤ a2_4 ∧ a2_4 ≤ 18446744073709551615) (h5 : 0 ≤ a2_5 ∧ a2_5 ≤ 18446744073709551615) (h8 : 0 ≤ a2_8 ∧ a2_8 ≤ 18446744073709551615) :
    Ev (fun k => syms_Read.f k b x y ps l2 a2_1 a2_2 a2_3 a2_4 a2_5 a2_6 a2_7 a2_8 a2_9 a2_10 a2_11 a2_12 a2_13 a2_14 a2_15 a2_16 a2_17 a2_18 a2_19 a2_20 a2_21 a2_22 a2_23 a2_24 a2_25 a2_26 a2_27 a2_28 a2_29 a2_30 a2_31 a2_32 a2_33 a2_34 a2_35 a2_36 n) (readR (readS b ps a2_4 a2_8 a2_5 n)) := by
  by_cases e1 : n < 0
  · refine Ev_one (Ev.now (0 : Nat)) (fun k _ => ?_)
    unfold syms_Read.f readS
    rw [if_pos e1, if_pos e1]; rfl
  by_cases e2 : n > 4096
  · refine Ev_one (Ev.now (0 : Nat)) (fun k _ => ?_)
    unfold syms_Read.f readS
    rw [if_neg e1, if_neg e1, if_pos e2, if_pos e2]; rfl
  have hst := strings_ev b ps x y l2 a2_1 a2_2 a2_3 a2_4 a2_5 a2_6 a2_7 a2_8 a2_9 a2_10 a2_11 a2_12 a2_13 a2_14 a2_15 a2_16 a2_17 a2_18 a2_19 a2_20 a2_21 a2_22 a2_23 a2_24 a2_25 a2_26 a2_27 a2_28 a2_29 a2_30 a2_31 a2_32 a2_33 a2_34 a2_35 a2_36 hb hl hp h4 h8
  by_cases e3 : (strS b ps a2_4 a2_8).2 = 0
  · have hsl := slice_ev b ps x y a2_5 (24 * n) hb hl hp h5 (by omega) (by omega)
    have hok := strS_ok e3
    have hslen := slc_len hp h8.1 hok.1
    have hsb : ∀ v ∈ (strS b ps a2_4 a2_8).1, 0 ≤ v ∧ v ≤ 255 := fun v hv => hbb v (hslen.2.2 v hv)
    cases e4 : slc b ps a2_5 (24 * n) with
    | none =>
      refine Ev_both hst hsl (fun k h1 h2 => ?_)
      unfold syms_Read.f readS
      have h1 : syms_Strings.f k b x y ps l2 a2_1 a2_2 a2_3 a2_4 a2_5 a2_6 a2_7 a2_8 a2_9 a2_10 a2_11 a2_12 a2_13 a2_14 a2_15 a2_16 a2_17 a2_18 a2_19 a2_20 a2_21 a2_22 a2_23 a2_24 a2_25 a2_26 a2_27 a2_28 a2_29 a2_30 a2_31 a2_32 a2_33 a2_34 a2_35 a2_36 = some ((strS b ps a2_4 a2_8).1, errOf (strS b ps a2_4 a2_8).2) := h1
      have h2 : dyn_Slice.f k b x y ps a2_5 (24 * n) = some (slcR (slc b ps a2_5 (24 * n))) := h2
      rw [if_neg e1, if_neg e1, if_neg e2, if_neg e2, h1, Option.bind_some, errOf_none e3, if_pos (c := ((strS b ps a2_4 a2_8).1, (none : Option Int)).2.isNone = true) rfl, if_neg (c := (strS b ps a2_4 a2_8).2 ≠ 0) (fun z => z e3)]
      rw [u64_in n (by omega) (by omega), u64_in (24 * n) (by omega) (by omega), h2, e4, Option.bind_some]
      rfl
    | some t =>
      have htlen := slc_len hp (show 0 ≤ 24 * n by omega) e4
      have hloop := read_l0 (strS b ps a2_4 a2_8).1 t n.toNat (by omega) hsb (by omega) (fun v hv => hbb v (htlen.2.2 v hv)) (by omega) n.toNat 0 [] (by omega) (by omega) rfl
      obtain ⟨A, hA⟩ := hst
      obtain ⟨B, hB⟩ := hsl
      obtain ⟨C, hC⟩ := hloop
      refine ⟨A + B + C, fun k hk => ?_⟩
      have h1 := hA k (by omega)
      have h2 := hB k (by omega)
      have h3 := hC k (by omega)
      show syms_Read.f k b x y ps l2 a2_1 a2_2 a2_3 a2_4 a2_5 a2_6 a2_7 a2_8 a2_9 a2_10 a2_11 a2_12 a2_13 a2_14 a2_15 a2_16 a2_17 a2_18 a2_19 a2_20 a2_21 a2_22 a2_23 a2_24 a2_25 a2_26 a2_27 a2_28 a2_29 a2_30 a2_31 a2_32 a2_33 a2_34 a2_35 a2_36 n = _
      unfold syms_Read.f readS
      have h1 : syms_Strings.f k b x y ps l2 a2_1 a2_2 a2_3 a2_4 a2_5 a2_6 a2_7 a2_8 a2_9 a2_10 a2_11 a2_12 a2_13 a2_14 a2_15 a2_16 a2_17 a2_18 a2_19 a2_20 a2_21 a2_22 a2_23 a2_24 a2_25 a2_26 a2_27 a2_28 a2_29 a2_30 a2_31 a2_32 a2_33 a2_34 a2_35 a2_36 = some ((strS b ps a2_4 a2_8).1, errOf (strS b ps a2_4 a2_8).2) := h1
      have h2 : dyn_Slice.f k b x y ps a2_5 (24 * n) = some (slcR (slc b ps a2_5 (24 * n))) := h2
      rw [if_neg e1, if_neg e1, if_neg e2, if_neg e2, h1, Option.bind_some, errOf_none e3, if_pos (c := ((strS b ps a2_4 a2_8).1, (none : Option Int)).2.isNone = true) rfl, if_neg (c := (strS b ps a2_4 a2_8).2 ≠ 0) (fun z => z e3)]
      rw [u64_in n (by omega) (by omega), u64_in (24 * n) (by omega) (by omega), h2, e4, Option.bind_some]
      rw [show slcR (some t) = (t, none) from rfl, if_pos (c := (t, (none : Option Int)).2.isNone = true) rfl]
      have h3 : syms_Read.l0 k (strS b ps a2_4 a2_8).1 t [] ((n.toNat : Nat) : Int) ((0 : Nat) : Int) = some (readR (readL (strS b ps a2_4 a2_8).1 t n.toNat 0 [])) := h3
      rw [show ((n.toNat : Nat) : Int) = n by omega] at h3
      exact h3
  · refine Ev_one hst (fun k h => ?_)
    unfold syms_Read.f readS
    rw [if_neg e1, if_neg e1, if_neg e2, if_neg e2, h, Option.bind_some, errOf_some e3, if_neg (c := ((strS b ps a2_4 a2_8).1, some (strS b ps a2_4 a2_8).2).2.isNone = true) (by simp), if_pos (c := (strS b ps a2_4 a2_8).2 ≠ 0) e3]
    unfold readR
    rw [errOf_some e3]
    rfl
end Go.Proofs.Ytlohkhadbkahdaa.SymsSpec
