import Derived.Test.YthopdoamajjojaaSaidVersOnce
import Derived.Test.YthopdoamajjojaaVersTold
namespace Go.Proofs.Ythopdoamajjojaa.Pure
open Go Go.RowKit Go.Proofs.Ythopdoamajjojaa Go.Proofs.Ythopdoamajjojaa.QVersW Go.Proofs.YthopdoamajjojaaW.PrintWords
open Go.Proofs.Ythopdoamajjojaa.VersS (told readO readV outR goodIn)
namespace Once
theorem w64 (n : Int) (h0 : -9223372036854775808 ≤ n) (h : n ≤ 9223372036854775807) : wrap64 n = n := by
  unfold wrap64
  omega
theorem Ev_after {α β : Type} {g : Nat → Option α} {a : Nat → Option β} {x : β} {r : α} (ha : Ev a x) (h : ∀ k, a k = some x → g (k + 1) = some r) : Ev g r := by
  obtain ⟨J, hJ⟩ := ha
  refine ⟨J + 1, fun k hk => ?_⟩
  obtain ⟨k, rfl⟩ : ∃ j, k = j + 1 := ⟨k - 1, by omega⟩
  exact h k (hJ k (by omega))
theorem drop_at {α : Type} {d : List α} {z x : α} {r : List α} {i : Nat} (h : d.drop i = x :: r) : i < d.length ∧ d.getD i z = x ∧ d.drop (i + 1) = r := by
  have hi : i < d.length := by
    by_cases hi : i < d.length
    · exact hi
    · rw [List.drop_eq_nil_of_le (by omega)] at h; cases h
  rw [List.drop_eq_getElem_cons hi] at h
  injection h with h1 h2
  exact ⟨hi, by rw [List.getD_eq_getElem?_getD, List.getElem?_eq_getElem hi]; exact h1, h2⟩
theorem drop_nil {α : Type} {d : List α} {i : Nat} (h : d.drop i = []) : d.length ≤ i := by
  have := congrArg List.length h
  simp at this
  omega
theorem rd_nat (l : List Int) (i : Nat) : rd l (i : Int) = l.getD i 0 := by simp [rd]
section
variable (n : Int) (L : List Int) (hs : Bool) (V : List Int) (D : List S63) (N : List S66) (hL : L.length ≤ 5000)
include hL
theorem l6_ev (x18 x19 : Int) (h5 : Ev (fun k => shacklelaw08_VersOnce.l5 k n true L (wrap64 (x18 + 1)) hs V D N) true) : ∀ (r : List Int) (i : Nat) (b : Bool), L.drop i = r → (b = true ∨ x19 ∈ r) →
    Ev (fun k => shacklelaw08_VersOnce.l6 k n true L x18 x19 b (i : Int) hs V D N) true
  | [], i, b, h, hm => by
    have h := drop_nil h
    have hb : b = true := hm.elim id (fun h => by cases h)
    refine Ev_after h5 (fun k e => ?_)
    rw [shacklelaw08_VersOnce.l6, if_neg (by omega), if_pos hb]
    exact e
  | x :: r, i, b, h, hm => by
    obtain ⟨h1, h2, h3⟩ := drop_at (z := (0 : Int)) h
    by_cases hb : b = true
    · refine Ev_after (l6_ev x18 x19 h5 r (i + 1) true h3 (.inl rfl)) (fun k e => ?_)
      rw [shacklelaw08_VersOnce.l6, if_pos (by omega), if_pos hb, w64 _ (by omega) (by omega)]
      exact e
    · have hm2 : x19 ∈ x :: r := hm.elim (fun h => absurd h hb) id
      refine Ev_after (l6_ev x18 x19 h5 r (i + 1) (x == x19) h3 ?_) (fun k e => ?_)
      · rcases List.mem_cons.1 hm2 with h4 | h4
        · exact .inl (by rw [h4]; exact beq_self_eq_true _)
        · exact .inr h4
      · rw [shacklelaw08_VersOnce.l6, if_pos (by omega), if_neg hb, if_pos (by omega), rd_nat, h2, w64 _ (by omega) (by omega)]
        exact e
theorem l5_ev (hn : (V.length : Int) = n) (hV : V.length ≤ 5000) (hw : ∀ w ∈ V, 0 ≤ w ∧ (w % 32768 ≤ 1 ∨ w % 32768 ∈ L)) : ∀ (r : List Int) (i : Nat), V.drop i = r →
    Ev (fun k => shacklelaw08_VersOnce.l5 k n true L (i : Int) hs V D N) true
  | [], i, h => by
    have h := drop_nil h
    refine Ev_after (Ev.now (0 : Nat)) (fun k _ => ?_)
    rw [shacklelaw08_VersOnce.l5, if_neg (by omega), if_pos rfl, hn, beq_self_eq_true]
  | x :: r, i, h => by
    obtain ⟨h1, h2, h3⟩ := drop_at (z := (0 : Int)) h
    have hx : x ∈ V := List.mem_of_mem_drop (i := i) (by rw [h]; simp)
    have hwx := hw x hx
    have ih := l5_ev hn hV hw r (i + 1) h3
    have ih : Ev (fun k => shacklelaw08_VersOnce.l5 k n true L (wrap64 ((i : Int) + 1)) hs V D N) true := by rw [w64 _ (by omega) (by omega)]; exact ih
    have ht : Int.tmod x 32768 = x % 32768 := Int.tmod_eq_emod_of_nonneg hwx.1
    have hj : ∀ b : Bool, (b = true ∨ x % 32768 ∈ L) → Ev (fun k => shacklelaw08_VersOnce.j7 k n true L (i : Int) (x % 32768) b hs V D N) true := fun b hb => by
      refine Ev_after (l6_ev n L hs V D N hL (i : Int) (x % 32768) ih L 0 b rfl hb) (fun k e => ?_)
      rw [shacklelaw08_VersOnce.j7]
      exact e
    by_cases h0 : x % 32768 = 0
    · refine Ev_after (hj true (.inl rfl)) (fun k e => ?_)
      rw [shacklelaw08_VersOnce.l5, if_pos (by omega), if_pos (by omega), rd_nat, h2, ht, if_pos h0]
      exact e
    · refine Ev_after (hj (x % 32768 == 1) ?_) (fun k e => ?_)
      · rcases hwx.2 with h4 | h4
        · exact .inl (by rw [beq_iff_eq]; omega)
        · exact .inr h4
      · rw [shacklelaw08_VersOnce.l5, if_pos (by omega), if_pos (by omega), rd_nat, h2, ht, if_neg h0]
        exact e
theorem l4_ev (x16 : Nat) (hx : x16 < L.length) (hnd : L.Nodup) (hr : ∀ y ∈ L, 1 ≤ y ∧ y ≤ 32767) (h3 : Ev (fun k => shacklelaw08_VersOnce.l3 k n true L (wrap64 ((x16 : Int) + 1)) hs V D N) true) (d : Nat) : ∀ (i : Nat), i ≤ x16 → x16 - i = d →
    Ev (fun k => shacklelaw08_VersOnce.l4 k n true L (x16 : Int) (i : Int) hs V D N) true := by
  induction d with
  | zero =>
    intro i hi hd
    have hm := hr (L.getD x16 0) (by rw [List.getD_eq_getElem?_getD, List.getElem?_eq_getElem hx]; exact List.getElem_mem hx)
    refine Ev_after h3 (fun k e => ?_)
    rw [shacklelaw08_VersOnce.l4, if_neg (by omega), if_pos (by omega), if_pos (by omega), rd_nat, if_neg (by omega), if_neg (by omega)]
    exact e
  | succ d ih =>
    intro i hi hd
    have hne : L.getD x16 0 ≠ L.getD i 0 := by
      rw [List.getD_eq_getElem?_getD, List.getElem?_eq_getElem hx, List.getD_eq_getElem?_getD, List.getElem?_eq_getElem (show i < L.length by omega)]
      exact fun e => List.pairwise_iff_getElem.1 hnd i x16 (by omega) hx (by omega) (show L[i] = L[x16] from e.symm)
    refine Ev_after (ih (i + 1) (by omega) (by omega)) (fun k e => ?_)
    rw [shacklelaw08_VersOnce.l4, if_pos (by omega), if_pos (by omega), if_pos (by omega), if_pos (by omega), if_pos (by omega), rd_nat, rd_nat, if_neg hne, w64 _ (by omega) (by omega)]
    exact e
theorem l3_ev (hnd : L.Nodup) (hr : ∀ y ∈ L, 1 ≤ y ∧ y ≤ 32767) (h5 : Ev (fun k => shacklelaw08_VersOnce.l5 k n true L 0 hs V D N) true) (d : Nat) : ∀ (i : Nat), i ≤ L.length → L.length - i = d →
    Ev (fun k => shacklelaw08_VersOnce.l3 k n true L (i : Int) hs V D N) true := by
  induction d with
  | zero =>
    intro i hi hd
    refine Ev_after h5 (fun k e => ?_)
    rw [shacklelaw08_VersOnce.l3, if_neg (by omega)]
    exact e
  | succ d ih =>
    intro i hi hd
    have h3 := ih (i + 1) (by omega) (by omega)
    have h3 : Ev (fun k => shacklelaw08_VersOnce.l3 k n true L (wrap64 ((i : Int) + 1)) hs V D N) true := by rw [w64 _ (by omega) (by omega)]; exact h3
    refine Ev_after (l4_ev n L hs V D N hL i (by omega) hnd hr h3 i 0 (by omega) (by omega)) (fun k e => ?_)
    rw [shacklelaw08_VersOnce.l3, if_pos (by omega)]
    exact e
end
section
variable (n : Int) (hs : Bool) (V : List Int) (D : List S63) (N : List S66) (L : List Int) (hL : L.length ≤ 5000) (hN : N.length ≤ 9223372036854775806) (hA : ∀ y ∈ N, y.f1.length ≤ 9223372036854775806) (hD : D.length ≤ 9223372036854775806)
  (h3 : Ev (fun k => shacklelaw08_VersOnce.l3 k n true L 0 hs V D N) true)
def idN (N : List S66) : List Int := N.flatMap (fun y => y.f1.map (fun a => a.f0))
include hL hN hA h3
omit hN h3 in
theorem l2_ev (x14 : Nat) (h14 : x14 < N.length) (rest : List Int) (h1 : ∀ acc, acc ++ rest = L → Ev (fun k => shacklelaw08_VersOnce.l1 k n true acc (wrap64 ((x14 : Int) + 1)) hs V D N) true) : ∀ (r : List S68) (i : Nat) (acc : List Int), (N.getD x14 z66).f1.drop i = r → acc ++ r.map (fun a => a.f0) ++ rest = L →
    Ev (fun k => shacklelaw08_VersOnce.l2 k n true acc (x14 : Int) (i : Int) hs V D N) true
  | [], i, acc, h, ha => by
    have h := drop_nil h
    have e0 : rd_T66 N (x14 : Int) = N.getD x14 z66 := by unfold rd_T66; rw [Int.toNat_natCast]
    refine Ev_after (h1 acc (by simpa using ha)) (fun k e => ?_)
    rw [shacklelaw08_VersOnce.l2, if_pos (by omega), if_pos (by omega), e0, if_neg (by omega)]
    exact e
  | x :: r, i, acc, h, ha => by
    obtain ⟨g1, g2, g3⟩ := drop_at (z := z68) h
    have e0 : rd_T66 N (x14 : Int) = N.getD x14 z66 := by unfold rd_T66; rw [Int.toNat_natCast]
    have e1 : rd_T68 (N.getD x14 z66).f1 (i : Int) = x := by unfold rd_T68; rw [Int.toNat_natCast]; exact g2
    have hal : acc.length ≤ 5000 := by have := congrArg List.length ha; simp at this; omega
    have hm : N.getD x14 z66 ∈ N := by rw [List.getD_eq_getElem?_getD, List.getElem?_eq_getElem h14]; exact List.getElem_mem h14
    have hf := hA _ hm
    refine Ev_after (l2_ev x14 h14 rest h1 r (i + 1) (acc ++ [x.f0]) g3 (by rw [← ha]; simp)) (fun k e => ?_)
    rw [shacklelaw08_VersOnce.l2, if_pos (by omega), if_pos (by omega), e0, if_pos (by omega), if_pos (by omega), if_pos (by omega), e1, w64 _ (by omega) (by omega)]
    exact e
theorem l1_ev : ∀ (r : List S66) (i : Nat) (acc : List Int), N.drop i = r → acc ++ idN r = L → Ev (fun k => shacklelaw08_VersOnce.l1 k n true acc (i : Int) hs V D N) true
  | [], i, acc, h, ha => by
    have h := drop_nil h
    have ha : acc = L := by simpa [idN] using ha
    refine Ev_after h3 (fun k e => ?_)
    rw [shacklelaw08_VersOnce.l1, if_neg (by omega), ha]
    exact e
  | x :: r, i, acc, h, ha => by
    obtain ⟨g1, g2, g3⟩ := drop_at (z := z66) h
    have hn1 : ∀ acc, acc ++ idN r = L → Ev (fun k => shacklelaw08_VersOnce.l1 k n true acc (wrap64 ((i : Int) + 1)) hs V D N) true := fun acc ha => by
      have := l1_ev r (i + 1) acc g3 ha
      rw [w64 _ (by omega) (by omega)]
      exact this
    refine Ev_after (l2_ev n hs V D N L hL hA i g1 (idN r) hn1 x.f1 0 acc (by rw [g2]; rfl) (by rw [← ha]; simp [idN])) (fun k e => ?_)
    rw [shacklelaw08_VersOnce.l1, if_pos (by omega)]
    exact e
include hD
theorem l0_ev : ∀ (r : List S63) (i : Nat) (acc : List Int), D.drop i = r → acc ++ r.map (fun a => a.f0) ++ idN N = L → Ev (fun k => shacklelaw08_VersOnce.l0 k n true acc (i : Int) hs V D N) true
  | [], i, acc, h, ha => by
    have h := drop_nil h
    refine Ev_after (l1_ev n hs V D N L hL hN hA h3 N 0 acc rfl (by simpa using ha)) (fun k e => ?_)
    rw [shacklelaw08_VersOnce.l0, if_neg (by omega)]
    exact e
  | x :: r, i, acc, h, ha => by
    obtain ⟨g1, g2, g3⟩ := drop_at (z := z63) h
    have e1 : rd_T63 D (i : Int) = x := by unfold rd_T63; rw [Int.toNat_natCast]; exact g2
    have hal : acc.length ≤ 5000 := by have := congrArg List.length ha; simp at this; omega
    refine Ev_after (l0_ev r (i + 1) (acc ++ [x.f0]) g3 (by rw [← ha]; simp)) (fun k e => ?_)
    rw [shacklelaw08_VersOnce.l0, if_pos (by omega), if_pos (by omega), if_pos (by omega), e1, w64 _ (by omega) (by omega)]
    exact e
end
theorem empty_ev (n : Int) (hs : Bool) : Ev (fun k => shacklelaw08_VersOnce.j0 k n true true hs [] [] []) true := by
  refine Ev_after (Ev.now (0 : Nat)) (fun k _ => ?_)
  rw [shacklelaw08_VersOnce.j0, if_pos rfl, if_pos rfl]
  rfl
theorem wf8 {l : List Int} (h : ∀ x ∈ l, (Lit.int .u8 x).wf = true) : ∀ x ∈ l, 0 ≤ x ∧ x ≤ 255 := fun x hx => by
  simpa [Lit.wf, IntKind.min, IntKind.max, IntKind.signed, IntKind.bits] using h x hx
theorem wf64 {a : Int} (h : (Lit.int .u64 a).wf = true) : 0 ≤ a ∧ a ≤ 18446744073709551615 := by
  simpa [Lit.wf, IntKind.min, IntKind.max, IntKind.signed, IntKind.bits] using h
theorem wfi {a : Int} (h : (Lit.int .i64 a).wf = true) : -9223372036854775808 ≤ a ∧ a ≤ 9223372036854775807 := by
  simpa [Lit.wf, IntKind.min, IntKind.max, IntKind.signed, IntKind.bits] using h
theorem okP_of {ps : List S29} (h : ∀ z ∈ ps, good29 z) : ∀ p ∈ ps.map cv29, VersSpec.okP p := fun p hp => by
  obtain ⟨q, hq, rfl⟩ := List.mem_map.1 hp
  have := h q hq
  exact ⟨wf64 this.2.2.1, wf64 this.2.2.2.1, wf64 this.2.2.2.2.1⟩
theorem good_of {b : List Int} {ps : List QVers.S29} {sz versym verdef defnum verneed neednum tab n : Int} (h1 : ∀ x ∈ b, 0 ≤ x ∧ x ≤ 255) (h2 : ∀ p ∈ ps, VersSpec.okP p) (h3 : ∀ x ∈ [tab, sz, versym, verdef, defnum, verneed, neednum], 0 ≤ x ∧ x ≤ 18446744073709551615) (h4 : -9223372036854775808 ≤ n ∧ n ≤ 9223372036854775807) :
    goodIn b ps sz versym verdef defnum verneed neednum tab n = true := by
  unfold goodIn
  simp only [Bool.and_eq_true, List.all_eq_true, decide_eq_true_eq]
  exact ⟨⟨⟨⟨h1, fun p hp => by have := h2 p hp; unfold VersSpec.okP at this; omega⟩, h3⟩, h4.1⟩, h4.2⟩
end Once
open Once
theorem VersOnce : shacklelaw08_VersOnce.PureU := by
  intro l0 a1_0 a1_1 l1_2 l2_0 a2_1 a2_2 a2_3 a2_4 a2_5 a2_6 a2_7 a2_8 a2_9 a2_10 a2_11 a2_12 a2_13 a2_14 a2_15 a2_16 a2_17 a2_18 a2_19 a2_20 a2_21 a2_22 a2_23 a2_24 a2_25 a2_26 a2_27 a2_28 a2_29 a2_30 a2_31 a2_32 a2_33 a2_34 a2_35 a2_36 a3 ⟨hb, hbw⟩ hx hy ⟨hps, hpg⟩ hl2 ha2_1 ha2_2 ha2_3 ha2_4 ha2_5 ha2_6 ha2_7 ha2_8 ha2_9 ha2_10 ha2_11 ha2_12 ha2_13 ha2_17 ha2_18 ha2_19 ha2_20 ha2_21 ha2_22 ha2_23 ha2_24 ha2_25 ha2_26 ha2_27 ha2_28 ha2_29 ha2_30 ha2_31 hn
  have hbb := wf8 hbw
  have hp := okP_of hpg
  have hg := good_of (b := l0) (ps := l1_2.map cv29) (sz := a2_8) (versym := a2_26) (verdef := a2_28) (defnum := a2_29) (verneed := a2_30) (neednum := a2_31) (tab := a2_4) (n := a3) hbb hp (by
    intro x hx
    simp only [List.mem_cons, List.not_mem_nil, or_false] at hx
    rcases hx with rfl | rfl | rfl | rfl | rfl | rfl | rfl <;> exact wf64 (by assumption)) (wfi hn)
  have hro : readO l0 (l1_2.map cv29) a2_4 a2_8 a2_26 a2_28 a2_29 a2_30 a2_31 a3 = some (outR (readV l0 (l1_2.map cv29) a2_4 a2_8 a2_26 a2_28 a2_29 a2_30 a2_31 a3)) := if_pos hg
  have hup : shacklelaw08_up.f = some true := rfl
  suffices h : Ev (fun k => shacklelaw08_VersOnce.f k l0 a1_0 a1_1 l1_2 l2_0 a2_1 a2_2 a2_3 a2_4 a2_5 a2_6 a2_7 a2_8 a2_9 a2_10 a2_11 a2_12 a2_13 a2_14 a2_15 a2_16 a2_17 a2_18 a2_19 a2_20 a2_21 a2_22 a2_23 a2_24 a2_25 a2_26 a2_27 a2_28 a2_29 a2_30 a2_31 a2_32 a2_33 a2_34 a2_35 a2_36 a3) true from h.rounds
  cases hq : readV l0 (l1_2.map cv29) a2_4 a2_8 a2_26 a2_28 a2_29 a2_30 a2_31 a3 with
  | error c =>
    obtain ⟨K, hK⟩ := empty_ev a3 false
    refine ⟨K, fun k hk => ?_⟩
    have h1 := hK k hk
    show shacklelaw08_VersOnce.f k l0 a1_0 a1_1 l1_2 l2_0 a2_1 a2_2 a2_3 a2_4 a2_5 a2_6 a2_7 a2_8 a2_9 a2_10 a2_11 a2_12 a2_13 a2_14 a2_15 a2_16 a2_17 a2_18 a2_19 a2_20 a2_21 a2_22 a2_23 a2_24 a2_25 a2_26 a2_27 a2_28 a2_29 a2_30 a2_31 a2_32 a2_33 a2_34 a2_35 a2_36 a3 = _
    unfold shacklelaw08_VersOnce.f vers_Read.f
    rw [hup, Option.bind_some, hro, hq]
    exact h1
  | ok x =>
    have ht := VersS.readV_told hbb hp hq
    rcases ht with rfl | ⟨h1, hnd, hr, hw, hlen, hn4, hL, hN64⟩
    · obtain ⟨K, hK⟩ := empty_ev a3 false
      refine ⟨K, fun k hk => ?_⟩
      have h1 := hK k hk
      show shacklelaw08_VersOnce.f k l0 a1_0 a1_1 l1_2 l2_0 a2_1 a2_2 a2_3 a2_4 a2_5 a2_6 a2_7 a2_8 a2_9 a2_10 a2_11 a2_12 a2_13 a2_14 a2_15 a2_16 a2_17 a2_18 a2_19 a2_20 a2_21 a2_22 a2_23 a2_24 a2_25 a2_26 a2_27 a2_28 a2_29 a2_30 a2_31 a2_32 a2_33 a2_34 a2_35 a2_36 a3 = _
      unfold shacklelaw08_VersOnce.f vers_Read.f
      rw [hup, Option.bind_some, hro, hq]
      exact h1
    · obtain ⟨has, V, D, N⟩ := x
      simp only at h1 hw hlen
      subst h1
      have eT : ([] : List Int) ++ (D.map dfTo).map (fun a => a.f0) ++ idN (N.map ndTo) = told (true, V, D, N) := by
        simp [told, idN, dfTo, ndTo, axTo, List.flatMap_map, Function.comp_def]
      have hLD : D.length ≤ 5000 := by simp [told] at hL; omega
      have hLN : ∀ y ∈ N, y.2.length ≤ 5000 := fun y hy => by
        have h2 : (N.flatMap (fun y => y.2.map (fun a => a.1))).length ≤ 5000 := by simp [told] at hL ⊢; omega
        have h3 : (y.2.map (fun a => a.1)).Sublist (N.flatMap (fun y => y.2.map (fun a => a.1))) := by
          obtain ⟨s, t, rfl⟩ := List.append_of_mem hy
          rw [List.flatMap_append, List.flatMap_cons]
          exact (List.sublist_append_left _ _).trans (List.sublist_append_right _ _)
        have h4 := h3.length_le
        rw [List.length_map] at h4
        omega
      have h5 := l5_ev a3 (told (true, V, D, N)) true V (D.map dfTo) (N.map ndTo) hL hlen (by omega) hw V 0 rfl
      have h3 := l3_ev a3 (told (true, V, D, N)) true V (D.map dfTo) (N.map ndTo) hL hnd hr h5 (told (true, V, D, N)).length 0 (by omega) (by omega)
      have h0 := l0_ev a3 true V (D.map dfTo) (N.map ndTo) (told (true, V, D, N)) hL (by rw [List.length_map]; exact Nat.le_trans hN64 (by decide)) (fun y hy => by
        obtain ⟨q, hq, rfl⟩ := List.mem_map.1 hy
        have := hLN q hq
        simp only [ndTo, List.length_map]
        omega) (by rw [List.length_map]; omega) h3 (D.map dfTo) 0 [] rfl eT
      have hj : Ev (fun k => shacklelaw08_VersOnce.j0 k a3 true false true V (D.map dfTo) (N.map ndTo)) true := by
        refine Ev_after h0 (fun k e => ?_)
        rw [shacklelaw08_VersOnce.j0, if_neg (by decide)]
        exact e
      obtain ⟨K, hK⟩ := hj
      refine ⟨K, fun k hk => ?_⟩
      have h1 := hK k hk
      show shacklelaw08_VersOnce.f k l0 a1_0 a1_1 l1_2 l2_0 a2_1 a2_2 a2_3 a2_4 a2_5 a2_6 a2_7 a2_8 a2_9 a2_10 a2_11 a2_12 a2_13 a2_14 a2_15 a2_16 a2_17 a2_18 a2_19 a2_20 a2_21 a2_22 a2_23 a2_24 a2_25 a2_26 a2_27 a2_28 a2_29 a2_30 a2_31 a2_32 a2_33 a2_34 a2_35 a2_36 a3 = _
      unfold shacklelaw08_VersOnce.f vers_Read.f
      rw [hup, Option.bind_some, hro, hq]
      exact h1
end Go.Proofs.Ythopdoamajjojaa.Pure
