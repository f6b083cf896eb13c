import Derived.Test.YthopdoamajjojaaVersRFin
namespace Go.Proofs.Ythopdoamajjojaa.VersR
open Go Go.RowKit Go.Proofs.Ythopdoamajjojaa.QVers Go.Proofs.Ythopdoamajjojaa.VersSpec Go.Proofs.Ythopdoamajjojaa.VersS Go.Proofs.YthopdoamajjojaaW.PrintWords Go.Proofs.YthopdoamajjojaaW.PrintLast Go.Proofs.YthopdoamajjojaaW.PrintMore
set_option linter.unusedSimpArgs false
set_option linter.unusedVariables false
theorem same7_l (l : List Int) (hl : l.length ≤ 9223372036854775806) (d : Nat) : ∀ (k : Nat) (i : Int), 0 ≤ i → i ≤ l.length → (l.length : Int) - i = d → d < k → shackleref07_Same.l0 k l l i = some true := by
  induction d with
  | zero =>
    intro k i h0 h1 hd hk
    obtain ⟨k, rfl⟩ : ∃ m, k = m + 1 := ⟨k - 1, by omega⟩
    rw [shackleref07_Same.l0, if_neg (by omega)]
  | succ d ih =>
    intro k i h0 h1 hd hk
    obtain ⟨k, rfl⟩ : ∃ m, k = m + 1 := ⟨k - 1, by omega⟩
    rw [shackleref07_Same.l0, if_pos (by omega), if_pos h0, if_pos (by omega), if_pos rfl, VersSpec.w64 _ (by omega) (by omega)]
    exact ih k (i + 1) (by omega) (by omega) (by omega) (by omega)
theorem texts_l (l : List ByteArray) (hl : l.length ≤ 9223372036854775806) (d : Nat) : ∀ (k : Nat) (i : Int), 0 ≤ i → i ≤ l.length → (l.length : Int) - i = d → d < k → shackleref08_texts.l0 k l l i = some true := by
  induction d with
  | zero =>
    intro k i h0 h1 hd hk
    obtain ⟨k, rfl⟩ : ∃ m, k = m + 1 := ⟨k - 1, by omega⟩
    rw [shackleref08_texts.l0, if_neg (by omega)]
  | succ d ih =>
    intro k i h0 h1 hd hk
    obtain ⟨k, rfl⟩ : ∃ m, k = m + 1 := ⟨k - 1, by omega⟩
    rw [shackleref08_texts.l0, if_pos (by omega), if_pos h0, if_pos (by omega), if_pos rfl, VersSpec.w64 _ (by omega) (by omega)]
    exact ih k (i + 1) (by omega) (by omega) (by omega) (by omega)
theorem same7_calls (A0 : Option Addr) (c0 : Nat) (l : List Int) (A1 : Option Addr) (c1 : Nat) (w : World) (h0 : Kd.C (Kd.int .i64) w A0 l.length l) (hc0 : l.length ≤ c0) (h1 : Kd.C (Kd.int .i64) w A1 l.length l) (hc1 : l.length ≤ c1) (hl : l.length ≤ 9223372036854775806) :
    Calls Try.prog 14 #[.slice A0 l.length c0, .slice A1 l.length c1] w fun e w' => e = .returned (.bool true) ∧ ∃ n, w' = w.drewN n := by
  have h := same7_l l hl l.length (l.length + 1) 0 (by omega) (by omega) (by omega) (by omega)
  exact (shackleref07_Same.calls (l.length + 1) A0 c0 l A1 c1 l true w h0 hc0 h1 hc1 (by rw [shackleref07_Same.f, if_pos rfl]; exact h)).mono (by rintro e w' ⟨rfl, ⟨h⟩⟩; exact ⟨rfl, h⟩)
theorem texts_calls (A0 : Option Addr) (c0 : Nat) (l : List ByteArray) (A1 : Option Addr) (c1 : Nat) (w : World) (h0 : Kd.C Kd.string w A0 l.length l) (hc0 : l.length ≤ c0) (h1 : Kd.C Kd.string w A1 l.length l) (hc1 : l.length ≤ c1) (hl : l.length ≤ 9223372036854775806) :
    Calls Try.prog 46 #[.slice A0 l.length c0, .slice A1 l.length c1] w fun e w' => e = .returned (.bool true) ∧ ∃ n, w' = w.drewN n := by
  have h := texts_l l hl l.length (l.length + 1) 0 (by omega) (by omega) (by omega) (by omega)
  exact (shackleref08_texts.calls (l.length + 1) A0 c0 l A1 c1 l true w h0 hc0 h1 hc1 (by rw [shackleref08_texts.f, if_pos rfl]; exact h)).mono (by rintro e w' ⟨rfl, ⟨h⟩⟩; exact ⟨rfl, h⟩)
def zDf : Df := (0, false, ByteArray.empty, [])
def zNd : Nd := (ByteArray.empty, [])
def zAx : Ax := (0, false, ByteArray.empty)
theorem at_kDf {w : World} {A : Option Addr} {n : Nat} {xs : List Df} (h : Kd.C kDf w A n xs) (i : Int) (h0 : 0 ≤ i) (h1 : i < n) (p : Df) (hp : xs.getD i.toNat zDf = p) : ∃ ad A3 c3, A = some ad ∧ w.cell? (ad.add (i.toNat * 4)) = some (.int .i64 p.1) ∧ w.cell? ⟨(ad.add (i.toNat * 4)).block, (ad.add (i.toNat * 4)).off + 1, none⟩ = some (.bool p.2.1) ∧ w.cell? ⟨(ad.add (i.toNat * 4)).block, (ad.add (i.toNat * 4)).off + 2, none⟩ = some (.string p.2.2.1) ∧ w.cell? ⟨(ad.add (i.toNat * 4)).block, (ad.add (i.toNat * 4)).off + 3, none⟩ = some (.slice A3 p.2.2.2.length c3) ∧ p.2.2.2.length ≤ c3 ∧ Kd.string.C w A3 p.2.2.2.length p.2.2.2 := by
  obtain ⟨ad, c, e, _, hK, hc0⟩ := Kd.C_get h zDf i h0 h1
  have hc : ∀ j u, c[j]? = some u → w.cell? (ad.add (i.toNat * 4 + j)) = some u := hc0
  rw [hp] at hK
  obtain ⟨_, _, rfl, rfl, ⟨_, _, rfl, rfl, ⟨_, _, rfl, rfl, ⟨A3, c3, rfl, l3, g3⟩⟩⟩⟩ := hK
  exact ⟨ad, A3, c3, e, hc 0 _ rfl, by rw [← add_field _ _ 1 (by omega)]; exact hc 1 _ rfl, by rw [← add_field _ _ 2 (by omega)]; exact hc 2 _ rfl, by rw [← add_field _ _ 3 (by omega)]; exact hc 3 _ rfl, l3, g3⟩
theorem at_kNd {w : World} {A : Option Addr} {n : Nat} {xs : List Nd} (h : Kd.C kNd w A n xs) (i : Int) (h0 : 0 ≤ i) (h1 : i < n) (p : Nd) (hp : xs.getD i.toNat zNd = p) : ∃ ad A1 c1, A = some ad ∧ w.cell? (ad.add (i.toNat * 2)) = some (.string p.1) ∧ w.cell? ⟨(ad.add (i.toNat * 2)).block, (ad.add (i.toNat * 2)).off + 1, none⟩ = some (.slice A1 p.2.length c1) ∧ p.2.length ≤ c1 ∧ Kd.C kAx w A1 p.2.length p.2 := by
  obtain ⟨ad, c, e, _, hK, hc0⟩ := Kd.C_get h zNd i h0 h1
  have hc : ∀ j u, c[j]? = some u → w.cell? (ad.add (i.toNat * 2 + j)) = some u := hc0
  rw [hp] at hK
  obtain ⟨_, _, rfl, rfl, ⟨A1, c1, rfl, l1, g1⟩⟩ := hK
  exact ⟨ad, A1, c1, e, hc 0 _ rfl, by rw [← add_field _ _ 1 (by omega)]; exact hc 1 _ rfl, l1, g1⟩
theorem at_kAx {w : World} {A : Option Addr} {n : Nat} {xs : List Ax} (h : Kd.C kAx w A n xs) (i : Int) (h0 : 0 ≤ i) (h1 : i < n) (p : Ax) (hp : xs.getD i.toNat zAx = p) : ∃ ad, A = some ad ∧ w.cell? (ad.add (i.toNat * 3)) = some (.int .i64 p.1) ∧ w.cell? ⟨(ad.add (i.toNat * 3)).block, (ad.add (i.toNat * 3)).off + 1, none⟩ = some (.bool p.2.1) ∧ w.cell? ⟨(ad.add (i.toNat * 3)).block, (ad.add (i.toNat * 3)).off + 2, none⟩ = some (.string p.2.2) := by
  obtain ⟨ad, c, e, _, hK, hc0⟩ := Kd.C_get h zAx i h0 h1
  have hc : ∀ j u, c[j]? = some u → w.cell? (ad.add (i.toNat * 3 + j)) = some u := hc0
  rw [hp] at hK
  obtain ⟨_, _, rfl, rfl, ⟨_, _, rfl, rfl, rfl⟩⟩ := hK
  exact ⟨ad, e, hc 0 _ rfl, by rw [← add_field _ _ 1 (by omega)]; exact hc 1 _ rfl, by rw [← add_field _ _ 2 (by omega)]; exact hc 2 _ rfl⟩
set_option maxHeartbeats 16000000 in
set_option maxRecDepth 100000 in
theorem rsame_calls (w : World) (x : Vs) (A1 : Option Addr) (c1 : Nat) (A2 : Option Addr) (c2 : Nat) (A3 : Option Addr) (c3 : Nat) (B1 : Option Addr) (d1 : Nat) (B2 : Option Addr) (d2 : Nat) (B3 : Option Addr) (d3 : Nat)
    (h1 : Kd.C (Kd.int .i64) w A1 x.2.1.length x.2.1) (l1 : x.2.1.length ≤ c1) (h2 : Kd.C kDf w A2 x.2.2.1.length x.2.2.1) (l2 : x.2.2.1.length ≤ c2) (h3 : Kd.C kNd w A3 x.2.2.2.length x.2.2.2) (l3 : x.2.2.2.length ≤ c3)
    (g1 : Kd.C (Kd.int .i64) w B1 x.2.1.length x.2.1) (m1 : x.2.1.length ≤ d1) (g2 : Kd.C kDf w B2 x.2.2.1.length x.2.2.1) (m2 : x.2.2.1.length ≤ d2) (g3 : Kd.C kNd w B3 x.2.2.2.length x.2.2.2) (m3 : x.2.2.2.length ≤ d3)
    (n1 : x.2.1.length ≤ 1000000) (n2 : x.2.2.1.length ≤ 1000000) (n3 : x.2.2.2.length ≤ 1000000) (n4 : ∀ p ∈ x.2.2.1, p.2.2.2.length ≤ 1000000) (n5 : ∀ p ∈ x.2.2.2, p.2.length ≤ 1000000) :
    Calls Try.prog 20 #[.agg #[.bool x.1, .slice A1 x.2.1.length c1, .slice A2 x.2.2.1.length c2, .slice A3 x.2.2.2.length c3], .agg #[.bool x.1, .slice B1 x.2.1.length d1, .slice B2 x.2.2.1.length d2, .slice B3 x.2.2.2.length d3]] w fun e w' => e = .returned (.bool true) ∧ Below w.heap.size w w' := by
  refine calls_aside fun Post HP => ?_
  obtain ⟨has, of, ds, ns⟩ := x
  simp only at h1 l1 h2 l2 h3 l3 g1 m1 g2 m2 g3 m3 n1 n2 n3 n4 n5 ⊢
  have H1 := Aside0.mk (And.intro h1 (And.intro l1 (And.intro g1 (And.intro m1 n1))))
  have H2 := Aside0.mk (And.intro h2 (And.intro l2 (And.intro g2 (And.intro m2 n2))))
  have H3 := Aside0.mk (And.intro h3 (And.intro l3 (And.intro g3 (And.intro m3 n3))))
  have H4 := Aside0.mk n4
  have H5 := Aside0.mk n5
  clear h1 l1 h2 l2 h3 l3 g1 m1 g2 m2 g3 m3 n1 n2 n3 n4 n5
  have hu54 := Try.underlying54
  have hu63 := Try.underlying63
  have hu66 := Try.underlying66
  have hu68 := Try.underlying68
  have hu51 := Try.underlying51
  have hu52 := Try.underlying52
  have hu64 := Try.underlying64
  have hu37 := Try.underlying37
  have hu22 := Try.underlying22
  have q1 : (has != has) = false := bne_self_eq_false _
  have q2 : ((ds.length : Int) != (ds.length : Int)) = false := bne_self_eq_false _
  have q3 : ((ns.length : Int) != (ns.length : Int)) = false := bne_self_eq_false _
  go_enter Try.func20, Try.ntmps20
  go_upto_region 6 with (first
    | ((with_reducible refine gate_dst (N := 2) rfl ?_); refine box_event ?hg (N := 2) ?hd (cs := #[.bool has, .slice A1 of.length c1, .slice A2 ds.length c2, .slice A3 ns.length c3]) (t := 54) ?hr ?_; (case hd => rfl); (case hg => rfl); (case hr => first | (go_simp; done) | (go_simp; rfl)); intro b2 eg w1 hb hw; have E2 := Aside0.mk hb; have Q1 := Aside0.mk hw; clear eg hb hw)
    | ((with_reducible refine gate_dst (N := 3) rfl ?_); refine box_event ?hg (N := 3) ?hd (cs := #[.bool has, .slice B1 of.length d1, .slice B2 ds.length d2, .slice B3 ns.length d3]) (t := 54) ?hr ?_; (case hd => rfl); (case hg => rfl); (case hr => first | (go_simp; done) | (go_simp; rfl)); intro b3 eg w2 hb hw; have F2 := Aside0.mk ((hw.block _ (lt_of_block E2.out)).trans E2.out); have F3 := Aside0.mk hb; have Q2 := Aside0.mk (below_step Q1.out hw); have r20 : w2.cell? ⟨b2, 0, none⟩ = some (.bool has) := (cell_of_row w2 b2 0 _ _ _ F2.out).trans rfl; have r21 : w2.cell? ⟨b2, 1, none⟩ = some (.slice A1 of.length c1) := (cell_of_row w2 b2 1 _ _ _ F2.out).trans rfl; have r22 : w2.cell? ⟨b2, 2, none⟩ = some (.slice A2 ds.length c2) := (cell_of_row w2 b2 2 _ _ _ F2.out).trans rfl; have r23 : w2.cell? ⟨b2, 3, none⟩ = some (.slice A3 ns.length c3) := (cell_of_row w2 b2 3 _ _ _ F2.out).trans rfl; have r30 : w2.cell? ⟨b3, 0, none⟩ = some (.bool has) := (cell_of_row w2 b3 0 _ _ _ F3.out).trans rfl; have r31 : w2.cell? ⟨b3, 1, none⟩ = some (.slice B1 of.length d1) := (cell_of_row w2 b3 1 _ _ _ F3.out).trans rfl; have r32 : w2.cell? ⟨b3, 2, none⟩ = some (.slice B2 ds.length d2) := (cell_of_row w2 b3 2 _ _ _ F3.out).trans rfl; have r33 : w2.cell? ⟨b3, 3, none⟩ = some (.slice B3 ns.length d3) := (cell_of_row w2 b3 3 _ _ _ F3.out).trans rfl; clear eg hb hw E2 Q1)
    | (go_at_call 14; (with_reducible refine (same7_calls A1 c1 of B1 d1 w2 (Kd.C_below H1.out.1 Q2.out) H1.out.2.1 (Kd.C_below H1.out.2.2.1 Q2.out) H1.out.2.2.2.1 (by have := H1.out.2.2.2.2; omega)).mono ?_); rintro e w3 ⟨rfl, hd⟩; have hw := below_drawn hd; have G2 := Aside0.mk ((hw.block _ (lt_of_block F2.out)).trans F2.out); have G3 := Aside0.mk ((hw.block _ (lt_of_block F3.out)).trans F3.out); have Q3 := Aside0.mk (below_step Q2.out hw); clear hd hw r20 r21 r22 r23 r30 r31 r32 r33))
  go_wp2
  go_loopg [6] ds.length (fun kq v6 w' => ∃ i : Int, v6 = .int .i64 i ∧ Aside0 (0 ≤ i ∧ i ≤ ds.length ∧ kq = ds.length - i.toNat) ∧ Aside0 (Below w3.heap.size w3 w'))
  case atStart => exact ⟨0, rfl, ⟨by omega⟩, ⟨Below.refl _ _⟩⟩
  case round =>
    obtain ⟨i, rfl, HI, HW⟩ := hrel
    have S2 := Aside0.mk ((HW.out.block _ (lt_of_block G2.out)).trans G2.out)
    have S3 := Aside0.mk ((HW.out.block _ (lt_of_block G3.out)).trans G3.out)
    have r22 : wr.cell? ⟨b2, 2, none⟩ = some (.slice A2 ds.length c2) := (cell_of_row wr b2 2 _ _ _ S2.out).trans rfl
    have HV := Aside0.mk (show wrap64 (i + 1) = i + 1 from VersSpec.w64 _ (by have := HI.out; omega) (by have := HI.out; have := H2.out.2.2.2.2; omega))
    by_cases c4 : i < (ds.length : Int)
    · have c4b0 : decide (i < (ds.length : Int)) = true := decide_eq_true c4
      obtain ⟨p, hp⟩ : ∃ p, ds.getD i.toNat zDf = p := ⟨_, rfl⟩
      have hp0 := HI.out.1
      have hp0b : decide (0 ≤ i) = true := decide_eq_true hp0
      have hpm : p ∈ ds := by rw [← hp, List.getD_eq_getElem?_getD, List.getElem?_eq_getElem (show i.toNat < ds.length by omega)]; exact List.getElem_mem _
      have HPL := Aside0.mk (H4.out p hpm)
      obtain ⟨adA, A4, k4, eA, x0, x1, x2, x3, lx, gx⟩ := at_kDf (Kd.C_below H2.out.1 (below_step Q3.out HW.out)) i hp0 c4 p hp
      obtain ⟨adB, B4, j4, eB, y0, y1, y2, y3, ly, gy⟩ := at_kDf (Kd.C_below H2.out.2.2.1 (below_step Q3.out HW.out)) i hp0 c4 p hp
      subst eA
      subst eB
      have HGX := Aside0.mk (And.intro lx gx)
      have HGY := Aside0.mk (And.intro ly gy)
      have Y := Aside0.mk (And.intro y0 (And.intro y1 (And.intro y2 y3)))
      have HC4 := Aside0.mk c4
      have z1 : (p.1 != p.1) = false := bne_self_eq_false _
      have z2 : (p.2.1 != p.2.1) = false := bne_self_eq_false _
      clear hp hpm lx gx ly gy y0 y1 y2 y3
      replace hp0 := eq_true hp0
      replace c4 := eq_true c4
      go_wp2_with (first
        | ((with_reducible refine gate_dst (N := 7) rfl ?_); refine box_event ?hg (N := 7) ?hd (cs := #[.int .i64 0, .bool false, .string ⟨#[]⟩, .slice none 0 0]) (t := 63) ?hr ?_; (case hd => rfl); (case hg => rfl); (case hr => first | (go_simp; done) | (go_simp; rfl)); intro b7 eg w4 hb hw; have E7 := Aside0.mk hb; have P4 := Aside0.mk hw; have L7 := Aside0.mk (show wr.heap.size ≤ b7 by rw [eg]; exact Nat.le_refl _); clear eg hb hw)
        | ((with_reducible refine gate_store (t := 63) (p := 7) rfl ?_); refine store_row_ev rfl rfl 63 (.tmp 7) (.tmp 55) rfl b7 #[.int .i64 p.1, .bool p.2.1, .string p.2.2.1, .slice A4 p.2.2.2.length k4] rfl rfl 63 _ E7.out (by kernel_rfl) rfl (by kernel_rfl) ?_; intro w5 hb hf hk_; have D7 := Aside0.mk hb; have hw := (hf _ _ P4.out L7.out); have P5 := Aside0.mk hw; have y0 := cell_up hw Y.out.1; have y1 := cell_up hw Y.out.2.1; have y2 := cell_up hw Y.out.2.2.1; have y3 := cell_up hw Y.out.2.2.2; have r32 : w5.cell? ⟨b3, 2, none⟩ = some (.slice (some adB) ds.length d2) := (cell_of_row w5 b3 2 _ _ _ ((hw.block _ (lt_of_block S3.out)).trans S3.out)).trans rfl; clear hb hf hk_ hw r22 x0 x1 x2 x3)
        | ((with_reducible refine gate_dst (N := 8) rfl ?_); refine box_event ?hg (N := 8) ?hd (cs := #[.int .i64 0, .bool false, .string ⟨#[]⟩, .slice none 0 0]) (t := 63) ?hr ?_; (case hd => rfl); (case hg => rfl); (case hr => first | (go_simp; done) | (go_simp; rfl)); intro b8 eg w6 hb hw; have E8 := Aside0.mk hb; have P6 := Aside0.mk (below_step P5.out hw); have L8 := Aside0.mk (show w5.heap.size ≤ b8 by rw [eg]; exact Nat.le_refl _); have d7 := Aside0.mk ((hw.block _ (lt_of_block D7.out)).trans D7.out); have l7 := Aside0.mk (lt_of_block D7.out); clear eg hb hw)
        | ((with_reducible refine gate_store (t := 63) (p := 8) rfl ?_); refine store_row_ev rfl rfl 63 (.tmp 8) (.tmp 60) rfl b8 #[.int .i64 p.1, .bool p.2.1, .string p.2.2.1, .slice B4 p.2.2.2.length j4] rfl rfl 63 _ E8.out (by kernel_rfl) rfl (by kernel_rfl) ?_; intro w7 hb hf hk_; have D8 := Aside0.mk hb; have P7 := Aside0.mk (hf _ _ P6.out (Nat.le_trans P5.out.size L8.out)); have hd7 := (hk_ b7 (by have := l7.out; have := L8.out; omega)).trans d7.out; have D7_ := Aside0.mk hd7; have u3 : w7.cell? ⟨b7, 3, none⟩ = some (.slice A4 p.2.2.2.length k4) := (cell_of_row w7 b7 3 _ _ _ hd7).trans rfl; have t3 : w7.cell? ⟨b8, 3, none⟩ = some (.slice B4 p.2.2.2.length j4) := (cell_of_row w7 b8 3 _ _ _ hb).trans rfl; clear hb hf hk_ hd7 r32 y0 y1 y2 y3)
        | (go_at_call 46; (with_reducible refine (texts_calls A4 k4 p.2.2.2 B4 j4 w7 (Kd.C_below HGX.out.2 P7.out) HGX.out.1 (Kd.C_below HGY.out.2 P7.out) HGY.out.1 (by have := HPL.out; omega)).mono ?_); rintro e w8 ⟨rfl, hd⟩; have hw := below_drawn hd; have h7 := (hw.block _ (lt_of_block D7_.out)).trans D7_.out; have h8 := (hw.block _ (lt_of_block D8.out)).trans D8.out; have P8 := Aside0.mk (below_step P7.out hw); have u0 : w8.cell? ⟨b7, 0, none⟩ = some (.int .i64 p.1) := (cell_of_row w8 b7 0 _ _ _ h7).trans rfl; have u1 : w8.cell? ⟨b7, 1, none⟩ = some (.bool p.2.1) := (cell_of_row w8 b7 1 _ _ _ h7).trans rfl; have u2 : w8.cell? ⟨b7, 2, none⟩ = some (.string p.2.2.1) := (cell_of_row w8 b7 2 _ _ _ h7).trans rfl; have t0 : w8.cell? ⟨b8, 0, none⟩ = some (.int .i64 p.1) := (cell_of_row w8 b8 0 _ _ _ h8).trans rfl; have t1 : w8.cell? ⟨b8, 1, none⟩ = some (.bool p.2.1) := (cell_of_row w8 b8 1 _ _ _ h8).trans rfl; have t2 : w8.cell? ⟨b8, 2, none⟩ = some (.string p.2.2.1) := (cell_of_row w8 b8 2 _ _ _ h8).trans rfl; clear hd hw h7 h8 u3 t3))
      go_roundg (ds.length - (i + 1).toNat)
      case measure => have := HI.out; have := HC4.out; omega
      case rel => exact ⟨i + 1, by rw [HV.out], ⟨by have := HI.out; have := HC4.out; omega⟩, ⟨below_step HW.out P8.out⟩⟩
    · have c4b0 : decide (i < (ds.length : Int)) = false := decide_eq_false c4
      clear c4
      go_wp2
      clear r22 S2 S3
      go_loopg [10] ns.length (fun kq v10 w' => ∃ i2 : Int, v10 = .int .i64 i2 ∧ Aside0 (0 ≤ i2 ∧ i2 ≤ ns.length ∧ kq = ns.length - i2.toNat) ∧ Aside0 (Below w3.heap.size w3 w'))
      case atStart => exact ⟨0, rfl, ⟨by omega⟩, ⟨HW.out⟩⟩
      case round =>
        obtain ⟨i2, rfl, HI2, HW2⟩ := hrel
        have S2 := Aside0.mk ((HW2.out.block _ (lt_of_block G2.out)).trans G2.out)
        have S3 := Aside0.mk ((HW2.out.block _ (lt_of_block G3.out)).trans G3.out)
        have r23 : wr.cell? ⟨b2, 3, none⟩ = some (.slice A3 ns.length c3) := (cell_of_row wr b2 3 _ _ _ S2.out).trans rfl
        have HV2 := Aside0.mk (show wrap64 (i2 + 1) = i2 + 1 from VersSpec.w64 _ (by have := HI2.out; omega) (by have := HI2.out; have := H3.out.2.2.2.2; omega))
        by_cases c5 : i2 < (ns.length : Int)
        · have c5b0 : decide (i2 < (ns.length : Int)) = true := decide_eq_true c5
          obtain ⟨p, hp⟩ : ∃ p, ns.getD i2.toNat zNd = p := ⟨_, rfl⟩
          have hp0 := HI2.out.1
          have hp0b : decide (0 ≤ i2) = true := decide_eq_true hp0
          have hpm : p ∈ ns := by rw [← hp, List.getD_eq_getElem?_getD, List.getElem?_eq_getElem (show i2.toNat < ns.length by omega)]; exact List.getElem_mem _
          have HPL := Aside0.mk (H5.out p hpm)
          obtain ⟨adA, A4, k4, eA, x0, x1, lx, gx⟩ := at_kNd (Kd.C_below H3.out.1 (below_step Q3.out HW2.out)) i2 hp0 c5 p hp
          obtain ⟨adB, B4, j4, eB, y0, y1, ly, gy⟩ := at_kNd (Kd.C_below H3.out.2.2.1 (below_step Q3.out HW2.out)) i2 hp0 c5 p hp
          subst eA
          subst eB
          have HGX := Aside0.mk (And.intro lx gx)
          have HGY := Aside0.mk (And.intro ly gy)
          have Y := Aside0.mk (And.intro y0 y1)
          have HC5 := Aside0.mk c5
          have z2 : ((p.2.length : Int) != (p.2.length : Int)) = false := bne_self_eq_false _
          clear hp hpm lx gx ly gy y0 y1
          replace hp0 := eq_true hp0
          replace c5 := eq_true c5
          go_upto_region 21 with (first
            | ((with_reducible refine gate_dst (N := 11) rfl ?_); refine box_event ?hg (N := 11) ?hd (cs := #[.string ⟨#[]⟩, .slice none 0 0]) (t := 66) ?hr ?_; (case hd => rfl); (case hg => rfl); (case hr => first | (go_simp; done) | (go_simp; rfl)); intro b7 eg w4 hb hw; have E7 := Aside0.mk hb; have P4 := Aside0.mk hw; have L7 := Aside0.mk (show wr.heap.size ≤ b7 by rw [eg]; exact Nat.le_refl _); clear eg hb hw)
            | ((with_reducible refine gate_store (t := 66) (p := 11) rfl ?_); refine store_row_ev rfl rfl 66 (.tmp 11) (.tmp 100) rfl b7 #[.string p.1, .slice A4 p.2.length k4] rfl rfl 66 _ E7.out (by kernel_rfl) rfl (by kernel_rfl) ?_; intro w5 hb hf hk_; have D7 := Aside0.mk hb; have hw := (hf _ _ P4.out L7.out); have P5 := Aside0.mk hw; have y0 := cell_up hw Y.out.1; have y1 := cell_up hw Y.out.2; have r33 : w5.cell? ⟨b3, 3, none⟩ = some (.slice (some adB) ns.length d3) := (cell_of_row w5 b3 3 _ _ _ ((hw.block _ (lt_of_block S3.out)).trans S3.out)).trans rfl; clear hb hf hk_ hw r23 x0 x1)
            | ((with_reducible refine gate_dst (N := 12) rfl ?_); refine box_event ?hg (N := 12) ?hd (cs := #[.string ⟨#[]⟩, .slice none 0 0]) (t := 66) ?hr ?_; (case hd => rfl); (case hg => rfl); (case hr => first | (go_simp; done) | (go_simp; rfl)); intro b8 eg w6 hb hw; have E8 := Aside0.mk hb; have P6 := Aside0.mk (below_step P5.out hw); have L8 := Aside0.mk (show w5.heap.size ≤ b8 by rw [eg]; exact Nat.le_refl _); have d7 := Aside0.mk ((hw.block _ (lt_of_block D7.out)).trans D7.out); have l7 := Aside0.mk (lt_of_block D7.out); clear eg hb hw)
            | ((with_reducible refine gate_store (t := 66) (p := 12) rfl ?_); refine store_row_ev rfl rfl 66 (.tmp 12) (.tmp 105) rfl b8 #[.string p.1, .slice B4 p.2.length j4] rfl rfl 66 _ E8.out (by kernel_rfl) rfl (by kernel_rfl) ?_; intro w7 hb hf hk_; have D8 := Aside0.mk hb; have P7 := Aside0.mk (hf _ _ P6.out (Nat.le_trans P5.out.size L8.out)); have hd7 := (hk_ b7 (by have := l7.out; have := L8.out; omega)).trans d7.out; have D7_ := Aside0.mk hd7; have u0 : w7.cell? ⟨b7, 0, none⟩ = some (.string p.1) := (cell_of_row w7 b7 0 _ _ _ hd7).trans rfl; have u1 : w7.cell? ⟨b7, 1, none⟩ = some (.slice A4 p.2.length k4) := (cell_of_row w7 b7 1 _ _ _ hd7).trans rfl; have t0 : w7.cell? ⟨b8, 0, none⟩ = some (.string p.1) := (cell_of_row w7 b8 0 _ _ _ hb).trans rfl; have t1 : w7.cell? ⟨b8, 1, none⟩ = some (.slice B4 p.2.length j4) := (cell_of_row w7 b8 1 _ _ _ hb).trans rfl; clear hb hf hk_ hd7 r33 y0 y1))
          clear u0 u1 t0 t1
          go_wp2
          go_loopg [13] p.2.length (fun kq v13 w' => ∃ j : Int, v13 = .int .i64 j ∧ Aside0 (0 ≤ j ∧ j ≤ p.2.length ∧ kq = p.2.length - j.toNat) ∧ Aside0 (Below w7.heap.size w7 w'))
          case atStart => exact ⟨0, rfl, ⟨by omega⟩, ⟨Below.refl _ _⟩⟩
          case round =>
            obtain ⟨j, rfl, HJ, HWJ⟩ := hrel
            have u1 : wr.cell? ⟨b7, 1, none⟩ = some (.slice A4 p.2.length k4) := (cell_of_row wr b7 1 _ _ _ ((HWJ.out.block _ (lt_of_block D7_.out)).trans D7_.out)).trans rfl
            have t1 : wr.cell? ⟨b8, 1, none⟩ = some (.slice B4 p.2.length j4) := (cell_of_row wr b8 1 _ _ _ ((HWJ.out.block _ (lt_of_block D8.out)).trans D8.out)).trans rfl
            have HVJ := Aside0.mk (show wrap64 (j + 1) = j + 1 from VersSpec.w64 _ (by have := HJ.out; omega) (by have := HJ.out; have := HPL.out; omega))
            by_cases c6 : j < (p.2.length : Int)
            · have c6b0 : decide (j < (p.2.length : Int)) = true := decide_eq_true c6
              obtain ⟨q, hq⟩ : ∃ q, p.2.getD j.toNat zAx = q := ⟨_, rfl⟩
              have hj0 := HJ.out.1
              have hj0b : decide (0 ≤ j) = true := decide_eq_true hj0
              obtain ⟨adC, eC, v0, v1, v2⟩ := at_kAx (Kd.C_below HGX.out.2 (below_step P7.out HWJ.out)) j hj0 c6 q hq
              obtain ⟨adD, eD, s0, s1, s2⟩ := at_kAx (Kd.C_below HGY.out.2 (below_step P7.out HWJ.out)) j hj0 c6 q hq
              subst eC
              subst eD
              have HC6 := Aside0.mk c6
              clear hq
              replace hj0 := eq_true hj0
              replace c6 := eq_true c6
              go_wp2
              go_quiet (fail)
              go_wp2
              go_roundg (p.2.length - (j + 1).toNat)
              case measure => have := HJ.out; have := HC6.out; omega
              case rel => exact ⟨j + 1, by rw [HVJ.out], ⟨by have := HJ.out; have := HC6.out; omega⟩, ⟨pw_below_drewN HWJ.out nq⟩⟩
            · have c6b0 : decide (j < (p.2.length : Int)) = false := decide_eq_false c6
              clear c6
              go_wp2
              go_roundg (ns.length - (i2 + 1).toNat)
              case measure => have := HI2.out; have := HC5.out; omega
              case rel => exact ⟨i2 + 1, by rw [HV2.out], ⟨by have := HI2.out; have := HC5.out; omega⟩, ⟨below_step HW2.out (below_step P7.out HWJ.out)⟩⟩
        · have c5b0 : decide (i2 < (ns.length : Int)) = false := decide_eq_false c5
          clear c5
          go_wp2
          exact HP.out _ _ ⟨rfl, below_step Q3.out HW2.out⟩
end Go.Proofs.Ythopdoamajjojaa.VersR
