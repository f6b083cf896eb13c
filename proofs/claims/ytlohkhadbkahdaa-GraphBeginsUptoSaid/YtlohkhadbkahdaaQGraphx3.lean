-- Laid by wip/hook.py (this session's own program) out of the translation; with contracts that were written by hand.
import Derived.Test.YtlohkhadbkahdaaQGraphx0
import Derived.Test.YtlohkhadbkahdaaQGraphx1
import Derived.Test.YtlohkhadbkahdaaQGraphx2
namespace Go.Proofs.Ytlohkhadbkahdaa.QGraph
open Go.RowKit Go.Proofs.YtlohkhadbkahdaaW.PrintWords Go.Proofs.YtlohkhadbkahdaaW.PrintLast Go.Proofs.YtlohkhadbkahdaaW.PrintMore
attribute [local go_sem] max2_int min2_int max_two min_two max_three min_three max_four min_four   -- for this text's walks alone
set_option linter.unusedVariables false
set_option linter.unusedSimpArgs false

/-! ### graph_Live: function 29 -/
mutual
def graph_Live.l0 : Nat → List (List Int) → List Int → List Int → Int → Int → Option (List Bool)
 | 0, _, _, _, _, _ => none
 | k + 1, x0, x1, x5, x11, x12 => if x12 < x11 then (if x12 < (x1.length : Int) then (if 0 ≤ x12 then (if (rd x1 x12) > 0 then (if x5.length < 17592186044416 then (graph_Live.l0 k x0 x1 (x5 ++ [x12]) x11 (wrap64 (x12 + 1))) else (none)) else (graph_Live.l0 k x0 x1 x5 x11 (wrap64 (x12 + 1)))) else (none)) else (graph_Live.l0 k x0 x1 x5 x11 (wrap64 (x12 + 1)))) else (if 0 ≤ (x0.length : Int) then (if ((x0.length : Int) : Int).toNat ≤ 281474976710656 then ((graph_Scope.f x0 x5).bind fun t136 => (graph_Live.l1 k (List.replicate ((x0.length : Int) : Int).toNat false) t136 (t136.length : Int) 0)) else (none)) else (none))
def graph_Live.l1 : Nat → List Bool → List Int → Int → Int → Option (List Bool)
 | 0, _, _, _, _ => none
 | k + 1, x7, x36, x37, x38 => if x38 < x37 then (if 0 ≤ x38 then (if x38 < (x36.length : Int) then (if 0 ≤ (rd x36 x38) then (if (rd x36 x38) < (x7.length : Int) then (graph_Live.l1 k (x7.set ((rd x36 x38) : Int).toNat true) x36 x37 (wrap64 (x38 + 1))) else (none)) else (none)) else (none)) else (none)) else (some x7)
end
def graph_Live.f (k : Nat) (l0 : List (List Int)) (l1 : List Int) : Option (List Bool) := graph_Live.l0 k l0 l1 ([] : List Int) (l0.length : Int) 0
theorem graph_Live.mono_l : ∀ k, (∀ y0 y1 y2 y3 y4, LeO (graph_Live.l0 k y0 y1 y2 y3 y4) (graph_Live.l0 (k + 1) y0 y1 y2 y3 y4)) ∧ (∀ y0 y1 y2 y3, LeO (graph_Live.l1 k y0 y1 y2 y3) (graph_Live.l1 (k + 1) y0 y1 y2 y3))
 | 0 => ⟨fun _ _ _ _ _ r h => by simp [graph_Live.l0] at h, fun _ _ _ _ r h => by simp [graph_Live.l1] at h⟩
 | k + 1 => by
  obtain ⟨ih0, ih1⟩ := graph_Live.mono_l k
  refine ⟨?_, ?_⟩
  ·intro y0 y1 y2 y3 y4
   unfold graph_Live.l0
   repeat' first
   | (with_reducible exact ih0 _ _ _ _ _)
   | (with_reducible exact ih1 _ _ _ _)
   | (with_reducible exact LeO.refl _)
   | (with_reducible exact LeO.none _)
   | (with_reducible refine LeO.ite ?_ ?_)
   | (with_reducible refine LeO.bind ?_ (fun _ => ?_))
   | exact ih0 _ _ _ _ _
   | exact ih1 _ _ _ _
   | exact LeO.none _
   | refine LeO.ite ?_ ?_
   | refine LeO.bind ?_ (fun _ => ?_)
  ·intro y0 y1 y2 y3
   unfold graph_Live.l1
   repeat' first
   | (with_reducible exact ih0 _ _ _ _ _)
   | (with_reducible exact ih1 _ _ _ _)
   | (with_reducible exact LeO.refl _)
   | (with_reducible exact LeO.none _)
   | (with_reducible refine LeO.ite ?_ ?_)
   | (with_reducible refine LeO.bind ?_ (fun _ => ?_))
   | exact ih0 _ _ _ _ _
   | exact ih1 _ _ _ _
   | exact LeO.none _
   | refine LeO.ite ?_ ?_
   | refine LeO.bind ?_ (fun _ => ?_)
theorem graph_Live.mono : ∀ a0 a1 k, LeO (graph_Live.f k a0 a1) (graph_Live.f (k + 1) a0 a1) := by
 intro a0 a1 k
 obtain ⟨ih0, ih1⟩ := graph_Live.mono_l k
 unfold graph_Live.f
 repeat' first
   | (with_reducible exact ih0 _ _ _ _ _)
   | (with_reducible exact ih1 _ _ _ _)
   | (with_reducible exact LeO.refl _)
   | (with_reducible exact LeO.none _)
   | (with_reducible refine LeO.ite ?_ ?_)
   | (with_reducible refine LeO.bind ?_ (fun _ => ?_))
   | exact ih0 _ _ _ _ _
   | exact ih1 _ _ _ _
   | exact LeO.none _
   | refine LeO.ite ?_ ?_
   | refine LeO.bind ?_ (fun _ => ?_)
set_option maxHeartbeats 8000000 in
set_option maxRecDepth 100000 in
theorem graph_Live.calls (k : Nat) (A0 : Option Addr) (c0 : Nat) (l0 : List (List Int)) (A1 : Option Addr) (c1 : Nat) (l1 : List Int) (r : List Bool) (w : World) (hr0 : Kd.C (Kd.slice 3 (Kd.int .i64)) w A0 l0.length l0) (hc0 : l0.length ≤ c0) (hr1 : Kd.C (Kd.int .i64) w A1 l1.length l1) (hc1 : l1.length ≤ c1) (h : graph_Live.f k l0 l1 = some r) :
  Calls Try.prog 29 #[.slice A0 l0.length c0, .slice A1 l1.length c1] w fun e w' => ∃ v0_ : Value, e = .returned (v0_) ∧ Kd.R Kd.bool 4 w' w.heap.size (fun _ => True) v0_ r ∧ Below w.heap.size w w' := by
 have HR0 := Aside0.mk hr0
 have HC0 := Aside0.mk hc0
 clear hr0 hc0
 have HR1 := Aside0.mk hr1
 have HC1 := Aside0.mk hc1
 clear hr1 hc1
 have HB := Aside0.mk (Below.refl w.heap.size w)
 have H : (graph_Live.l0 k l0 l1 ([] : List Int) (l0.length : Int) 0) = some r := h
 clear h
 have H' := Aside0.mk H
 clear H
 go_enter Try.func29, Try.ntmps29
 go_wp2
 go_loopg [5, 12] k (fun kq v5 v12 w' => ∃ (x5_1 : List Int) (x12_1 : Int), v12 = .int .i64 x12_1 ∧ Aside0 (graph_Live.l0 kq l0 l1 x5_1 (l0.length : Int) x12_1 = some r) ∧ Aside0 (kq ≤ k) ∧ Aside0 (Kd.R (Kd.int .i64) 3 w' w.heap.size (fun _ => True) v5 x5_1) ∧ Aside0 (Below w.heap.size w w'))
 case atStart => exact ⟨(([] : List Int)), (0), (by first | rfl | (simp; done) | (simp [*]; done)), H', ⟨Nat.le_refl _⟩, ⟨by first | exact Kd.R_nil _ _ _ _ _ | exact Kd.N_nil _ _ _ _ _ | exact Kd.V_nil _ _ _ _ _ | exact Kd.Q_nil _ _ _ _ _ | exact Kd.S_nil _ _ _ _ _⟩, ⟨by repeat (first | (with_reducible first | exact HB.out | apply below_alloc | apply pw_below_drewN | apply below_drew1) | exact HB.out)⟩⟩
 case round =>
  clear H'
  try clear c1
  try clear c2
  try clear p2
  obtain ⟨x5_1, x12_1, rfl, HA, HK1, HO_5, HB⟩ := hrel
  cases gk with
  | zero => exact absurd HA.out (by simp [graph_Live.l0])
  | succ k1 =>
   have H := HA.out
   clear HA
   simp only [graph_Live.l0] at H
   by_cases c3 : x12_1 < (l0.length : Int)
   ·rw [if_pos c3] at H
    have c3b0 : decide (x12_1 < (l0.length : Int)) = true := decide_eq_true c3
    clear c3
    by_cases c4 : x12_1 < (l1.length : Int)
    ·rw [if_pos c4] at H
     have c4b0 : decide (x12_1 < (l1.length : Int)) = true := decide_eq_true c4
     clear c4
     by_cases c5 : 0 ≤ x12_1
     ·rw [if_pos c5] at H
      have c5b0 : decide (0 ≤ x12_1) = true := decide_eq_true c5
      clear c5
      by_cases c6 : (rd l1 x12_1) > 0
      ·rw [if_pos c6] at H
       have c6b0 : decide (0 < (rd l1 x12_1)) = true := decide_eq_true c6
       clear c6
       by_cases c7 : x5_1.length < 17592186044416
       ·rw [if_pos c7] at H
        have LMc7 := Aside0.mk c7
        clear c7
        obtain ⟨y130, hy130⟩ : ∃ y_ : List Int, y_ = (x5_1 ++ [x12_1]) := ⟨_, rfl⟩
        replace H : (graph_Live.l0 k1 l0 l1 y130 (l0.length : Int) (wrap64 (x12_1 + 1))) = some r := by first | (rw [hy130]; with_reducible exact H) | (have H2_ := (Option.bind_some _ _).symm.trans H; rw [hy130]; with_reducible exact H2_) | (have H2_ := (Option.bind_some _ _).symm.trans H; with_reducible exact H2_) | with_reducible exact H | (rw [hy130]; exact H) | exact H
        have Ny130 := Aside0.mk hy130
        clear hy130
        have H' := Aside0.mk H
        clear H
        have p129 : 0 ≤ (x12_1 : Int) := of_decide_eq_true (by assumption)
        have q129 : x12_1 < (l1.length : Int) := of_decide_eq_true (by assumption)
        obtain ⟨ad129, e129, hx129_0⟩ := Kd.at_int HR1.out x12_1 p129 q129
        cases e129
        replace hx129_0 := (HB.out.cell (World.block_lt_of_cell? w _ hx129_0)).trans hx129_0
        replace p129 := eq_true p129
        replace q129 := eq_true q129
        go_wp2_with (first | ((with_reducible refine gate_builtin (b := .append) (xs := #[.tmp 26, .tmp 28]) rfl ?_); at_builtin; refine Kd.R_append (Kd.int .i64) (w0 := w) w.heap.size rfl (.tmp 26) (.tmp 28) 42 3 (.int .i64 0) 8 rfl Try.underlying42 info3 rfl (by decide) (by omega) u5 x5_1 x12_1 [.int .i64 x12_1] (fun _ => True) (fun _ => False) rfl rfl ?aP (fun _ hk => hk.elim) ?aF ?aO ?aB ?aS ?aL ?_; (case aP => exact rfl); (case aB => exact (by repeat (first | (with_reducible first | exact HB.out | apply below_alloc | apply pw_below_drewN | apply below_drew1) | exact HB.out))); (case aF => exact (fun _ _ => trivial)); (case aO => exact (by (with_reducible repeat (first | apply Kd.R_alloc | apply Kd.R_drewN | apply Kd.R_drew)); exact HO_5.out)); (case aS => exact (below_size (by repeat (first | (with_reducible first | exact HB.out | apply below_alloc | apply pw_below_drewN | apply below_drew1) | exact HB.out)))); (case aL => have := LMc7.out; omega); intro v131 w8 ho hb hg hat; rw [← Ny130.out] at ho; have n0_ := Aside0.mk (hb); have n1_ := Aside0.mk (ho); clear HB; clear HO_5; have HB := n0_; have HO132 := n1_; clear n0_ n1_; clear ho hb hg hat))
        go_roundg k1
        case measure => have := HK1.out; omega
        case rel => exact ⟨(y130), (wrap64 (x12_1 + 1)), (by first | rfl | (simp; done) | (simp [*]; done)), H', ⟨by have := HK1.out; omega⟩, ⟨by (with_reducible repeat (first | apply Kd.R_alloc | apply Kd.R_drewN | apply Kd.R_drew)); exact HO132.out⟩, ⟨by repeat (first | (with_reducible first | exact HB.out | apply below_alloc | apply pw_below_drewN | apply below_drew1) | exact HB.out)⟩⟩
       ·rw [if_neg c7] at H
        exact absurd H (by simp)
      ·rw [if_neg c6] at H
       have c6b0 : decide (0 < (rd l1 x12_1)) = false := decide_eq_false c6
       clear c6
       have H' := Aside0.mk H
       clear H
       have p129 : 0 ≤ (x12_1 : Int) := of_decide_eq_true (by assumption)
       have q129 : x12_1 < (l1.length : Int) := of_decide_eq_true (by assumption)
       obtain ⟨ad129, e129, hx129_0⟩ := Kd.at_int HR1.out x12_1 p129 q129
       cases e129
       replace hx129_0 := (HB.out.cell (World.block_lt_of_cell? w _ hx129_0)).trans hx129_0
       replace p129 := eq_true p129
       replace q129 := eq_true q129
       go_wp2
       go_roundg k1
       case measure => have := HK1.out; omega
       case rel => exact ⟨(x5_1), (wrap64 (x12_1 + 1)), (by first | rfl | (simp; done) | (simp [*]; done)), H', ⟨by have := HK1.out; omega⟩, ⟨by (with_reducible repeat (first | apply Kd.R_alloc | apply Kd.R_drewN | apply Kd.R_drew)); exact HO_5.out⟩, ⟨by repeat (first | (with_reducible first | exact HB.out | apply below_alloc | apply pw_below_drewN | apply below_drew1) | exact HB.out)⟩⟩
     ·rw [if_neg c5] at H
      exact absurd H (by simp)
    ·rw [if_neg c4] at H
     have c4b0 : decide (x12_1 < (l1.length : Int)) = false := decide_eq_false c4
     clear c4
     have H' := Aside0.mk H
     clear H
     go_wp2
     go_roundg k1
     case measure => have := HK1.out; omega
     case rel => exact ⟨(x5_1), (wrap64 (x12_1 + 1)), (by first | rfl | (simp; done) | (simp [*]; done)), H', ⟨by have := HK1.out; omega⟩, ⟨by (with_reducible repeat (first | apply Kd.R_alloc | apply Kd.R_drewN | apply Kd.R_drew)); exact HO_5.out⟩, ⟨by repeat (first | (with_reducible first | exact HB.out | apply below_alloc | apply pw_below_drewN | apply below_drew1) | exact HB.out)⟩⟩
   ·rw [if_neg c3] at H
    have c3b0 : decide (x12_1 < (l0.length : Int)) = false := decide_eq_false c3
    clear c3
    by_cases c9 : 0 ≤ (l0.length : Int)
    ·rw [if_pos c9] at H
     have c9b0 := eq_true c9
     have c9b1 : decide (0 ≤ (l0.length : Int)) = true := decide_eq_true c9
     clear c9
     by_cases c10 : ((l0.length : Int) : Int).toNat ≤ 281474976710656
     ·rw [if_pos c10] at H
      have c10b0 := eq_true c10
      have c10b1 : decide (((l0.length : Int) : Int).toNat ≤ 281474976710656) = true := decide_eq_true c10
      clear c10
      obtain ⟨y133, hy133⟩ : ∃ y_ : List Bool, y_ = (List.replicate ((l0.length : Int) : Int).toNat false) := ⟨_, rfl⟩
      replace H : ((graph_Scope.f l0 x5_1).bind fun t136 => (graph_Live.l1 k1 y133 t136 (t136.length : Int) 0)) = some r := by first | (rw [hy133]; with_reducible exact H) | (have H2_ := (Option.bind_some _ _).symm.trans H; rw [hy133]; with_reducible exact H2_) | (have H2_ := (Option.bind_some _ _).symm.trans H; with_reducible exact H2_) | with_reducible exact H | (rw [hy133]; exact H) | exact H
      have Ny133 := Aside0.mk hy133
      clear hy133
      replace H := Option.bind_eq_some_iff.mp H
      obtain ⟨t136, A110, H⟩ := H
      replace H : (graph_Live.l1 k1 y133 t136 (t136.length : Int) 0) = some r := H
      have A11 := Aside0.mk A110
      clear A110
      have H' := Aside0.mk H
      clear H
      go_wp2_with (first | ((with_reducible refine gate_dst (N := 33) rfl ?_); refine Kd.R_make Kd.bool _ 4 rfl (N := 33) rfl 47 _ _ rfl (l0.length : Int) rfl rfl Try.underlying47 (.bool false) 1 info4 rfl (by decide) (by omega) false (ok := fun _ => True) (okp := fun _ => True) rfl (fun _ hk => hk) trivial (of_decide_eq_true (by assumption)) (Nat.le_trans (Nat.mul_le_mul_right _ (of_decide_eq_true (by assumption) : (l0.length : Int).toNat ≤ 281474976710656)) (by omega)) (Below.refl _ _) (Nat.le_refl _) ?_; intro v134 w12 ho13 hb hg_ hnew_; clear hg_ hnew_; (first | rw [← Ny133.out] at ho13 | (simp only [Int.reduceToNat] at ho13; rw [← Ny133.out] at ho13)); have n0_ := Aside0.mk (Kd.R_below (by (with_reducible repeat (first | apply Kd.R_alloc | apply Kd.R_drewN | apply Kd.R_drew)); exact HO_5.out) hb); have n1_ := Aside0.mk (Kd.R_lower ho13 (below_size (by repeat (first | (with_reducible first | exact HB.out | apply below_alloc | apply pw_below_drewN | apply below_drew1) | exact HB.out)))); have n2_ := Aside0.mk (below_step (by repeat (first | (with_reducible first | exact HB.out | apply below_alloc | apply pw_below_drewN | apply below_drew1) | exact HB.out)) hb); clear HO_5; clear HB; have HO_5 := n0_; have HO135 := n1_; have HB := n2_; clear n0_ n1_ n2_; clear hb ho13; obtain ⟨Ao14, co14, eo14⟩ := Kd.R_slice HO_5.out; subst eo14) | ((with_reducible refine gate_callee (f := 25) rfl ?_); refine goesL_ (some 36) rfl rfl Try.func25 (by kernel_rfl) rfl #[.slice A0 l0.length c0, .slice Ao14 x5_1.length co14] rfl (by (try simp only [List.map_toArray, List.map_cons, List.map_nil]); first | done | rfl | (simp only [List.length_drop, List.length_take]; rfl)) ?_; (with_reducible refine (graph_Scope.calls _ _ l0 _ _ x5_1 t136 _ ?side1 ?side2 ?side3 ?side4 A11.out).mono ?_); (case side1 => repeat (first | exact (Kd.C_below HR0.out HB.out) | (with_reducible refine Kd.C_alloc ?_ _) | (with_reducible refine Kd.C_drewN ?_ _) | (with_reducible refine Kd.C_drew ?_))); (case side2 => exact HC0.out); (case side3 => repeat (first | exact (Kd.R_reads' HO_5.out).2.2 | (with_reducible refine Kd.C_alloc ?_ _) | (with_reducible refine Kd.C_drewN ?_ _) | (with_reducible refine Kd.C_drew ?_))); (case side4 => exact (Kd.R_reads' HO_5.out).2.1); rintro e w15 ⟨v137, rfl, ho0, hb⟩; refine ⟨_, rfl, ?_⟩; have n0_ := Aside0.mk (Kd.R_elder' (by (with_reducible repeat (first | apply Kd.R_alloc | apply Kd.R_drewN | apply Kd.R_drew)); exact HO_5.out) (Kd.R_base ho0) hb); have n1_ := Aside0.mk (Kd.R_below (by (with_reducible repeat (first | apply Kd.R_alloc | apply Kd.R_drewN | apply Kd.R_drew)); exact HO135.out) hb); have n2_ := Aside0.mk (Kd.R_lower (Kd.R_new' ho0 (Kd.R_lt (by (with_reducible repeat (first | apply Kd.R_alloc | apply Kd.R_drewN | apply Kd.R_drew)); exact HO_5.out))) (below_size (by repeat (first | (with_reducible first | exact HB.out | apply below_alloc | apply pw_below_drewN | apply below_drew1) | exact HB.out)))); have n3_ := Aside0.mk (below_step (by repeat (first | (with_reducible first | exact HB.out | apply below_alloc | apply pw_below_drewN | apply below_drew1) | exact HB.out)) hb); clear HO_5; clear HO135; clear HB; have HO_5 := n0_; have HO135 := n1_; have HO138 := n2_; have HB := n3_; clear n0_ n1_ n2_ n3_; (try clear hb); (try clear hb2); (try clear hk); (try clear hi); (try clear ho0); obtain ⟨Ao16, co16, eo16⟩ := Kd.R_slice HO138.out; subst eo16))
      go_loopg [38] k1 (fun kq v38 w' => ∃ (x7_2 : List Bool) (x38_2 : Int), v38 = .int .i64 x38_2 ∧ Aside0 (graph_Live.l1 kq x7_2 t136 (t136.length : Int) x38_2 = some r) ∧ Aside0 (kq ≤ k1) ∧ Aside0 (Kd.R Kd.bool 4 w' w.heap.size (fun _ => True) v134 x7_2) ∧ Aside0 (Kd.R (Kd.int .i64) 3 w' w.heap.size (fun _ => True) (.slice Ao16 t136.length co16) t136) ∧ Aside0 (Below w.heap.size w w'))
      case atStart => exact ⟨(y133), (0), (by first | rfl | (simp; done) | (simp [*]; done)), H', ⟨Nat.le_refl _⟩, ⟨by (with_reducible repeat (first | apply Kd.R_alloc | apply Kd.R_drewN | apply Kd.R_drew)); exact HO135.out⟩, ⟨by (with_reducible repeat (first | apply Kd.R_alloc | apply Kd.R_drewN | apply Kd.R_drew)); exact Kd.R_mono HO138.out (fun _ hk => trivial)⟩, ⟨by repeat (first | (with_reducible first | exact HB.out | apply below_alloc | apply pw_below_drewN | apply below_drew1) | exact HB.out)⟩⟩
      case round =>
       clear H'
       try clear c1
       try clear p1
       try clear q1
       try clear hx1
       try clear c2
       try clear p2
       try clear c3
       try clear c3b0
       try clear c4
       try clear c4b0
       try clear c5
       try clear c5b0
       try clear c6
       try clear c6b0
       try clear p6
       try clear c7
       try clear c9
       try clear c9b0
       try clear c9b1
       try clear c10
       try clear c10b0
       try clear c10b1
       try clear p12
       try clear q12
       try clear hx12
       try clear hx129_0
       try clear p129
       try clear p2
       try clear q129
       obtain ⟨x7_2, x38_2, rfl, HA, HK2, HO_7, HO_36, HB⟩ := hrel
       cases gk with
       | zero => exact absurd HA.out (by simp [graph_Live.l1])
       | succ k2 =>
        have H := HA.out
        clear HA
        simp only [graph_Live.l1] at H
        by_cases c17 : x38_2 < (t136.length : Int)
        ·rw [if_pos c17] at H
         have c17b0 : decide (x38_2 < (t136.length : Int)) = true := decide_eq_true c17
         clear c17
         by_cases c18 : 0 ≤ x38_2
         ·rw [if_pos c18] at H
          have c18b0 : decide (0 ≤ x38_2) = true := decide_eq_true c18
          clear c18
          by_cases c19 : x38_2 < (t136.length : Int)
          ·rw [if_pos c19] at H
           have c19b0 : decide (x38_2 < (t136.length : Int)) = true := decide_eq_true c19
           clear c19
           by_cases c20 : 0 ≤ (rd t136 x38_2)
           ·rw [if_pos c20] at H
            have c20b0 : decide (0 ≤ (rd t136 x38_2)) = true := decide_eq_true c20
            clear c20
            by_cases c21 : (rd t136 x38_2) < (x7_2.length : Int)
            ·rw [if_pos c21] at H
             have c21b0 : decide ((rd t136 x38_2) < (x7_2.length : Int)) = true := decide_eq_true c21
             clear c21
             obtain ⟨y140, hy140⟩ : ∃ y_ : List Bool, y_ = (x7_2.set ((rd t136 x38_2) : Int).toNat true) := ⟨_, rfl⟩
             replace H : (graph_Live.l1 k2 y140 t136 (t136.length : Int) (wrap64 (x38_2 + 1))) = some r := by first | (rw [hy140]; with_reducible exact H) | (have H2_ := (Option.bind_some _ _).symm.trans H; rw [hy140]; with_reducible exact H2_) | (have H2_ := (Option.bind_some _ _).symm.trans H; with_reducible exact H2_) | with_reducible exact H | (rw [hy140]; exact H) | exact H
             have Ny140 := Aside0.mk hy140
             clear hy140
             have H' := Aside0.mk H
             clear H
             have p139 : 0 ≤ (x38_2 : Int) := of_decide_eq_true (by assumption)
             have q139 : x38_2 < (t136.length : Int) := of_decide_eq_true (by assumption)
             obtain ⟨ad139, e139, hx139_0⟩ := Kd.at_int (Kd.R_reads' HO_36.out).2.2 x38_2 p139 q139
             cases e139
             replace p139 := eq_true p139
             replace q139 := eq_true q139
             have p22 : 0 ≤ ((rd t136 x38_2) : Int) := of_decide_eq_true (by assumption)
             have q22 : ((rd t136 x38_2) : Int) < ((x7_2.length : Int) : Int) := of_decide_eq_true (by assumption)
             obtain ⟨go22, co22, eo22, gb22, gl22, cl22, HG22⟩ := Kd.R_form HO_7.out (by omega)
             (first | cases eo22 | (injection eo22 with ea_ en_ ec_; (first | subst ea_ | (injection ea_ with ea_; subst ea_)); subst ec_; clear en_))
             have GB22 := Aside0.mk gb22
             have GG22 := Aside0.mk HG22
             clear gb22 gl22 HG22
             obtain ⟨hx22_0, hf22_0⟩ := Kd.R_celln false HO_7.out ((rd t136 x38_2) : Int) p22 q22
             replace p22 := eq_true p22
             replace q22 := eq_true q22
             have HP23 := Kd.R_putg HO_7.out ((rd t136 x38_2) : Int) true
             go_wp2_with (first | ((with_reducible refine gate_store (t := 4) (p := 44) rfl ?_); refine store_event (t := 4) (p := 44) (v := ?vo_w24) (w1 := (wr.setCell ⟨go22, ((rd t136 x38_2) : Int).toNat, none⟩ (.bool true))) ?hg ?ho ?hn ?hr ?_; (case ho => rfl); (case hg => rfl); (case hn => rfl); (case hr => first | (go_simp; done) | (go_simp; rfl)); intro w24 hw; have hg : wr.grownBy w24 (some go22) := (by rw [hw]; exact HP23.2); have hp_ : Kd.R Kd.bool 4 w24 w.heap.size (fun _ => True) (.slice (some ⟨go22, 0, none⟩) x7_2.length co22) y140 := (by rw [hw, Ny140.out]; exact HP23.1); clear HP23; have n0_ := Aside0.mk (hp_); have n1_ := Aside0.mk (Kd.R_over' (v := (.slice (some ⟨go22, 0, none⟩) x7_2.length co22)) (by (with_reducible repeat (first | apply Kd.R_alloc | apply Kd.R_drewN | apply Kd.R_drew)); exact HO_36.out) (Kd.R_typed HO_7.out) (by decide) hg); have n2_ := Aside0.mk ((by rw [hw]; exact below_set (HB.out) GB22.out : Below w.heap.size w w24)); clear HO_7; clear HO_36; clear HB; have HO_7 := n0_; have HO_36 := n1_; have HB := n2_; clear n0_ n1_ n2_; clear hg hw hp_))
             go_roundg k2
             case measure => have := HK1.out; have := HK2.out; omega
             case rel => exact ⟨(y140), (wrap64 (x38_2 + 1)), (by first | rfl | (simp; done) | (simp [*]; done)), H', ⟨by have := HK1.out; have := HK2.out; omega⟩, ⟨by (with_reducible repeat (first | apply Kd.R_alloc | apply Kd.R_drewN | apply Kd.R_drew)); exact HO_7.out⟩, ⟨by (with_reducible repeat (first | apply Kd.R_alloc | apply Kd.R_drewN | apply Kd.R_drew)); exact HO_36.out⟩, ⟨by repeat (first | (with_reducible first | exact HB.out | apply below_alloc | apply pw_below_drewN | apply below_drew1) | exact HB.out)⟩⟩
            ·rw [if_neg c21] at H
             exact absurd H (by simp)
           ·rw [if_neg c20] at H
            exact absurd H (by simp)
          ·rw [if_neg c19] at H
           exact absurd H (by simp)
         ·rw [if_neg c18] at H
          exact absurd H (by simp)
        ·rw [if_neg c17] at H
         have c17b0 : decide (x38_2 < (t136.length : Int)) = false := decide_eq_false c17
         clear c17
         obtain rfl := Option.some.inj H
         go_wp2
         go_ret
         exact ⟨_, by first | rfl | (simp [errW_none, errW_some] <;> rfl) | (simp [*, errW_none, errW_some] <;> rfl), by (with_reducible repeat (first | apply Kd.R_alloc | apply Kd.R_drewN | apply Kd.R_drew)); exact HO_7.out, by repeat (first | (with_reducible first | exact HB.out | apply below_alloc | apply pw_below_drewN | apply below_drew1) | exact HB.out)⟩
     ·rw [if_neg c10] at H
      exact absurd H (by simp)
    ·rw [if_neg c9] at H
     exact absurd H (by simp)

/-! ### graph_Loop: function 31 -/
mutual
def graph_Loop.l0 : Nat → List (List Int) → List Int → List Int → Int → Int → Option (Bool)
 | 0, _, _, _, _, _ => none
 | k + 1, x0, x3, x4, x16, x17 => if x17 < x16 then (if x4.length < 17592186044416 then (graph_Loop.l0 k x0 x3 (x4 ++ [x17]) x16 (wrap64 (x17 + 1))) else (none)) else ((graph_Begin.f k x0 x4).bind fun t147 => (graph_Loop.l1 k x0 x3 t147 (t147.length : Int) 0))
def graph_Loop.l1 : Nat → List (List Int) → List Int → List Int → Int → Int → Option (Bool)
 | 0, _, _, _, _, _ => none
 | k + 1, x0, x3, x27, x28, x29 => if x29 < x28 then (if 0 ≤ x29 then (if x29 < (x27.length : Int) then (if 0 ≤ (rd x27 x29) then (if (rd x27 x29) < (x3.length : Int) then (graph_Loop.l1 k x0 (x3.set ((rd x27 x29) : Int).toNat x29) x27 x28 (wrap64 (x29 + 1))) else (none)) else (none)) else (none)) else (none)) else (graph_Loop.l2 k x0 x3 x0 (x0.length : Int) 0)
def graph_Loop.l2 : Nat → List (List Int) → List Int → List (List Int) → Int → Int → Option (Bool)
 | 0, _, _, _, _, _ => none
 | k + 1, x0, x3, x39, x40, x41 => if x41 < x40 then (if 0 ≤ x41 then (if x41 < (x39.length : Int) then (graph_Loop.l3 k x0 x3 x41 x39 x40 x41 (rd_L1 x39 x41) ((rd_L1 x39 x41).length : Int) 0) else (none)) else (none)) else (some false)
def graph_Loop.l3 : Nat → List (List Int) → List Int → Int → List (List Int) → Int → Int → List Int → Int → Int → Option (Bool)
 | 0, _, _, _, _, _, _, _, _, _ => none
 | k + 1, x0, x3, x8, x39, x40, x41, x46, x47, x48 => if x48 < x47 then (if 0 ≤ x48 then (if x48 < (x46.length : Int) then ((graph_in.f (rd x46 x48) (x0.length : Int)).bind fun t154 => (if t154 = true then (if 0 ≤ (rd x46 x48) then (if (rd x46 x48) < (x3.length : Int) then (if 0 ≤ x8 then (if x8 < (x3.length : Int) then (if (rd x3 (rd x46 x48)) ≥ (rd x3 x8) then (some true) else (graph_Loop.l3 k x0 x3 x8 x39 x40 x41 x46 x47 (wrap64 (x48 + 1)))) else (none)) else (none)) else (none)) else (none)) else (graph_Loop.l3 k x0 x3 x8 x39 x40 x41 x46 x47 (wrap64 (x48 + 1))))) else (none)) else (none)) else (graph_Loop.l2 k x0 x3 x39 x40 (wrap64 (x41 + 1)))
end
def graph_Loop.f (k : Nat) (l0 : List (List Int)) : Option (Bool) := if 0 ≤ (l0.length : Int) then (if ((l0.length : Int) : Int).toNat ≤ 35184372088832 then (graph_Loop.l0 k l0 (List.replicate ((l0.length : Int) : Int).toNat 0) ([] : List Int) (l0.length : Int) 0) else (none)) else (none)
theorem graph_Loop.mono_l : ∀ k, (∀ y0 y1 y2 y3 y4, LeO (graph_Loop.l0 k y0 y1 y2 y3 y4) (graph_Loop.l0 (k + 1) y0 y1 y2 y3 y4)) ∧ (∀ y0 y1 y2 y3 y4, LeO (graph_Loop.l1 k y0 y1 y2 y3 y4) (graph_Loop.l1 (k + 1) y0 y1 y2 y3 y4)) ∧ (∀ y0 y1 y2 y3 y4, LeO (graph_Loop.l2 k y0 y1 y2 y3 y4) (graph_Loop.l2 (k + 1) y0 y1 y2 y3 y4)) ∧ (∀ y0 y1 y2 y3 y4 y5 y6 y7 y8, LeO (graph_Loop.l3 k y0 y1 y2 y3 y4 y5 y6 y7 y8) (graph_Loop.l3 (k + 1) y0 y1 y2 y3 y4 y5 y6 y7 y8))
 | 0 => ⟨fun _ _ _ _ _ r h => by simp [graph_Loop.l0] at h, fun _ _ _ _ _ r h => by simp [graph_Loop.l1] at h, fun _ _ _ _ _ r h => by simp [graph_Loop.l2] at h, fun _ _ _ _ _ _ _ _ _ r h => by simp [graph_Loop.l3] at h⟩
 | k + 1 => by
  obtain ⟨ih0, ih1, ih2, ih3⟩ := graph_Loop.mono_l k
  refine ⟨?_, ?_, ?_, ?_⟩
  ·intro y0 y1 y2 y3 y4
   unfold graph_Loop.l0
   repeat' first
   | (with_reducible exact ih0 _ _ _ _ _)
   | (with_reducible exact ih1 _ _ _ _ _)
   | (with_reducible exact ih2 _ _ _ _ _)
   | (with_reducible exact ih3 _ _ _ _ _ _ _ _ _)
   | (with_reducible exact graph_Begin.mono _ _ _)
   | (with_reducible exact LeO.refl _)
   | (with_reducible exact LeO.none _)
   | (with_reducible refine LeO.ite ?_ ?_)
   | (with_reducible refine LeO.bind ?_ (fun _ => ?_))
   | exact ih0 _ _ _ _ _
   | exact ih1 _ _ _ _ _
   | exact ih2 _ _ _ _ _
   | exact ih3 _ _ _ _ _ _ _ _ _
   | exact graph_Begin.mono _ _ _
   | exact LeO.none _
   | refine LeO.ite ?_ ?_
   | refine LeO.bind ?_ (fun _ => ?_)
  ·intro y0 y1 y2 y3 y4
   unfold graph_Loop.l1
   repeat' first
   | (with_reducible exact ih0 _ _ _ _ _)
   | (with_reducible exact ih1 _ _ _ _ _)
   | (with_reducible exact ih2 _ _ _ _ _)
   | (with_reducible exact ih3 _ _ _ _ _ _ _ _ _)
   | (with_reducible exact graph_Begin.mono _ _ _)
   | (with_reducible exact LeO.refl _)
   | (with_reducible exact LeO.none _)
   | (with_reducible refine LeO.ite ?_ ?_)
   | (with_reducible refine LeO.bind ?_ (fun _ => ?_))
   | exact ih0 _ _ _ _ _
   | exact ih1 _ _ _ _ _
   | exact ih2 _ _ _ _ _
   | exact ih3 _ _ _ _ _ _ _ _ _
   | exact graph_Begin.mono _ _ _
   | exact LeO.none _
   | refine LeO.ite ?_ ?_
   | refine LeO.bind ?_ (fun _ => ?_)
  ·intro y0 y1 y2 y3 y4
   unfold graph_Loop.l2
   repeat' first
   | (with_reducible exact ih0 _ _ _ _ _)
   | (with_reducible exact ih1 _ _ _ _ _)
   | (with_reducible exact ih2 _ _ _ _ _)
   | (with_reducible exact ih3 _ _ _ _ _ _ _ _ _)
   | (with_reducible exact graph_Begin.mono _ _ _)
   | (with_reducible exact LeO.refl _)
   | (with_reducible exact LeO.none _)
   | (with_reducible refine LeO.ite ?_ ?_)
   | (with_reducible refine LeO.bind ?_ (fun _ => ?_))
   | exact ih0 _ _ _ _ _
   | exact ih1 _ _ _ _ _
   | exact ih2 _ _ _ _ _
   | exact ih3 _ _ _ _ _ _ _ _ _
   | exact graph_Begin.mono _ _ _
   | exact LeO.none _
   | refine LeO.ite ?_ ?_
   | refine LeO.bind ?_ (fun _ => ?_)
  ·intro y0 y1 y2 y3 y4 y5 y6 y7 y8
   unfold graph_Loop.l3
   repeat' first
   | (with_reducible exact ih0 _ _ _ _ _)
   | (with_reducible exact ih1 _ _ _ _ _)
   | (with_reducible exact ih2 _ _ _ _ _)
   | (with_reducible exact ih3 _ _ _ _ _ _ _ _ _)
   | (with_reducible exact graph_Begin.mono _ _ _)
   | (with_reducible exact LeO.refl _)
   | (with_reducible exact LeO.none _)
   | (with_reducible refine LeO.ite ?_ ?_)
   | (with_reducible refine LeO.bind ?_ (fun _ => ?_))
   | exact ih0 _ _ _ _ _
   | exact ih1 _ _ _ _ _
   | exact ih2 _ _ _ _ _
   | exact ih3 _ _ _ _ _ _ _ _ _
   | exact graph_Begin.mono _ _ _
   | exact LeO.none _
   | refine LeO.ite ?_ ?_
   | refine LeO.bind ?_ (fun _ => ?_)
theorem graph_Loop.mono : ∀ a0 k, LeO (graph_Loop.f k a0) (graph_Loop.f (k + 1) a0) := by
 intro a0 k
 obtain ⟨ih0, ih1, ih2, ih3⟩ := graph_Loop.mono_l k
 unfold graph_Loop.f
 repeat' first
   | (with_reducible exact ih0 _ _ _ _ _)
   | (with_reducible exact ih1 _ _ _ _ _)
   | (with_reducible exact ih2 _ _ _ _ _)
   | (with_reducible exact ih3 _ _ _ _ _ _ _ _ _)
   | (with_reducible exact graph_Begin.mono _ _ _)
   | (with_reducible exact LeO.refl _)
   | (with_reducible exact LeO.none _)
   | (with_reducible refine LeO.ite ?_ ?_)
   | (with_reducible refine LeO.bind ?_ (fun _ => ?_))
   | exact ih0 _ _ _ _ _
   | exact ih1 _ _ _ _ _
   | exact ih2 _ _ _ _ _
   | exact ih3 _ _ _ _ _ _ _ _ _
   | exact graph_Begin.mono _ _ _
   | exact LeO.none _
   | refine LeO.ite ?_ ?_
   | refine LeO.bind ?_ (fun _ => ?_)
set_option maxHeartbeats 8000000 in
set_option maxRecDepth 100000 in
theorem graph_Loop.calls (k : Nat) (A0 : Option Addr) (c0 : Nat) (l0 : List (List Int)) (r : Bool) (w : World) (hr0 : Kd.C (Kd.slice 3 (Kd.int .i64)) w A0 l0.length l0) (hc0 : l0.length ≤ c0) (h : graph_Loop.f k l0 = some r) :
  Calls Try.prog 31 #[.slice A0 l0.length c0] w fun e w' => e = .returned (.bool r) ∧ Below w.heap.size w w' := by
 have HR0 := Aside0.mk hr0
 have HC0 := Aside0.mk hc0
 clear hr0 hc0
 have HB := Aside0.mk (Below.refl w.heap.size w)
 have H : (if 0 ≤ (l0.length : Int) then (if ((l0.length : Int) : Int).toNat ≤ 35184372088832 then (graph_Loop.l0 k l0 (List.replicate ((l0.length : Int) : Int).toNat 0) ([] : List Int) (l0.length : Int) 0) else (none)) else (none)) = some r := h
 clear h
 by_cases c2 : 0 ≤ (l0.length : Int)
 ·rw [if_pos c2] at H
  have c2b0 := eq_true c2
  have c2b1 : decide (0 ≤ (l0.length : Int)) = true := decide_eq_true c2
  clear c2
  by_cases c3 : ((l0.length : Int) : Int).toNat ≤ 35184372088832
  ·rw [if_pos c3] at H
   have c3b0 := eq_true c3
   have c3b1 : decide (((l0.length : Int) : Int).toNat ≤ 35184372088832) = true := decide_eq_true c3
   clear c3
   obtain ⟨y141, hy141⟩ : ∃ y_ : List Int, y_ = (List.replicate ((l0.length : Int) : Int).toNat 0) := ⟨_, rfl⟩
   replace H : (graph_Loop.l0 k l0 y141 ([] : List Int) (l0.length : Int) 0) = some r := by first | (rw [hy141]; with_reducible exact H) | (have H2_ := (Option.bind_some _ _).symm.trans H; rw [hy141]; with_reducible exact H2_) | (have H2_ := (Option.bind_some _ _).symm.trans H; with_reducible exact H2_) | with_reducible exact H | (rw [hy141]; exact H) | exact H
   have Ny141 := Aside0.mk hy141
   clear hy141
   have H' := Aside0.mk H
   clear H
   go_enter Try.func31, Try.ntmps31
   go_wp2_with (first | ((with_reducible refine gate_dst (N := 14) rfl ?_); refine Kd.R_make (Kd.int .i64) _ 3 rfl (N := 14) rfl 42 _ _ rfl (l0.length : Int) rfl rfl Try.underlying42 (.int .i64 0) 8 info3 rfl (by decide) (by omega) 0 (ok := fun _ => True) (okp := fun _ => True) rfl (fun _ hk => hk) trivial (of_decide_eq_true (by assumption)) (Nat.le_trans (Nat.mul_le_mul_right _ (of_decide_eq_true (by assumption) : (l0.length : Int).toNat ≤ 35184372088832)) (by omega)) (Below.refl _ _) (Nat.le_refl _) ?_; intro v142 w4 ho5 hb hg_ hnew_; clear hg_ hnew_; (first | rw [← Ny141.out] at ho5 | (simp only [Int.reduceToNat] at ho5; rw [← Ny141.out] at ho5)); have n0_ := Aside0.mk (Kd.R_lower ho5 (below_size (by repeat (first | (with_reducible first | exact HB.out | apply below_alloc | apply pw_below_drewN | apply below_drew1) | exact HB.out)))); have n1_ := Aside0.mk (below_step (by repeat (first | (with_reducible first | exact HB.out | apply below_alloc | apply pw_below_drewN | apply below_drew1) | exact HB.out)) hb); clear HB; have HO143 := n0_; have HB := n1_; clear n0_ n1_; clear hb ho5))
   repeat (go_quiet (first | ((with_reducible refine gate_dst (N := 14) rfl ?_); refine Kd.R_make (Kd.int .i64) _ 3 rfl (N := 14) rfl 42 _ _ rfl (l0.length : Int) rfl rfl Try.underlying42 (.int .i64 0) 8 info3 rfl (by decide) (by omega) 0 (ok := fun _ => True) (okp := fun _ => True) rfl (fun _ hk => hk) trivial (of_decide_eq_true (by assumption)) (Nat.le_trans (Nat.mul_le_mul_right _ (of_decide_eq_true (by assumption) : (l0.length : Int).toNat ≤ 35184372088832)) (by omega)) (Below.refl _ _) (Nat.le_refl _) ?_; intro v142 w4 ho5 hb hg_ hnew_; clear hg_ hnew_; (first | rw [← Ny141.out] at ho5 | (simp only [Int.reduceToNat] at ho5; rw [← Ny141.out] at ho5)); have n0_ := Aside0.mk (Kd.R_lower ho5 (below_size (by repeat (first | (with_reducible first | exact HB.out | apply below_alloc | apply pw_below_drewN | apply below_drew1) | exact HB.out)))); have n1_ := Aside0.mk (below_step (by repeat (first | (with_reducible first | exact HB.out | apply below_alloc | apply pw_below_drewN | apply below_drew1) | exact HB.out)) hb); clear HB; have HO143 := n0_; have HB := n1_; clear n0_ n1_; clear hb ho5)); try go_wp2_with (first | ((with_reducible refine gate_dst (N := 14) rfl ?_); refine Kd.R_make (Kd.int .i64) _ 3 rfl (N := 14) rfl 42 _ _ rfl (l0.length : Int) rfl rfl Try.underlying42 (.int .i64 0) 8 info3 rfl (by decide) (by omega) 0 (ok := fun _ => True) (okp := fun _ => True) rfl (fun _ hk => hk) trivial (of_decide_eq_true (by assumption)) (Nat.le_trans (Nat.mul_le_mul_right _ (of_decide_eq_true (by assumption) : (l0.length : Int).toNat ≤ 35184372088832)) (by omega)) (Below.refl _ _) (Nat.le_refl _) ?_; intro v142 w4 ho5 hb hg_ hnew_; clear hg_ hnew_; (first | rw [← Ny141.out] at ho5 | (simp only [Int.reduceToNat] at ho5; rw [← Ny141.out] at ho5)); have n0_ := Aside0.mk (Kd.R_lower ho5 (below_size (by repeat (first | (with_reducible first | exact HB.out | apply below_alloc | apply pw_below_drewN | apply below_drew1) | exact HB.out)))); have n1_ := Aside0.mk (below_step (by repeat (first | (with_reducible first | exact HB.out | apply below_alloc | apply pw_below_drewN | apply below_drew1) | exact HB.out)) hb); clear HB; have HO143 := n0_; have HB := n1_; clear n0_ n1_; clear hb ho5)))
   go_loopg [4, 17] k (fun kq v4 v17 w' => ∃ (x4_1 : List Int) (x17_1 : Int), v17 = .int .i64 x17_1 ∧ Aside0 (graph_Loop.l0 kq l0 y141 x4_1 (l0.length : Int) x17_1 = some r) ∧ Aside0 (kq ≤ k) ∧ Aside0 (Kd.R (Kd.int .i64) 3 w' w.heap.size (fun k_ => some k_ ≠ (v4 : Value).ownBlock) v142 y141) ∧ Aside0 (Kd.R (Kd.int .i64) 3 w' w.heap.size (fun k_ => some k_ ≠ (v142 : Value).ownBlock) v4 x4_1) ∧ Aside0 (Below w.heap.size w w'))
   case atStart => exact ⟨(([] : List Int)), (0), (by first | rfl | (simp; done) | (simp [*]; done)), H', ⟨Nat.le_refl _⟩, ⟨by (with_reducible repeat (first | apply Kd.R_alloc | apply Kd.R_drewN | apply Kd.R_drew)); exact Kd.R_mono HO143.out (fun _ hk => (by simp [Value.ownBlock]))⟩, ⟨by first | exact Kd.R_nil _ _ _ _ _ | exact Kd.N_nil _ _ _ _ _ | exact Kd.V_nil _ _ _ _ _ | exact Kd.Q_nil _ _ _ _ _ | exact Kd.S_nil _ _ _ _ _⟩, ⟨by repeat (first | (with_reducible first | exact HB.out | apply below_alloc | apply pw_below_drewN | apply below_drew1) | exact HB.out)⟩⟩
   case round =>
    clear H'
    try clear c2
    try clear c2b0
    try clear c2b1
    try clear p2
    try clear c3
    try clear c3b0
    try clear c3b1
    obtain ⟨x4_1, x17_1, rfl, HA, HK1, HO_3, HO_4, HB⟩ := hrel
    cases gk with
    | zero => exact absurd HA.out (by simp [graph_Loop.l0])
    | succ k1 =>
     have H := HA.out
     clear HA
     simp only [graph_Loop.l0] at H
     by_cases c6 : x17_1 < (l0.length : Int)
     ·rw [if_pos c6] at H
      have c6b0 : decide (x17_1 < (l0.length : Int)) = true := decide_eq_true c6
      clear c6
      by_cases c7 : x4_1.length < 17592186044416
      ·rw [if_pos c7] at H
       have LMc7 := Aside0.mk c7
       clear c7
       obtain ⟨y144, hy144⟩ : ∃ y_ : List Int, y_ = (x4_1 ++ [x17_1]) := ⟨_, rfl⟩
       replace H : (graph_Loop.l0 k1 l0 y141 y144 (l0.length : Int) (wrap64 (x17_1 + 1))) = some r := by first | (rw [hy144]; with_reducible exact H) | (have H2_ := (Option.bind_some _ _).symm.trans H; rw [hy144]; with_reducible exact H2_) | (have H2_ := (Option.bind_some _ _).symm.trans H; with_reducible exact H2_) | with_reducible exact H | (rw [hy144]; exact H) | exact H
       have Ny144 := Aside0.mk hy144
       clear hy144
       have H' := Aside0.mk H
       clear H
       go_wp2_with (first | ((with_reducible refine gate_builtin (b := .append) (xs := #[.tmp 20, .tmp 22]) rfl ?_); at_builtin; refine Kd.R_append (Kd.int .i64) (w0 := w) w.heap.size rfl (.tmp 20) (.tmp 22) 42 3 (.int .i64 0) 8 rfl Try.underlying42 info3 rfl (by decide) (by omega) u4 x4_1 x17_1 [.int .i64 x17_1] (fun k_ => some k_ ≠ (v142 : Value).ownBlock) (fun _ => False) rfl rfl ?aP (fun _ hk => hk.elim) ?aF ?aO ?aB ?aS ?aL ?_; (case aP => exact rfl); (case aB => exact (by repeat (first | (with_reducible first | exact HB.out | apply below_alloc | apply pw_below_drewN | apply below_drew1) | exact HB.out))); (case aF => exact (fun k_ hk => Kd.fresh' (Kd.R_lt (by (with_reducible repeat (first | apply Kd.R_alloc | apply Kd.R_drewN | apply Kd.R_drew)); exact HO_3.out)) k_ hk)); (case aO => exact (by (with_reducible repeat (first | apply Kd.R_alloc | apply Kd.R_drewN | apply Kd.R_drew)); exact HO_4.out)); (case aS => exact (below_size (by repeat (first | (with_reducible first | exact HB.out | apply below_alloc | apply pw_below_drewN | apply below_drew1) | exact HB.out)))); (case aL => have := LMc7.out; omega); intro v145 w8 ho hb hg hat; rw [← Ny144.out] at ho; have n0_ := Aside0.mk (Kd.R_after (ok := (fun _ => True)) (by (with_reducible repeat (first | apply Kd.R_alloc | apply Kd.R_drewN | apply Kd.R_drew)); exact Kd.R_mono HO_3.out (fun _ hk => ⟨trivial, hk⟩)) hg hat); have n1_ := Aside0.mk (hb); have n2_ := Aside0.mk (ho); clear HO_3; clear HB; clear HO_4; have HO_3 := n0_; have HB := n1_; have HO146 := n2_; clear n0_ n1_ n2_; clear ho hb hg hat))
       repeat (go_quiet (first | ((with_reducible refine gate_builtin (b := .append) (xs := #[.tmp 20, .tmp 22]) rfl ?_); at_builtin; refine Kd.R_append (Kd.int .i64) (w0 := w) w.heap.size rfl (.tmp 20) (.tmp 22) 42 3 (.int .i64 0) 8 rfl Try.underlying42 info3 rfl (by decide) (by omega) u4 x4_1 x17_1 [.int .i64 x17_1] (fun k_ => some k_ ≠ (v142 : Value).ownBlock) (fun _ => False) rfl rfl ?aP (fun _ hk => hk.elim) ?aF ?aO ?aB ?aS ?aL ?_; (case aP => exact rfl); (case aB => exact (by repeat (first | (with_reducible first | exact HB.out | apply below_alloc | apply pw_below_drewN | apply below_drew1) | exact HB.out))); (case aF => exact (fun k_ hk => Kd.fresh' (Kd.R_lt (by (with_reducible repeat (first | apply Kd.R_alloc | apply Kd.R_drewN | apply Kd.R_drew)); exact HO_3.out)) k_ hk)); (case aO => exact (by (with_reducible repeat (first | apply Kd.R_alloc | apply Kd.R_drewN | apply Kd.R_drew)); exact HO_4.out)); (case aS => exact (below_size (by repeat (first | (with_reducible first | exact HB.out | apply below_alloc | apply pw_below_drewN | apply below_drew1) | exact HB.out)))); (case aL => have := LMc7.out; omega); intro v145 w8 ho hb hg hat; rw [← Ny144.out] at ho; have n0_ := Aside0.mk (Kd.R_after (ok := (fun _ => True)) (by (with_reducible repeat (first | apply Kd.R_alloc | apply Kd.R_drewN | apply Kd.R_drew)); exact Kd.R_mono HO_3.out (fun _ hk => ⟨trivial, hk⟩)) hg hat); have n1_ := Aside0.mk (hb); have n2_ := Aside0.mk (ho); clear HO_3; clear HB; clear HO_4; have HO_3 := n0_; have HB := n1_; have HO146 := n2_; clear n0_ n1_ n2_; clear ho hb hg hat)); try go_wp2_with (first | ((with_reducible refine gate_builtin (b := .append) (xs := #[.tmp 20, .tmp 22]) rfl ?_); at_builtin; refine Kd.R_append (Kd.int .i64) (w0 := w) w.heap.size rfl (.tmp 20) (.tmp 22) 42 3 (.int .i64 0) 8 rfl Try.underlying42 info3 rfl (by decide) (by omega) u4 x4_1 x17_1 [.int .i64 x17_1] (fun k_ => some k_ ≠ (v142 : Value).ownBlock) (fun _ => False) rfl rfl ?aP (fun _ hk => hk.elim) ?aF ?aO ?aB ?aS ?aL ?_; (case aP => exact rfl); (case aB => exact (by repeat (first | (with_reducible first | exact HB.out | apply below_alloc | apply pw_below_drewN | apply below_drew1) | exact HB.out))); (case aF => exact (fun k_ hk => Kd.fresh' (Kd.R_lt (by (with_reducible repeat (first | apply Kd.R_alloc | apply Kd.R_drewN | apply Kd.R_drew)); exact HO_3.out)) k_ hk)); (case aO => exact (by (with_reducible repeat (first | apply Kd.R_alloc | apply Kd.R_drewN | apply Kd.R_drew)); exact HO_4.out)); (case aS => exact (below_size (by repeat (first | (with_reducible first | exact HB.out | apply below_alloc | apply pw_below_drewN | apply below_drew1) | exact HB.out)))); (case aL => have := LMc7.out; omega); intro v145 w8 ho hb hg hat; rw [← Ny144.out] at ho; have n0_ := Aside0.mk (Kd.R_after (ok := (fun _ => True)) (by (with_reducible repeat (first | apply Kd.R_alloc | apply Kd.R_drewN | apply Kd.R_drew)); exact Kd.R_mono HO_3.out (fun _ hk => ⟨trivial, hk⟩)) hg hat); have n1_ := Aside0.mk (hb); have n2_ := Aside0.mk (ho); clear HO_3; clear HB; clear HO_4; have HO_3 := n0_; have HB := n1_; have HO146 := n2_; clear n0_ n1_ n2_; clear ho hb hg hat)))
       go_roundg k1
       case measure => have := HK1.out; omega
       case rel => exact ⟨(y144), (wrap64 (x17_1 + 1)), (by first | rfl | (simp; done) | (simp [*]; done)), H', ⟨by have := HK1.out; omega⟩, ⟨by (with_reducible repeat (first | apply Kd.R_alloc | apply Kd.R_drewN | apply Kd.R_drew)); exact Kd.R_mono HO_3.out (fun _ hk => hk.2)⟩, ⟨by (with_reducible repeat (first | apply Kd.R_alloc | apply Kd.R_drewN | apply Kd.R_drew)); exact HO146.out⟩, ⟨by repeat (first | (with_reducible first | exact HB.out | apply below_alloc | apply pw_below_drewN | apply below_drew1) | exact HB.out)⟩⟩
      ·rw [if_neg c7] at H
       exact absurd H (by simp)
     ·rw [if_neg c6] at H
      have c6b0 : decide (x17_1 < (l0.length : Int)) = false := decide_eq_false c6
      clear c6
      replace H := Option.bind_eq_some_iff.mp H
      obtain ⟨t147, A90, H⟩ := H
      replace H : (graph_Loop.l1 k1 l0 y141 t147 (t147.length : Int) 0) = some r := H
      have A9 := Aside0.mk A90
      clear A90
      have H' := Aside0.mk H
      clear H
      obtain ⟨Ao10, co10, eo10⟩ := Kd.R_slice HO_4.out
      subst eo10
      go_wp2_with (first | (go_at_call 27; (with_reducible refine (graph_Begin.calls k1 _ _ l0 _ _ x4_1 t147 _ ?side1 ?side2 ?side3 ?side4 A9.out).mono ?_); (case side1 => repeat (first | exact (Kd.C_below HR0.out HB.out) | (with_reducible refine Kd.C_alloc ?_ _) | (with_reducible refine Kd.C_drewN ?_ _) | (with_reducible refine Kd.C_drew ?_))); (case side2 => exact HC0.out); (case side3 => repeat (first | exact (Kd.R_reads' HO_4.out).2.2 | (with_reducible refine Kd.C_alloc ?_ _) | (with_reducible refine Kd.C_drewN ?_ _) | (with_reducible refine Kd.C_drew ?_))); (case side4 => exact (Kd.R_reads' HO_4.out).2.1); rintro e w11 ⟨v148, rfl, ho0, hb⟩; have n0_ := Aside0.mk (Kd.R_elder' (by (with_reducible repeat (first | apply Kd.R_alloc | apply Kd.R_drewN | apply Kd.R_drew)); exact HO_3.out) (Kd.R_base ho0) hb); have n1_ := Aside0.mk (Kd.R_elder' (by (with_reducible repeat (first | apply Kd.R_alloc | apply Kd.R_drewN | apply Kd.R_drew)); exact HO_4.out) (Kd.R_base ho0) hb); have n2_ := Aside0.mk (Kd.R_lower (Kd.R_new' (Kd.R_new' ho0 (Kd.R_lt (by (with_reducible repeat (first | apply Kd.R_alloc | apply Kd.R_drewN | apply Kd.R_drew)); exact HO_3.out))) (Kd.R_lt (by (with_reducible repeat (first | apply Kd.R_alloc | apply Kd.R_drewN | apply Kd.R_drew)); exact HO_4.out))) (below_size (by repeat (first | (with_reducible first | exact HB.out | apply below_alloc | apply pw_below_drewN | apply below_drew1) | exact HB.out)))); have n3_ := Aside0.mk (below_step (by repeat (first | (with_reducible first | exact HB.out | apply below_alloc | apply pw_below_drewN | apply below_drew1) | exact HB.out)) hb); clear HO_3; clear HO_4; clear HB; have HO_3 := n0_; have HO_4 := n1_; have HO149 := n2_; have HB := n3_; clear n0_ n1_ n2_ n3_; (try clear hb); (try clear hb2); (try clear hk); (try clear hi); (try clear ho0); obtain ⟨Ao12, co12, eo12⟩ := Kd.R_slice HO149.out; subst eo12))
      repeat (go_quiet (first | (go_at_call 27; (with_reducible refine (graph_Begin.calls k1 _ _ l0 _ _ x4_1 t147 _ ?side1 ?side2 ?side3 ?side4 A9.out).mono ?_); (case side1 => repeat (first | exact (Kd.C_below HR0.out HB.out) | (with_reducible refine Kd.C_alloc ?_ _) | (with_reducible refine Kd.C_drewN ?_ _) | (with_reducible refine Kd.C_drew ?_))); (case side2 => exact HC0.out); (case side3 => repeat (first | exact (Kd.R_reads' HO_4.out).2.2 | (with_reducible refine Kd.C_alloc ?_ _) | (with_reducible refine Kd.C_drewN ?_ _) | (with_reducible refine Kd.C_drew ?_))); (case side4 => exact (Kd.R_reads' HO_4.out).2.1); rintro e w11 ⟨v148, rfl, ho0, hb⟩; have n0_ := Aside0.mk (Kd.R_elder' (by (with_reducible repeat (first | apply Kd.R_alloc | apply Kd.R_drewN | apply Kd.R_drew)); exact HO_3.out) (Kd.R_base ho0) hb); have n1_ := Aside0.mk (Kd.R_elder' (by (with_reducible repeat (first | apply Kd.R_alloc | apply Kd.R_drewN | apply Kd.R_drew)); exact HO_4.out) (Kd.R_base ho0) hb); have n2_ := Aside0.mk (Kd.R_lower (Kd.R_new' (Kd.R_new' ho0 (Kd.R_lt (by (with_reducible repeat (first | apply Kd.R_alloc | apply Kd.R_drewN | apply Kd.R_drew)); exact HO_3.out))) (Kd.R_lt (by (with_reducible repeat (first | apply Kd.R_alloc | apply Kd.R_drewN | apply Kd.R_drew)); exact HO_4.out))) (below_size (by repeat (first | (with_reducible first | exact HB.out | apply below_alloc | apply pw_below_drewN | apply below_drew1) | exact HB.out)))); have n3_ := Aside0.mk (below_step (by repeat (first | (with_reducible first | exact HB.out | apply below_alloc | apply pw_below_drewN | apply below_drew1) | exact HB.out)) hb); clear HO_3; clear HO_4; clear HB; have HO_3 := n0_; have HO_4 := n1_; have HO149 := n2_; have HB := n3_; clear n0_ n1_ n2_ n3_; (try clear hb); (try clear hb2); (try clear hk); (try clear hi); (try clear ho0); obtain ⟨Ao12, co12, eo12⟩ := Kd.R_slice HO149.out; subst eo12)); try go_wp2_with (first | (go_at_call 27; (with_reducible refine (graph_Begin.calls k1 _ _ l0 _ _ x4_1 t147 _ ?side1 ?side2 ?side3 ?side4 A9.out).mono ?_); (case side1 => repeat (first | exact (Kd.C_below HR0.out HB.out) | (with_reducible refine Kd.C_alloc ?_ _) | (with_reducible refine Kd.C_drewN ?_ _) | (with_reducible refine Kd.C_drew ?_))); (case side2 => exact HC0.out); (case side3 => repeat (first | exact (Kd.R_reads' HO_4.out).2.2 | (with_reducible refine Kd.C_alloc ?_ _) | (with_reducible refine Kd.C_drewN ?_ _) | (with_reducible refine Kd.C_drew ?_))); (case side4 => exact (Kd.R_reads' HO_4.out).2.1); rintro e w11 ⟨v148, rfl, ho0, hb⟩; have n0_ := Aside0.mk (Kd.R_elder' (by (with_reducible repeat (first | apply Kd.R_alloc | apply Kd.R_drewN | apply Kd.R_drew)); exact HO_3.out) (Kd.R_base ho0) hb); have n1_ := Aside0.mk (Kd.R_elder' (by (with_reducible repeat (first | apply Kd.R_alloc | apply Kd.R_drewN | apply Kd.R_drew)); exact HO_4.out) (Kd.R_base ho0) hb); have n2_ := Aside0.mk (Kd.R_lower (Kd.R_new' (Kd.R_new' ho0 (Kd.R_lt (by (with_reducible repeat (first | apply Kd.R_alloc | apply Kd.R_drewN | apply Kd.R_drew)); exact HO_3.out))) (Kd.R_lt (by (with_reducible repeat (first | apply Kd.R_alloc | apply Kd.R_drewN | apply Kd.R_drew)); exact HO_4.out))) (below_size (by repeat (first | (with_reducible first | exact HB.out | apply below_alloc | apply pw_below_drewN | apply below_drew1) | exact HB.out)))); have n3_ := Aside0.mk (below_step (by repeat (first | (with_reducible first | exact HB.out | apply below_alloc | apply pw_below_drewN | apply below_drew1) | exact HB.out)) hb); clear HO_3; clear HO_4; clear HB; have HO_3 := n0_; have HO_4 := n1_; have HO149 := n2_; have HB := n3_; clear n0_ n1_ n2_ n3_; (try clear hb); (try clear hb2); (try clear hk); (try clear hi); (try clear ho0); obtain ⟨Ao12, co12, eo12⟩ := Kd.R_slice HO149.out; subst eo12)))
      go_loopg [29] k1 (fun kq v29 w' => ∃ (x3_2 : List Int) (x29_2 : Int), v29 = .int .i64 x29_2 ∧ Aside0 (graph_Loop.l1 kq l0 x3_2 t147 (t147.length : Int) x29_2 = some r) ∧ Aside0 (kq ≤ k1) ∧ Aside0 (Kd.R (Kd.int .i64) 3 w' w.heap.size (fun k_ => some k_ ≠ ((.slice Ao12 t147.length co12) : Value).ownBlock) v142 x3_2) ∧ Aside0 (Kd.R (Kd.int .i64) 3 w' w.heap.size (fun k_ => some k_ ≠ (v142 : Value).ownBlock) (.slice Ao12 t147.length co12) t147) ∧ Aside0 (Below w.heap.size w w'))
      case atStart => exact ⟨(y141), (0), (by first | rfl | (simp; done) | (simp [*]; done)), H', ⟨Nat.le_refl _⟩, ⟨by (with_reducible repeat (first | apply Kd.R_alloc | apply Kd.R_drewN | apply Kd.R_drew)); exact Kd.R_mono HO_3.out (fun _ hk => hk.2)⟩, ⟨by (with_reducible repeat (first | apply Kd.R_alloc | apply Kd.R_drewN | apply Kd.R_drew)); exact Kd.R_mono HO149.out (fun _ hk => hk.1.2)⟩, ⟨by repeat (first | (with_reducible first | exact HB.out | apply below_alloc | apply pw_below_drewN | apply below_drew1) | exact HB.out)⟩⟩
      case round =>
       clear H'
       try clear c2
       try clear c2b0
       try clear c2b1
       try clear p2
       try clear c3
       try clear c3b0
       try clear c3b1
       try clear c6
       try clear c6b0
       try clear p6
       try clear c7
       try clear p2
       obtain ⟨x3_2, x29_2, rfl, HA, HK2, HO_3, HO_27, HB⟩ := hrel
       cases gk with
       | zero => exact absurd HA.out (by simp [graph_Loop.l1])
       | succ k2 =>
        have H := HA.out
        clear HA
        simp only [graph_Loop.l1] at H
        by_cases c13 : x29_2 < (t147.length : Int)
        ·rw [if_pos c13] at H
         have c13b0 : decide (x29_2 < (t147.length : Int)) = true := decide_eq_true c13
         clear c13
         by_cases c14 : 0 ≤ x29_2
         ·rw [if_pos c14] at H
          have c14b0 : decide (0 ≤ x29_2) = true := decide_eq_true c14
          clear c14
          by_cases c15 : x29_2 < (t147.length : Int)
          ·rw [if_pos c15] at H
           have c15b0 : decide (x29_2 < (t147.length : Int)) = true := decide_eq_true c15
           clear c15
           by_cases c16 : 0 ≤ (rd t147 x29_2)
           ·rw [if_pos c16] at H
            have c16b0 : decide (0 ≤ (rd t147 x29_2)) = true := decide_eq_true c16
            clear c16
            by_cases c17 : (rd t147 x29_2) < (x3_2.length : Int)
            ·rw [if_pos c17] at H
             have c17b0 : decide ((rd t147 x29_2) < (x3_2.length : Int)) = true := decide_eq_true c17
             clear c17
             obtain ⟨y151, hy151⟩ : ∃ y_ : List Int, y_ = (x3_2.set ((rd t147 x29_2) : Int).toNat x29_2) := ⟨_, rfl⟩
             replace H : (graph_Loop.l1 k2 l0 y151 t147 (t147.length : Int) (wrap64 (x29_2 + 1))) = some r := by first | (rw [hy151]; with_reducible exact H) | (have H2_ := (Option.bind_some _ _).symm.trans H; rw [hy151]; with_reducible exact H2_) | (have H2_ := (Option.bind_some _ _).symm.trans H; with_reducible exact H2_) | with_reducible exact H | (rw [hy151]; exact H) | exact H
             have Ny151 := Aside0.mk hy151
             clear hy151
             have H' := Aside0.mk H
             clear H
             have p150 : 0 ≤ (x29_2 : Int) := of_decide_eq_true (by assumption)
             have q150 : x29_2 < (t147.length : Int) := of_decide_eq_true (by assumption)
             obtain ⟨ad150, e150, hx150_0⟩ := Kd.at_int (Kd.R_reads' HO_27.out).2.2 x29_2 p150 q150
             cases e150
             replace p150 := eq_true p150
             replace q150 := eq_true q150
             have p18 : 0 ≤ ((rd t147 x29_2) : Int) := of_decide_eq_true (by assumption)
             have q18 : ((rd t147 x29_2) : Int) < ((x3_2.length : Int) : Int) := of_decide_eq_true (by assumption)
             obtain ⟨go18, co18, eo18, gb18, gl18, cl18, HG18⟩ := Kd.R_form HO_3.out (by omega)
             (first | cases eo18 | (injection eo18 with ea_ en_ ec_; (first | subst ea_ | (injection ea_ with ea_; subst ea_)); subst ec_; clear en_))
             have GB18 := Aside0.mk gb18
             have GG18 := Aside0.mk HG18
             clear gb18 gl18 HG18
             obtain ⟨hx18_0, hf18_0⟩ := Kd.R_celln 0 HO_3.out ((rd t147 x29_2) : Int) p18 q18
             replace p18 := eq_true p18
             replace q18 := eq_true q18
             have HP19 := Kd.R_putg HO_3.out ((rd t147 x29_2) : Int) x29_2
             go_wp2_with (first | ((with_reducible refine gate_store (t := 3) (p := 37) rfl ?_); (try (rw [drewN_self wr]; generalize hq_ : World.drewN wr _ = wr; have n0_ := Aside0.mk (Kd.R_at hq_ HO_3.out); have n1_ := Aside0.mk (Kd.R_at hq_ HO_27.out); have n2_ := Aside0.mk (below_at hq_ HB.out); clear hq_ HO_3 HO_27 HB; have HO_3 := n0_; have HO_27 := n1_; have HB := n2_; clear n0_ n1_ n2_; (try (have HP19 := Kd.R_putg HO_3.out ((rd t147 x29_2) : Int) x29_2)))); refine store_event (t := 3) (p := 37) (v := ?vo_w20) (w1 := (wr.setCell ⟨go18, ((rd t147 x29_2) : Int).toNat, none⟩ (.int .i64 x29_2))) ?hg ?ho ?hn ?hr ?_; (case ho => rfl); (case hg => rfl); (case hn => rfl); (case hr => first | (go_simp; done) | (go_simp; rfl)); intro w20 hw; have hg : wr.grownBy w20 (some go18) := (by rw [hw]; exact HP19.2); have hp_ : Kd.R (Kd.int .i64) 3 w20 w.heap.size (fun k_ => some k_ ≠ (.slice (some ad150) t147.length co12 : Value).ownBlock) (.slice (some ⟨go18, 0, none⟩) x3_2.length co18) y151 := (by rw [hw, Ny151.out]; exact HP19.1); clear HP19; have n0_ := Aside0.mk (hp_); have n1_ := Aside0.mk (Kd.R_after (v := (.slice (some ⟨go18, 0, none⟩) x3_2.length co18)) (v1 := (.slice (some ⟨go18, 0, none⟩) x3_2.length co18)) (ok := (fun _ => True)) (by (with_reducible repeat (first | apply Kd.R_alloc | apply Kd.R_drewN | apply Kd.R_drew)); exact Kd.R_mono HO_27.out (fun _ hk => ⟨trivial, hk⟩)) hg (.inl rfl)); have n2_ := Aside0.mk ((by rw [hw]; exact below_set (HB.out) GB18.out : Below w.heap.size w w20)); clear HO_3; clear HO_27; clear HB; have HO_3 := n0_; have HO_27 := n1_; have HB := n2_; clear n0_ n1_ n2_; clear hg hw hp_))
             repeat (go_quiet (first | ((with_reducible refine gate_store (t := 3) (p := 37) rfl ?_); (try (rw [drewN_self wr]; generalize hq_ : World.drewN wr _ = wr; have n0_ := Aside0.mk (Kd.R_at hq_ HO_3.out); have n1_ := Aside0.mk (Kd.R_at hq_ HO_27.out); have n2_ := Aside0.mk (below_at hq_ HB.out); clear hq_ HO_3 HO_27 HB; have HO_3 := n0_; have HO_27 := n1_; have HB := n2_; clear n0_ n1_ n2_; (try (have HP19 := Kd.R_putg HO_3.out ((rd t147 x29_2) : Int) x29_2)))); refine store_event (t := 3) (p := 37) (v := ?vo_w20) (w1 := (wr.setCell ⟨go18, ((rd t147 x29_2) : Int).toNat, none⟩ (.int .i64 x29_2))) ?hg ?ho ?hn ?hr ?_; (case ho => rfl); (case hg => rfl); (case hn => rfl); (case hr => first | (go_simp; done) | (go_simp; rfl)); intro w20 hw; have hg : wr.grownBy w20 (some go18) := (by rw [hw]; exact HP19.2); have hp_ : Kd.R (Kd.int .i64) 3 w20 w.heap.size (fun k_ => some k_ ≠ (.slice (some ad150) t147.length co12 : Value).ownBlock) (.slice (some ⟨go18, 0, none⟩) x3_2.length co18) y151 := (by rw [hw, Ny151.out]; exact HP19.1); clear HP19; have n0_ := Aside0.mk (hp_); have n1_ := Aside0.mk (Kd.R_after (v := (.slice (some ⟨go18, 0, none⟩) x3_2.length co18)) (v1 := (.slice (some ⟨go18, 0, none⟩) x3_2.length co18)) (ok := (fun _ => True)) (by (with_reducible repeat (first | apply Kd.R_alloc | apply Kd.R_drewN | apply Kd.R_drew)); exact Kd.R_mono HO_27.out (fun _ hk => ⟨trivial, hk⟩)) hg (.inl rfl)); have n2_ := Aside0.mk ((by rw [hw]; exact below_set (HB.out) GB18.out : Below w.heap.size w w20)); clear HO_3; clear HO_27; clear HB; have HO_3 := n0_; have HO_27 := n1_; have HB := n2_; clear n0_ n1_ n2_; clear hg hw hp_)); try go_wp2_with (first | ((with_reducible refine gate_store (t := 3) (p := 37) rfl ?_); (try (rw [drewN_self wr]; generalize hq_ : World.drewN wr _ = wr; have n0_ := Aside0.mk (Kd.R_at hq_ HO_3.out); have n1_ := Aside0.mk (Kd.R_at hq_ HO_27.out); have n2_ := Aside0.mk (below_at hq_ HB.out); clear hq_ HO_3 HO_27 HB; have HO_3 := n0_; have HO_27 := n1_; have HB := n2_; clear n0_ n1_ n2_; (try (have HP19 := Kd.R_putg HO_3.out ((rd t147 x29_2) : Int) x29_2)))); refine store_event (t := 3) (p := 37) (v := ?vo_w20) (w1 := (wr.setCell ⟨go18, ((rd t147 x29_2) : Int).toNat, none⟩ (.int .i64 x29_2))) ?hg ?ho ?hn ?hr ?_; (case ho => rfl); (case hg => rfl); (case hn => rfl); (case hr => first | (go_simp; done) | (go_simp; rfl)); intro w20 hw; have hg : wr.grownBy w20 (some go18) := (by rw [hw]; exact HP19.2); have hp_ : Kd.R (Kd.int .i64) 3 w20 w.heap.size (fun k_ => some k_ ≠ (.slice (some ad150) t147.length co12 : Value).ownBlock) (.slice (some ⟨go18, 0, none⟩) x3_2.length co18) y151 := (by rw [hw, Ny151.out]; exact HP19.1); clear HP19; have n0_ := Aside0.mk (hp_); have n1_ := Aside0.mk (Kd.R_after (v := (.slice (some ⟨go18, 0, none⟩) x3_2.length co18)) (v1 := (.slice (some ⟨go18, 0, none⟩) x3_2.length co18)) (ok := (fun _ => True)) (by (with_reducible repeat (first | apply Kd.R_alloc | apply Kd.R_drewN | apply Kd.R_drew)); exact Kd.R_mono HO_27.out (fun _ hk => ⟨trivial, hk⟩)) hg (.inl rfl)); have n2_ := Aside0.mk ((by rw [hw]; exact below_set (HB.out) GB18.out : Below w.heap.size w w20)); clear HO_3; clear HO_27; clear HB; have HO_3 := n0_; have HO_27 := n1_; have HB := n2_; clear n0_ n1_ n2_; clear hg hw hp_)))
             go_roundg k2
             case measure => have := HK1.out; have := HK2.out; omega
             case rel => exact ⟨(y151), (wrap64 (x29_2 + 1)), (by first | rfl | (simp; done) | (simp [*]; done)), H', ⟨by have := HK1.out; have := HK2.out; omega⟩, ⟨by (with_reducible repeat (first | apply Kd.R_alloc | apply Kd.R_drewN | apply Kd.R_drew)); exact HO_3.out⟩, ⟨by (with_reducible repeat (first | apply Kd.R_alloc | apply Kd.R_drewN | apply Kd.R_drew)); exact Kd.R_mono HO_27.out (fun _ hk => hk.2)⟩, ⟨by repeat (first | (with_reducible first | exact HB.out | apply below_alloc | apply pw_below_drewN | apply below_drew1) | exact HB.out)⟩⟩
            ·rw [if_neg c17] at H
             exact absurd H (by simp)
           ·rw [if_neg c16] at H
            exact absurd H (by simp)
          ·rw [if_neg c15] at H
           exact absurd H (by simp)
         ·rw [if_neg c14] at H
          exact absurd H (by simp)
        ·rw [if_neg c13] at H
         have c13b0 : decide (x29_2 < (t147.length : Int)) = false := decide_eq_false c13
         clear c13
         have H' := Aside0.mk H
         clear H
         go_wp2
         repeat (go_quiet (fail); try go_wp2)
         go_loopg [41] k2 (fun kq v41 w' => ∃ (x41_3 : Int), v41 = .int .i64 x41_3 ∧ Aside0 (graph_Loop.l2 kq l0 x3_2 l0 (l0.length : Int) x41_3 = some r) ∧ Aside0 (kq ≤ k2) ∧ Aside0 (Kd.R (Kd.int .i64) 3 w' w.heap.size (fun _ => True) v142 x3_2) ∧ Aside0 (Below w.heap.size w w'))
         case atStart => exact ⟨(0), (by first | rfl | (simp; done) | (simp [*]; done)), H', ⟨Nat.le_refl _⟩, ⟨by (with_reducible repeat (first | apply Kd.R_alloc | apply Kd.R_drewN | apply Kd.R_drew)); exact Kd.R_mono HO_3.out (fun _ hk => trivial)⟩, ⟨by repeat (first | (with_reducible first | exact HB.out | apply below_alloc | apply pw_below_drewN | apply below_drew1) | exact HB.out)⟩⟩
         case round =>
          clear H'
          try clear c1
          try clear p1
          try clear q1
          try clear hx1
          try clear hf1
          try clear c2
          try clear c2b0
          try clear c2b1
          try clear p2
          try clear c3
          try clear c3b0
          try clear c3b1
          try clear c6
          try clear c6b0
          try clear p6
          try clear c7
          try clear c13
          try clear c13b0
          try clear c14
          try clear c14b0
          try clear c15
          try clear c15b0
          try clear p15
          try clear q15
          try clear hx15
          try clear c16
          try clear c16b0
          try clear c17
          try clear c17b0
          try clear p18
          try clear q18
          try clear hx18
          try clear hf18
          try clear hx150_0
          try clear hx18_0
          try clear p150
          try clear p18
          try clear p2
          try clear p6
          try clear q150
          try clear q18
          obtain ⟨x41_3, rfl, HA, HK3, HO_3, HB⟩ := hrel
          cases gk with
          | zero => exact absurd HA.out (by simp [graph_Loop.l2])
          | succ k3 =>
           have H := HA.out
           clear HA
           simp only [graph_Loop.l2] at H
           by_cases c21 : x41_3 < (l0.length : Int)
           ·rw [if_pos c21] at H
            have c21b0 : decide (x41_3 < (l0.length : Int)) = true := decide_eq_true c21
            clear c21
            by_cases c22 : 0 ≤ x41_3
            ·rw [if_pos c22] at H
             have c22b0 : decide (0 ≤ x41_3) = true := decide_eq_true c22
             clear c22
             by_cases c23 : x41_3 < (l0.length : Int)
             ·rw [if_pos c23] at H
              have c23b0 : decide (x41_3 < (l0.length : Int)) = true := decide_eq_true c23
              clear c23
              have H' := Aside0.mk H
              clear H
              have p152 : 0 ≤ (x41_3 : Int) := of_decide_eq_true (by assumption)
              have q152 : x41_3 < (l0.length : Int) := of_decide_eq_true (by assumption)
              obtain ⟨ad152, A152_0, c152_0, e152, hx152_0, hl152_0, hi152_0⟩ := at_L1 HR0.out x41_3 p152 q152
              cases e152
              replace hx152_0 := (HB.out.cell (World.block_lt_of_cell? w _ hx152_0)).trans hx152_0
              have HR152_0 := Aside0.mk hi152_0
              have HC152_0 := Aside0.mk hl152_0
              clear hi152_0 hl152_0
              replace p152 := eq_true p152
              replace q152 := eq_true q152
              go_wp2
              repeat (go_quiet (fail); try go_wp2)
              go_loopg [48] k3 (fun kq v48 w' => ∃ (x48_4 : Int), v48 = .int .i64 x48_4 ∧ Aside0 (graph_Loop.l3 kq l0 x3_2 x41_3 l0 (l0.length : Int) x41_3 (rd_L1 l0 x41_3) ((rd_L1 l0 x41_3).length : Int) x48_4 = some r) ∧ Aside0 (kq ≤ k3) ∧ Aside0 (Kd.R (Kd.int .i64) 3 w' w.heap.size (fun _ => True) v142 x3_2) ∧ Aside0 (Below w.heap.size w w'))
              case atStart => exact ⟨(0), (by first | rfl | (simp; done) | (simp [*]; done)), H', ⟨Nat.le_refl _⟩, ⟨by (with_reducible repeat (first | apply Kd.R_alloc | apply Kd.R_drewN | apply Kd.R_drew)); exact HO_3.out⟩, ⟨by repeat (first | (with_reducible first | exact HB.out | apply below_alloc | apply pw_below_drewN | apply below_drew1) | exact HB.out)⟩⟩
              case round =>
               clear H'
               try clear c1
               try clear p1
               try clear q1
               try clear hx1
               try clear hf1
               try clear c2
               try clear c2b0
               try clear c2b1
               try clear p2
               try clear c3
               try clear c3b0
               try clear c3b1
               try clear c6
               try clear c6b0
               try clear p6
               try clear c7
               try clear c13
               try clear c13b0
               try clear c14
               try clear c14b0
               try clear c15
               try clear c15b0
               try clear p15
               try clear q15
               try clear hx15
               try clear c16
               try clear c16b0
               try clear c17
               try clear c17b0
               try clear p18
               try clear q18
               try clear hx18
               try clear hf18
               try clear c21
               try clear c21b0
               try clear c22
               try clear c22b0
               try clear c23
               try clear c23b0
               try clear hx150_0
               try clear hx152_0
               try clear hx18_0
               try clear p1
               try clear p15
               try clear p150
               try clear p152
               try clear p18
               try clear p2
               try clear p6
               try clear q1
               try clear q15
               try clear q150
               try clear q152
               try clear q18
               obtain ⟨x48_4, rfl, HA, HK4, HO_3, HB⟩ := hrel
               cases gk with
               | zero => exact absurd HA.out (by simp [graph_Loop.l3])
               | succ k4 =>
                have H := HA.out
                clear HA
                simp only [graph_Loop.l3] at H
                by_cases c24 : x48_4 < ((rd_L1 l0 x41_3).length : Int)
                ·rw [if_pos c24] at H
                 have c24b0 : decide (x48_4 < ((rd_L1 l0 x41_3).length : Int)) = true := decide_eq_true c24
                 clear c24
                 by_cases c25 : 0 ≤ x48_4
                 ·rw [if_pos c25] at H
                  have c25b0 : decide (0 ≤ x48_4) = true := decide_eq_true c25
                  clear c25
                  by_cases c26 : x48_4 < ((rd_L1 l0 x41_3).length : Int)
                  ·rw [if_pos c26] at H
                   have c26b0 : decide (x48_4 < ((rd_L1 l0 x41_3).length : Int)) = true := decide_eq_true c26
                   clear c26
                   replace H := Option.bind_eq_some_iff.mp H
                   obtain ⟨t154, A270, H⟩ := H
                   replace H : (if t154 = true then (if 0 ≤ (rd (rd_L1 l0 x41_3) x48_4) then (if (rd (rd_L1 l0 x41_3) x48_4) < (x3_2.length : Int) then (if 0 ≤ x41_3 then (if x41_3 < (x3_2.length : Int) then (if (rd x3_2 (rd (rd_L1 l0 x41_3) x48_4)) ≥ (rd x3_2 x41_3) then (some true) else (graph_Loop.l3 k4 l0 x3_2 x41_3 l0 (l0.length : Int) x41_3 (rd_L1 l0 x41_3) ((rd_L1 l0 x41_3).length : Int) (wrap64 (x48_4 + 1)))) else (none)) else (none)) else (none)) else (none)) else (graph_Loop.l3 k4 l0 x3_2 x41_3 l0 (l0.length : Int) x41_3 (rd_L1 l0 x41_3) ((rd_L1 l0 x41_3).length : Int) (wrap64 (x48_4 + 1)))) = some r := H
                   have A27 := Aside0.mk A270
                   clear A270
                   by_cases c28 : t154 = true
                   ·subst c28
                    have H1 : (if 0 ≤ (rd (rd_L1 l0 x41_3) x48_4) then (if (rd (rd_L1 l0 x41_3) x48_4) < (x3_2.length : Int) then (if 0 ≤ x41_3 then (if x41_3 < (x3_2.length : Int) then (if (rd x3_2 (rd (rd_L1 l0 x41_3) x48_4)) ≥ (rd x3_2 x41_3) then (some true) else (graph_Loop.l3 k4 l0 x3_2 x41_3 l0 (l0.length : Int) x41_3 (rd_L1 l0 x41_3) ((rd_L1 l0 x41_3).length : Int) (wrap64 (x48_4 + 1)))) else (none)) else (none)) else (none)) else (none)) = some r := by rw [if_pos rfl] at H; exact H
                    clear H
                    have H := H1
                    clear H1
                    by_cases c29 : 0 ≤ (rd (rd_L1 l0 x41_3) x48_4)
                    ·rw [if_pos c29] at H
                     have c29b0 : decide (0 ≤ (rd (rd_L1 l0 x41_3) x48_4)) = true := decide_eq_true c29
                     clear c29
                     by_cases c30 : (rd (rd_L1 l0 x41_3) x48_4) < (x3_2.length : Int)
                     ·rw [if_pos c30] at H
                      have c30b0 : decide ((rd (rd_L1 l0 x41_3) x48_4) < (x3_2.length : Int)) = true := decide_eq_true c30
                      clear c30
                      by_cases c31 : 0 ≤ x41_3
                      ·rw [if_pos c31] at H
                       have c31b0 : decide (0 ≤ x41_3) = true := decide_eq_true c31
                       clear c31
                       by_cases c32 : x41_3 < (x3_2.length : Int)
                       ·rw [if_pos c32] at H
                        have c32b0 : decide (x41_3 < (x3_2.length : Int)) = true := decide_eq_true c32
                        clear c32
                        by_cases c33 : (rd x3_2 (rd (rd_L1 l0 x41_3) x48_4)) ≥ (rd x3_2 x41_3)
                        ·rw [if_pos c33] at H
                         have c33b0 : decide ((rd x3_2 x41_3) ≤ (rd x3_2 (rd (rd_L1 l0 x41_3) x48_4))) = true := decide_eq_true c33
                         clear c33
                         obtain rfl := Option.some.inj H
                         have p153 : 0 ≤ (x48_4 : Int) := of_decide_eq_true (by assumption)
                         have q153 : x48_4 < ((rd_L1 l0 x41_3).length : Int) := of_decide_eq_true (by assumption)
                         obtain ⟨ad153, e153, hx153_0⟩ := Kd.at_int HR152_0.out x48_4 p153 q153
                         cases e153
                         replace hx153_0 := (HB.out.cell (World.block_lt_of_cell? w _ hx153_0)).trans hx153_0
                         replace p153 := eq_true p153
                         replace q153 := eq_true q153
                         go_wp2_with (first | (go_at_call 42; (with_reducible refine (graph_in.calls (rd (rd_L1 l0 x41_3) x48_4) (l0.length : Int) true _ A27.out).mono ?_); rintro e w' ⟨rfl, ⟨nd, rfl⟩⟩; (try first | exact ⟨rfl, _, World.drewN_drewN _ _ _⟩ | exact ⟨rfl, _, Eq.trans (World.drewN_drewN _ _ _) (congrArg (World.drewN _) (Nat.add_assoc _ _ _))⟩); obtain ⟨Ao34, co34, eo34⟩ := Kd.R_slice HO_3.out; subst eo34; have p155 : 0 ≤ ((rd (rd_L1 l0 x41_3) x48_4) : Int) := of_decide_eq_true (by assumption); have q155 : (rd (rd_L1 l0 x41_3) x48_4) < (x3_2.length : Int) := of_decide_eq_true (by assumption); obtain ⟨ad155, e155, hx155_0⟩ := Kd.at_int (Kd.R_reads' HO_3.out).2.2 (rd (rd_L1 l0 x41_3) x48_4) p155 q155; cases e155; replace p155 := eq_true p155; replace q155 := eq_true q155; have p156 : 0 ≤ (x41_3 : Int) := of_decide_eq_true (by assumption); have q156 : x41_3 < (x3_2.length : Int) := of_decide_eq_true (by assumption); obtain ⟨ad156, e156, hx156_0⟩ := Kd.at_int (Kd.R_reads' HO_3.out).2.2 x41_3 p156 q156; obtain rfl : ad155 = ad156 := (by injection e156); replace p156 := eq_true p156; replace q156 := eq_true q156))
                         repeat (go_quiet (first | (go_at_call 42; (with_reducible refine (graph_in.calls (rd (rd_L1 l0 x41_3) x48_4) (l0.length : Int) true _ A27.out).mono ?_); rintro e w' ⟨rfl, ⟨nd, rfl⟩⟩; (try first | exact ⟨rfl, _, World.drewN_drewN _ _ _⟩ | exact ⟨rfl, _, Eq.trans (World.drewN_drewN _ _ _) (congrArg (World.drewN _) (Nat.add_assoc _ _ _))⟩); obtain ⟨Ao34, co34, eo34⟩ := Kd.R_slice HO_3.out; subst eo34; have p155 : 0 ≤ ((rd (rd_L1 l0 x41_3) x48_4) : Int) := of_decide_eq_true (by assumption); have q155 : (rd (rd_L1 l0 x41_3) x48_4) < (x3_2.length : Int) := of_decide_eq_true (by assumption); obtain ⟨ad155, e155, hx155_0⟩ := Kd.at_int (Kd.R_reads' HO_3.out).2.2 (rd (rd_L1 l0 x41_3) x48_4) p155 q155; cases e155; replace p155 := eq_true p155; replace q155 := eq_true q155; have p156 : 0 ≤ (x41_3 : Int) := of_decide_eq_true (by assumption); have q156 : x41_3 < (x3_2.length : Int) := of_decide_eq_true (by assumption); obtain ⟨ad156, e156, hx156_0⟩ := Kd.at_int (Kd.R_reads' HO_3.out).2.2 x41_3 p156 q156; obtain rfl : ad155 = ad156 := (by injection e156); replace p156 := eq_true p156; replace q156 := eq_true q156)); try go_wp2_with (first | (go_at_call 42; (with_reducible refine (graph_in.calls (rd (rd_L1 l0 x41_3) x48_4) (l0.length : Int) true _ A27.out).mono ?_); rintro e w' ⟨rfl, ⟨nd, rfl⟩⟩; (try first | exact ⟨rfl, _, World.drewN_drewN _ _ _⟩ | exact ⟨rfl, _, Eq.trans (World.drewN_drewN _ _ _) (congrArg (World.drewN _) (Nat.add_assoc _ _ _))⟩); obtain ⟨Ao34, co34, eo34⟩ := Kd.R_slice HO_3.out; subst eo34; have p155 : 0 ≤ ((rd (rd_L1 l0 x41_3) x48_4) : Int) := of_decide_eq_true (by assumption); have q155 : (rd (rd_L1 l0 x41_3) x48_4) < (x3_2.length : Int) := of_decide_eq_true (by assumption); obtain ⟨ad155, e155, hx155_0⟩ := Kd.at_int (Kd.R_reads' HO_3.out).2.2 (rd (rd_L1 l0 x41_3) x48_4) p155 q155; cases e155; replace p155 := eq_true p155; replace q155 := eq_true q155; have p156 : 0 ≤ (x41_3 : Int) := of_decide_eq_true (by assumption); have q156 : x41_3 < (x3_2.length : Int) := of_decide_eq_true (by assumption); obtain ⟨ad156, e156, hx156_0⟩ := Kd.at_int (Kd.R_reads' HO_3.out).2.2 x41_3 p156 q156; obtain rfl : ad155 = ad156 := (by injection e156); replace p156 := eq_true p156; replace q156 := eq_true q156)))
                         go_ret
                         exact ⟨by first | rfl | (simp [errW_none, errW_some] <;> rfl) | (simp [*, errW_none, errW_some] <;> rfl), by repeat (first | (with_reducible first | exact HB.out | apply below_alloc | apply pw_below_drewN | apply below_drew1) | exact HB.out)⟩
                        ·rw [if_neg c33] at H
                         have c33b0 : decide ((rd x3_2 x41_3) ≤ (rd x3_2 (rd (rd_L1 l0 x41_3) x48_4))) = false := decide_eq_false c33
                         clear c33
                         have H' := Aside0.mk H
                         clear H
                         have p153 : 0 ≤ (x48_4 : Int) := of_decide_eq_true (by assumption)
                         have q153 : x48_4 < ((rd_L1 l0 x41_3).length : Int) := of_decide_eq_true (by assumption)
                         obtain ⟨ad153, e153, hx153_0⟩ := Kd.at_int HR152_0.out x48_4 p153 q153
                         cases e153
                         replace hx153_0 := (HB.out.cell (World.block_lt_of_cell? w _ hx153_0)).trans hx153_0
                         replace p153 := eq_true p153
                         replace q153 := eq_true q153
                         go_wp2_with (first | (go_at_call 42; (with_reducible refine (graph_in.calls (rd (rd_L1 l0 x41_3) x48_4) (l0.length : Int) true _ A27.out).mono ?_); rintro e w' ⟨rfl, ⟨nd, rfl⟩⟩; (try first | exact ⟨rfl, _, World.drewN_drewN _ _ _⟩ | exact ⟨rfl, _, Eq.trans (World.drewN_drewN _ _ _) (congrArg (World.drewN _) (Nat.add_assoc _ _ _))⟩); obtain ⟨Ao35, co35, eo35⟩ := Kd.R_slice HO_3.out; subst eo35; have p155 : 0 ≤ ((rd (rd_L1 l0 x41_3) x48_4) : Int) := of_decide_eq_true (by assumption); have q155 : (rd (rd_L1 l0 x41_3) x48_4) < (x3_2.length : Int) := of_decide_eq_true (by assumption); obtain ⟨ad155, e155, hx155_0⟩ := Kd.at_int (Kd.R_reads' HO_3.out).2.2 (rd (rd_L1 l0 x41_3) x48_4) p155 q155; cases e155; replace p155 := eq_true p155; replace q155 := eq_true q155; have p156 : 0 ≤ (x41_3 : Int) := of_decide_eq_true (by assumption); have q156 : x41_3 < (x3_2.length : Int) := of_decide_eq_true (by assumption); obtain ⟨ad156, e156, hx156_0⟩ := Kd.at_int (Kd.R_reads' HO_3.out).2.2 x41_3 p156 q156; obtain rfl : ad155 = ad156 := (by injection e156); replace p156 := eq_true p156; replace q156 := eq_true q156))
                         repeat (go_quiet (first | (go_at_call 42; (with_reducible refine (graph_in.calls (rd (rd_L1 l0 x41_3) x48_4) (l0.length : Int) true _ A27.out).mono ?_); rintro e w' ⟨rfl, ⟨nd, rfl⟩⟩; (try first | exact ⟨rfl, _, World.drewN_drewN _ _ _⟩ | exact ⟨rfl, _, Eq.trans (World.drewN_drewN _ _ _) (congrArg (World.drewN _) (Nat.add_assoc _ _ _))⟩); obtain ⟨Ao35, co35, eo35⟩ := Kd.R_slice HO_3.out; subst eo35; have p155 : 0 ≤ ((rd (rd_L1 l0 x41_3) x48_4) : Int) := of_decide_eq_true (by assumption); have q155 : (rd (rd_L1 l0 x41_3) x48_4) < (x3_2.length : Int) := of_decide_eq_true (by assumption); obtain ⟨ad155, e155, hx155_0⟩ := Kd.at_int (Kd.R_reads' HO_3.out).2.2 (rd (rd_L1 l0 x41_3) x48_4) p155 q155; cases e155; replace p155 := eq_true p155; replace q155 := eq_true q155; have p156 : 0 ≤ (x41_3 : Int) := of_decide_eq_true (by assumption); have q156 : x41_3 < (x3_2.length : Int) := of_decide_eq_true (by assumption); obtain ⟨ad156, e156, hx156_0⟩ := Kd.at_int (Kd.R_reads' HO_3.out).2.2 x41_3 p156 q156; obtain rfl : ad155 = ad156 := (by injection e156); replace p156 := eq_true p156; replace q156 := eq_true q156)); try go_wp2_with (first | (go_at_call 42; (with_reducible refine (graph_in.calls (rd (rd_L1 l0 x41_3) x48_4) (l0.length : Int) true _ A27.out).mono ?_); rintro e w' ⟨rfl, ⟨nd, rfl⟩⟩; (try first | exact ⟨rfl, _, World.drewN_drewN _ _ _⟩ | exact ⟨rfl, _, Eq.trans (World.drewN_drewN _ _ _) (congrArg (World.drewN _) (Nat.add_assoc _ _ _))⟩); obtain ⟨Ao35, co35, eo35⟩ := Kd.R_slice HO_3.out; subst eo35; have p155 : 0 ≤ ((rd (rd_L1 l0 x41_3) x48_4) : Int) := of_decide_eq_true (by assumption); have q155 : (rd (rd_L1 l0 x41_3) x48_4) < (x3_2.length : Int) := of_decide_eq_true (by assumption); obtain ⟨ad155, e155, hx155_0⟩ := Kd.at_int (Kd.R_reads' HO_3.out).2.2 (rd (rd_L1 l0 x41_3) x48_4) p155 q155; cases e155; replace p155 := eq_true p155; replace q155 := eq_true q155; have p156 : 0 ≤ (x41_3 : Int) := of_decide_eq_true (by assumption); have q156 : x41_3 < (x3_2.length : Int) := of_decide_eq_true (by assumption); obtain ⟨ad156, e156, hx156_0⟩ := Kd.at_int (Kd.R_reads' HO_3.out).2.2 x41_3 p156 q156; obtain rfl : ad155 = ad156 := (by injection e156); replace p156 := eq_true p156; replace q156 := eq_true q156)))
                         go_roundg k4
                         case measure => have := HK1.out; have := HK2.out; have := HK3.out; have := HK4.out; omega
                         case rel => exact ⟨(wrap64 (x48_4 + 1)), (by first | rfl | (simp; done) | (simp [*]; done)), H', ⟨by have := HK1.out; have := HK2.out; have := HK3.out; have := HK4.out; omega⟩, ⟨by (with_reducible repeat (first | apply Kd.R_alloc | apply Kd.R_drewN | apply Kd.R_drew)); exact HO_3.out⟩, ⟨by repeat (first | (with_reducible first | exact HB.out | apply below_alloc | apply pw_below_drewN | apply below_drew1) | exact HB.out)⟩⟩
                       ·rw [if_neg c32] at H
                        exact absurd H (by simp)
                      ·rw [if_neg c31] at H
                       exact absurd H (by simp)
                     ·rw [if_neg c30] at H
                      exact absurd H (by simp)
                    ·rw [if_neg c29] at H
                     exact absurd H (by simp)
                   ·replace c28 := Bool.eq_false_iff.mpr c28
                    subst c28
                    have H1 : (graph_Loop.l3 k4 l0 x3_2 x41_3 l0 (l0.length : Int) x41_3 (rd_L1 l0 x41_3) ((rd_L1 l0 x41_3).length : Int) (wrap64 (x48_4 + 1))) = some r := by rw [if_neg (show ¬ (false = true) by decide)] at H; exact H
                    clear H
                    have H := H1
                    clear H1
                    have H' := Aside0.mk H
                    clear H
                    have p153 : 0 ≤ (x48_4 : Int) := of_decide_eq_true (by assumption)
                    have q153 : x48_4 < ((rd_L1 l0 x41_3).length : Int) := of_decide_eq_true (by assumption)
                    obtain ⟨ad153, e153, hx153_0⟩ := Kd.at_int HR152_0.out x48_4 p153 q153
                    cases e153
                    replace hx153_0 := (HB.out.cell (World.block_lt_of_cell? w _ hx153_0)).trans hx153_0
                    replace p153 := eq_true p153
                    replace q153 := eq_true q153
                    go_wp2_with (first | (go_at_call 42; (with_reducible refine (graph_in.calls (rd (rd_L1 l0 x41_3) x48_4) (l0.length : Int) false _ A27.out).mono ?_); rintro e w' ⟨rfl, ⟨nd, rfl⟩⟩; (try first | exact ⟨rfl, _, World.drewN_drewN _ _ _⟩ | exact ⟨rfl, _, Eq.trans (World.drewN_drewN _ _ _) (congrArg (World.drewN _) (Nat.add_assoc _ _ _))⟩)))
                    repeat (go_quiet (first | (go_at_call 42; (with_reducible refine (graph_in.calls (rd (rd_L1 l0 x41_3) x48_4) (l0.length : Int) false _ A27.out).mono ?_); rintro e w' ⟨rfl, ⟨nd, rfl⟩⟩; (try first | exact ⟨rfl, _, World.drewN_drewN _ _ _⟩ | exact ⟨rfl, _, Eq.trans (World.drewN_drewN _ _ _) (congrArg (World.drewN _) (Nat.add_assoc _ _ _))⟩))); try go_wp2_with (first | (go_at_call 42; (with_reducible refine (graph_in.calls (rd (rd_L1 l0 x41_3) x48_4) (l0.length : Int) false _ A27.out).mono ?_); rintro e w' ⟨rfl, ⟨nd, rfl⟩⟩; (try first | exact ⟨rfl, _, World.drewN_drewN _ _ _⟩ | exact ⟨rfl, _, Eq.trans (World.drewN_drewN _ _ _) (congrArg (World.drewN _) (Nat.add_assoc _ _ _))⟩))))
                    go_roundg k4
                    case measure => have := HK1.out; have := HK2.out; have := HK3.out; have := HK4.out; omega
                    case rel => exact ⟨(wrap64 (x48_4 + 1)), (by first | rfl | (simp; done) | (simp [*]; done)), H', ⟨by have := HK1.out; have := HK2.out; have := HK3.out; have := HK4.out; omega⟩, ⟨by (with_reducible repeat (first | apply Kd.R_alloc | apply Kd.R_drewN | apply Kd.R_drew)); exact HO_3.out⟩, ⟨by repeat (first | (with_reducible first | exact HB.out | apply below_alloc | apply pw_below_drewN | apply below_drew1) | exact HB.out)⟩⟩
                  ·rw [if_neg c26] at H
                   exact absurd H (by simp)
                 ·rw [if_neg c25] at H
                  exact absurd H (by simp)
                ·rw [if_neg c24] at H
                 have c24b0 : decide (x48_4 < ((rd_L1 l0 x41_3).length : Int)) = false := decide_eq_false c24
                 clear c24
                 have H' := Aside0.mk H
                 clear H
                 go_wp2
                 repeat (go_quiet (fail); try go_wp2)
                 go_roundg k4
                 case measure => have := HK1.out; have := HK2.out; have := HK3.out; have := HK4.out; omega
                 case rel => exact ⟨(wrap64 (x41_3 + 1)), (by first | rfl | (simp; done) | (simp [*]; done)), H', ⟨by have := HK1.out; have := HK2.out; have := HK3.out; have := HK4.out; omega⟩, ⟨by (with_reducible repeat (first | apply Kd.R_alloc | apply Kd.R_drewN | apply Kd.R_drew)); exact HO_3.out⟩, ⟨by repeat (first | (with_reducible first | exact HB.out | apply below_alloc | apply pw_below_drewN | apply below_drew1) | exact HB.out)⟩⟩
             ·rw [if_neg c23] at H
              exact absurd H (by simp)
            ·rw [if_neg c22] at H
             exact absurd H (by simp)
           ·rw [if_neg c21] at H
            have c21b0 : decide (x41_3 < (l0.length : Int)) = false := decide_eq_false c21
            clear c21
            obtain rfl := Option.some.inj H
            go_wp2
            repeat (go_quiet (fail); try go_wp2)
            go_ret
            exact ⟨by first | rfl | (simp [errW_none, errW_some] <;> rfl) | (simp [*, errW_none, errW_some] <;> rfl), by repeat (first | (with_reducible first | exact HB.out | apply below_alloc | apply pw_below_drewN | apply below_drew1) | exact HB.out)⟩
  ·rw [if_neg c3] at H
   exact absurd H (by simp)
 ·rw [if_neg c2] at H
  exact absurd H (by simp)

end Go.Proofs.Ytlohkhadbkahdaa.QGraph
