-- Laid by wip/hook.py (this session's own program) out of the translation; with contracts that were written by hand.
import Derived.Test.YtlohkhadbkahdaaQGraphx0
import Derived.Test.YtlohkhadbkahdaaQGraphx1
namespace Go.Proofs.Ytlohkhadbkahdaa.QGraph
open Go.RowKit Go.Proofs.YtlohkhadbkahdaaW.PrintWords Go.Proofs.YtlohkhadbkahdaaW.PrintLast Go.Proofs.YtlohkhadbkahdaaW.PrintMore
attribute [local go_sem] max2_int min2_int max_two min_two max_three min_three max_four min_four   -- for this text's walks alone
set_option linter.unusedVariables false
set_option linter.unusedSimpArgs false

/-! ### graph_Begin: function 27 -/
mutual
def graph_Begin.l0 : Nat → List (List Int) → List Bool → List Int → List Int → Int → Int → Option (List Int)
 | 0, _, _, _, _, _, _ => none
 | k + 1, x0, x5, x6, x15, x16, x17 => if x17 < x16 then (if 0 ≤ x17 then (if x17 < (x15.length : Int) then ((graph_in.f (rd x15 x17) (x0.length : Int)).bind fun t107 => (if t107 = true then (if 0 ≤ (rd x15 x17) then (if (rd x15 x17) < (x5.length : Int) then (graph_Begin.j1 k x0 x5 x6 (rd x15 x17) x15 x16 x17 (rdOf false x5 (rd x15 x17))) else (none)) else (none)) else (graph_Begin.j1 k x0 x5 x6 (rd x15 x17) x15 x16 x17 true))) else (none)) else (none)) else (some x6)
def graph_Begin.j1 : Nat → List (List Int) → List Bool → List Int → Int → List Int → Int → Int → Bool → Option (List Int)
 | 0, _, _, _, _, _, _, _, _ => none
 | k + 1, x0, x5, x6, x8, x15, x16, x17, x31 => if x31 = true then (graph_Begin.l0 k x0 x5 x6 x15 x16 (wrap64 (x17 + 1))) else (if 0 ≤ x8 then (if x8 < (x5.length : Int) then (graph_Begin.l1 k x0 (x5.set (x8 : Int).toNat true) x6 (([(⟨x8, 0⟩ : S75)] : List (S75))) x15 x16 x17) else (none)) else (none))
def graph_Begin.l1 : Nat → List (List Int) → List Bool → List Int → List (S75) → List Int → Int → Int → Option (List Int)
 | 0, _, _, _, _, _, _, _ => none
 | k + 1, x0, x5, x6, x9, x15, x16, x17 => if (x9.length : Int) > 0 then (if 0 ≤ (wrap64 ((x9.length : Int) - 1)) then (if (wrap64 ((x9.length : Int) - 1)) < (x9.length : Int) then (if 0 ≤ ((rd_T75 x9 (wrap64 ((x9.length : Int) - 1))).f0) then (if ((rd_T75 x9 (wrap64 ((x9.length : Int) - 1))).f0) < (x0.length : Int) then (if ((rd_T75 x9 (wrap64 ((x9.length : Int) - 1))).f1) = ((rd_L1 x0 ((rd_T75 x9 (wrap64 ((x9.length : Int) - 1))).f0)).length : Int) then (if x6.length < 17592186044416 then (if (wrap64 ((x9.length : Int) - 1)) ≤ (x9.length : Int) then (graph_Begin.l1 k x0 x5 (x6 ++ [(rd_T75 x9 (wrap64 ((x9.length : Int) - 1))).f0]) (x9.take ((wrap64 ((x9.length : Int) - 1)) : Int).toNat) x15 x16 x17) else (none)) else (none)) else (if 0 ≤ ((rd_T75 x9 (wrap64 ((x9.length : Int) - 1))).f1) then (if ((rd_T75 x9 (wrap64 ((x9.length : Int) - 1))).f1) < ((rd_L1 x0 ((rd_T75 x9 (wrap64 ((x9.length : Int) - 1))).f0)).length : Int) then ((some (x9.set ((wrap64 ((x9.length : Int) - 1)) : Int).toNat (⟨(rd_T75 x9 (wrap64 ((x9.length : Int) - 1))).f0, wrap64 (((rd_T75 x9 (wrap64 ((x9.length : Int) - 1))).f1) + 1)⟩ : S75) : List (S75))).bind fun y122 => ((graph_in.f (rd (rd_L1 x0 ((rd_T75 x9 (wrap64 ((x9.length : Int) - 1))).f0)) ((rd_T75 x9 (wrap64 ((x9.length : Int) - 1))).f1)) (x0.length : Int)).bind fun t123 => (if t123 = true then (if 0 ≤ (rd (rd_L1 x0 ((rd_T75 x9 (wrap64 ((x9.length : Int) - 1))).f0)) ((rd_T75 x9 (wrap64 ((x9.length : Int) - 1))).f1)) then (if (rd (rd_L1 x0 ((rd_T75 x9 (wrap64 ((x9.length : Int) - 1))).f0)) ((rd_T75 x9 (wrap64 ((x9.length : Int) - 1))).f1)) < (x5.length : Int) then (if rdOf false x5 (rd (rd_L1 x0 ((rd_T75 x9 (wrap64 ((x9.length : Int) - 1))).f0)) ((rd_T75 x9 (wrap64 ((x9.length : Int) - 1))).f1)) = true then (graph_Begin.l1 k x0 x5 x6 y122 x15 x16 x17) else (if y122.length < 8796093022208 then (graph_Begin.l1 k x0 (x5.set ((rd (rd_L1 x0 ((rd_T75 x9 (wrap64 ((x9.length : Int) - 1))).f0)) ((rd_T75 x9 (wrap64 ((x9.length : Int) - 1))).f1)) : Int).toNat true) x6 (y122 ++ [(⟨rd (rd_L1 x0 ((rd_T75 x9 (wrap64 ((x9.length : Int) - 1))).f0)) ((rd_T75 x9 (wrap64 ((x9.length : Int) - 1))).f1), 0⟩ : S75)]) x15 x16 x17) else (none))) else (none)) else (none)) else (graph_Begin.l1 k x0 x5 x6 y122 x15 x16 x17)))) else (none)) else (none))) else (none)) else (none)) else (none)) else (none)) else (graph_Begin.l0 k x0 x5 x6 x15 x16 (wrap64 (x17 + 1)))
end
def graph_Begin.f (k : Nat) (l0 : List (List Int)) (l1 : List Int) : Option (List Int) := if 0 ≤ (l0.length : Int) then (if ((l0.length : Int) : Int).toNat ≤ 281474976710656 then (graph_Begin.l0 k l0 (List.replicate ((l0.length : Int) : Int).toNat false) ([] : List Int) l1 (l1.length : Int) 0) else (none)) else (none)
theorem graph_Begin.mono_l : ∀ k, (∀ y0 y1 y2 y3 y4 y5, LeO (graph_Begin.l0 k y0 y1 y2 y3 y4 y5) (graph_Begin.l0 (k + 1) y0 y1 y2 y3 y4 y5)) ∧ (∀ y0 y1 y2 y3 y4 y5 y6 y7, LeO (graph_Begin.j1 k y0 y1 y2 y3 y4 y5 y6 y7) (graph_Begin.j1 (k + 1) y0 y1 y2 y3 y4 y5 y6 y7)) ∧ (∀ y0 y1 y2 y3 y4 y5 y6, LeO (graph_Begin.l1 k y0 y1 y2 y3 y4 y5 y6) (graph_Begin.l1 (k + 1) y0 y1 y2 y3 y4 y5 y6))
 | 0 => ⟨fun _ _ _ _ _ _ r h => by simp [graph_Begin.l0] at h, fun _ _ _ _ _ _ _ _ r h => by simp [graph_Begin.j1] at h, fun _ _ _ _ _ _ _ r h => by simp [graph_Begin.l1] at h⟩
 | k + 1 => by
  obtain ⟨ih0, ih1, ih2⟩ := graph_Begin.mono_l k
  refine ⟨?_, ?_, ?_⟩
  ·intro y0 y1 y2 y3 y4 y5
   unfold graph_Begin.l0
   repeat' first
   | (with_reducible exact ih0 _ _ _ _ _ _)
   | (with_reducible exact ih1 _ _ _ _ _ _ _ _)
   | (with_reducible exact ih2 _ _ _ _ _ _ _)
   | (with_reducible exact LeO.refl _)
   | (with_reducible exact LeO.none _)
   | (with_reducible refine LeO.ite ?_ ?_)
   | (with_reducible refine LeO.bind ?_ (fun _ => ?_))
   | exact ih0 _ _ _ _ _ _
   | exact ih1 _ _ _ _ _ _ _ _
   | exact ih2 _ _ _ _ _ _ _
   | exact LeO.none _
   | refine LeO.ite ?_ ?_
   | refine LeO.bind ?_ (fun _ => ?_)
  ·intro y0 y1 y2 y3 y4 y5 y6 y7
   unfold graph_Begin.j1
   repeat' first
   | (with_reducible exact ih0 _ _ _ _ _ _)
   | (with_reducible exact ih1 _ _ _ _ _ _ _ _)
   | (with_reducible exact ih2 _ _ _ _ _ _ _)
   | (with_reducible exact LeO.refl _)
   | (with_reducible exact LeO.none _)
   | (with_reducible refine LeO.ite ?_ ?_)
   | (with_reducible refine LeO.bind ?_ (fun _ => ?_))
   | exact ih0 _ _ _ _ _ _
   | exact ih1 _ _ _ _ _ _ _ _
   | exact ih2 _ _ _ _ _ _ _
   | exact LeO.none _
   | refine LeO.ite ?_ ?_
   | refine LeO.bind ?_ (fun _ => ?_)
  ·intro y0 y1 y2 y3 y4 y5 y6
   unfold graph_Begin.l1
   repeat' first
   | (with_reducible exact ih0 _ _ _ _ _ _)
   | (with_reducible exact ih1 _ _ _ _ _ _ _ _)
   | (with_reducible exact ih2 _ _ _ _ _ _ _)
   | (with_reducible exact LeO.refl _)
   | (with_reducible exact LeO.none _)
   | (with_reducible refine LeO.ite ?_ ?_)
   | (with_reducible refine LeO.bind ?_ (fun _ => ?_))
   | exact ih0 _ _ _ _ _ _
   | exact ih1 _ _ _ _ _ _ _ _
   | exact ih2 _ _ _ _ _ _ _
   | exact LeO.none _
   | refine LeO.ite ?_ ?_
   | refine LeO.bind ?_ (fun _ => ?_)
theorem graph_Begin.mono : ∀ a0 a1 k, LeO (graph_Begin.f k a0 a1) (graph_Begin.f (k + 1) a0 a1) := by
 intro a0 a1 k
 obtain ⟨ih0, ih1, ih2⟩ := graph_Begin.mono_l k
 unfold graph_Begin.f
 repeat' first
   | (with_reducible exact ih0 _ _ _ _ _ _)
   | (with_reducible exact ih1 _ _ _ _ _ _ _ _)
   | (with_reducible exact ih2 _ _ _ _ _ _ _)
   | (with_reducible exact LeO.refl _)
   | (with_reducible exact LeO.none _)
   | (with_reducible refine LeO.ite ?_ ?_)
   | (with_reducible refine LeO.bind ?_ (fun _ => ?_))
   | exact ih0 _ _ _ _ _ _
   | exact ih1 _ _ _ _ _ _ _ _
   | exact ih2 _ _ _ _ _ _ _
   | exact LeO.none _
   | refine LeO.ite ?_ ?_
   | refine LeO.bind ?_ (fun _ => ?_)
set_option maxHeartbeats 8000000 in
set_option maxRecDepth 100000 in
theorem graph_Begin.calls (k : Nat) (A0 : Option Addr) (c0 : Nat) (l0 : List (List Int)) (A1 : Option Addr) (c1 : Nat) (l1 : List Int) (r : List Int) (w : World) (hr0 : Kd.C (Kd.slice 3 (Kd.int .i64)) w A0 l0.length l0) (hc0 : l0.length ≤ c0) (hr1 : Kd.C (Kd.int .i64) w A1 l1.length l1) (hc1 : l1.length ≤ c1) (h : graph_Begin.f k l0 l1 = some r) :
  Calls Try.prog 27 #[.slice A0 l0.length c0, .slice A1 l1.length c1] w fun e w' => ∃ v0_ : Value, e = .returned (v0_) ∧ Kd.R (Kd.int .i64) 3 w' w.heap.size (fun _ => True) v0_ r ∧ Below w.heap.size w w' := by
 have hu75 := Try.underlying75
 have HR0 := Aside0.mk hr0
 have HC0 := Aside0.mk hc0
 clear hr0 hc0
 have HR1 := Aside0.mk hr1
 have HC1 := Aside0.mk hc1
 clear hr1 hc1
 have HB := Aside0.mk (Below.refl w.heap.size w)
 have H : (if 0 ≤ (l0.length : Int) then (if ((l0.length : Int) : Int).toNat ≤ 281474976710656 then (graph_Begin.l0 k l0 (List.replicate ((l0.length : Int) : Int).toNat false) ([] : List Int) l1 (l1.length : Int) 0) else (none)) else (none)) = some r := h
 clear h
 by_cases c3 : 0 ≤ (l0.length : Int)
 ·rw [if_pos c3] at H
  have c3b0 := eq_true c3
  have c3b1 : decide (0 ≤ (l0.length : Int)) = true := decide_eq_true c3
  clear c3
  by_cases c4 : ((l0.length : Int) : Int).toNat ≤ 281474976710656
  ·rw [if_pos c4] at H
   have c4b0 := eq_true c4
   have c4b1 : decide (((l0.length : Int) : Int).toNat ≤ 281474976710656) = true := decide_eq_true c4
   clear c4
   obtain ⟨y103, hy103⟩ : ∃ y_ : List Bool, y_ = (List.replicate ((l0.length : Int) : Int).toNat false) := ⟨_, rfl⟩
   replace H : (graph_Begin.l0 k l0 y103 ([] : List Int) l1 (l1.length : Int) 0) = some r := by first | (rw [hy103]; with_reducible exact H) | (have H2_ := (Option.bind_some _ _).symm.trans H; rw [hy103]; with_reducible exact H2_) | (have H2_ := (Option.bind_some _ _).symm.trans H; with_reducible exact H2_) | with_reducible exact H | (rw [hy103]; exact H) | exact H
   have Ny103 := Aside0.mk hy103
   clear hy103
   have H' := Aside0.mk H
   clear H
   go_enter Try.func27, Try.ntmps27
   go_wp2_with (first | ((with_reducible refine gate_dst (N := 14) rfl ?_); refine Kd.R_make Kd.bool _ 4 rfl (N := 14) rfl 47 _ _ rfl (l0.length : Int) rfl rfl Try.underlying47 (.bool false) 1 info4 rfl (by decide) (by omega) false (ok := fun _ => True) (okp := fun _ => True) rfl (fun _ hk => hk) trivial (of_decide_eq_true (by assumption)) (Nat.le_trans (Nat.mul_le_mul_right _ (of_decide_eq_true (by assumption) : (l0.length : Int).toNat ≤ 281474976710656)) (by omega)) (Below.refl _ _) (Nat.le_refl _) ?_; intro v104 w5 ho6 hb hg_ hnew_; clear hg_ hnew_; (first | rw [← Ny103.out] at ho6 | (simp only [Int.reduceToNat] at ho6; rw [← Ny103.out] at ho6)); have n0_ := Aside0.mk (Kd.R_lower ho6 (below_size (by repeat (first | (with_reducible first | exact HB.out | apply below_alloc | apply pw_below_drewN | apply below_drew1) | exact HB.out)))); have n1_ := Aside0.mk (below_step (by repeat (first | (with_reducible first | exact HB.out | apply below_alloc | apply pw_below_drewN | apply below_drew1) | exact HB.out)) hb); clear HB; have HO105 := n0_; have HB := n1_; clear n0_ n1_; clear hb ho6))
   repeat (go_quiet (first | ((with_reducible refine gate_dst (N := 14) rfl ?_); refine Kd.R_make Kd.bool _ 4 rfl (N := 14) rfl 47 _ _ rfl (l0.length : Int) rfl rfl Try.underlying47 (.bool false) 1 info4 rfl (by decide) (by omega) false (ok := fun _ => True) (okp := fun _ => True) rfl (fun _ hk => hk) trivial (of_decide_eq_true (by assumption)) (Nat.le_trans (Nat.mul_le_mul_right _ (of_decide_eq_true (by assumption) : (l0.length : Int).toNat ≤ 281474976710656)) (by omega)) (Below.refl _ _) (Nat.le_refl _) ?_; intro v104 w5 ho6 hb hg_ hnew_; clear hg_ hnew_; (first | rw [← Ny103.out] at ho6 | (simp only [Int.reduceToNat] at ho6; rw [← Ny103.out] at ho6)); have n0_ := Aside0.mk (Kd.R_lower ho6 (below_size (by repeat (first | (with_reducible first | exact HB.out | apply below_alloc | apply pw_below_drewN | apply below_drew1) | exact HB.out)))); have n1_ := Aside0.mk (below_step (by repeat (first | (with_reducible first | exact HB.out | apply below_alloc | apply pw_below_drewN | apply below_drew1) | exact HB.out)) hb); clear HB; have HO105 := n0_; have HB := n1_; clear n0_ n1_; clear hb ho6)); try go_wp2_with (first | ((with_reducible refine gate_dst (N := 14) rfl ?_); refine Kd.R_make Kd.bool _ 4 rfl (N := 14) rfl 47 _ _ rfl (l0.length : Int) rfl rfl Try.underlying47 (.bool false) 1 info4 rfl (by decide) (by omega) false (ok := fun _ => True) (okp := fun _ => True) rfl (fun _ hk => hk) trivial (of_decide_eq_true (by assumption)) (Nat.le_trans (Nat.mul_le_mul_right _ (of_decide_eq_true (by assumption) : (l0.length : Int).toNat ≤ 281474976710656)) (by omega)) (Below.refl _ _) (Nat.le_refl _) ?_; intro v104 w5 ho6 hb hg_ hnew_; clear hg_ hnew_; (first | rw [← Ny103.out] at ho6 | (simp only [Int.reduceToNat] at ho6; rw [← Ny103.out] at ho6)); have n0_ := Aside0.mk (Kd.R_lower ho6 (below_size (by repeat (first | (with_reducible first | exact HB.out | apply below_alloc | apply pw_below_drewN | apply below_drew1) | exact HB.out)))); have n1_ := Aside0.mk (below_step (by repeat (first | (with_reducible first | exact HB.out | apply below_alloc | apply pw_below_drewN | apply below_drew1) | exact HB.out)) hb); clear HB; have HO105 := n0_; have HB := n1_; clear n0_ n1_; clear hb ho6)))
   go_loopg [6, 17] k (fun kq v6 v17 w' => ∃ (x5_1 : List Bool) (x6_1 : List Int) (x17_1 : Int), v17 = .int .i64 x17_1 ∧ Aside0 (graph_Begin.l0 kq l0 x5_1 x6_1 l1 (l1.length : Int) x17_1 = some r) ∧ Aside0 (kq ≤ k) ∧ Aside0 (Kd.R Kd.bool 4 w' w.heap.size (fun _ => True) v104 x5_1) ∧ Aside0 (Kd.R (Kd.int .i64) 3 w' w.heap.size (fun _ => True) v6 x6_1) ∧ Aside0 (Below w.heap.size w w'))
   case atStart => exact ⟨(y103), (([] : List Int)), (0), (by first | rfl | (simp; done) | (simp [*]; done)), H', ⟨Nat.le_refl _⟩, ⟨by (with_reducible repeat (first | apply Kd.R_alloc | apply Kd.R_drewN | apply Kd.R_drew)); exact HO105.out⟩, ⟨by first | exact Kd.R_nil _ _ _ _ _ | exact Kd.N_nil _ _ _ _ _ | exact Kd.V_nil _ _ _ _ _ | exact Kd.Q_nil _ _ _ _ _ | exact Kd.S_nil _ _ _ _ _⟩, ⟨by repeat (first | (with_reducible first | exact HB.out | apply below_alloc | apply pw_below_drewN | apply below_drew1) | exact HB.out)⟩⟩
   case round =>
    clear H'
    try clear c1
    try clear c2
    try clear p2
    try clear c3
    try clear c3b0
    try clear c3b1
    try clear c4
    try clear c4b0
    try clear c4b1
    obtain ⟨x5_1, x6_1, x17_1, rfl, HA, HK1, HO_5, HO_6, HB⟩ := hrel
    cases gk with
    | zero => exact absurd HA.out (by simp [graph_Begin.l0])
    | succ k1 =>
     have H := HA.out
     clear HA
     simp only [graph_Begin.l0] at H
     by_cases c7 : x17_1 < (l1.length : Int)
     ·rw [if_pos c7] at H
      have c7b0 : decide (x17_1 < (l1.length : Int)) = true := decide_eq_true c7
      clear c7
      by_cases c8 : 0 ≤ x17_1
      ·rw [if_pos c8] at H
       have c8b0 : decide (0 ≤ x17_1) = true := decide_eq_true c8
       clear c8
       by_cases c9 : x17_1 < (l1.length : Int)
       ·rw [if_pos c9] at H
        have c9b0 : decide (x17_1 < (l1.length : Int)) = true := decide_eq_true c9
        clear c9
        have HC10 := Aside0.mk H
        clear H
        have p106 : 0 ≤ (x17_1 : Int) := of_decide_eq_true (by assumption)
        have q106 : x17_1 < (l1.length : Int) := of_decide_eq_true (by assumption)
        obtain ⟨ad106, e106, hx106_0⟩ := Kd.at_int HR1.out x17_1 p106 q106
        cases e106
        replace hx106_0 := (HB.out.cell (World.block_lt_of_cell? w _ hx106_0)).trans hx106_0
        replace p106 := eq_true p106
        replace q106 := eq_true q106
        go_upto_region 6 with (fail)
        repeat (go_quiet (fail); go_upto_region 6 with (fail))
        go_cut [31] (fun v31 wc => ∃ (kq : Nat) (x31_9 : Bool), v31 = .bool x31_9 ∧ Aside0 (graph_Begin.j1 kq l0 x5_1 x6_1 (rd l1 x17_1) l1 (l1.length : Int) x17_1 x31_9 = some r) ∧ Aside0 (kq ≤ k1) ∧ Aside0 (Kd.R Kd.bool 4 wc w.heap.size (fun _ => True) v104 x5_1) ∧ Aside0 (Kd.R (Kd.int .i64) 3 wc w.heap.size (fun _ => True) u6 x6_1) ∧ Aside0 (Below w.heap.size w wc))
        case first =>
         have H := HC10.out
         clear HC10
         replace H := Option.bind_eq_some_iff.mp H
         obtain ⟨t107, A110, H⟩ := H
         replace H : (if t107 = true then (if 0 ≤ (rd l1 x17_1) then (if (rd l1 x17_1) < (x5_1.length : Int) then (graph_Begin.j1 k1 l0 x5_1 x6_1 (rd l1 x17_1) l1 (l1.length : Int) x17_1 (rdOf false x5_1 (rd l1 x17_1))) else (none)) else (none)) else (graph_Begin.j1 k1 l0 x5_1 x6_1 (rd l1 x17_1) l1 (l1.length : Int) x17_1 true)) = some r := H
         have A11 := Aside0.mk A110
         clear A110
         by_cases c12 : t107 = true
         ·subst c12
          have H1 : (if 0 ≤ (rd l1 x17_1) then (if (rd l1 x17_1) < (x5_1.length : Int) then (graph_Begin.j1 k1 l0 x5_1 x6_1 (rd l1 x17_1) l1 (l1.length : Int) x17_1 (rdOf false x5_1 (rd l1 x17_1))) else (none)) else (none)) = some r := by rw [if_pos rfl] at H; exact H
          clear H
          have H := H1
          clear H1
          by_cases c13 : 0 ≤ (rd l1 x17_1)
          ·rw [if_pos c13] at H
           have c13b0 : decide (0 ≤ (rd l1 x17_1)) = true := decide_eq_true c13
           clear c13
           (first | rw [c13b0] | (simp only [i64_w, i32_w]; rw [c13b0]) | skip)
           by_cases c14 : (rd l1 x17_1) < (x5_1.length : Int)
           ·rw [if_pos c14] at H
            have c14b0 : decide ((rd l1 x17_1) < (x5_1.length : Int)) = true := decide_eq_true c14
            clear c14
            have H' := Aside0.mk H
            clear H
            go_wp2_with (first | (go_at_call 42; (with_reducible refine (graph_in.calls (rd l1 x17_1) (l0.length : Int) true _ A11.out).mono ?_); rintro e w' ⟨rfl, ⟨nd, rfl⟩⟩; (try first | exact ⟨rfl, _, World.drewN_drewN _ _ _⟩ | exact ⟨rfl, _, Eq.trans (World.drewN_drewN _ _ _) (congrArg (World.drewN _) (Nat.add_assoc _ _ _))⟩); obtain ⟨Ao15, co15, eo15⟩ := Kd.R_slice HO_5.out; subst eo15; have p108 : 0 ≤ ((rd l1 x17_1) : Int) := of_decide_eq_true (by assumption); have q108 : (rd l1 x17_1) < (x5_1.length : Int) := of_decide_eq_true (by assumption); obtain ⟨ad108, e108, hx108_0⟩ := Kd.at_bool (Kd.R_reads' HO_5.out).2.2 (rd l1 x17_1) p108 q108; cases e108; replace p108 := eq_true p108; replace q108 := eq_true q108))
            repeat (go_quiet (first | (go_at_call 42; (with_reducible refine (graph_in.calls (rd l1 x17_1) (l0.length : Int) true _ A11.out).mono ?_); rintro e w' ⟨rfl, ⟨nd, rfl⟩⟩; (try first | exact ⟨rfl, _, World.drewN_drewN _ _ _⟩ | exact ⟨rfl, _, Eq.trans (World.drewN_drewN _ _ _) (congrArg (World.drewN _) (Nat.add_assoc _ _ _))⟩); obtain ⟨Ao15, co15, eo15⟩ := Kd.R_slice HO_5.out; subst eo15; have p108 : 0 ≤ ((rd l1 x17_1) : Int) := of_decide_eq_true (by assumption); have q108 : (rd l1 x17_1) < (x5_1.length : Int) := of_decide_eq_true (by assumption); obtain ⟨ad108, e108, hx108_0⟩ := Kd.at_bool (Kd.R_reads' HO_5.out).2.2 (rd l1 x17_1) p108 q108; cases e108; replace p108 := eq_true p108; replace q108 := eq_true q108)); try go_wp2_with (first | (go_at_call 42; (with_reducible refine (graph_in.calls (rd l1 x17_1) (l0.length : Int) true _ A11.out).mono ?_); rintro e w' ⟨rfl, ⟨nd, rfl⟩⟩; (try first | exact ⟨rfl, _, World.drewN_drewN _ _ _⟩ | exact ⟨rfl, _, Eq.trans (World.drewN_drewN _ _ _) (congrArg (World.drewN _) (Nat.add_assoc _ _ _))⟩); obtain ⟨Ao15, co15, eo15⟩ := Kd.R_slice HO_5.out; subst eo15; have p108 : 0 ≤ ((rd l1 x17_1) : Int) := of_decide_eq_true (by assumption); have q108 : (rd l1 x17_1) < (x5_1.length : Int) := of_decide_eq_true (by assumption); obtain ⟨ad108, e108, hx108_0⟩ := Kd.at_bool (Kd.R_reads' HO_5.out).2.2 (rd l1 x17_1) p108 q108; cases e108; replace p108 := eq_true p108; replace q108 := eq_true q108)))
            go_meet
            case rel => exact ⟨_, (rdOf false x5_1 (rd l1 x17_1)), (by first | rfl | (simp; done) | (simp [*]; done)), H', ⟨by have := HK1.out; first | omega | exact Nat.le_refl _⟩, ⟨by (with_reducible repeat (first | apply Kd.R_alloc | apply Kd.R_drewN | apply Kd.R_drew)); exact HO_5.out⟩, ⟨by (with_reducible repeat (first | apply Kd.R_alloc | apply Kd.R_drewN | apply Kd.R_drew)); exact HO_6.out⟩, ⟨by repeat (first | (with_reducible first | exact HB.out | apply below_alloc | apply pw_below_drewN | apply below_drew1) | exact HB.out)⟩⟩
           ·rw [if_neg c14] at H
            exact absurd H (by simp)
          ·rw [if_neg c13] at H
           exact absurd H (by simp)
         ·replace c12 := Bool.eq_false_iff.mpr c12
          subst c12
          have H1 : (graph_Begin.j1 k1 l0 x5_1 x6_1 (rd l1 x17_1) l1 (l1.length : Int) x17_1 true) = some r := by rw [if_neg (show ¬ (false = true) by decide)] at H; exact H
          clear H
          have H := H1
          clear H1
          have H' := Aside0.mk H
          clear H
          go_wp2_with (first | (go_at_call 42; (with_reducible refine (graph_in.calls (rd l1 x17_1) (l0.length : Int) false _ A11.out).mono ?_); rintro e w' ⟨rfl, ⟨nd, rfl⟩⟩; (try first | exact ⟨rfl, _, World.drewN_drewN _ _ _⟩ | exact ⟨rfl, _, Eq.trans (World.drewN_drewN _ _ _) (congrArg (World.drewN _) (Nat.add_assoc _ _ _))⟩)))
          repeat (go_quiet (first | (go_at_call 42; (with_reducible refine (graph_in.calls (rd l1 x17_1) (l0.length : Int) false _ A11.out).mono ?_); rintro e w' ⟨rfl, ⟨nd, rfl⟩⟩; (try first | exact ⟨rfl, _, World.drewN_drewN _ _ _⟩ | exact ⟨rfl, _, Eq.trans (World.drewN_drewN _ _ _) (congrArg (World.drewN _) (Nat.add_assoc _ _ _))⟩))); try go_wp2_with (first | (go_at_call 42; (with_reducible refine (graph_in.calls (rd l1 x17_1) (l0.length : Int) false _ A11.out).mono ?_); rintro e w' ⟨rfl, ⟨nd, rfl⟩⟩; (try first | exact ⟨rfl, _, World.drewN_drewN _ _ _⟩ | exact ⟨rfl, _, Eq.trans (World.drewN_drewN _ _ _) (congrArg (World.drewN _) (Nat.add_assoc _ _ _))⟩))))
          go_meet
          case rel => exact ⟨_, (true), (by first | rfl | (simp; done) | (simp [*]; done)), H', ⟨by have := HK1.out; first | omega | exact Nat.le_refl _⟩, ⟨by (with_reducible repeat (first | apply Kd.R_alloc | apply Kd.R_drewN | apply Kd.R_drew)); exact HO_5.out⟩, ⟨by (with_reducible repeat (first | apply Kd.R_alloc | apply Kd.R_drewN | apply Kd.R_drew)); exact HO_6.out⟩, ⟨by repeat (first | (with_reducible first | exact HB.out | apply below_alloc | apply pw_below_drewN | apply below_drew1) | exact HB.out)⟩⟩
        case rest =>
         clear HC10
         try clear c1
         try clear p1
         try clear q1
         try clear hx1
         try clear c2
         try clear p2
         try clear c3
         try clear c3b0
         try clear c3b1
         try clear c4
         try clear c4b0
         try clear c4b1
         try clear c7
         try clear c7b0
         try clear c8
         try clear c8b0
         try clear c9
         try clear c9b0
         try clear p10
         try clear q10
         try clear hx10
         try clear c12
         try clear c13
         try clear c13b0
         try clear c14
         try clear c14b0
         try clear hx106_0
         try clear hx108_0
         try clear p106
         try clear p108
         try clear p2
         try clear q106
         try clear q108
         obtain ⟨kq, x31_9, rfl, HA, HJ9, HO_5, HO_6, HB⟩ := hcut
         cases kq with
         | zero => exact absurd HA.out (by simp [graph_Begin.j1])
         | succ kj9 =>
          have H := HA.out
          clear HA
          simp only [graph_Begin.j1] at H
          by_cases c16 : x31_9 = true
          ·subst c16
           have H1 : (graph_Begin.l0 kj9 l0 x5_1 x6_1 l1 (l1.length : Int) (wrap64 (x17_1 + 1))) = some r := by rw [if_pos rfl] at H; exact H
           clear H
           have H := H1
           clear H1
           have H' := Aside0.mk H
           clear H
           go_wp2
           repeat (go_quiet (fail); try go_wp2)
           go_roundg kj9
           case measure => have := HK1.out; have := HJ9.out; omega
           case rel => exact ⟨(x5_1), (x6_1), (wrap64 (x17_1 + 1)), (by first | rfl | (simp; done) | (simp [*]; done)), H', ⟨by have := HK1.out; have := HJ9.out; omega⟩, ⟨by (with_reducible repeat (first | apply Kd.R_alloc | apply Kd.R_drewN | apply Kd.R_drew)); exact HO_5.out⟩, ⟨by (with_reducible repeat (first | apply Kd.R_alloc | apply Kd.R_drewN | apply Kd.R_drew)); exact HO_6.out⟩, ⟨by repeat (first | (with_reducible first | exact HB.out | apply below_alloc | apply pw_below_drewN | apply below_drew1) | exact HB.out)⟩⟩
          ·replace c16 := Bool.eq_false_iff.mpr c16
           subst c16
           have H1 : (if 0 ≤ (rd l1 x17_1) then (if (rd l1 x17_1) < (x5_1.length : Int) then (graph_Begin.l1 kj9 l0 (x5_1.set ((rd l1 x17_1) : Int).toNat true) x6_1 (([(⟨(rd l1 x17_1), 0⟩ : S75)] : List (S75))) l1 (l1.length : Int) x17_1) else (none)) else (none)) = some r := by rw [if_neg (show ¬ (false = true) by decide)] at H; exact H
           clear H
           have H := H1
           clear H1
           by_cases c17 : 0 ≤ (rd l1 x17_1)
           ·rw [if_pos c17] at H
            have c17b0 : decide (0 ≤ (rd l1 x17_1)) = true := decide_eq_true c17
            clear c17
            by_cases c18 : (rd l1 x17_1) < (x5_1.length : Int)
            ·rw [if_pos c18] at H
             have c18b0 : decide ((rd l1 x17_1) < (x5_1.length : Int)) = true := decide_eq_true c18
             clear c18
             obtain ⟨y109, hy109⟩ : ∃ y_ : List Bool, y_ = (x5_1.set ((rd l1 x17_1) : Int).toNat true) := ⟨_, rfl⟩
             replace H : (graph_Begin.l1 kj9 l0 y109 x6_1 (([(⟨(rd l1 x17_1), 0⟩ : S75)] : List (S75))) l1 (l1.length : Int) x17_1) = some r := by first | (rw [hy109]; with_reducible exact H) | (have H2_ := (Option.bind_some _ _).symm.trans H; rw [hy109]; with_reducible exact H2_) | (have H2_ := (Option.bind_some _ _).symm.trans H; with_reducible exact H2_) | with_reducible exact H | (rw [hy109]; exact H) | exact H
             have Ny109 := Aside0.mk hy109
             clear hy109
             obtain ⟨y110, hy110⟩ : ∃ y_ : List (S75), y_ = (([(⟨(rd l1 x17_1), 0⟩ : S75)] : List (S75))) := ⟨_, rfl⟩
             replace H : (graph_Begin.l1 kj9 l0 y109 x6_1 y110 l1 (l1.length : Int) x17_1) = some r := by first | (rw [hy110]; with_reducible exact H) | (have H2_ := (Option.bind_some _ _).symm.trans H; rw [hy110]; with_reducible exact H2_) | (have H2_ := (Option.bind_some _ _).symm.trans H; with_reducible exact H2_) | with_reducible exact H | (rw [hy110]; exact H) | exact H
             have Ny110 := Aside0.mk hy110
             clear hy110
             have H' := Aside0.mk H
             clear H
             have p19 : 0 ≤ ((rd l1 x17_1) : Int) := of_decide_eq_true (by assumption)
             have q19 : ((rd l1 x17_1) : Int) < ((x5_1.length : Int) : Int) := of_decide_eq_true (by assumption)
             obtain ⟨go19, co19, eo19, gb19, gl19, cl19, HG19⟩ := Kd.R_form HO_5.out (by omega)
             (first | cases eo19 | (injection eo19 with ea_ en_ ec_; (first | subst ea_ | (injection ea_ with ea_; subst ea_)); subst ec_; clear en_))
             have GB19 := Aside0.mk gb19
             have GG19 := Aside0.mk HG19
             clear gb19 gl19 HG19
             obtain ⟨hx19_0, hf19_0⟩ := Kd.R_celln false HO_5.out ((rd l1 x17_1) : Int) p19 q19
             replace p19 := eq_true p19
             replace q19 := eq_true q19
             have HP20 := Kd.R_putg HO_5.out ((rd l1 x17_1) : Int) true
             go_wp2_with (first | ((with_reducible refine gate_store (t := 4) (p := 34) rfl ?_); (try (rw [drewN_self wc]; generalize hq_ : World.drewN wc _ = wc; have n0_ := Aside0.mk (Kd.R_at hq_ HO_5.out); have n1_ := Aside0.mk (Kd.R_at hq_ HO_6.out); have n2_ := Aside0.mk (below_at hq_ HB.out); clear hq_ HO_5 HO_6 HB; have HO_5 := n0_; have HO_6 := n1_; have HB := n2_; clear n0_ n1_ n2_; (try (have HP20 := Kd.R_putg HO_5.out ((rd l1 x17_1) : Int) true)))); refine store_event (t := 4) (p := 34) (v := ?vo_w21) (w1 := (wc.setCell ⟨go19, ((rd l1 x17_1) : Int).toNat, none⟩ (.bool true))) ?hg ?ho ?hn ?hr ?_; (case ho => rfl); (case hg => rfl); (case hn => rfl); (case hr => first | (go_simp; done) | (go_simp; rfl)); intro w21 hw; have hg : wc.grownBy w21 (some go19) := (by rw [hw]; exact HP20.2); have hp_ : Kd.R Kd.bool 4 w21 w.heap.size (fun _ => True) (.slice (some ⟨go19, 0, none⟩) x5_1.length co19) y109 := (by rw [hw, Ny109.out]; exact HP20.1); clear HP20; have n0_ := Aside0.mk (hp_); have n1_ := Aside0.mk (Kd.R_over' (v := (.slice (some ⟨go19, 0, none⟩) x5_1.length co19)) (by (with_reducible repeat (first | apply Kd.R_alloc | apply Kd.R_drewN | apply Kd.R_drew)); exact HO_6.out) (Kd.R_typed HO_5.out) (by decide) hg); have n2_ := Aside0.mk ((by rw [hw]; exact below_set (HB.out) GB19.out : Below w.heap.size w w21)); clear HO_5; clear HO_6; clear HB; have HO_5 := n0_; have HO_6 := n1_; have HB := n2_; clear n0_ n1_ n2_; clear hg hw hp_) | ((with_reducible refine gate_dst (N := 37) rfl ?_); refine Kd.R_lit k75 _ 75 ?hg (N := 37) ?hd (xs := ([(⟨(rd l1 x17_1), 0⟩ : S75)] : List (S75))) (inner := [.int .i64 (rd l1 x17_1), .int .i64 0]) (ok := fun _ => True) (okp := fun _ => True) ?hr ?hp (fun _ hk => hk) trivial (Below.refl _ _) (Nat.le_refl _) (by simp) ?_; (case hd => rfl); (case hg => rfl); (case hr => first | (go_simp; done) | (go_simp; rfl)); (case hp => exact (Reps.c2 (show Kd.M k75 _ _ _ (⟨(rd l1 x17_1), 0⟩ : S75) [.int .i64 (rd l1 x17_1), .int .i64 0] from (k75_mkM _ _ _ (⟨(rd l1 x17_1), 0⟩ : S75) )) (Reps.none _ _))); intro v111 w22 ho23 hb hg_ hnew_; clear hg_ hnew_; (first | rw [← Ny110.out] at ho23 | (simp only [Int.reduceToNat] at ho23; rw [← Ny110.out] at ho23)); have n0_ := Aside0.mk (Kd.R_below (by (with_reducible repeat (first | apply Kd.R_alloc | apply Kd.R_drewN | apply Kd.R_drew)); exact HO_5.out) hb); have n1_ := Aside0.mk (Kd.R_below (by (with_reducible repeat (first | apply Kd.R_alloc | apply Kd.R_drewN | apply Kd.R_drew)); exact HO_6.out) hb); have n2_ := Aside0.mk (Kd.R_lower ho23 (below_size (by repeat (first | (with_reducible first | exact HB.out | apply below_alloc | apply pw_below_drewN | apply below_drew1) | exact HB.out)))); have n3_ := Aside0.mk (below_step (by repeat (first | (with_reducible first | exact HB.out | apply below_alloc | apply pw_below_drewN | apply below_drew1) | exact HB.out)) hb); clear HO_5; clear HO_6; clear HB; have HO_5 := n0_; have HO_6 := n1_; have HO112 := n2_; have HB := n3_; clear n0_ n1_ n2_ n3_; clear hb ho23))
             repeat (go_quiet (first | ((with_reducible refine gate_store (t := 4) (p := 34) rfl ?_); (try (rw [drewN_self wc]; generalize hq_ : World.drewN wc _ = wc; have n0_ := Aside0.mk (Kd.R_at hq_ HO_5.out); have n1_ := Aside0.mk (Kd.R_at hq_ HO_6.out); have n2_ := Aside0.mk (below_at hq_ HB.out); clear hq_ HO_5 HO_6 HB; have HO_5 := n0_; have HO_6 := n1_; have HB := n2_; clear n0_ n1_ n2_; (try (have HP20 := Kd.R_putg HO_5.out ((rd l1 x17_1) : Int) true)))); refine store_event (t := 4) (p := 34) (v := ?vo_w21) (w1 := (wc.setCell ⟨go19, ((rd l1 x17_1) : Int).toNat, none⟩ (.bool true))) ?hg ?ho ?hn ?hr ?_; (case ho => rfl); (case hg => rfl); (case hn => rfl); (case hr => first | (go_simp; done) | (go_simp; rfl)); intro w21 hw; have hg : wc.grownBy w21 (some go19) := (by rw [hw]; exact HP20.2); have hp_ : Kd.R Kd.bool 4 w21 w.heap.size (fun _ => True) (.slice (some ⟨go19, 0, none⟩) x5_1.length co19) y109 := (by rw [hw, Ny109.out]; exact HP20.1); clear HP20; have n0_ := Aside0.mk (hp_); have n1_ := Aside0.mk (Kd.R_over' (v := (.slice (some ⟨go19, 0, none⟩) x5_1.length co19)) (by (with_reducible repeat (first | apply Kd.R_alloc | apply Kd.R_drewN | apply Kd.R_drew)); exact HO_6.out) (Kd.R_typed HO_5.out) (by decide) hg); have n2_ := Aside0.mk ((by rw [hw]; exact below_set (HB.out) GB19.out : Below w.heap.size w w21)); clear HO_5; clear HO_6; clear HB; have HO_5 := n0_; have HO_6 := n1_; have HB := n2_; clear n0_ n1_ n2_; clear hg hw hp_) | ((with_reducible refine gate_dst (N := 37) rfl ?_); refine Kd.R_lit k75 _ 75 ?hg (N := 37) ?hd (xs := ([(⟨(rd l1 x17_1), 0⟩ : S75)] : List (S75))) (inner := [.int .i64 (rd l1 x17_1), .int .i64 0]) (ok := fun _ => True) (okp := fun _ => True) ?hr ?hp (fun _ hk => hk) trivial (Below.refl _ _) (Nat.le_refl _) (by simp) ?_; (case hd => rfl); (case hg => rfl); (case hr => first | (go_simp; done) | (go_simp; rfl)); (case hp => exact (Reps.c2 (show Kd.M k75 _ _ _ (⟨(rd l1 x17_1), 0⟩ : S75) [.int .i64 (rd l1 x17_1), .int .i64 0] from (k75_mkM _ _ _ (⟨(rd l1 x17_1), 0⟩ : S75) )) (Reps.none _ _))); intro v111 w22 ho23 hb hg_ hnew_; clear hg_ hnew_; (first | rw [← Ny110.out] at ho23 | (simp only [Int.reduceToNat] at ho23; rw [← Ny110.out] at ho23)); have n0_ := Aside0.mk (Kd.R_below (by (with_reducible repeat (first | apply Kd.R_alloc | apply Kd.R_drewN | apply Kd.R_drew)); exact HO_5.out) hb); have n1_ := Aside0.mk (Kd.R_below (by (with_reducible repeat (first | apply Kd.R_alloc | apply Kd.R_drewN | apply Kd.R_drew)); exact HO_6.out) hb); have n2_ := Aside0.mk (Kd.R_lower ho23 (below_size (by repeat (first | (with_reducible first | exact HB.out | apply below_alloc | apply pw_below_drewN | apply below_drew1) | exact HB.out)))); have n3_ := Aside0.mk (below_step (by repeat (first | (with_reducible first | exact HB.out | apply below_alloc | apply pw_below_drewN | apply below_drew1) | exact HB.out)) hb); clear HO_5; clear HO_6; clear HB; have HO_5 := n0_; have HO_6 := n1_; have HO112 := n2_; have HB := n3_; clear n0_ n1_ n2_ n3_; clear hb ho23)); try go_wp2_with (first | ((with_reducible refine gate_store (t := 4) (p := 34) rfl ?_); (try (rw [drewN_self wc]; generalize hq_ : World.drewN wc _ = wc; have n0_ := Aside0.mk (Kd.R_at hq_ HO_5.out); have n1_ := Aside0.mk (Kd.R_at hq_ HO_6.out); have n2_ := Aside0.mk (below_at hq_ HB.out); clear hq_ HO_5 HO_6 HB; have HO_5 := n0_; have HO_6 := n1_; have HB := n2_; clear n0_ n1_ n2_; (try (have HP20 := Kd.R_putg HO_5.out ((rd l1 x17_1) : Int) true)))); refine store_event (t := 4) (p := 34) (v := ?vo_w21) (w1 := (wc.setCell ⟨go19, ((rd l1 x17_1) : Int).toNat, none⟩ (.bool true))) ?hg ?ho ?hn ?hr ?_; (case ho => rfl); (case hg => rfl); (case hn => rfl); (case hr => first | (go_simp; done) | (go_simp; rfl)); intro w21 hw; have hg : wc.grownBy w21 (some go19) := (by rw [hw]; exact HP20.2); have hp_ : Kd.R Kd.bool 4 w21 w.heap.size (fun _ => True) (.slice (some ⟨go19, 0, none⟩) x5_1.length co19) y109 := (by rw [hw, Ny109.out]; exact HP20.1); clear HP20; have n0_ := Aside0.mk (hp_); have n1_ := Aside0.mk (Kd.R_over' (v := (.slice (some ⟨go19, 0, none⟩) x5_1.length co19)) (by (with_reducible repeat (first | apply Kd.R_alloc | apply Kd.R_drewN | apply Kd.R_drew)); exact HO_6.out) (Kd.R_typed HO_5.out) (by decide) hg); have n2_ := Aside0.mk ((by rw [hw]; exact below_set (HB.out) GB19.out : Below w.heap.size w w21)); clear HO_5; clear HO_6; clear HB; have HO_5 := n0_; have HO_6 := n1_; have HB := n2_; clear n0_ n1_ n2_; clear hg hw hp_) | ((with_reducible refine gate_dst (N := 37) rfl ?_); refine Kd.R_lit k75 _ 75 ?hg (N := 37) ?hd (xs := ([(⟨(rd l1 x17_1), 0⟩ : S75)] : List (S75))) (inner := [.int .i64 (rd l1 x17_1), .int .i64 0]) (ok := fun _ => True) (okp := fun _ => True) ?hr ?hp (fun _ hk => hk) trivial (Below.refl _ _) (Nat.le_refl _) (by simp) ?_; (case hd => rfl); (case hg => rfl); (case hr => first | (go_simp; done) | (go_simp; rfl)); (case hp => exact (Reps.c2 (show Kd.M k75 _ _ _ (⟨(rd l1 x17_1), 0⟩ : S75) [.int .i64 (rd l1 x17_1), .int .i64 0] from (k75_mkM _ _ _ (⟨(rd l1 x17_1), 0⟩ : S75) )) (Reps.none _ _))); intro v111 w22 ho23 hb hg_ hnew_; clear hg_ hnew_; (first | rw [← Ny110.out] at ho23 | (simp only [Int.reduceToNat] at ho23; rw [← Ny110.out] at ho23)); have n0_ := Aside0.mk (Kd.R_below (by (with_reducible repeat (first | apply Kd.R_alloc | apply Kd.R_drewN | apply Kd.R_drew)); exact HO_5.out) hb); have n1_ := Aside0.mk (Kd.R_below (by (with_reducible repeat (first | apply Kd.R_alloc | apply Kd.R_drewN | apply Kd.R_drew)); exact HO_6.out) hb); have n2_ := Aside0.mk (Kd.R_lower ho23 (below_size (by repeat (first | (with_reducible first | exact HB.out | apply below_alloc | apply pw_below_drewN | apply below_drew1) | exact HB.out)))); have n3_ := Aside0.mk (below_step (by repeat (first | (with_reducible first | exact HB.out | apply below_alloc | apply pw_below_drewN | apply below_drew1) | exact HB.out)) hb); clear HO_5; clear HO_6; clear HB; have HO_5 := n0_; have HO_6 := n1_; have HO112 := n2_; have HB := n3_; clear n0_ n1_ n2_ n3_; clear hb ho23)))
             go_loopg [6, 9] kj9 (fun kq v6 v9 w' => ∃ (x5_3 : List Bool) (x6_3 : List Int) (x9_3 : List (S75)), Aside0 (graph_Begin.l1 kq l0 x5_3 x6_3 x9_3 l1 (l1.length : Int) x17_1 = some r) ∧ Aside0 (kq ≤ kj9) ∧ Aside0 (Kd.R Kd.bool 4 w' w.heap.size (fun _ => True) (.slice (some ⟨go19, 0, none⟩) x5_1.length co19) x5_3) ∧ Aside0 (Kd.R (Kd.int .i64) 3 w' w.heap.size (fun _ => True) v6 x6_3) ∧ Aside0 (Kd.R k75 75 w' w.heap.size (fun _ => True) v9 x9_3) ∧ Aside0 (Below w.heap.size w w'))
             case atStart => exact ⟨(y109), (x6_1), (y110), H', ⟨Nat.le_refl _⟩, ⟨by (with_reducible repeat (first | apply Kd.R_alloc | apply Kd.R_drewN | apply Kd.R_drew)); exact HO_5.out⟩, ⟨by (with_reducible repeat (first | apply Kd.R_alloc | apply Kd.R_drewN | apply Kd.R_drew)); exact HO_6.out⟩, ⟨by (with_reducible repeat (first | apply Kd.R_alloc | apply Kd.R_drewN | apply Kd.R_drew)); exact HO112.out⟩, ⟨by repeat (first | (with_reducible first | exact HB.out | apply below_alloc | apply pw_below_drewN | apply below_drew1) | exact HB.out)⟩⟩
             case round =>
              clear H'
              try clear c1
              try clear p1
              try clear q1
              try clear hx1
              try clear c2
              try clear p2
              try clear c3
              try clear c3b0
              try clear c3b1
              try clear c4
              try clear c4b0
              try clear c4b1
              try clear p6
              try clear c7
              try clear c7b0
              try clear c8
              try clear c8b0
              try clear c9
              try clear c9b0
              try clear p10
              try clear q10
              try clear hx10
              try clear c12
              try clear c13
              try clear c13b0
              try clear c14
              try clear c14b0
              try clear c16
              try clear c17
              try clear c17b0
              try clear c18
              try clear c18b0
              try clear p19
              try clear q19
              try clear hx19
              try clear hf19
              try clear hx106_0
              try clear hx108_0
              try clear hx19_0
              try clear p1
              try clear p10
              try clear p106
              try clear p108
              try clear p19
              try clear p2
              try clear q1
              try clear q10
              try clear q106
              try clear q108
              try clear q19
              obtain ⟨x5_3, x6_3, x9_3, HA, HK3, HO_5, HO_6, HO_9, HB⟩ := hrel
              have hl5_3 := (Kd.R_reads' HO_5.out).1
              rw [hl5_3] at HO_5
              (try simp only [hl5_3])
              (try simp only [hl5_3] at HO_6)
              (try simp only [hl5_3] at HO_9)
              cases gk with
              | zero => exact absurd HA.out (by simp [graph_Begin.l1])
              | succ k3 =>
               have H := HA.out
               clear HA
               simp only [graph_Begin.l1] at H
               by_cases c24 : (x9_3.length : Int) > 0
               ·rw [if_pos c24] at H
                have c24b0 : decide (0 < (x9_3.length : Int)) = true := decide_eq_true c24
                have c24r0 := c24b0
                (try simp only [hl5_3] at c24r0)
                have c24b1 : decide (0 < x9_3.length) = true := decide_eq_true (by omega)
                have c24r1 := c24b1
                (try simp only [hl5_3] at c24r1)
                clear c24
                obtain ⟨ji25, hji25⟩ : ∃ j_ : Int, (wrap64 ((x9_3.length : Int) - 1)) = j_ := ⟨_, rfl⟩
                replace H : (if 0 ≤ (ji25) then (if (ji25) < (x9_3.length : Int) then (if 0 ≤ ((rd_T75 x9_3 (ji25)).f0) then (if ((rd_T75 x9_3 (ji25)).f0) < (l0.length : Int) then (if ((rd_T75 x9_3 (ji25)).f1) = ((rd_L1 l0 ((rd_T75 x9_3 (ji25)).f0)).length : Int) then (if x6_3.length < 17592186044416 then (if (ji25) ≤ (x9_3.length : Int) then (graph_Begin.l1 k3 l0 x5_3 (x6_3 ++ [(rd_T75 x9_3 (ji25)).f0]) (x9_3.take ((ji25) : Int).toNat) l1 (l1.length : Int) x17_1) else (none)) else (none)) else (if 0 ≤ ((rd_T75 x9_3 (ji25)).f1) then (if ((rd_T75 x9_3 (ji25)).f1) < ((rd_L1 l0 ((rd_T75 x9_3 (ji25)).f0)).length : Int) then ((some (x9_3.set ((ji25) : Int).toNat (⟨(rd_T75 x9_3 (ji25)).f0, wrap64 (((rd_T75 x9_3 (ji25)).f1) + 1)⟩ : S75) : List (S75))).bind fun y122 => ((graph_in.f (rd (rd_L1 l0 ((rd_T75 x9_3 (ji25)).f0)) ((rd_T75 x9_3 (ji25)).f1)) (l0.length : Int)).bind fun t123 => (if t123 = true then (if 0 ≤ (rd (rd_L1 l0 ((rd_T75 x9_3 (ji25)).f0)) ((rd_T75 x9_3 (ji25)).f1)) then (if (rd (rd_L1 l0 ((rd_T75 x9_3 (ji25)).f0)) ((rd_T75 x9_3 (ji25)).f1)) < (x5_3.length : Int) then (if rdOf false x5_3 (rd (rd_L1 l0 ((rd_T75 x9_3 (ji25)).f0)) ((rd_T75 x9_3 (ji25)).f1)) = true then (graph_Begin.l1 k3 l0 x5_3 x6_3 y122 l1 (l1.length : Int) x17_1) else (if y122.length < 8796093022208 then (graph_Begin.l1 k3 l0 (x5_3.set ((rd (rd_L1 l0 ((rd_T75 x9_3 (ji25)).f0)) ((rd_T75 x9_3 (ji25)).f1)) : Int).toNat true) x6_3 (y122 ++ [(⟨rd (rd_L1 l0 ((rd_T75 x9_3 (ji25)).f0)) ((rd_T75 x9_3 (ji25)).f1), 0⟩ : S75)]) l1 (l1.length : Int) x17_1) else (none))) else (none)) else (none)) else (graph_Begin.l1 k3 l0 x5_3 x6_3 y122 l1 (l1.length : Int) x17_1)))) else (none)) else (none))) else (none)) else (none)) else (none)) else (none)) = some r := by first | (rw [hji25] at H; exact H) | (simp only [hji25] at H ⊢; exact H)
                have hji25w : (IntKind.i64.wrap ((x9_3.length : Int) - 1)) = ji25 := (i64_w _).trans hji25
                by_cases c26 : 0 ≤ (ji25)
                ·rw [if_pos c26] at H
                 have c26b0 : decide (0 ≤ (ji25)) = true := decide_eq_true c26
                 clear c26
                 by_cases c27 : (ji25) < (x9_3.length : Int)
                 ·rw [if_pos c27] at H
                  have c27b0 : decide ((ji25) < (x9_3.length : Int)) = true := decide_eq_true c27
                  have c27r0 := c27b0
                  (try simp only [hl5_3] at c27r0)
                  clear c27
                  by_cases c29 : 0 ≤ ((rd_T75 x9_3 (ji25)).f0)
                  ·rw [if_pos c29] at H
                   have c29b0 : decide (0 ≤ ((rd_T75 x9_3 (ji25)).f0)) = true := decide_eq_true c29
                   clear c29
                   by_cases c30 : ((rd_T75 x9_3 (ji25)).f0) < (l0.length : Int)
                   ·rw [if_pos c30] at H
                    have c30b0 : decide (((rd_T75 x9_3 (ji25)).f0) < (l0.length : Int)) = true := decide_eq_true c30
                    have c30r0 := c30b0
                    (try simp only [hl5_3] at c30r0)
                    clear c30
                    by_cases c31 : ((rd_T75 x9_3 (ji25)).f1) = ((rd_L1 l0 ((rd_T75 x9_3 (ji25)).f0)).length : Int)
                    ·rw [if_pos c31] at H
                     have c31b0 : (((rd_T75 x9_3 (ji25)).f1) == ((rd_L1 l0 ((rd_T75 x9_3 (ji25)).f0)).length : Int)) = true := beq_iff_eq.mpr c31
                     have c31r0 := c31b0
                     (try simp only [hl5_3] at c31r0)
                     have c31b1 : (((rd_T75 x9_3 (ji25)).f1) != ((rd_L1 l0 ((rd_T75 x9_3 (ji25)).f0)).length : Int)) = false := bne_eq_false_iff_eq.mpr c31
                     have c31r1 := c31b1
                     (try simp only [hl5_3] at c31r1)
                     clear c31
                     by_cases c32 : x6_3.length < 17592186044416
                     ·rw [if_pos c32] at H
                      have LMc32 := Aside0.mk c32
                      clear c32
                      obtain ⟨y114, hy114⟩ : ∃ y_ : List Int, y_ = (x6_3 ++ [(rd_T75 x9_3 (ji25)).f0]) := ⟨_, rfl⟩
                      replace H : (if (ji25) ≤ (x9_3.length : Int) then (graph_Begin.l1 k3 l0 x5_3 y114 (x9_3.take ((ji25) : Int).toNat) l1 (l1.length : Int) x17_1) else (none)) = some r := by first | (rw [hy114]; with_reducible exact H) | (have H2_ := (Option.bind_some _ _).symm.trans H; rw [hy114]; with_reducible exact H2_) | (have H2_ := (Option.bind_some _ _).symm.trans H; with_reducible exact H2_) | with_reducible exact H | (rw [hy114]; exact H) | exact H
                      have Ny114 := Aside0.mk hy114
                      clear hy114
                      by_cases c33 : (ji25) ≤ (x9_3.length : Int)
                      ·rw [if_pos c33] at H
                       have c33b0 := eq_true c33
                       have c33b1 : decide ((ji25) ≤ (x9_3.length : Int)) = true := decide_eq_true c33
                       clear c33
                       obtain ⟨y117, hy117⟩ : ∃ y_ : List (S75), y_ = (x9_3.take ((ji25) : Int).toNat) := ⟨_, rfl⟩
                       replace H : (graph_Begin.l1 k3 l0 x5_3 y114 y117 l1 (l1.length : Int) x17_1) = some r := by first | (rw [hy117]; with_reducible exact H) | (have H2_ := (Option.bind_some _ _).symm.trans H; rw [hy117]; with_reducible exact H2_) | (have H2_ := (Option.bind_some _ _).symm.trans H; with_reducible exact H2_) | with_reducible exact H | (rw [hy117]; exact H) | exact H
                       have Ny117 := Aside0.mk hy117
                       clear hy117
                       have H' := Aside0.mk H
                       clear H
                       obtain ⟨Ao34, co34, eo34⟩ := Kd.R_slice HO_9.out
                       subst eo34
                       have p28 : 0 ≤ ((ji25) : Int) := of_decide_eq_true (by assumption)
                       have q28 : ((ji25) : Int) < ((x9_3.length : Int) : Int) := of_decide_eq_true (by assumption)
                       obtain ⟨go28, co28, eo28, gb28, gl28, cl28, HG28⟩ := Kd.R_form HO_9.out (by omega)
                       (first | cases eo28 | (injection eo28 with ea_ en_ ec_; (first | subst ea_ | (injection ea_ with ea_; subst ea_)); subst ec_; clear en_))
                       have GB28 := Aside0.mk gb28
                       have GG28 := Aside0.mk HG28
                       clear gb28 gl28 HG28
                       obtain ⟨ce28, hcl28, hM28, hcc28, hfr28⟩ := Kd.R_elem HO_9.out z75 ((ji25) : Int) p28 q28
                       obtain rfl := k75_openM hM28
                       have hx28_0 : wr.cell? ⟨go28, ((ji25) : Int).toNat * 2, none⟩ = some (.int .i64 ((rd_T75 x9_3 (ji25)).f0)) := hcc28 0 _ rfl
                       have hx28_1 : wr.cell? ⟨go28, ((ji25) : Int).toNat * 2 + 1, none⟩ = some (.int .i64 ((rd_T75 x9_3 (ji25)).f1)) := hcc28 1 _ rfl
                       have hf28_0 : wr.frozen? ⟨go28, ((ji25) : Int).toNat * 2, none⟩ = false := hfr28 0
                       have hf28_1 : wr.frozen? ⟨go28, ((ji25) : Int).toNat * 2 + 1, none⟩ = false := hfr28 1
                       clear hcl28 hcc28 hfr28 hM28
                       replace p28 := eq_true p28
                       replace q28 := eq_true q28
                       have p113 : 0 ≤ (((rd_T75 x9_3 (ji25)).f0) : Int) := of_decide_eq_true (by assumption)
                       have q113 : ((rd_T75 x9_3 (ji25)).f0) < (l0.length : Int) := of_decide_eq_true (by assumption)
                       obtain ⟨ad113, A113_0, c113_0, e113, hx113_0, hl113_0, hi113_0⟩ := at_L1 HR0.out ((rd_T75 x9_3 (ji25)).f0) p113 q113
                       cases e113
                       replace hx113_0 := (HB.out.cell (World.block_lt_of_cell? w _ hx113_0)).trans hx113_0
                       have HR113_0 := Aside0.mk hi113_0
                       have HC113_0 := Aside0.mk hl113_0
                       clear hi113_0 hl113_0
                       replace p113 := eq_true p113
                       replace q113 := eq_true q113
                       go_wp2_with (first | ((with_reducible refine gate_builtin (b := .append) (xs := #[.tmp 59, .tmp 64]) rfl ?_); at_builtin; refine Kd.R_append (Kd.int .i64) (w0 := w) w.heap.size rfl (.tmp 59) (.tmp 64) 42 3 (.int .i64 0) 8 rfl Try.underlying42 info3 rfl (by decide) (by omega) u6 x6_3 ((rd_T75 x9_3 (ji25)).f0) [.int .i64 ((rd_T75 x9_3 (ji25)).f0)] (fun _ => True) (fun _ => False) rfl rfl ?aP (fun _ hk => hk.elim) ?aF ?aO ?aB ?aS ?aL ?_; (case aP => exact rfl); (case aB => exact (by repeat (first | (with_reducible first | exact HB.out | apply below_alloc | apply pw_below_drewN | apply below_drew1) | exact HB.out))); (case aF => exact (fun _ _ => trivial)); (case aO => exact (by (with_reducible repeat (first | apply Kd.R_alloc | apply Kd.R_drewN | apply Kd.R_drew)); exact HO_6.out)); (case aS => exact (below_size (by repeat (first | (with_reducible first | exact HB.out | apply below_alloc | apply pw_below_drewN | apply below_drew1) | exact HB.out)))); (case aL => have := LMc32.out; omega); intro v115 w35 ho hb hg hat; rw [← Ny114.out] at ho; have n0_ := Aside0.mk (Kd.R_over' (by (with_reducible repeat (first | apply Kd.R_alloc | apply Kd.R_drewN | apply Kd.R_drew)); exact HO_5.out) (Kd.R_typed (by (with_reducible repeat (first | apply Kd.R_alloc | apply Kd.R_drewN | apply Kd.R_drew)); exact HO_6.out)) (by decide) hg); have n1_ := Aside0.mk (Kd.R_over' (by (with_reducible repeat (first | apply Kd.R_alloc | apply Kd.R_drewN | apply Kd.R_drew)); exact HO_9.out) (Kd.R_typed (by (with_reducible repeat (first | apply Kd.R_alloc | apply Kd.R_drewN | apply Kd.R_drew)); exact HO_6.out)) (by decide) hg); have n2_ := Aside0.mk (hb); have n3_ := Aside0.mk (ho); clear HO_5; clear HO_9; clear HB; clear HO_6; have HO_5 := n0_; have HO_9 := n1_; have HB := n2_; have HO116 := n3_; clear n0_ n1_ n2_ n3_; clear ho hb hg hat; have q36 : ((ji25) : Int) ≤ ((x9_3.length : Int) : Int) := of_decide_eq_true (by assumption); obtain ⟨i036, hi036, _, hsz36, _⟩ := info_parts info75; have hcut36 := cut_to (P := Try.prog) 76 75 .i64 Try.underlying76 hi036 (some ⟨go28, 0, none⟩) x9_3.length co34 (ji25) (of_decide_eq_true (by assumption)) q36 (Kd.R_reads' HO_9.out).2.1; have hr36 := Kd.R_take (m := ((ji25) : Int).toNat) HO_9.out (by omega); have hy36 : y117.length = ((ji25) : Int).toNat := (by rw [Ny117.out, List.length_take]; omega); rw [← Ny117.out] at hr36; rw [← hy36] at hr36 hcut36; clear hy36 hi036 hsz36 HO_9; have HO119 := Aside0.mk hr36; clear hr36; replace q36 := eq_true q36))
                       repeat (go_quiet (first | ((with_reducible refine gate_builtin (b := .append) (xs := #[.tmp 59, .tmp 64]) rfl ?_); at_builtin; refine Kd.R_append (Kd.int .i64) (w0 := w) w.heap.size rfl (.tmp 59) (.tmp 64) 42 3 (.int .i64 0) 8 rfl Try.underlying42 info3 rfl (by decide) (by omega) u6 x6_3 ((rd_T75 x9_3 (ji25)).f0) [.int .i64 ((rd_T75 x9_3 (ji25)).f0)] (fun _ => True) (fun _ => False) rfl rfl ?aP (fun _ hk => hk.elim) ?aF ?aO ?aB ?aS ?aL ?_; (case aP => exact rfl); (case aB => exact (by repeat (first | (with_reducible first | exact HB.out | apply below_alloc | apply pw_below_drewN | apply below_drew1) | exact HB.out))); (case aF => exact (fun _ _ => trivial)); (case aO => exact (by (with_reducible repeat (first | apply Kd.R_alloc | apply Kd.R_drewN | apply Kd.R_drew)); exact HO_6.out)); (case aS => exact (below_size (by repeat (first | (with_reducible first | exact HB.out | apply below_alloc | apply pw_below_drewN | apply below_drew1) | exact HB.out)))); (case aL => have := LMc32.out; omega); intro v115 w35 ho hb hg hat; rw [← Ny114.out] at ho; have n0_ := Aside0.mk (Kd.R_over' (by (with_reducible repeat (first | apply Kd.R_alloc | apply Kd.R_drewN | apply Kd.R_drew)); exact HO_5.out) (Kd.R_typed (by (with_reducible repeat (first | apply Kd.R_alloc | apply Kd.R_drewN | apply Kd.R_drew)); exact HO_6.out)) (by decide) hg); have n1_ := Aside0.mk (Kd.R_over' (by (with_reducible repeat (first | apply Kd.R_alloc | apply Kd.R_drewN | apply Kd.R_drew)); exact HO_9.out) (Kd.R_typed (by (with_reducible repeat (first | apply Kd.R_alloc | apply Kd.R_drewN | apply Kd.R_drew)); exact HO_6.out)) (by decide) hg); have n2_ := Aside0.mk (hb); have n3_ := Aside0.mk (ho); clear HO_5; clear HO_9; clear HB; clear HO_6; have HO_5 := n0_; have HO_9 := n1_; have HB := n2_; have HO116 := n3_; clear n0_ n1_ n2_ n3_; clear ho hb hg hat; have q36 : ((ji25) : Int) ≤ ((x9_3.length : Int) : Int) := of_decide_eq_true (by assumption); obtain ⟨i036, hi036, _, hsz36, _⟩ := info_parts info75; have hcut36 := cut_to (P := Try.prog) 76 75 .i64 Try.underlying76 hi036 (some ⟨go28, 0, none⟩) x9_3.length co34 (ji25) (of_decide_eq_true (by assumption)) q36 (Kd.R_reads' HO_9.out).2.1; have hr36 := Kd.R_take (m := ((ji25) : Int).toNat) HO_9.out (by omega); have hy36 : y117.length = ((ji25) : Int).toNat := (by rw [Ny117.out, List.length_take]; omega); rw [← Ny117.out] at hr36; rw [← hy36] at hr36 hcut36; clear hy36 hi036 hsz36 HO_9; have HO119 := Aside0.mk hr36; clear hr36; replace q36 := eq_true q36)); try go_wp2_with (first | ((with_reducible refine gate_builtin (b := .append) (xs := #[.tmp 59, .tmp 64]) rfl ?_); at_builtin; refine Kd.R_append (Kd.int .i64) (w0 := w) w.heap.size rfl (.tmp 59) (.tmp 64) 42 3 (.int .i64 0) 8 rfl Try.underlying42 info3 rfl (by decide) (by omega) u6 x6_3 ((rd_T75 x9_3 (ji25)).f0) [.int .i64 ((rd_T75 x9_3 (ji25)).f0)] (fun _ => True) (fun _ => False) rfl rfl ?aP (fun _ hk => hk.elim) ?aF ?aO ?aB ?aS ?aL ?_; (case aP => exact rfl); (case aB => exact (by repeat (first | (with_reducible first | exact HB.out | apply below_alloc | apply pw_below_drewN | apply below_drew1) | exact HB.out))); (case aF => exact (fun _ _ => trivial)); (case aO => exact (by (with_reducible repeat (first | apply Kd.R_alloc | apply Kd.R_drewN | apply Kd.R_drew)); exact HO_6.out)); (case aS => exact (below_size (by repeat (first | (with_reducible first | exact HB.out | apply below_alloc | apply pw_below_drewN | apply below_drew1) | exact HB.out)))); (case aL => have := LMc32.out; omega); intro v115 w35 ho hb hg hat; rw [← Ny114.out] at ho; have n0_ := Aside0.mk (Kd.R_over' (by (with_reducible repeat (first | apply Kd.R_alloc | apply Kd.R_drewN | apply Kd.R_drew)); exact HO_5.out) (Kd.R_typed (by (with_reducible repeat (first | apply Kd.R_alloc | apply Kd.R_drewN | apply Kd.R_drew)); exact HO_6.out)) (by decide) hg); have n1_ := Aside0.mk (Kd.R_over' (by (with_reducible repeat (first | apply Kd.R_alloc | apply Kd.R_drewN | apply Kd.R_drew)); exact HO_9.out) (Kd.R_typed (by (with_reducible repeat (first | apply Kd.R_alloc | apply Kd.R_drewN | apply Kd.R_drew)); exact HO_6.out)) (by decide) hg); have n2_ := Aside0.mk (hb); have n3_ := Aside0.mk (ho); clear HO_5; clear HO_9; clear HB; clear HO_6; have HO_5 := n0_; have HO_9 := n1_; have HB := n2_; have HO116 := n3_; clear n0_ n1_ n2_ n3_; clear ho hb hg hat; have q36 : ((ji25) : Int) ≤ ((x9_3.length : Int) : Int) := of_decide_eq_true (by assumption); obtain ⟨i036, hi036, _, hsz36, _⟩ := info_parts info75; have hcut36 := cut_to (P := Try.prog) 76 75 .i64 Try.underlying76 hi036 (some ⟨go28, 0, none⟩) x9_3.length co34 (ji25) (of_decide_eq_true (by assumption)) q36 (Kd.R_reads' HO_9.out).2.1; have hr36 := Kd.R_take (m := ((ji25) : Int).toNat) HO_9.out (by omega); have hy36 : y117.length = ((ji25) : Int).toNat := (by rw [Ny117.out, List.length_take]; omega); rw [← Ny117.out] at hr36; rw [← hy36] at hr36 hcut36; clear hy36 hi036 hsz36 HO_9; have HO119 := Aside0.mk hr36; clear hr36; replace q36 := eq_true q36)))
                       (try simp only [← hl5_3])
                       go_roundg k3
                       case measure => have := HK1.out; have := HJ9.out; have := HK3.out; omega
                       case rel => exact ⟨(x5_3), (y114), (y117), H', ⟨by have := HK1.out; have := HJ9.out; have := HK3.out; omega⟩, ⟨by (try simp only [hl5_3]); (with_reducible repeat (first | apply Kd.R_alloc | apply Kd.R_drewN | apply Kd.R_drew)); exact HO_5.out⟩, ⟨by (try simp only [hl5_3]); (with_reducible repeat (first | apply Kd.R_alloc | apply Kd.R_drewN | apply Kd.R_drew)); exact HO116.out⟩, ⟨by (try simp only [hl5_3]); (with_reducible repeat (first | apply Kd.R_alloc | apply Kd.R_drewN | apply Kd.R_drew)); exact HO119.out⟩, ⟨by repeat (first | (with_reducible first | exact HB.out | apply below_alloc | apply pw_below_drewN | apply below_drew1) | exact HB.out)⟩⟩
                      ·rw [if_neg c33] at H
                       exact absurd H (by simp)
                     ·rw [if_neg c32] at H
                      exact absurd H (by simp)
                    ·rw [if_neg c31] at H
                     have c31b0 : (((rd_T75 x9_3 (ji25)).f1) == ((rd_L1 l0 ((rd_T75 x9_3 (ji25)).f0)).length : Int)) = false := beq_eq_false_iff_ne.mpr c31
                     have c31r0 := c31b0
                     (try simp only [hl5_3] at c31r0)
                     have c31b1 : (((rd_T75 x9_3 (ji25)).f1) != ((rd_L1 l0 ((rd_T75 x9_3 (ji25)).f0)).length : Int)) = true := bne_iff_ne.mpr c31
                     have c31r1 := c31b1
                     (try simp only [hl5_3] at c31r1)
                     by_cases c37 : 0 ≤ ((rd_T75 x9_3 (ji25)).f1)
                     ·rw [if_pos c37] at H
                      have c37b0 : decide (0 ≤ ((rd_T75 x9_3 (ji25)).f1)) = true := decide_eq_true c37
                      clear c37
                      by_cases c38 : ((rd_T75 x9_3 (ji25)).f1) < ((rd_L1 l0 ((rd_T75 x9_3 (ji25)).f0)).length : Int)
                      ·rw [if_pos c38] at H
                       have c38b0 : decide (((rd_T75 x9_3 (ji25)).f1) < ((rd_L1 l0 ((rd_T75 x9_3 (ji25)).f0)).length : Int)) = true := decide_eq_true c38
                       have c38r0 := c38b0
                       (try simp only [hl5_3] at c38r0)
                       clear c38
                       obtain ⟨y122, hy122⟩ : ∃ y_ : List (S75), y_ = (x9_3.set ((ji25) : Int).toNat (⟨(rd_T75 x9_3 (ji25)).f0, wrap64 (((rd_T75 x9_3 (ji25)).f1) + 1)⟩ : S75)) := ⟨_, rfl⟩
                       replace H : ((graph_in.f (rd (rd_L1 l0 ((rd_T75 x9_3 (ji25)).f0)) ((rd_T75 x9_3 (ji25)).f1)) (l0.length : Int)).bind fun t123 => (if t123 = true then (if 0 ≤ (rd (rd_L1 l0 ((rd_T75 x9_3 (ji25)).f0)) ((rd_T75 x9_3 (ji25)).f1)) then (if (rd (rd_L1 l0 ((rd_T75 x9_3 (ji25)).f0)) ((rd_T75 x9_3 (ji25)).f1)) < (x5_3.length : Int) then (if rdOf false x5_3 (rd (rd_L1 l0 ((rd_T75 x9_3 (ji25)).f0)) ((rd_T75 x9_3 (ji25)).f1)) = true then (graph_Begin.l1 k3 l0 x5_3 x6_3 y122 l1 (l1.length : Int) x17_1) else (if y122.length < 8796093022208 then (graph_Begin.l1 k3 l0 (x5_3.set ((rd (rd_L1 l0 ((rd_T75 x9_3 (ji25)).f0)) ((rd_T75 x9_3 (ji25)).f1)) : Int).toNat true) x6_3 (y122 ++ [(⟨rd (rd_L1 l0 ((rd_T75 x9_3 (ji25)).f0)) ((rd_T75 x9_3 (ji25)).f1), 0⟩ : S75)]) l1 (l1.length : Int) x17_1) else (none))) else (none)) else (none)) else (graph_Begin.l1 k3 l0 x5_3 x6_3 y122 l1 (l1.length : Int) x17_1))) = some r := by first | (rw [hy122]; with_reducible exact H) | (have H2_ := (Option.bind_some _ _).symm.trans H; rw [hy122]; with_reducible exact H2_) | (have H2_ := (Option.bind_some _ _).symm.trans H; with_reducible exact H2_) | with_reducible exact H | (rw [hy122]; exact H) | exact H
                       have Ny122 := Aside0.mk hy122
                       clear hy122
                       replace H := Option.bind_eq_some_iff.mp H
                       obtain ⟨t123, A390, H⟩ := H
                       replace H : (if t123 = true then (if 0 ≤ (rd (rd_L1 l0 ((rd_T75 x9_3 (ji25)).f0)) ((rd_T75 x9_3 (ji25)).f1)) then (if (rd (rd_L1 l0 ((rd_T75 x9_3 (ji25)).f0)) ((rd_T75 x9_3 (ji25)).f1)) < (x5_3.length : Int) then (if rdOf false x5_3 (rd (rd_L1 l0 ((rd_T75 x9_3 (ji25)).f0)) ((rd_T75 x9_3 (ji25)).f1)) = true then (graph_Begin.l1 k3 l0 x5_3 x6_3 y122 l1 (l1.length : Int) x17_1) else (if y122.length < 8796093022208 then (graph_Begin.l1 k3 l0 (x5_3.set ((rd (rd_L1 l0 ((rd_T75 x9_3 (ji25)).f0)) ((rd_T75 x9_3 (ji25)).f1)) : Int).toNat true) x6_3 (y122 ++ [(⟨rd (rd_L1 l0 ((rd_T75 x9_3 (ji25)).f0)) ((rd_T75 x9_3 (ji25)).f1), 0⟩ : S75)]) l1 (l1.length : Int) x17_1) else (none))) else (none)) else (none)) else (graph_Begin.l1 k3 l0 x5_3 x6_3 y122 l1 (l1.length : Int) x17_1)) = some r := H
                       have A39 := Aside0.mk A390
                       clear A390
                       by_cases c40 : t123 = true
                       ·subst c40
                        have H1 : (if 0 ≤ (rd (rd_L1 l0 ((rd_T75 x9_3 (ji25)).f0)) ((rd_T75 x9_3 (ji25)).f1)) then (if (rd (rd_L1 l0 ((rd_T75 x9_3 (ji25)).f0)) ((rd_T75 x9_3 (ji25)).f1)) < (x5_3.length : Int) then (if rdOf false x5_3 (rd (rd_L1 l0 ((rd_T75 x9_3 (ji25)).f0)) ((rd_T75 x9_3 (ji25)).f1)) = true then (graph_Begin.l1 k3 l0 x5_3 x6_3 y122 l1 (l1.length : Int) x17_1) else (if y122.length < 8796093022208 then (graph_Begin.l1 k3 l0 (x5_3.set ((rd (rd_L1 l0 ((rd_T75 x9_3 (ji25)).f0)) ((rd_T75 x9_3 (ji25)).f1)) : Int).toNat true) x6_3 (y122 ++ [(⟨rd (rd_L1 l0 ((rd_T75 x9_3 (ji25)).f0)) ((rd_T75 x9_3 (ji25)).f1), 0⟩ : S75)]) l1 (l1.length : Int) x17_1) else (none))) else (none)) else (none)) = some r := by rw [if_pos rfl] at H; exact H
                        clear H
                        have H := H1
                        clear H1
                        by_cases c41 : 0 ≤ (rd (rd_L1 l0 ((rd_T75 x9_3 (ji25)).f0)) ((rd_T75 x9_3 (ji25)).f1))
                        ·rw [if_pos c41] at H
                         have c41b0 : decide (0 ≤ (rd (rd_L1 l0 ((rd_T75 x9_3 (ji25)).f0)) ((rd_T75 x9_3 (ji25)).f1))) = true := decide_eq_true c41
                         clear c41
                         by_cases c42 : (rd (rd_L1 l0 ((rd_T75 x9_3 (ji25)).f0)) ((rd_T75 x9_3 (ji25)).f1)) < (x5_3.length : Int)
                         ·rw [if_pos c42] at H
                          have c42b0 : decide ((rd (rd_L1 l0 ((rd_T75 x9_3 (ji25)).f0)) ((rd_T75 x9_3 (ji25)).f1)) < (x5_3.length : Int)) = true := decide_eq_true c42
                          have c42r0 := c42b0
                          (try simp only [hl5_3] at c42r0)
                          clear c42
                          obtain ⟨bq43, hbq43⟩ : ∃ b_ : Bool, b_ = (rdOf false x5_3 (rd (rd_L1 l0 ((rd_T75 x9_3 (ji25)).f0)) ((rd_T75 x9_3 (ji25)).f1))) := ⟨_, rfl⟩
                          replace H : (if bq43 = true then (graph_Begin.l1 k3 l0 x5_3 x6_3 y122 l1 (l1.length : Int) x17_1) else (if y122.length < 8796093022208 then (graph_Begin.l1 k3 l0 (x5_3.set ((rd (rd_L1 l0 ((rd_T75 x9_3 (ji25)).f0)) ((rd_T75 x9_3 (ji25)).f1)) : Int).toNat true) x6_3 (y122 ++ [(⟨rd (rd_L1 l0 ((rd_T75 x9_3 (ji25)).f0)) ((rd_T75 x9_3 (ji25)).f1), 0⟩ : S75)]) l1 (l1.length : Int) x17_1) else (none))) = some r := by rw [← hbq43] at H; exact H
                          have Nbq43 := Aside0.mk hbq43
                          clear hbq43
                          by_cases c44 : bq43 = true
                          ·subst c44
                           have H1 : (graph_Begin.l1 k3 l0 x5_3 x6_3 y122 l1 (l1.length : Int) x17_1) = some r := by rw [if_pos rfl] at H; exact H
                           clear H
                           have H := H1
                           clear H1
                           have H' := Aside0.mk H
                           clear H
                           obtain ⟨Ao45, co45, eo45⟩ := Kd.R_slice HO_9.out
                           subst eo45
                           have p28 : 0 ≤ ((ji25) : Int) := of_decide_eq_true (by assumption)
                           have q28 : ((ji25) : Int) < ((x9_3.length : Int) : Int) := of_decide_eq_true (by assumption)
                           obtain ⟨go28, co28, eo28, gb28, gl28, cl28, HG28⟩ := Kd.R_form HO_9.out (by omega)
                           (first | cases eo28 | (injection eo28 with ea_ en_ ec_; (first | subst ea_ | (injection ea_ with ea_; subst ea_)); subst ec_; clear en_))
                           have GB28 := Aside0.mk gb28
                           have GG28 := Aside0.mk HG28
                           clear gb28 gl28 HG28
                           obtain ⟨ce28, hcl28, hM28, hcc28, hfr28⟩ := Kd.R_elem HO_9.out z75 ((ji25) : Int) p28 q28
                           obtain rfl := k75_openM hM28
                           have hx28_0 : wr.cell? ⟨go28, ((ji25) : Int).toNat * 2, none⟩ = some (.int .i64 ((rd_T75 x9_3 (ji25)).f0)) := hcc28 0 _ rfl
                           have hx28_1 : wr.cell? ⟨go28, ((ji25) : Int).toNat * 2 + 1, none⟩ = some (.int .i64 ((rd_T75 x9_3 (ji25)).f1)) := hcc28 1 _ rfl
                           have hf28_0 : wr.frozen? ⟨go28, ((ji25) : Int).toNat * 2, none⟩ = false := hfr28 0
                           have hf28_1 : wr.frozen? ⟨go28, ((ji25) : Int).toNat * 2 + 1, none⟩ = false := hfr28 1
                           clear hcl28 hcc28 hfr28 hM28
                           replace p28 := eq_true p28
                           replace q28 := eq_true q28
                           have p113 : 0 ≤ (((rd_T75 x9_3 (ji25)).f0) : Int) := of_decide_eq_true (by assumption)
                           have q113 : ((rd_T75 x9_3 (ji25)).f0) < (l0.length : Int) := of_decide_eq_true (by assumption)
                           obtain ⟨ad113, A113_0, c113_0, e113, hx113_0, hl113_0, hi113_0⟩ := at_L1 HR0.out ((rd_T75 x9_3 (ji25)).f0) p113 q113
                           cases e113
                           replace hx113_0 := (HB.out.cell (World.block_lt_of_cell? w _ hx113_0)).trans hx113_0
                           have HR113_0 := Aside0.mk hi113_0
                           have HC113_0 := Aside0.mk hl113_0
                           clear hi113_0 hl113_0
                           replace p113 := eq_true p113
                           replace q113 := eq_true q113
                           have p120 : 0 ≤ (((rd_T75 x9_3 (ji25)).f0) : Int) := of_decide_eq_true (by assumption)
                           have q120 : ((rd_T75 x9_3 (ji25)).f0) < (l0.length : Int) := of_decide_eq_true (by assumption)
                           obtain ⟨ad120, A120_0, c120_0, e120, hx120_0, hl120_0, hi120_0⟩ := at_L1 HR0.out ((rd_T75 x9_3 (ji25)).f0) p120 q120
                           obtain rfl : ad113 = ad120 := (by injection e120)
                           replace hx120_0 := (HB.out.cell (World.block_lt_of_cell? w _ hx120_0)).trans hx120_0
                           have HR120_0 := Aside0.mk hi120_0
                           have HC120_0 := Aside0.mk hl120_0
                           clear hi120_0 hl120_0
                           replace p120 := eq_true p120
                           replace q120 := eq_true q120
                           have ea_ := Option.some.inj (hx113_0.symm.trans hx120_0)
                           injection ea_ with ea_ en_ ec_
                           subst ea_
                           subst ec_
                           clear en_
                           have p121 : 0 ≤ (((rd_T75 x9_3 (ji25)).f1) : Int) := of_decide_eq_true (by assumption)
                           have q121 : ((rd_T75 x9_3 (ji25)).f1) < ((rd_L1 l0 ((rd_T75 x9_3 (ji25)).f0)).length : Int) := of_decide_eq_true (by assumption)
                           obtain ⟨ad121, e121, hx121_0⟩ := Kd.at_int HR120_0.out ((rd_T75 x9_3 (ji25)).f1) p121 q121
                           cases e121
                           replace hx121_0 := (HB.out.cell (World.block_lt_of_cell? w _ hx121_0)).trans hx121_0
                           replace p121 := eq_true p121
                           replace q121 := eq_true q121
                           have HX46 := Aside0.mk (show Kd.R k75 75 wr w.heap.size (fun _ => True) (.slice (some ⟨go28, 0, none⟩) x9_3.length co45) x9_3 from (by (with_reducible repeat (first | apply Kd.R_alloc | apply Kd.R_drewN | apply Kd.R_drew)); exact HO_9.out))
                           obtain ⟨ce46, hcl46, hM46, hcc46, hfr46⟩ := Kd.R_elem HX46.out z75 ((ji25) : Int) (of_decide_eq_true (by assumption)) (by have h_ : ((ji25) : Int) < ((x9_3.length : Int) : Int) := of_decide_eq_true (by assumption); first | exact h_ | (have e_ := (Kd.R_reads' HO_9.out).1; omega) | simpa using h_)
                           obtain rfl := k75_openM hM46
                           have HP46 := Kd.R_seg HX46.out ((ji25) : Int) (of_decide_eq_true (by assumption)) (by have h_ : ((ji25) : Int) < ((x9_3.length : Int) : Int) := of_decide_eq_true (by assumption); first | exact h_ | (have e_ := (Kd.R_reads' HO_9.out).1; omega) | simpa using h_) (seg := [.int .i64 (wrap64 (((rd_T75 x9_3 (ji25)).f1) + 1))]) (j := 1) hcl46 hcc46 (show 2 ≤ 2 from by decide) (x' := (⟨(rd_T75 x9_3 (ji25)).f0, wrap64 (((rd_T75 x9_3 (ji25)).f1) + 1)⟩ : S75)) (k75_mkM _ _ _ (⟨(rd_T75 x9_3 (ji25)).f0, wrap64 (((rd_T75 x9_3 (ji25)).f1) + 1)⟩ : S75) ) (fun _ hk => hk)
                           have hx46_1 := hcc46 1 _ rfl
                           (try simp only [show (k75).sz = 2 from rfl, Nat.mul_one, Nat.add_zero] at hx46_1)
                           have hf46_1 := hfr46 1
                           (try simp only [show (k75).sz = 2 from rfl, Nat.mul_one, Nat.add_zero] at hf46_1)
                           clear hcl46 hcc46 hfr46 hM46
                           go_wp2_with (first | ((with_reducible refine gate_store (t := 3) (p := 90) rfl ?_); (try (rw [drewN_self wr]; generalize hq_ : World.drewN wr _ = wr; have n0_ := Aside0.mk (Kd.R_at hq_ HO_5.out); have n1_ := Aside0.mk (Kd.R_at hq_ HO_6.out); have n2_ := Aside0.mk (Kd.R_at hq_ HO_9.out); have n3_ := Aside0.mk (below_at hq_ HB.out); clear hq_ HO_5 HO_6 HO_9 HB; have HO_5 := n0_; have HO_6 := n1_; have HO_9 := n2_; have HB := n3_; clear n0_ n1_ n2_ n3_; (try (have HX46 := Aside0.mk (show Kd.R k75 75 wr w.heap.size (fun _ => True) (.slice (some ⟨go28, 0, none⟩) x9_3.length co45) x9_3 from (by (with_reducible repeat (first | apply Kd.R_alloc | apply Kd.R_drewN | apply Kd.R_drew)); exact HO_9.out)))); (try (obtain ⟨ce46, hcl46, hM46, hcc46, hfr46⟩ := Kd.R_elem HX46.out z75 ((ji25) : Int) (of_decide_eq_true (by assumption)) (by have h_ : ((ji25) : Int) < ((x9_3.length : Int) : Int) := of_decide_eq_true (by assumption); first | exact h_ | (have e_ := (Kd.R_reads' HO_9.out).1; omega) | simpa using h_))); (try (obtain rfl := k75_openM hM46)); (try (have HP46 := Kd.R_seg HX46.out ((ji25) : Int) (of_decide_eq_true (by assumption)) (by have h_ : ((ji25) : Int) < ((x9_3.length : Int) : Int) := of_decide_eq_true (by assumption); first | exact h_ | (have e_ := (Kd.R_reads' HO_9.out).1; omega) | simpa using h_) (seg := [.int .i64 (wrap64 (((rd_T75 x9_3 (ji25)).f1) + 1))]) (j := 1) hcl46 hcc46 (show 2 ≤ 2 from by decide) (x' := (⟨(rd_T75 x9_3 (ji25)).f0, wrap64 (((rd_T75 x9_3 (ji25)).f1) + 1)⟩ : S75)) (k75_mkM _ _ _ (⟨(rd_T75 x9_3 (ji25)).f0, wrap64 (((rd_T75 x9_3 (ji25)).f1) + 1)⟩ : S75) ) (fun _ hk => hk))); (try (have hx46_1 := hcc46 1 _ rfl)); (try (try simp only [show (k75).sz = 2 from rfl, Nat.mul_one, Nat.add_zero] at hx46_1)); (try (have hf46_1 := hfr46 1)); (try (try simp only [show (k75).sz = 2 from rfl, Nat.mul_one, Nat.add_zero] at hf46_1)); (try (clear hcl46 hcc46 hfr46 hM46)))); refine store_event (t := 3) (p := 90) (v := ?vo_w47) (w1 := (wr.setCell ⟨go28, ((ji25) : Int).toNat * 2 + 1, none⟩ (.int .i64 (wrap64 (((rd_T75 x9_3 (ji25)).f1) + 1))))) ?hg ?ho ?hn ?hr ?_; (case ho => rfl); (case hg => rfl); (case hn => rfl); (case hr => first | (go_simp; done) | (go_simp; rfl)); intro w47 hw; have hg : wr.grownBy w47 (some go28) := (by rw [hw]; exact HP46.2); have hp_ : Kd.R k75 75 w47 w.heap.size (fun _ => True) (.slice (some ⟨go28, 0, none⟩) x9_3.length co45) y122 := (by rw [hw, Ny122.out]; exact HP46.1); clear HP46; have n0_ := Aside0.mk (Kd.R_over' (v := (.slice (some ⟨go28, 0, none⟩) x9_3.length co45)) (by (with_reducible repeat (first | apply Kd.R_alloc | apply Kd.R_drewN | apply Kd.R_drew)); exact HO_5.out) (Kd.R_typed HO_9.out) (by decide) hg); have n1_ := Aside0.mk (Kd.R_over' (v := (.slice (some ⟨go28, 0, none⟩) x9_3.length co45)) (by (with_reducible repeat (first | apply Kd.R_alloc | apply Kd.R_drewN | apply Kd.R_drew)); exact HO_6.out) (Kd.R_typed HO_9.out) (by decide) hg); have n2_ := Aside0.mk (hp_); have n3_ := Aside0.mk ((by rw [hw]; exact below_set (HB.out) GB28.out : Below w.heap.size w w47)); clear HO_5; clear HO_6; clear HO_9; clear HB; have HO_5 := n0_; have HO_6 := n1_; have HO_9 := n2_; have HB := n3_; clear n0_ n1_ n2_ n3_; clear hg hw hp_) | (go_at_call 42; (with_reducible refine (graph_in.calls (rd (rd_L1 l0 ((rd_T75 x9_3 (ji25)).f0)) ((rd_T75 x9_3 (ji25)).f1)) (l0.length : Int) true _ A39.out).mono ?_); rintro e w' ⟨rfl, ⟨nd, rfl⟩⟩; (try first | exact ⟨rfl, _, World.drewN_drewN _ _ _⟩ | exact ⟨rfl, _, Eq.trans (World.drewN_drewN _ _ _) (congrArg (World.drewN _) (Nat.add_assoc _ _ _))⟩); have p124 : 0 ≤ ((rd (rd_L1 l0 ((rd_T75 x9_3 (ji25)).f0)) ((rd_T75 x9_3 (ji25)).f1)) : Int) := of_decide_eq_true (by assumption); have q124 : (rd (rd_L1 l0 ((rd_T75 x9_3 (ji25)).f0)) ((rd_T75 x9_3 (ji25)).f1)) < (x5_3.length : Int) := of_decide_eq_true (by assumption); obtain ⟨ad124, e124, hx124_0⟩ := Kd.at_bool (Kd.R_reads' HO_5.out).2.2 (rd (rd_L1 l0 ((rd_T75 x9_3 (ji25)).f0)) ((rd_T75 x9_3 (ji25)).f1)) p124 q124; (try rw [← Nbq43.out] at hx124_0); obtain rfl : (⟨go19, 0, none⟩ : Addr) = ad124 := (by injection e124); (first | simp only [add_plain] at hx124_0 | simp only [add_at] at hx124_0 | simp only [Addr.add, Nat.zero_add] at hx124_0 | skip); replace p124 := eq_true p124; replace q124 := eq_true q124))
                           repeat (go_quiet (first | ((with_reducible refine gate_store (t := 3) (p := 90) rfl ?_); (try (rw [drewN_self wr]; generalize hq_ : World.drewN wr _ = wr; have n0_ := Aside0.mk (Kd.R_at hq_ HO_5.out); have n1_ := Aside0.mk (Kd.R_at hq_ HO_6.out); have n2_ := Aside0.mk (Kd.R_at hq_ HO_9.out); have n3_ := Aside0.mk (below_at hq_ HB.out); clear hq_ HO_5 HO_6 HO_9 HB; have HO_5 := n0_; have HO_6 := n1_; have HO_9 := n2_; have HB := n3_; clear n0_ n1_ n2_ n3_; (try (have HX46 := Aside0.mk (show Kd.R k75 75 wr w.heap.size (fun _ => True) (.slice (some ⟨go28, 0, none⟩) x9_3.length co45) x9_3 from (by (with_reducible repeat (first | apply Kd.R_alloc | apply Kd.R_drewN | apply Kd.R_drew)); exact HO_9.out)))); (try (obtain ⟨ce46, hcl46, hM46, hcc46, hfr46⟩ := Kd.R_elem HX46.out z75 ((ji25) : Int) (of_decide_eq_true (by assumption)) (by have h_ : ((ji25) : Int) < ((x9_3.length : Int) : Int) := of_decide_eq_true (by assumption); first | exact h_ | (have e_ := (Kd.R_reads' HO_9.out).1; omega) | simpa using h_))); (try (obtain rfl := k75_openM hM46)); (try (have HP46 := Kd.R_seg HX46.out ((ji25) : Int) (of_decide_eq_true (by assumption)) (by have h_ : ((ji25) : Int) < ((x9_3.length : Int) : Int) := of_decide_eq_true (by assumption); first | exact h_ | (have e_ := (Kd.R_reads' HO_9.out).1; omega) | simpa using h_) (seg := [.int .i64 (wrap64 (((rd_T75 x9_3 (ji25)).f1) + 1))]) (j := 1) hcl46 hcc46 (show 2 ≤ 2 from by decide) (x' := (⟨(rd_T75 x9_3 (ji25)).f0, wrap64 (((rd_T75 x9_3 (ji25)).f1) + 1)⟩ : S75)) (k75_mkM _ _ _ (⟨(rd_T75 x9_3 (ji25)).f0, wrap64 (((rd_T75 x9_3 (ji25)).f1) + 1)⟩ : S75) ) (fun _ hk => hk))); (try (have hx46_1 := hcc46 1 _ rfl)); (try (try simp only [show (k75).sz = 2 from rfl, Nat.mul_one, Nat.add_zero] at hx46_1)); (try (have hf46_1 := hfr46 1)); (try (try simp only [show (k75).sz = 2 from rfl, Nat.mul_one, Nat.add_zero] at hf46_1)); (try (clear hcl46 hcc46 hfr46 hM46)))); refine store_event (t := 3) (p := 90) (v := ?vo_w47) (w1 := (wr.setCell ⟨go28, ((ji25) : Int).toNat * 2 + 1, none⟩ (.int .i64 (wrap64 (((rd_T75 x9_3 (ji25)).f1) + 1))))) ?hg ?ho ?hn ?hr ?_; (case ho => rfl); (case hg => rfl); (case hn => rfl); (case hr => first | (go_simp; done) | (go_simp; rfl)); intro w47 hw; have hg : wr.grownBy w47 (some go28) := (by rw [hw]; exact HP46.2); have hp_ : Kd.R k75 75 w47 w.heap.size (fun _ => True) (.slice (some ⟨go28, 0, none⟩) x9_3.length co45) y122 := (by rw [hw, Ny122.out]; exact HP46.1); clear HP46; have n0_ := Aside0.mk (Kd.R_over' (v := (.slice (some ⟨go28, 0, none⟩) x9_3.length co45)) (by (with_reducible repeat (first | apply Kd.R_alloc | apply Kd.R_drewN | apply Kd.R_drew)); exact HO_5.out) (Kd.R_typed HO_9.out) (by decide) hg); have n1_ := Aside0.mk (Kd.R_over' (v := (.slice (some ⟨go28, 0, none⟩) x9_3.length co45)) (by (with_reducible repeat (first | apply Kd.R_alloc | apply Kd.R_drewN | apply Kd.R_drew)); exact HO_6.out) (Kd.R_typed HO_9.out) (by decide) hg); have n2_ := Aside0.mk (hp_); have n3_ := Aside0.mk ((by rw [hw]; exact below_set (HB.out) GB28.out : Below w.heap.size w w47)); clear HO_5; clear HO_6; clear HO_9; clear HB; have HO_5 := n0_; have HO_6 := n1_; have HO_9 := n2_; have HB := n3_; clear n0_ n1_ n2_ n3_; clear hg hw hp_) | (go_at_call 42; (with_reducible refine (graph_in.calls (rd (rd_L1 l0 ((rd_T75 x9_3 (ji25)).f0)) ((rd_T75 x9_3 (ji25)).f1)) (l0.length : Int) true _ A39.out).mono ?_); rintro e w' ⟨rfl, ⟨nd, rfl⟩⟩; (try first | exact ⟨rfl, _, World.drewN_drewN _ _ _⟩ | exact ⟨rfl, _, Eq.trans (World.drewN_drewN _ _ _) (congrArg (World.drewN _) (Nat.add_assoc _ _ _))⟩); have p124 : 0 ≤ ((rd (rd_L1 l0 ((rd_T75 x9_3 (ji25)).f0)) ((rd_T75 x9_3 (ji25)).f1)) : Int) := of_decide_eq_true (by assumption); have q124 : (rd (rd_L1 l0 ((rd_T75 x9_3 (ji25)).f0)) ((rd_T75 x9_3 (ji25)).f1)) < (x5_3.length : Int) := of_decide_eq_true (by assumption); obtain ⟨ad124, e124, hx124_0⟩ := Kd.at_bool (Kd.R_reads' HO_5.out).2.2 (rd (rd_L1 l0 ((rd_T75 x9_3 (ji25)).f0)) ((rd_T75 x9_3 (ji25)).f1)) p124 q124; (try rw [← Nbq43.out] at hx124_0); obtain rfl : (⟨go19, 0, none⟩ : Addr) = ad124 := (by injection e124); (first | simp only [add_plain] at hx124_0 | simp only [add_at] at hx124_0 | simp only [Addr.add, Nat.zero_add] at hx124_0 | skip); replace p124 := eq_true p124; replace q124 := eq_true q124)); try go_wp2_with (first | ((with_reducible refine gate_store (t := 3) (p := 90) rfl ?_); (try (rw [drewN_self wr]; generalize hq_ : World.drewN wr _ = wr; have n0_ := Aside0.mk (Kd.R_at hq_ HO_5.out); have n1_ := Aside0.mk (Kd.R_at hq_ HO_6.out); have n2_ := Aside0.mk (Kd.R_at hq_ HO_9.out); have n3_ := Aside0.mk (below_at hq_ HB.out); clear hq_ HO_5 HO_6 HO_9 HB; have HO_5 := n0_; have HO_6 := n1_; have HO_9 := n2_; have HB := n3_; clear n0_ n1_ n2_ n3_; (try (have HX46 := Aside0.mk (show Kd.R k75 75 wr w.heap.size (fun _ => True) (.slice (some ⟨go28, 0, none⟩) x9_3.length co45) x9_3 from (by (with_reducible repeat (first | apply Kd.R_alloc | apply Kd.R_drewN | apply Kd.R_drew)); exact HO_9.out)))); (try (obtain ⟨ce46, hcl46, hM46, hcc46, hfr46⟩ := Kd.R_elem HX46.out z75 ((ji25) : Int) (of_decide_eq_true (by assumption)) (by have h_ : ((ji25) : Int) < ((x9_3.length : Int) : Int) := of_decide_eq_true (by assumption); first | exact h_ | (have e_ := (Kd.R_reads' HO_9.out).1; omega) | simpa using h_))); (try (obtain rfl := k75_openM hM46)); (try (have HP46 := Kd.R_seg HX46.out ((ji25) : Int) (of_decide_eq_true (by assumption)) (by have h_ : ((ji25) : Int) < ((x9_3.length : Int) : Int) := of_decide_eq_true (by assumption); first | exact h_ | (have e_ := (Kd.R_reads' HO_9.out).1; omega) | simpa using h_) (seg := [.int .i64 (wrap64 (((rd_T75 x9_3 (ji25)).f1) + 1))]) (j := 1) hcl46 hcc46 (show 2 ≤ 2 from by decide) (x' := (⟨(rd_T75 x9_3 (ji25)).f0, wrap64 (((rd_T75 x9_3 (ji25)).f1) + 1)⟩ : S75)) (k75_mkM _ _ _ (⟨(rd_T75 x9_3 (ji25)).f0, wrap64 (((rd_T75 x9_3 (ji25)).f1) + 1)⟩ : S75) ) (fun _ hk => hk))); (try (have hx46_1 := hcc46 1 _ rfl)); (try (try simp only [show (k75).sz = 2 from rfl, Nat.mul_one, Nat.add_zero] at hx46_1)); (try (have hf46_1 := hfr46 1)); (try (try simp only [show (k75).sz = 2 from rfl, Nat.mul_one, Nat.add_zero] at hf46_1)); (try (clear hcl46 hcc46 hfr46 hM46)))); refine store_event (t := 3) (p := 90) (v := ?vo_w47) (w1 := (wr.setCell ⟨go28, ((ji25) : Int).toNat * 2 + 1, none⟩ (.int .i64 (wrap64 (((rd_T75 x9_3 (ji25)).f1) + 1))))) ?hg ?ho ?hn ?hr ?_; (case ho => rfl); (case hg => rfl); (case hn => rfl); (case hr => first | (go_simp; done) | (go_simp; rfl)); intro w47 hw; have hg : wr.grownBy w47 (some go28) := (by rw [hw]; exact HP46.2); have hp_ : Kd.R k75 75 w47 w.heap.size (fun _ => True) (.slice (some ⟨go28, 0, none⟩) x9_3.length co45) y122 := (by rw [hw, Ny122.out]; exact HP46.1); clear HP46; have n0_ := Aside0.mk (Kd.R_over' (v := (.slice (some ⟨go28, 0, none⟩) x9_3.length co45)) (by (with_reducible repeat (first | apply Kd.R_alloc | apply Kd.R_drewN | apply Kd.R_drew)); exact HO_5.out) (Kd.R_typed HO_9.out) (by decide) hg); have n1_ := Aside0.mk (Kd.R_over' (v := (.slice (some ⟨go28, 0, none⟩) x9_3.length co45)) (by (with_reducible repeat (first | apply Kd.R_alloc | apply Kd.R_drewN | apply Kd.R_drew)); exact HO_6.out) (Kd.R_typed HO_9.out) (by decide) hg); have n2_ := Aside0.mk (hp_); have n3_ := Aside0.mk ((by rw [hw]; exact below_set (HB.out) GB28.out : Below w.heap.size w w47)); clear HO_5; clear HO_6; clear HO_9; clear HB; have HO_5 := n0_; have HO_6 := n1_; have HO_9 := n2_; have HB := n3_; clear n0_ n1_ n2_ n3_; clear hg hw hp_) | (go_at_call 42; (with_reducible refine (graph_in.calls (rd (rd_L1 l0 ((rd_T75 x9_3 (ji25)).f0)) ((rd_T75 x9_3 (ji25)).f1)) (l0.length : Int) true _ A39.out).mono ?_); rintro e w' ⟨rfl, ⟨nd, rfl⟩⟩; (try first | exact ⟨rfl, _, World.drewN_drewN _ _ _⟩ | exact ⟨rfl, _, Eq.trans (World.drewN_drewN _ _ _) (congrArg (World.drewN _) (Nat.add_assoc _ _ _))⟩); have p124 : 0 ≤ ((rd (rd_L1 l0 ((rd_T75 x9_3 (ji25)).f0)) ((rd_T75 x9_3 (ji25)).f1)) : Int) := of_decide_eq_true (by assumption); have q124 : (rd (rd_L1 l0 ((rd_T75 x9_3 (ji25)).f0)) ((rd_T75 x9_3 (ji25)).f1)) < (x5_3.length : Int) := of_decide_eq_true (by assumption); obtain ⟨ad124, e124, hx124_0⟩ := Kd.at_bool (Kd.R_reads' HO_5.out).2.2 (rd (rd_L1 l0 ((rd_T75 x9_3 (ji25)).f0)) ((rd_T75 x9_3 (ji25)).f1)) p124 q124; (try rw [← Nbq43.out] at hx124_0); obtain rfl : (⟨go19, 0, none⟩ : Addr) = ad124 := (by injection e124); (first | simp only [add_plain] at hx124_0 | simp only [add_at] at hx124_0 | simp only [Addr.add, Nat.zero_add] at hx124_0 | skip); replace p124 := eq_true p124; replace q124 := eq_true q124)))
                           (try simp only [← hl5_3])
                           go_roundg k3
                           case measure => have := HK1.out; have := HJ9.out; have := HK3.out; omega
                           case rel => exact ⟨(x5_3), (x6_3), (y122), H', ⟨by have := HK1.out; have := HJ9.out; have := HK3.out; omega⟩, ⟨by (try simp only [hl5_3]); (with_reducible repeat (first | apply Kd.R_alloc | apply Kd.R_drewN | apply Kd.R_drew)); exact HO_5.out⟩, ⟨by (try simp only [hl5_3]); (with_reducible repeat (first | apply Kd.R_alloc | apply Kd.R_drewN | apply Kd.R_drew)); exact HO_6.out⟩, ⟨by (try simp only [hl5_3]); (with_reducible repeat (first | apply Kd.R_alloc | apply Kd.R_drewN | apply Kd.R_drew)); exact HO_9.out⟩, ⟨by repeat (first | (with_reducible first | exact HB.out | apply below_alloc | apply pw_below_drewN | apply below_drew1) | exact HB.out)⟩⟩
                          ·replace c44 := Bool.eq_false_iff.mpr c44
                           subst c44
                           have H1 : (if y122.length < 8796093022208 then (graph_Begin.l1 k3 l0 (x5_3.set ((rd (rd_L1 l0 ((rd_T75 x9_3 (ji25)).f0)) ((rd_T75 x9_3 (ji25)).f1)) : Int).toNat true) x6_3 (y122 ++ [(⟨rd (rd_L1 l0 ((rd_T75 x9_3 (ji25)).f0)) ((rd_T75 x9_3 (ji25)).f1), 0⟩ : S75)]) l1 (l1.length : Int) x17_1) else (none)) = some r := by rw [if_neg (show ¬ (false = true) by decide)] at H; exact H
                           clear H
                           have H := H1
                           clear H1
                           obtain ⟨y125, hy125⟩ : ∃ y_ : List Bool, y_ = (x5_3.set ((rd (rd_L1 l0 ((rd_T75 x9_3 (ji25)).f0)) ((rd_T75 x9_3 (ji25)).f1)) : Int).toNat true) := ⟨_, rfl⟩
                           replace H : (if y122.length < 8796093022208 then (graph_Begin.l1 k3 l0 y125 x6_3 (y122 ++ [(⟨rd (rd_L1 l0 ((rd_T75 x9_3 (ji25)).f0)) ((rd_T75 x9_3 (ji25)).f1), 0⟩ : S75)]) l1 (l1.length : Int) x17_1) else (none)) = some r := by first | (rw [hy125]; with_reducible exact H) | (have H2_ := (Option.bind_some _ _).symm.trans H; rw [hy125]; with_reducible exact H2_) | (have H2_ := (Option.bind_some _ _).symm.trans H; with_reducible exact H2_) | with_reducible exact H | (rw [hy125]; exact H) | exact H
                           have Ny125 := Aside0.mk hy125
                           clear hy125
                           by_cases c49 : y122.length < 8796093022208
                           ·rw [if_pos c49] at H
                            have LMc49 := Aside0.mk c49
                            clear c49
                            obtain ⟨y126, hy126⟩ : ∃ y_ : List (S75), y_ = (y122 ++ [(⟨rd (rd_L1 l0 ((rd_T75 x9_3 (ji25)).f0)) ((rd_T75 x9_3 (ji25)).f1), 0⟩ : S75)]) := ⟨_, rfl⟩
                            replace H : (graph_Begin.l1 k3 l0 y125 x6_3 y126 l1 (l1.length : Int) x17_1) = some r := by first | (rw [hy126]; with_reducible exact H) | (have H2_ := (Option.bind_some _ _).symm.trans H; rw [hy126]; with_reducible exact H2_) | (have H2_ := (Option.bind_some _ _).symm.trans H; with_reducible exact H2_) | with_reducible exact H | (rw [hy126]; exact H) | exact H
                            have Ny126 := Aside0.mk hy126
                            clear hy126
                            have H' := Aside0.mk H
                            clear H
                            obtain ⟨Ao50, co50, eo50⟩ := Kd.R_slice HO_9.out
                            subst eo50
                            have p28 : 0 ≤ ((ji25) : Int) := of_decide_eq_true (by assumption)
                            have q28 : ((ji25) : Int) < ((x9_3.length : Int) : Int) := of_decide_eq_true (by assumption)
                            obtain ⟨go28, co28, eo28, gb28, gl28, cl28, HG28⟩ := Kd.R_form HO_9.out (by omega)
                            (first | cases eo28 | (injection eo28 with ea_ en_ ec_; (first | subst ea_ | (injection ea_ with ea_; subst ea_)); subst ec_; clear en_))
                            have GB28 := Aside0.mk gb28
                            have GG28 := Aside0.mk HG28
                            clear gb28 gl28 HG28
                            obtain ⟨ce28, hcl28, hM28, hcc28, hfr28⟩ := Kd.R_elem HO_9.out z75 ((ji25) : Int) p28 q28
                            obtain rfl := k75_openM hM28
                            have hx28_0 : wr.cell? ⟨go28, ((ji25) : Int).toNat * 2, none⟩ = some (.int .i64 ((rd_T75 x9_3 (ji25)).f0)) := hcc28 0 _ rfl
                            have hx28_1 : wr.cell? ⟨go28, ((ji25) : Int).toNat * 2 + 1, none⟩ = some (.int .i64 ((rd_T75 x9_3 (ji25)).f1)) := hcc28 1 _ rfl
                            have hf28_0 : wr.frozen? ⟨go28, ((ji25) : Int).toNat * 2, none⟩ = false := hfr28 0
                            have hf28_1 : wr.frozen? ⟨go28, ((ji25) : Int).toNat * 2 + 1, none⟩ = false := hfr28 1
                            clear hcl28 hcc28 hfr28 hM28
                            replace p28 := eq_true p28
                            replace q28 := eq_true q28
                            have p113 : 0 ≤ (((rd_T75 x9_3 (ji25)).f0) : Int) := of_decide_eq_true (by assumption)
                            have q113 : ((rd_T75 x9_3 (ji25)).f0) < (l0.length : Int) := of_decide_eq_true (by assumption)
                            obtain ⟨ad113, A113_0, c113_0, e113, hx113_0, hl113_0, hi113_0⟩ := at_L1 HR0.out ((rd_T75 x9_3 (ji25)).f0) p113 q113
                            cases e113
                            replace hx113_0 := (HB.out.cell (World.block_lt_of_cell? w _ hx113_0)).trans hx113_0
                            have HR113_0 := Aside0.mk hi113_0
                            have HC113_0 := Aside0.mk hl113_0
                            clear hi113_0 hl113_0
                            replace p113 := eq_true p113
                            replace q113 := eq_true q113
                            have p120 : 0 ≤ (((rd_T75 x9_3 (ji25)).f0) : Int) := of_decide_eq_true (by assumption)
                            have q120 : ((rd_T75 x9_3 (ji25)).f0) < (l0.length : Int) := of_decide_eq_true (by assumption)
                            obtain ⟨ad120, A120_0, c120_0, e120, hx120_0, hl120_0, hi120_0⟩ := at_L1 HR0.out ((rd_T75 x9_3 (ji25)).f0) p120 q120
                            obtain rfl : ad113 = ad120 := (by injection e120)
                            replace hx120_0 := (HB.out.cell (World.block_lt_of_cell? w _ hx120_0)).trans hx120_0
                            have HR120_0 := Aside0.mk hi120_0
                            have HC120_0 := Aside0.mk hl120_0
                            clear hi120_0 hl120_0
                            replace p120 := eq_true p120
                            replace q120 := eq_true q120
                            have ea_ := Option.some.inj (hx113_0.symm.trans hx120_0)
                            injection ea_ with ea_ en_ ec_
                            subst ea_
                            subst ec_
                            clear en_
                            have p121 : 0 ≤ (((rd_T75 x9_3 (ji25)).f1) : Int) := of_decide_eq_true (by assumption)
                            have q121 : ((rd_T75 x9_3 (ji25)).f1) < ((rd_L1 l0 ((rd_T75 x9_3 (ji25)).f0)).length : Int) := of_decide_eq_true (by assumption)
                            obtain ⟨ad121, e121, hx121_0⟩ := Kd.at_int HR120_0.out ((rd_T75 x9_3 (ji25)).f1) p121 q121
                            cases e121
                            replace hx121_0 := (HB.out.cell (World.block_lt_of_cell? w _ hx121_0)).trans hx121_0
                            replace p121 := eq_true p121
                            replace q121 := eq_true q121
                            have HX51 := Aside0.mk (show Kd.R k75 75 wr w.heap.size (fun _ => True) (.slice (some ⟨go28, 0, none⟩) x9_3.length co50) x9_3 from (by (with_reducible repeat (first | apply Kd.R_alloc | apply Kd.R_drewN | apply Kd.R_drew)); exact HO_9.out))
                            obtain ⟨ce51, hcl51, hM51, hcc51, hfr51⟩ := Kd.R_elem HX51.out z75 ((ji25) : Int) (of_decide_eq_true (by assumption)) (by have h_ : ((ji25) : Int) < ((x9_3.length : Int) : Int) := of_decide_eq_true (by assumption); first | exact h_ | (have e_ := (Kd.R_reads' HO_9.out).1; omega) | simpa using h_)
                            obtain rfl := k75_openM hM51
                            have HP51 := Kd.R_seg HX51.out ((ji25) : Int) (of_decide_eq_true (by assumption)) (by have h_ : ((ji25) : Int) < ((x9_3.length : Int) : Int) := of_decide_eq_true (by assumption); first | exact h_ | (have e_ := (Kd.R_reads' HO_9.out).1; omega) | simpa using h_) (seg := [.int .i64 (wrap64 (((rd_T75 x9_3 (ji25)).f1) + 1))]) (j := 1) hcl51 hcc51 (show 2 ≤ 2 from by decide) (x' := (⟨(rd_T75 x9_3 (ji25)).f0, wrap64 (((rd_T75 x9_3 (ji25)).f1) + 1)⟩ : S75)) (k75_mkM _ _ _ (⟨(rd_T75 x9_3 (ji25)).f0, wrap64 (((rd_T75 x9_3 (ji25)).f1) + 1)⟩ : S75) ) (fun _ hk => hk)
                            have hx51_1 := hcc51 1 _ rfl
                            (try simp only [show (k75).sz = 2 from rfl, Nat.mul_one, Nat.add_zero] at hx51_1)
                            have hf51_1 := hfr51 1
                            (try simp only [show (k75).sz = 2 from rfl, Nat.mul_one, Nat.add_zero] at hf51_1)
                            clear hcl51 hcc51 hfr51 hM51
                            go_wp2_with (first | ((with_reducible refine gate_store (t := 3) (p := 90) rfl ?_); (try (rw [drewN_self wr]; generalize hq_ : World.drewN wr _ = wr; have n0_ := Aside0.mk (Kd.R_at hq_ HO_5.out); have n1_ := Aside0.mk (Kd.R_at hq_ HO_6.out); have n2_ := Aside0.mk (Kd.R_at hq_ HO_9.out); have n3_ := Aside0.mk (below_at hq_ HB.out); clear hq_ HO_5 HO_6 HO_9 HB; have HO_5 := n0_; have HO_6 := n1_; have HO_9 := n2_; have HB := n3_; clear n0_ n1_ n2_ n3_; (try (have HX51 := Aside0.mk (show Kd.R k75 75 wr w.heap.size (fun _ => True) (.slice (some ⟨go28, 0, none⟩) x9_3.length co50) x9_3 from (by (with_reducible repeat (first | apply Kd.R_alloc | apply Kd.R_drewN | apply Kd.R_drew)); exact HO_9.out)))); (try (obtain ⟨ce51, hcl51, hM51, hcc51, hfr51⟩ := Kd.R_elem HX51.out z75 ((ji25) : Int) (of_decide_eq_true (by assumption)) (by have h_ : ((ji25) : Int) < ((x9_3.length : Int) : Int) := of_decide_eq_true (by assumption); first | exact h_ | (have e_ := (Kd.R_reads' HO_9.out).1; omega) | simpa using h_))); (try (obtain rfl := k75_openM hM51)); (try (have HP51 := Kd.R_seg HX51.out ((ji25) : Int) (of_decide_eq_true (by assumption)) (by have h_ : ((ji25) : Int) < ((x9_3.length : Int) : Int) := of_decide_eq_true (by assumption); first | exact h_ | (have e_ := (Kd.R_reads' HO_9.out).1; omega) | simpa using h_) (seg := [.int .i64 (wrap64 (((rd_T75 x9_3 (ji25)).f1) + 1))]) (j := 1) hcl51 hcc51 (show 2 ≤ 2 from by decide) (x' := (⟨(rd_T75 x9_3 (ji25)).f0, wrap64 (((rd_T75 x9_3 (ji25)).f1) + 1)⟩ : S75)) (k75_mkM _ _ _ (⟨(rd_T75 x9_3 (ji25)).f0, wrap64 (((rd_T75 x9_3 (ji25)).f1) + 1)⟩ : S75) ) (fun _ hk => hk))); (try (have hx51_1 := hcc51 1 _ rfl)); (try (try simp only [show (k75).sz = 2 from rfl, Nat.mul_one, Nat.add_zero] at hx51_1)); (try (have hf51_1 := hfr51 1)); (try (try simp only [show (k75).sz = 2 from rfl, Nat.mul_one, Nat.add_zero] at hf51_1)); (try (clear hcl51 hcc51 hfr51 hM51)))); refine store_event (t := 3) (p := 90) (v := ?vo_w52) (w1 := (wr.setCell ⟨go28, ((ji25) : Int).toNat * 2 + 1, none⟩ (.int .i64 (wrap64 (((rd_T75 x9_3 (ji25)).f1) + 1))))) ?hg ?ho ?hn ?hr ?_; (case ho => rfl); (case hg => rfl); (case hn => rfl); (case hr => first | (go_simp; done) | (go_simp; rfl)); intro w52 hw; have hg : wr.grownBy w52 (some go28) := (by rw [hw]; exact HP51.2); have hp_ : Kd.R k75 75 w52 w.heap.size (fun _ => True) (.slice (some ⟨go28, 0, none⟩) x9_3.length co50) y122 := (by rw [hw, Ny122.out]; exact HP51.1); clear HP51; have n0_ := Aside0.mk (Kd.R_over' (v := (.slice (some ⟨go28, 0, none⟩) x9_3.length co50)) (by (with_reducible repeat (first | apply Kd.R_alloc | apply Kd.R_drewN | apply Kd.R_drew)); exact HO_5.out) (Kd.R_typed HO_9.out) (by decide) hg); have n1_ := Aside0.mk (Kd.R_over' (v := (.slice (some ⟨go28, 0, none⟩) x9_3.length co50)) (by (with_reducible repeat (first | apply Kd.R_alloc | apply Kd.R_drewN | apply Kd.R_drew)); exact HO_6.out) (Kd.R_typed HO_9.out) (by decide) hg); have n2_ := Aside0.mk (hp_); have n3_ := Aside0.mk ((by rw [hw]; exact below_set (HB.out) GB28.out : Below w.heap.size w w52)); clear HO_5; clear HO_6; clear HO_9; clear HB; have HO_5 := n0_; have HO_6 := n1_; have HO_9 := n2_; have HB := n3_; clear n0_ n1_ n2_ n3_; clear hg hw hp_) | (go_at_call 42; (with_reducible refine (graph_in.calls (rd (rd_L1 l0 ((rd_T75 x9_3 (ji25)).f0)) ((rd_T75 x9_3 (ji25)).f1)) (l0.length : Int) true _ A39.out).mono ?_); rintro e w' ⟨rfl, ⟨nd, rfl⟩⟩; (try first | exact ⟨rfl, _, World.drewN_drewN _ _ _⟩ | exact ⟨rfl, _, Eq.trans (World.drewN_drewN _ _ _) (congrArg (World.drewN _) (Nat.add_assoc _ _ _))⟩); have p124 : 0 ≤ ((rd (rd_L1 l0 ((rd_T75 x9_3 (ji25)).f0)) ((rd_T75 x9_3 (ji25)).f1)) : Int) := of_decide_eq_true (by assumption); have q124 : (rd (rd_L1 l0 ((rd_T75 x9_3 (ji25)).f0)) ((rd_T75 x9_3 (ji25)).f1)) < (x5_3.length : Int) := of_decide_eq_true (by assumption); obtain ⟨ad124, e124, hx124_0⟩ := Kd.at_bool (Kd.R_reads' HO_5.out).2.2 (rd (rd_L1 l0 ((rd_T75 x9_3 (ji25)).f0)) ((rd_T75 x9_3 (ji25)).f1)) p124 q124; (try rw [← Nbq43.out] at hx124_0); obtain rfl : (⟨go19, 0, none⟩ : Addr) = ad124 := (by injection e124); (first | simp only [add_plain] at hx124_0 | simp only [add_at] at hx124_0 | simp only [Addr.add, Nat.zero_add] at hx124_0 | skip); replace p124 := eq_true p124; replace q124 := eq_true q124; have p48 : 0 ≤ ((rd (rd_L1 l0 ((rd_T75 x9_3 (ji25)).f0)) ((rd_T75 x9_3 (ji25)).f1)) : Int) := of_decide_eq_true (by assumption); have q48 : ((rd (rd_L1 l0 ((rd_T75 x9_3 (ji25)).f0)) ((rd_T75 x9_3 (ji25)).f1)) : Int) < ((x5_3.length : Int) : Int) := of_decide_eq_true (by assumption); obtain ⟨hx48_0, hf48_0⟩ := Kd.R_celln false HO_5.out ((rd (rd_L1 l0 ((rd_T75 x9_3 (ji25)).f0)) ((rd_T75 x9_3 (ji25)).f1)) : Int) p48 q48; replace p48 := eq_true p48; replace q48 := eq_true q48; obtain ⟨hy53_, hz53_⟩ := Kd.R_celln false HO_5.out ((rd (rd_L1 l0 ((rd_T75 x9_3 (ji25)).f0)) ((rd_T75 x9_3 (ji25)).f1)) : Int) (of_decide_eq_true (by assumption)) (of_decide_eq_true (by assumption)); have HP53 := Kd.R_putg HO_5.out ((rd (rd_L1 l0 ((rd_T75 x9_3 (ji25)).f0)) ((rd_T75 x9_3 (ji25)).f1)) : Int) true) | ((with_reducible refine gate_store (t := 4) (p := 104) rfl ?_); (try (rw [drewN_self w52]; generalize hq_ : World.drewN w52 _ = w52; have n0_ := Aside0.mk (Kd.R_at hq_ HO_5.out); have n1_ := Aside0.mk (Kd.R_at hq_ HO_6.out); have n2_ := Aside0.mk (Kd.R_at hq_ HO_9.out); have n3_ := Aside0.mk (below_at hq_ HB.out); clear hq_ HO_5 HO_6 HO_9 HB; have HO_5 := n0_; have HO_6 := n1_; have HO_9 := n2_; have HB := n3_; clear n0_ n1_ n2_ n3_; (try (obtain ⟨hy53_, hz53_⟩ := Kd.R_celln false HO_5.out ((rd (rd_L1 l0 ((rd_T75 x9_3 (ji25)).f0)) ((rd_T75 x9_3 (ji25)).f1)) : Int) (of_decide_eq_true (by assumption)) (of_decide_eq_true (by assumption)))); (try (have HP53 := Kd.R_putg HO_5.out ((rd (rd_L1 l0 ((rd_T75 x9_3 (ji25)).f0)) ((rd_T75 x9_3 (ji25)).f1)) : Int) true)))); refine store_event (t := 4) (p := 104) (v := ?vo_w54) (w1 := (w52.setCell ⟨go19, ((rd (rd_L1 l0 ((rd_T75 x9_3 (ji25)).f0)) ((rd_T75 x9_3 (ji25)).f1)) : Int).toNat, none⟩ (.bool true))) ?hg ?ho ?hn ?hr ?_; (case ho => rfl); (case hg => rfl); (case hn => rfl); (case hr => first | (go_simp; done) | (go_simp; rfl)); intro w54 hw; have hg : w52.grownBy w54 (some go19) := (by rw [hw]; exact HP53.2); have hp_ : Kd.R Kd.bool 4 w54 w.heap.size (fun _ => True) (.slice (some ⟨go19, 0, none⟩) x5_3.length co19) y125 := (by rw [hw, Ny125.out]; exact HP53.1); clear HP53; have n0_ := Aside0.mk (hp_); have n1_ := Aside0.mk (Kd.R_over' (v := (.slice (some ⟨go19, 0, none⟩) x5_3.length co19)) (by (with_reducible repeat (first | apply Kd.R_alloc | apply Kd.R_drewN | apply Kd.R_drew)); exact HO_6.out) (Kd.R_typed HO_5.out) (by decide) hg); have n2_ := Aside0.mk (Kd.R_over' (v := (.slice (some ⟨go19, 0, none⟩) x5_3.length co19)) (by (with_reducible repeat (first | apply Kd.R_alloc | apply Kd.R_drewN | apply Kd.R_drew)); exact HO_9.out) (Kd.R_typed HO_5.out) (by decide) hg); have n3_ := Aside0.mk ((by rw [hw]; exact below_set (HB.out) GB19.out : Below w.heap.size w w54)); clear HO_5; clear HO_6; clear HO_9; clear HB; have HO_5 := n0_; have HO_6 := n1_; have HO_9 := n2_; have HB := n3_; clear n0_ n1_ n2_ n3_; clear hg hw hp_) | ((with_reducible refine gate_builtin (b := .append) (xs := #[.tmp 105, .tmp 108]) rfl ?_); at_builtin; refine Kd.R_append k75 (w0 := w) w.heap.size rfl (.tmp 105) (.tmp 108) 76 75 (.agg #[(.int .i64 0), (.int .i64 0)]) 16 rfl Try.underlying76 info75 rfl (by decide) (by omega) (.slice (some ⟨go28, 0, none⟩) x9_3.length co50) y122 (⟨rd (rd_L1 l0 ((rd_T75 x9_3 (ji25)).f0)) ((rd_T75 x9_3 (ji25)).f1), 0⟩ : S75) [.int .i64 (rd (rd_L1 l0 ((rd_T75 x9_3 (ji25)).f0)) ((rd_T75 x9_3 (ji25)).f1)), .int .i64 0] (fun _ => True) (fun _ => False) rfl rfl ?aP (fun _ hk => hk.elim) ?aF ?aO ?aB ?aS ?aL ?_; (case aP => exact k75_mkM _ _ _ (⟨rd (rd_L1 l0 ((rd_T75 x9_3 (ji25)).f0)) ((rd_T75 x9_3 (ji25)).f1), 0⟩ : S75)); (case aB => exact (by repeat (first | (with_reducible first | exact HB.out | apply below_alloc | apply pw_below_drewN | apply below_drew1) | exact HB.out))); (case aF => exact (fun _ _ => trivial)); (case aO => exact (by (with_reducible repeat (first | apply Kd.R_alloc | apply Kd.R_drewN | apply Kd.R_drew)); exact HO_9.out)); (case aS => exact (below_size (by repeat (first | (with_reducible first | exact HB.out | apply below_alloc | apply pw_below_drewN | apply below_drew1) | exact HB.out)))); (case aL => have := LMc49.out; omega); intro v127 w55 ho hb hg hat; rw [← Ny126.out] at ho; have n0_ := Aside0.mk (Kd.R_over' (by (with_reducible repeat (first | apply Kd.R_alloc | apply Kd.R_drewN | apply Kd.R_drew)); exact HO_5.out) (Kd.R_typed (by (with_reducible repeat (first | apply Kd.R_alloc | apply Kd.R_drewN | apply Kd.R_drew)); exact HO_9.out)) (by decide) hg); have n1_ := Aside0.mk (Kd.R_over' (by (with_reducible repeat (first | apply Kd.R_alloc | apply Kd.R_drewN | apply Kd.R_drew)); exact HO_6.out) (Kd.R_typed (by (with_reducible repeat (first | apply Kd.R_alloc | apply Kd.R_drewN | apply Kd.R_drew)); exact HO_9.out)) (by decide) hg); have n2_ := Aside0.mk (hb); have n3_ := Aside0.mk (ho); clear HO_5; clear HO_6; clear HB; clear HO_9; have HO_5 := n0_; have HO_6 := n1_; have HB := n2_; have HO128 := n3_; clear n0_ n1_ n2_ n3_; clear ho hb hg hat))
                            repeat (go_quiet (first | ((with_reducible refine gate_store (t := 3) (p := 90) rfl ?_); (try (rw [drewN_self wr]; generalize hq_ : World.drewN wr _ = wr; have n0_ := Aside0.mk (Kd.R_at hq_ HO_5.out); have n1_ := Aside0.mk (Kd.R_at hq_ HO_6.out); have n2_ := Aside0.mk (Kd.R_at hq_ HO_9.out); have n3_ := Aside0.mk (below_at hq_ HB.out); clear hq_ HO_5 HO_6 HO_9 HB; have HO_5 := n0_; have HO_6 := n1_; have HO_9 := n2_; have HB := n3_; clear n0_ n1_ n2_ n3_; (try (have HX51 := Aside0.mk (show Kd.R k75 75 wr w.heap.size (fun _ => True) (.slice (some ⟨go28, 0, none⟩) x9_3.length co50) x9_3 from (by (with_reducible repeat (first | apply Kd.R_alloc | apply Kd.R_drewN | apply Kd.R_drew)); exact HO_9.out)))); (try (obtain ⟨ce51, hcl51, hM51, hcc51, hfr51⟩ := Kd.R_elem HX51.out z75 ((ji25) : Int) (of_decide_eq_true (by assumption)) (by have h_ : ((ji25) : Int) < ((x9_3.length : Int) : Int) := of_decide_eq_true (by assumption); first | exact h_ | (have e_ := (Kd.R_reads' HO_9.out).1; omega) | simpa using h_))); (try (obtain rfl := k75_openM hM51)); (try (have HP51 := Kd.R_seg HX51.out ((ji25) : Int) (of_decide_eq_true (by assumption)) (by have h_ : ((ji25) : Int) < ((x9_3.length : Int) : Int) := of_decide_eq_true (by assumption); first | exact h_ | (have e_ := (Kd.R_reads' HO_9.out).1; omega) | simpa using h_) (seg := [.int .i64 (wrap64 (((rd_T75 x9_3 (ji25)).f1) + 1))]) (j := 1) hcl51 hcc51 (show 2 ≤ 2 from by decide) (x' := (⟨(rd_T75 x9_3 (ji25)).f0, wrap64 (((rd_T75 x9_3 (ji25)).f1) + 1)⟩ : S75)) (k75_mkM _ _ _ (⟨(rd_T75 x9_3 (ji25)).f0, wrap64 (((rd_T75 x9_3 (ji25)).f1) + 1)⟩ : S75) ) (fun _ hk => hk))); (try (have hx51_1 := hcc51 1 _ rfl)); (try (try simp only [show (k75).sz = 2 from rfl, Nat.mul_one, Nat.add_zero] at hx51_1)); (try (have hf51_1 := hfr51 1)); (try (try simp only [show (k75).sz = 2 from rfl, Nat.mul_one, Nat.add_zero] at hf51_1)); (try (clear hcl51 hcc51 hfr51 hM51)))); refine store_event (t := 3) (p := 90) (v := ?vo_w52) (w1 := (wr.setCell ⟨go28, ((ji25) : Int).toNat * 2 + 1, none⟩ (.int .i64 (wrap64 (((rd_T75 x9_3 (ji25)).f1) + 1))))) ?hg ?ho ?hn ?hr ?_; (case ho => rfl); (case hg => rfl); (case hn => rfl); (case hr => first | (go_simp; done) | (go_simp; rfl)); intro w52 hw; have hg : wr.grownBy w52 (some go28) := (by rw [hw]; exact HP51.2); have hp_ : Kd.R k75 75 w52 w.heap.size (fun _ => True) (.slice (some ⟨go28, 0, none⟩) x9_3.length co50) y122 := (by rw [hw, Ny122.out]; exact HP51.1); clear HP51; have n0_ := Aside0.mk (Kd.R_over' (v := (.slice (some ⟨go28, 0, none⟩) x9_3.length co50)) (by (with_reducible repeat (first | apply Kd.R_alloc | apply Kd.R_drewN | apply Kd.R_drew)); exact HO_5.out) (Kd.R_typed HO_9.out) (by decide) hg); have n1_ := Aside0.mk (Kd.R_over' (v := (.slice (some ⟨go28, 0, none⟩) x9_3.length co50)) (by (with_reducible repeat (first | apply Kd.R_alloc | apply Kd.R_drewN | apply Kd.R_drew)); exact HO_6.out) (Kd.R_typed HO_9.out) (by decide) hg); have n2_ := Aside0.mk (hp_); have n3_ := Aside0.mk ((by rw [hw]; exact below_set (HB.out) GB28.out : Below w.heap.size w w52)); clear HO_5; clear HO_6; clear HO_9; clear HB; have HO_5 := n0_; have HO_6 := n1_; have HO_9 := n2_; have HB := n3_; clear n0_ n1_ n2_ n3_; clear hg hw hp_) | (go_at_call 42; (with_reducible refine (graph_in.calls (rd (rd_L1 l0 ((rd_T75 x9_3 (ji25)).f0)) ((rd_T75 x9_3 (ji25)).f1)) (l0.length : Int) true _ A39.out).mono ?_); rintro e w' ⟨rfl, ⟨nd, rfl⟩⟩; (try first | exact ⟨rfl, _, World.drewN_drewN _ _ _⟩ | exact ⟨rfl, _, Eq.trans (World.drewN_drewN _ _ _) (congrArg (World.drewN _) (Nat.add_assoc _ _ _))⟩); have p124 : 0 ≤ ((rd (rd_L1 l0 ((rd_T75 x9_3 (ji25)).f0)) ((rd_T75 x9_3 (ji25)).f1)) : Int) := of_decide_eq_true (by assumption); have q124 : (rd (rd_L1 l0 ((rd_T75 x9_3 (ji25)).f0)) ((rd_T75 x9_3 (ji25)).f1)) < (x5_3.length : Int) := of_decide_eq_true (by assumption); obtain ⟨ad124, e124, hx124_0⟩ := Kd.at_bool (Kd.R_reads' HO_5.out).2.2 (rd (rd_L1 l0 ((rd_T75 x9_3 (ji25)).f0)) ((rd_T75 x9_3 (ji25)).f1)) p124 q124; (try rw [← Nbq43.out] at hx124_0); obtain rfl : (⟨go19, 0, none⟩ : Addr) = ad124 := (by injection e124); (first | simp only [add_plain] at hx124_0 | simp only [add_at] at hx124_0 | simp only [Addr.add, Nat.zero_add] at hx124_0 | skip); replace p124 := eq_true p124; replace q124 := eq_true q124; have p48 : 0 ≤ ((rd (rd_L1 l0 ((rd_T75 x9_3 (ji25)).f0)) ((rd_T75 x9_3 (ji25)).f1)) : Int) := of_decide_eq_true (by assumption); have q48 : ((rd (rd_L1 l0 ((rd_T75 x9_3 (ji25)).f0)) ((rd_T75 x9_3 (ji25)).f1)) : Int) < ((x5_3.length : Int) : Int) := of_decide_eq_true (by assumption); obtain ⟨hx48_0, hf48_0⟩ := Kd.R_celln false HO_5.out ((rd (rd_L1 l0 ((rd_T75 x9_3 (ji25)).f0)) ((rd_T75 x9_3 (ji25)).f1)) : Int) p48 q48; replace p48 := eq_true p48; replace q48 := eq_true q48; obtain ⟨hy53_, hz53_⟩ := Kd.R_celln false HO_5.out ((rd (rd_L1 l0 ((rd_T75 x9_3 (ji25)).f0)) ((rd_T75 x9_3 (ji25)).f1)) : Int) (of_decide_eq_true (by assumption)) (of_decide_eq_true (by assumption)); have HP53 := Kd.R_putg HO_5.out ((rd (rd_L1 l0 ((rd_T75 x9_3 (ji25)).f0)) ((rd_T75 x9_3 (ji25)).f1)) : Int) true) | ((with_reducible refine gate_store (t := 4) (p := 104) rfl ?_); (try (rw [drewN_self w52]; generalize hq_ : World.drewN w52 _ = w52; have n0_ := Aside0.mk (Kd.R_at hq_ HO_5.out); have n1_ := Aside0.mk (Kd.R_at hq_ HO_6.out); have n2_ := Aside0.mk (Kd.R_at hq_ HO_9.out); have n3_ := Aside0.mk (below_at hq_ HB.out); clear hq_ HO_5 HO_6 HO_9 HB; have HO_5 := n0_; have HO_6 := n1_; have HO_9 := n2_; have HB := n3_; clear n0_ n1_ n2_ n3_; (try (obtain ⟨hy53_, hz53_⟩ := Kd.R_celln false HO_5.out ((rd (rd_L1 l0 ((rd_T75 x9_3 (ji25)).f0)) ((rd_T75 x9_3 (ji25)).f1)) : Int) (of_decide_eq_true (by assumption)) (of_decide_eq_true (by assumption)))); (try (have HP53 := Kd.R_putg HO_5.out ((rd (rd_L1 l0 ((rd_T75 x9_3 (ji25)).f0)) ((rd_T75 x9_3 (ji25)).f1)) : Int) true)))); refine store_event (t := 4) (p := 104) (v := ?vo_w54) (w1 := (w52.setCell ⟨go19, ((rd (rd_L1 l0 ((rd_T75 x9_3 (ji25)).f0)) ((rd_T75 x9_3 (ji25)).f1)) : Int).toNat, none⟩ (.bool true))) ?hg ?ho ?hn ?hr ?_; (case ho => rfl); (case hg => rfl); (case hn => rfl); (case hr => first | (go_simp; done) | (go_simp; rfl)); intro w54 hw; have hg : w52.grownBy w54 (some go19) := (by rw [hw]; exact HP53.2); have hp_ : Kd.R Kd.bool 4 w54 w.heap.size (fun _ => True) (.slice (some ⟨go19, 0, none⟩) x5_3.length co19) y125 := (by rw [hw, Ny125.out]; exact HP53.1); clear HP53; have n0_ := Aside0.mk (hp_); have n1_ := Aside0.mk (Kd.R_over' (v := (.slice (some ⟨go19, 0, none⟩) x5_3.length co19)) (by (with_reducible repeat (first | apply Kd.R_alloc | apply Kd.R_drewN | apply Kd.R_drew)); exact HO_6.out) (Kd.R_typed HO_5.out) (by decide) hg); have n2_ := Aside0.mk (Kd.R_over' (v := (.slice (some ⟨go19, 0, none⟩) x5_3.length co19)) (by (with_reducible repeat (first | apply Kd.R_alloc | apply Kd.R_drewN | apply Kd.R_drew)); exact HO_9.out) (Kd.R_typed HO_5.out) (by decide) hg); have n3_ := Aside0.mk ((by rw [hw]; exact below_set (HB.out) GB19.out : Below w.heap.size w w54)); clear HO_5; clear HO_6; clear HO_9; clear HB; have HO_5 := n0_; have HO_6 := n1_; have HO_9 := n2_; have HB := n3_; clear n0_ n1_ n2_ n3_; clear hg hw hp_) | ((with_reducible refine gate_builtin (b := .append) (xs := #[.tmp 105, .tmp 108]) rfl ?_); at_builtin; refine Kd.R_append k75 (w0 := w) w.heap.size rfl (.tmp 105) (.tmp 108) 76 75 (.agg #[(.int .i64 0), (.int .i64 0)]) 16 rfl Try.underlying76 info75 rfl (by decide) (by omega) (.slice (some ⟨go28, 0, none⟩) x9_3.length co50) y122 (⟨rd (rd_L1 l0 ((rd_T75 x9_3 (ji25)).f0)) ((rd_T75 x9_3 (ji25)).f1), 0⟩ : S75) [.int .i64 (rd (rd_L1 l0 ((rd_T75 x9_3 (ji25)).f0)) ((rd_T75 x9_3 (ji25)).f1)), .int .i64 0] (fun _ => True) (fun _ => False) rfl rfl ?aP (fun _ hk => hk.elim) ?aF ?aO ?aB ?aS ?aL ?_; (case aP => exact k75_mkM _ _ _ (⟨rd (rd_L1 l0 ((rd_T75 x9_3 (ji25)).f0)) ((rd_T75 x9_3 (ji25)).f1), 0⟩ : S75)); (case aB => exact (by repeat (first | (with_reducible first | exact HB.out | apply below_alloc | apply pw_below_drewN | apply below_drew1) | exact HB.out))); (case aF => exact (fun _ _ => trivial)); (case aO => exact (by (with_reducible repeat (first | apply Kd.R_alloc | apply Kd.R_drewN | apply Kd.R_drew)); exact HO_9.out)); (case aS => exact (below_size (by repeat (first | (with_reducible first | exact HB.out | apply below_alloc | apply pw_below_drewN | apply below_drew1) | exact HB.out)))); (case aL => have := LMc49.out; omega); intro v127 w55 ho hb hg hat; rw [← Ny126.out] at ho; have n0_ := Aside0.mk (Kd.R_over' (by (with_reducible repeat (first | apply Kd.R_alloc | apply Kd.R_drewN | apply Kd.R_drew)); exact HO_5.out) (Kd.R_typed (by (with_reducible repeat (first | apply Kd.R_alloc | apply Kd.R_drewN | apply Kd.R_drew)); exact HO_9.out)) (by decide) hg); have n1_ := Aside0.mk (Kd.R_over' (by (with_reducible repeat (first | apply Kd.R_alloc | apply Kd.R_drewN | apply Kd.R_drew)); exact HO_6.out) (Kd.R_typed (by (with_reducible repeat (first | apply Kd.R_alloc | apply Kd.R_drewN | apply Kd.R_drew)); exact HO_9.out)) (by decide) hg); have n2_ := Aside0.mk (hb); have n3_ := Aside0.mk (ho); clear HO_5; clear HO_6; clear HB; clear HO_9; have HO_5 := n0_; have HO_6 := n1_; have HB := n2_; have HO128 := n3_; clear n0_ n1_ n2_ n3_; clear ho hb hg hat)); try go_wp2_with (first | ((with_reducible refine gate_store (t := 3) (p := 90) rfl ?_); (try (rw [drewN_self wr]; generalize hq_ : World.drewN wr _ = wr; have n0_ := Aside0.mk (Kd.R_at hq_ HO_5.out); have n1_ := Aside0.mk (Kd.R_at hq_ HO_6.out); have n2_ := Aside0.mk (Kd.R_at hq_ HO_9.out); have n3_ := Aside0.mk (below_at hq_ HB.out); clear hq_ HO_5 HO_6 HO_9 HB; have HO_5 := n0_; have HO_6 := n1_; have HO_9 := n2_; have HB := n3_; clear n0_ n1_ n2_ n3_; (try (have HX51 := Aside0.mk (show Kd.R k75 75 wr w.heap.size (fun _ => True) (.slice (some ⟨go28, 0, none⟩) x9_3.length co50) x9_3 from (by (with_reducible repeat (first | apply Kd.R_alloc | apply Kd.R_drewN | apply Kd.R_drew)); exact HO_9.out)))); (try (obtain ⟨ce51, hcl51, hM51, hcc51, hfr51⟩ := Kd.R_elem HX51.out z75 ((ji25) : Int) (of_decide_eq_true (by assumption)) (by have h_ : ((ji25) : Int) < ((x9_3.length : Int) : Int) := of_decide_eq_true (by assumption); first | exact h_ | (have e_ := (Kd.R_reads' HO_9.out).1; omega) | simpa using h_))); (try (obtain rfl := k75_openM hM51)); (try (have HP51 := Kd.R_seg HX51.out ((ji25) : Int) (of_decide_eq_true (by assumption)) (by have h_ : ((ji25) : Int) < ((x9_3.length : Int) : Int) := of_decide_eq_true (by assumption); first | exact h_ | (have e_ := (Kd.R_reads' HO_9.out).1; omega) | simpa using h_) (seg := [.int .i64 (wrap64 (((rd_T75 x9_3 (ji25)).f1) + 1))]) (j := 1) hcl51 hcc51 (show 2 ≤ 2 from by decide) (x' := (⟨(rd_T75 x9_3 (ji25)).f0, wrap64 (((rd_T75 x9_3 (ji25)).f1) + 1)⟩ : S75)) (k75_mkM _ _ _ (⟨(rd_T75 x9_3 (ji25)).f0, wrap64 (((rd_T75 x9_3 (ji25)).f1) + 1)⟩ : S75) ) (fun _ hk => hk))); (try (have hx51_1 := hcc51 1 _ rfl)); (try (try simp only [show (k75).sz = 2 from rfl, Nat.mul_one, Nat.add_zero] at hx51_1)); (try (have hf51_1 := hfr51 1)); (try (try simp only [show (k75).sz = 2 from rfl, Nat.mul_one, Nat.add_zero] at hf51_1)); (try (clear hcl51 hcc51 hfr51 hM51)))); refine store_event (t := 3) (p := 90) (v := ?vo_w52) (w1 := (wr.setCell ⟨go28, ((ji25) : Int).toNat * 2 + 1, none⟩ (.int .i64 (wrap64 (((rd_T75 x9_3 (ji25)).f1) + 1))))) ?hg ?ho ?hn ?hr ?_; (case ho => rfl); (case hg => rfl); (case hn => rfl); (case hr => first | (go_simp; done) | (go_simp; rfl)); intro w52 hw; have hg : wr.grownBy w52 (some go28) := (by rw [hw]; exact HP51.2); have hp_ : Kd.R k75 75 w52 w.heap.size (fun _ => True) (.slice (some ⟨go28, 0, none⟩) x9_3.length co50) y122 := (by rw [hw, Ny122.out]; exact HP51.1); clear HP51; have n0_ := Aside0.mk (Kd.R_over' (v := (.slice (some ⟨go28, 0, none⟩) x9_3.length co50)) (by (with_reducible repeat (first | apply Kd.R_alloc | apply Kd.R_drewN | apply Kd.R_drew)); exact HO_5.out) (Kd.R_typed HO_9.out) (by decide) hg); have n1_ := Aside0.mk (Kd.R_over' (v := (.slice (some ⟨go28, 0, none⟩) x9_3.length co50)) (by (with_reducible repeat (first | apply Kd.R_alloc | apply Kd.R_drewN | apply Kd.R_drew)); exact HO_6.out) (Kd.R_typed HO_9.out) (by decide) hg); have n2_ := Aside0.mk (hp_); have n3_ := Aside0.mk ((by rw [hw]; exact below_set (HB.out) GB28.out : Below w.heap.size w w52)); clear HO_5; clear HO_6; clear HO_9; clear HB; have HO_5 := n0_; have HO_6 := n1_; have HO_9 := n2_; have HB := n3_; clear n0_ n1_ n2_ n3_; clear hg hw hp_) | (go_at_call 42; (with_reducible refine (graph_in.calls (rd (rd_L1 l0 ((rd_T75 x9_3 (ji25)).f0)) ((rd_T75 x9_3 (ji25)).f1)) (l0.length : Int) true _ A39.out).mono ?_); rintro e w' ⟨rfl, ⟨nd, rfl⟩⟩; (try first | exact ⟨rfl, _, World.drewN_drewN _ _ _⟩ | exact ⟨rfl, _, Eq.trans (World.drewN_drewN _ _ _) (congrArg (World.drewN _) (Nat.add_assoc _ _ _))⟩); have p124 : 0 ≤ ((rd (rd_L1 l0 ((rd_T75 x9_3 (ji25)).f0)) ((rd_T75 x9_3 (ji25)).f1)) : Int) := of_decide_eq_true (by assumption); have q124 : (rd (rd_L1 l0 ((rd_T75 x9_3 (ji25)).f0)) ((rd_T75 x9_3 (ji25)).f1)) < (x5_3.length : Int) := of_decide_eq_true (by assumption); obtain ⟨ad124, e124, hx124_0⟩ := Kd.at_bool (Kd.R_reads' HO_5.out).2.2 (rd (rd_L1 l0 ((rd_T75 x9_3 (ji25)).f0)) ((rd_T75 x9_3 (ji25)).f1)) p124 q124; (try rw [← Nbq43.out] at hx124_0); obtain rfl : (⟨go19, 0, none⟩ : Addr) = ad124 := (by injection e124); (first | simp only [add_plain] at hx124_0 | simp only [add_at] at hx124_0 | simp only [Addr.add, Nat.zero_add] at hx124_0 | skip); replace p124 := eq_true p124; replace q124 := eq_true q124; have p48 : 0 ≤ ((rd (rd_L1 l0 ((rd_T75 x9_3 (ji25)).f0)) ((rd_T75 x9_3 (ji25)).f1)) : Int) := of_decide_eq_true (by assumption); have q48 : ((rd (rd_L1 l0 ((rd_T75 x9_3 (ji25)).f0)) ((rd_T75 x9_3 (ji25)).f1)) : Int) < ((x5_3.length : Int) : Int) := of_decide_eq_true (by assumption); obtain ⟨hx48_0, hf48_0⟩ := Kd.R_celln false HO_5.out ((rd (rd_L1 l0 ((rd_T75 x9_3 (ji25)).f0)) ((rd_T75 x9_3 (ji25)).f1)) : Int) p48 q48; replace p48 := eq_true p48; replace q48 := eq_true q48; obtain ⟨hy53_, hz53_⟩ := Kd.R_celln false HO_5.out ((rd (rd_L1 l0 ((rd_T75 x9_3 (ji25)).f0)) ((rd_T75 x9_3 (ji25)).f1)) : Int) (of_decide_eq_true (by assumption)) (of_decide_eq_true (by assumption)); have HP53 := Kd.R_putg HO_5.out ((rd (rd_L1 l0 ((rd_T75 x9_3 (ji25)).f0)) ((rd_T75 x9_3 (ji25)).f1)) : Int) true) | ((with_reducible refine gate_store (t := 4) (p := 104) rfl ?_); (try (rw [drewN_self w52]; generalize hq_ : World.drewN w52 _ = w52; have n0_ := Aside0.mk (Kd.R_at hq_ HO_5.out); have n1_ := Aside0.mk (Kd.R_at hq_ HO_6.out); have n2_ := Aside0.mk (Kd.R_at hq_ HO_9.out); have n3_ := Aside0.mk (below_at hq_ HB.out); clear hq_ HO_5 HO_6 HO_9 HB; have HO_5 := n0_; have HO_6 := n1_; have HO_9 := n2_; have HB := n3_; clear n0_ n1_ n2_ n3_; (try (obtain ⟨hy53_, hz53_⟩ := Kd.R_celln false HO_5.out ((rd (rd_L1 l0 ((rd_T75 x9_3 (ji25)).f0)) ((rd_T75 x9_3 (ji25)).f1)) : Int) (of_decide_eq_true (by assumption)) (of_decide_eq_true (by assumption)))); (try (have HP53 := Kd.R_putg HO_5.out ((rd (rd_L1 l0 ((rd_T75 x9_3 (ji25)).f0)) ((rd_T75 x9_3 (ji25)).f1)) : Int) true)))); refine store_event (t := 4) (p := 104) (v := ?vo_w54) (w1 := (w52.setCell ⟨go19, ((rd (rd_L1 l0 ((rd_T75 x9_3 (ji25)).f0)) ((rd_T75 x9_3 (ji25)).f1)) : Int).toNat, none⟩ (.bool true))) ?hg ?ho ?hn ?hr ?_; (case ho => rfl); (case hg => rfl); (case hn => rfl); (case hr => first | (go_simp; done) | (go_simp; rfl)); intro w54 hw; have hg : w52.grownBy w54 (some go19) := (by rw [hw]; exact HP53.2); have hp_ : Kd.R Kd.bool 4 w54 w.heap.size (fun _ => True) (.slice (some ⟨go19, 0, none⟩) x5_3.length co19) y125 := (by rw [hw, Ny125.out]; exact HP53.1); clear HP53; have n0_ := Aside0.mk (hp_); have n1_ := Aside0.mk (Kd.R_over' (v := (.slice (some ⟨go19, 0, none⟩) x5_3.length co19)) (by (with_reducible repeat (first | apply Kd.R_alloc | apply Kd.R_drewN | apply Kd.R_drew)); exact HO_6.out) (Kd.R_typed HO_5.out) (by decide) hg); have n2_ := Aside0.mk (Kd.R_over' (v := (.slice (some ⟨go19, 0, none⟩) x5_3.length co19)) (by (with_reducible repeat (first | apply Kd.R_alloc | apply Kd.R_drewN | apply Kd.R_drew)); exact HO_9.out) (Kd.R_typed HO_5.out) (by decide) hg); have n3_ := Aside0.mk ((by rw [hw]; exact below_set (HB.out) GB19.out : Below w.heap.size w w54)); clear HO_5; clear HO_6; clear HO_9; clear HB; have HO_5 := n0_; have HO_6 := n1_; have HO_9 := n2_; have HB := n3_; clear n0_ n1_ n2_ n3_; clear hg hw hp_) | ((with_reducible refine gate_builtin (b := .append) (xs := #[.tmp 105, .tmp 108]) rfl ?_); at_builtin; refine Kd.R_append k75 (w0 := w) w.heap.size rfl (.tmp 105) (.tmp 108) 76 75 (.agg #[(.int .i64 0), (.int .i64 0)]) 16 rfl Try.underlying76 info75 rfl (by decide) (by omega) (.slice (some ⟨go28, 0, none⟩) x9_3.length co50) y122 (⟨rd (rd_L1 l0 ((rd_T75 x9_3 (ji25)).f0)) ((rd_T75 x9_3 (ji25)).f1), 0⟩ : S75) [.int .i64 (rd (rd_L1 l0 ((rd_T75 x9_3 (ji25)).f0)) ((rd_T75 x9_3 (ji25)).f1)), .int .i64 0] (fun _ => True) (fun _ => False) rfl rfl ?aP (fun _ hk => hk.elim) ?aF ?aO ?aB ?aS ?aL ?_; (case aP => exact k75_mkM _ _ _ (⟨rd (rd_L1 l0 ((rd_T75 x9_3 (ji25)).f0)) ((rd_T75 x9_3 (ji25)).f1), 0⟩ : S75)); (case aB => exact (by repeat (first | (with_reducible first | exact HB.out | apply below_alloc | apply pw_below_drewN | apply below_drew1) | exact HB.out))); (case aF => exact (fun _ _ => trivial)); (case aO => exact (by (with_reducible repeat (first | apply Kd.R_alloc | apply Kd.R_drewN | apply Kd.R_drew)); exact HO_9.out)); (case aS => exact (below_size (by repeat (first | (with_reducible first | exact HB.out | apply below_alloc | apply pw_below_drewN | apply below_drew1) | exact HB.out)))); (case aL => have := LMc49.out; omega); intro v127 w55 ho hb hg hat; rw [← Ny126.out] at ho; have n0_ := Aside0.mk (Kd.R_over' (by (with_reducible repeat (first | apply Kd.R_alloc | apply Kd.R_drewN | apply Kd.R_drew)); exact HO_5.out) (Kd.R_typed (by (with_reducible repeat (first | apply Kd.R_alloc | apply Kd.R_drewN | apply Kd.R_drew)); exact HO_9.out)) (by decide) hg); have n1_ := Aside0.mk (Kd.R_over' (by (with_reducible repeat (first | apply Kd.R_alloc | apply Kd.R_drewN | apply Kd.R_drew)); exact HO_6.out) (Kd.R_typed (by (with_reducible repeat (first | apply Kd.R_alloc | apply Kd.R_drewN | apply Kd.R_drew)); exact HO_9.out)) (by decide) hg); have n2_ := Aside0.mk (hb); have n3_ := Aside0.mk (ho); clear HO_5; clear HO_6; clear HB; clear HO_9; have HO_5 := n0_; have HO_6 := n1_; have HB := n2_; have HO128 := n3_; clear n0_ n1_ n2_ n3_; clear ho hb hg hat)))
                            (try simp only [← hl5_3])
                            go_roundg k3
                            case measure => have := HK1.out; have := HJ9.out; have := HK3.out; omega
                            case rel => exact ⟨(y125), (x6_3), (y126), H', ⟨by have := HK1.out; have := HJ9.out; have := HK3.out; omega⟩, ⟨by (try simp only [hl5_3]); (with_reducible repeat (first | apply Kd.R_alloc | apply Kd.R_drewN | apply Kd.R_drew)); exact HO_5.out⟩, ⟨by (try simp only [hl5_3]); (with_reducible repeat (first | apply Kd.R_alloc | apply Kd.R_drewN | apply Kd.R_drew)); exact HO_6.out⟩, ⟨by (try simp only [hl5_3]); (with_reducible repeat (first | apply Kd.R_alloc | apply Kd.R_drewN | apply Kd.R_drew)); exact HO128.out⟩, ⟨by repeat (first | (with_reducible first | exact HB.out | apply below_alloc | apply pw_below_drewN | apply below_drew1) | exact HB.out)⟩⟩
                           ·rw [if_neg c49] at H
                            exact absurd H (by simp)
                         ·rw [if_neg c42] at H
                          exact absurd H (by simp)
                        ·rw [if_neg c41] at H
                         exact absurd H (by simp)
                       ·replace c40 := Bool.eq_false_iff.mpr c40
                        subst c40
                        have H1 : (graph_Begin.l1 k3 l0 x5_3 x6_3 y122 l1 (l1.length : Int) x17_1) = some r := by rw [if_neg (show ¬ (false = true) by decide)] at H; exact H
                        clear H
                        have H := H1
                        clear H1
                        have H' := Aside0.mk H
                        clear H
                        obtain ⟨Ao56, co56, eo56⟩ := Kd.R_slice HO_9.out
                        subst eo56
                        have p28 : 0 ≤ ((ji25) : Int) := of_decide_eq_true (by assumption)
                        have q28 : ((ji25) : Int) < ((x9_3.length : Int) : Int) := of_decide_eq_true (by assumption)
                        obtain ⟨go28, co28, eo28, gb28, gl28, cl28, HG28⟩ := Kd.R_form HO_9.out (by omega)
                        (first | cases eo28 | (injection eo28 with ea_ en_ ec_; (first | subst ea_ | (injection ea_ with ea_; subst ea_)); subst ec_; clear en_))
                        have GB28 := Aside0.mk gb28
                        have GG28 := Aside0.mk HG28
                        clear gb28 gl28 HG28
                        obtain ⟨ce28, hcl28, hM28, hcc28, hfr28⟩ := Kd.R_elem HO_9.out z75 ((ji25) : Int) p28 q28
                        obtain rfl := k75_openM hM28
                        have hx28_0 : wr.cell? ⟨go28, ((ji25) : Int).toNat * 2, none⟩ = some (.int .i64 ((rd_T75 x9_3 (ji25)).f0)) := hcc28 0 _ rfl
                        have hx28_1 : wr.cell? ⟨go28, ((ji25) : Int).toNat * 2 + 1, none⟩ = some (.int .i64 ((rd_T75 x9_3 (ji25)).f1)) := hcc28 1 _ rfl
                        have hf28_0 : wr.frozen? ⟨go28, ((ji25) : Int).toNat * 2, none⟩ = false := hfr28 0
                        have hf28_1 : wr.frozen? ⟨go28, ((ji25) : Int).toNat * 2 + 1, none⟩ = false := hfr28 1
                        clear hcl28 hcc28 hfr28 hM28
                        replace p28 := eq_true p28
                        replace q28 := eq_true q28
                        have p113 : 0 ≤ (((rd_T75 x9_3 (ji25)).f0) : Int) := of_decide_eq_true (by assumption)
                        have q113 : ((rd_T75 x9_3 (ji25)).f0) < (l0.length : Int) := of_decide_eq_true (by assumption)
                        obtain ⟨ad113, A113_0, c113_0, e113, hx113_0, hl113_0, hi113_0⟩ := at_L1 HR0.out ((rd_T75 x9_3 (ji25)).f0) p113 q113
                        cases e113
                        replace hx113_0 := (HB.out.cell (World.block_lt_of_cell? w _ hx113_0)).trans hx113_0
                        have HR113_0 := Aside0.mk hi113_0
                        have HC113_0 := Aside0.mk hl113_0
                        clear hi113_0 hl113_0
                        replace p113 := eq_true p113
                        replace q113 := eq_true q113
                        have p120 : 0 ≤ (((rd_T75 x9_3 (ji25)).f0) : Int) := of_decide_eq_true (by assumption)
                        have q120 : ((rd_T75 x9_3 (ji25)).f0) < (l0.length : Int) := of_decide_eq_true (by assumption)
                        obtain ⟨ad120, A120_0, c120_0, e120, hx120_0, hl120_0, hi120_0⟩ := at_L1 HR0.out ((rd_T75 x9_3 (ji25)).f0) p120 q120
                        obtain rfl : ad113 = ad120 := (by injection e120)
                        replace hx120_0 := (HB.out.cell (World.block_lt_of_cell? w _ hx120_0)).trans hx120_0
                        have HR120_0 := Aside0.mk hi120_0
                        have HC120_0 := Aside0.mk hl120_0
                        clear hi120_0 hl120_0
                        replace p120 := eq_true p120
                        replace q120 := eq_true q120
                        have ea_ := Option.some.inj (hx113_0.symm.trans hx120_0)
                        injection ea_ with ea_ en_ ec_
                        subst ea_
                        subst ec_
                        clear en_
                        have p121 : 0 ≤ (((rd_T75 x9_3 (ji25)).f1) : Int) := of_decide_eq_true (by assumption)
                        have q121 : ((rd_T75 x9_3 (ji25)).f1) < ((rd_L1 l0 ((rd_T75 x9_3 (ji25)).f0)).length : Int) := of_decide_eq_true (by assumption)
                        obtain ⟨ad121, e121, hx121_0⟩ := Kd.at_int HR120_0.out ((rd_T75 x9_3 (ji25)).f1) p121 q121
                        cases e121
                        replace hx121_0 := (HB.out.cell (World.block_lt_of_cell? w _ hx121_0)).trans hx121_0
                        replace p121 := eq_true p121
                        replace q121 := eq_true q121
                        have HX57 := Aside0.mk (show Kd.R k75 75 wr w.heap.size (fun _ => True) (.slice (some ⟨go28, 0, none⟩) x9_3.length co56) x9_3 from (by (with_reducible repeat (first | apply Kd.R_alloc | apply Kd.R_drewN | apply Kd.R_drew)); exact HO_9.out))
                        obtain ⟨ce57, hcl57, hM57, hcc57, hfr57⟩ := Kd.R_elem HX57.out z75 ((ji25) : Int) (of_decide_eq_true (by assumption)) (by have h_ : ((ji25) : Int) < ((x9_3.length : Int) : Int) := of_decide_eq_true (by assumption); first | exact h_ | (have e_ := (Kd.R_reads' HO_9.out).1; omega) | simpa using h_)
                        obtain rfl := k75_openM hM57
                        have HP57 := Kd.R_seg HX57.out ((ji25) : Int) (of_decide_eq_true (by assumption)) (by have h_ : ((ji25) : Int) < ((x9_3.length : Int) : Int) := of_decide_eq_true (by assumption); first | exact h_ | (have e_ := (Kd.R_reads' HO_9.out).1; omega) | simpa using h_) (seg := [.int .i64 (wrap64 (((rd_T75 x9_3 (ji25)).f1) + 1))]) (j := 1) hcl57 hcc57 (show 2 ≤ 2 from by decide) (x' := (⟨(rd_T75 x9_3 (ji25)).f0, wrap64 (((rd_T75 x9_3 (ji25)).f1) + 1)⟩ : S75)) (k75_mkM _ _ _ (⟨(rd_T75 x9_3 (ji25)).f0, wrap64 (((rd_T75 x9_3 (ji25)).f1) + 1)⟩ : S75) ) (fun _ hk => hk)
                        have hx57_1 := hcc57 1 _ rfl
                        (try simp only [show (k75).sz = 2 from rfl, Nat.mul_one, Nat.add_zero] at hx57_1)
                        have hf57_1 := hfr57 1
                        (try simp only [show (k75).sz = 2 from rfl, Nat.mul_one, Nat.add_zero] at hf57_1)
                        clear hcl57 hcc57 hfr57 hM57
                        go_wp2_with (first | ((with_reducible refine gate_store (t := 3) (p := 90) rfl ?_); (try (rw [drewN_self wr]; generalize hq_ : World.drewN wr _ = wr; have n0_ := Aside0.mk (Kd.R_at hq_ HO_5.out); have n1_ := Aside0.mk (Kd.R_at hq_ HO_6.out); have n2_ := Aside0.mk (Kd.R_at hq_ HO_9.out); have n3_ := Aside0.mk (below_at hq_ HB.out); clear hq_ HO_5 HO_6 HO_9 HB; have HO_5 := n0_; have HO_6 := n1_; have HO_9 := n2_; have HB := n3_; clear n0_ n1_ n2_ n3_; (try (have HX57 := Aside0.mk (show Kd.R k75 75 wr w.heap.size (fun _ => True) (.slice (some ⟨go28, 0, none⟩) x9_3.length co56) x9_3 from (by (with_reducible repeat (first | apply Kd.R_alloc | apply Kd.R_drewN | apply Kd.R_drew)); exact HO_9.out)))); (try (obtain ⟨ce57, hcl57, hM57, hcc57, hfr57⟩ := Kd.R_elem HX57.out z75 ((ji25) : Int) (of_decide_eq_true (by assumption)) (by have h_ : ((ji25) : Int) < ((x9_3.length : Int) : Int) := of_decide_eq_true (by assumption); first | exact h_ | (have e_ := (Kd.R_reads' HO_9.out).1; omega) | simpa using h_))); (try (obtain rfl := k75_openM hM57)); (try (have HP57 := Kd.R_seg HX57.out ((ji25) : Int) (of_decide_eq_true (by assumption)) (by have h_ : ((ji25) : Int) < ((x9_3.length : Int) : Int) := of_decide_eq_true (by assumption); first | exact h_ | (have e_ := (Kd.R_reads' HO_9.out).1; omega) | simpa using h_) (seg := [.int .i64 (wrap64 (((rd_T75 x9_3 (ji25)).f1) + 1))]) (j := 1) hcl57 hcc57 (show 2 ≤ 2 from by decide) (x' := (⟨(rd_T75 x9_3 (ji25)).f0, wrap64 (((rd_T75 x9_3 (ji25)).f1) + 1)⟩ : S75)) (k75_mkM _ _ _ (⟨(rd_T75 x9_3 (ji25)).f0, wrap64 (((rd_T75 x9_3 (ji25)).f1) + 1)⟩ : S75) ) (fun _ hk => hk))); (try (have hx57_1 := hcc57 1 _ rfl)); (try (try simp only [show (k75).sz = 2 from rfl, Nat.mul_one, Nat.add_zero] at hx57_1)); (try (have hf57_1 := hfr57 1)); (try (try simp only [show (k75).sz = 2 from rfl, Nat.mul_one, Nat.add_zero] at hf57_1)); (try (clear hcl57 hcc57 hfr57 hM57)))); refine store_event (t := 3) (p := 90) (v := ?vo_w58) (w1 := (wr.setCell ⟨go28, ((ji25) : Int).toNat * 2 + 1, none⟩ (.int .i64 (wrap64 (((rd_T75 x9_3 (ji25)).f1) + 1))))) ?hg ?ho ?hn ?hr ?_; (case ho => rfl); (case hg => rfl); (case hn => rfl); (case hr => first | (go_simp; done) | (go_simp; rfl)); intro w58 hw; have hg : wr.grownBy w58 (some go28) := (by rw [hw]; exact HP57.2); have hp_ : Kd.R k75 75 w58 w.heap.size (fun _ => True) (.slice (some ⟨go28, 0, none⟩) x9_3.length co56) y122 := (by rw [hw, Ny122.out]; exact HP57.1); clear HP57; have n0_ := Aside0.mk (Kd.R_over' (v := (.slice (some ⟨go28, 0, none⟩) x9_3.length co56)) (by (with_reducible repeat (first | apply Kd.R_alloc | apply Kd.R_drewN | apply Kd.R_drew)); exact HO_5.out) (Kd.R_typed HO_9.out) (by decide) hg); have n1_ := Aside0.mk (Kd.R_over' (v := (.slice (some ⟨go28, 0, none⟩) x9_3.length co56)) (by (with_reducible repeat (first | apply Kd.R_alloc | apply Kd.R_drewN | apply Kd.R_drew)); exact HO_6.out) (Kd.R_typed HO_9.out) (by decide) hg); have n2_ := Aside0.mk (hp_); have n3_ := Aside0.mk ((by rw [hw]; exact below_set (HB.out) GB28.out : Below w.heap.size w w58)); clear HO_5; clear HO_6; clear HO_9; clear HB; have HO_5 := n0_; have HO_6 := n1_; have HO_9 := n2_; have HB := n3_; clear n0_ n1_ n2_ n3_; clear hg hw hp_) | (go_at_call 42; (with_reducible refine (graph_in.calls (rd (rd_L1 l0 ((rd_T75 x9_3 (ji25)).f0)) ((rd_T75 x9_3 (ji25)).f1)) (l0.length : Int) false _ A39.out).mono ?_); rintro e w' ⟨rfl, ⟨nd, rfl⟩⟩; (try first | exact ⟨rfl, _, World.drewN_drewN _ _ _⟩ | exact ⟨rfl, _, Eq.trans (World.drewN_drewN _ _ _) (congrArg (World.drewN _) (Nat.add_assoc _ _ _))⟩)))
                        repeat (go_quiet (first | ((with_reducible refine gate_store (t := 3) (p := 90) rfl ?_); (try (rw [drewN_self wr]; generalize hq_ : World.drewN wr _ = wr; have n0_ := Aside0.mk (Kd.R_at hq_ HO_5.out); have n1_ := Aside0.mk (Kd.R_at hq_ HO_6.out); have n2_ := Aside0.mk (Kd.R_at hq_ HO_9.out); have n3_ := Aside0.mk (below_at hq_ HB.out); clear hq_ HO_5 HO_6 HO_9 HB; have HO_5 := n0_; have HO_6 := n1_; have HO_9 := n2_; have HB := n3_; clear n0_ n1_ n2_ n3_; (try (have HX57 := Aside0.mk (show Kd.R k75 75 wr w.heap.size (fun _ => True) (.slice (some ⟨go28, 0, none⟩) x9_3.length co56) x9_3 from (by (with_reducible repeat (first | apply Kd.R_alloc | apply Kd.R_drewN | apply Kd.R_drew)); exact HO_9.out)))); (try (obtain ⟨ce57, hcl57, hM57, hcc57, hfr57⟩ := Kd.R_elem HX57.out z75 ((ji25) : Int) (of_decide_eq_true (by assumption)) (by have h_ : ((ji25) : Int) < ((x9_3.length : Int) : Int) := of_decide_eq_true (by assumption); first | exact h_ | (have e_ := (Kd.R_reads' HO_9.out).1; omega) | simpa using h_))); (try (obtain rfl := k75_openM hM57)); (try (have HP57 := Kd.R_seg HX57.out ((ji25) : Int) (of_decide_eq_true (by assumption)) (by have h_ : ((ji25) : Int) < ((x9_3.length : Int) : Int) := of_decide_eq_true (by assumption); first | exact h_ | (have e_ := (Kd.R_reads' HO_9.out).1; omega) | simpa using h_) (seg := [.int .i64 (wrap64 (((rd_T75 x9_3 (ji25)).f1) + 1))]) (j := 1) hcl57 hcc57 (show 2 ≤ 2 from by decide) (x' := (⟨(rd_T75 x9_3 (ji25)).f0, wrap64 (((rd_T75 x9_3 (ji25)).f1) + 1)⟩ : S75)) (k75_mkM _ _ _ (⟨(rd_T75 x9_3 (ji25)).f0, wrap64 (((rd_T75 x9_3 (ji25)).f1) + 1)⟩ : S75) ) (fun _ hk => hk))); (try (have hx57_1 := hcc57 1 _ rfl)); (try (try simp only [show (k75).sz = 2 from rfl, Nat.mul_one, Nat.add_zero] at hx57_1)); (try (have hf57_1 := hfr57 1)); (try (try simp only [show (k75).sz = 2 from rfl, Nat.mul_one, Nat.add_zero] at hf57_1)); (try (clear hcl57 hcc57 hfr57 hM57)))); refine store_event (t := 3) (p := 90) (v := ?vo_w58) (w1 := (wr.setCell ⟨go28, ((ji25) : Int).toNat * 2 + 1, none⟩ (.int .i64 (wrap64 (((rd_T75 x9_3 (ji25)).f1) + 1))))) ?hg ?ho ?hn ?hr ?_; (case ho => rfl); (case hg => rfl); (case hn => rfl); (case hr => first | (go_simp; done) | (go_simp; rfl)); intro w58 hw; have hg : wr.grownBy w58 (some go28) := (by rw [hw]; exact HP57.2); have hp_ : Kd.R k75 75 w58 w.heap.size (fun _ => True) (.slice (some ⟨go28, 0, none⟩) x9_3.length co56) y122 := (by rw [hw, Ny122.out]; exact HP57.1); clear HP57; have n0_ := Aside0.mk (Kd.R_over' (v := (.slice (some ⟨go28, 0, none⟩) x9_3.length co56)) (by (with_reducible repeat (first | apply Kd.R_alloc | apply Kd.R_drewN | apply Kd.R_drew)); exact HO_5.out) (Kd.R_typed HO_9.out) (by decide) hg); have n1_ := Aside0.mk (Kd.R_over' (v := (.slice (some ⟨go28, 0, none⟩) x9_3.length co56)) (by (with_reducible repeat (first | apply Kd.R_alloc | apply Kd.R_drewN | apply Kd.R_drew)); exact HO_6.out) (Kd.R_typed HO_9.out) (by decide) hg); have n2_ := Aside0.mk (hp_); have n3_ := Aside0.mk ((by rw [hw]; exact below_set (HB.out) GB28.out : Below w.heap.size w w58)); clear HO_5; clear HO_6; clear HO_9; clear HB; have HO_5 := n0_; have HO_6 := n1_; have HO_9 := n2_; have HB := n3_; clear n0_ n1_ n2_ n3_; clear hg hw hp_) | (go_at_call 42; (with_reducible refine (graph_in.calls (rd (rd_L1 l0 ((rd_T75 x9_3 (ji25)).f0)) ((rd_T75 x9_3 (ji25)).f1)) (l0.length : Int) false _ A39.out).mono ?_); rintro e w' ⟨rfl, ⟨nd, rfl⟩⟩; (try first | exact ⟨rfl, _, World.drewN_drewN _ _ _⟩ | exact ⟨rfl, _, Eq.trans (World.drewN_drewN _ _ _) (congrArg (World.drewN _) (Nat.add_assoc _ _ _))⟩))); try go_wp2_with (first | ((with_reducible refine gate_store (t := 3) (p := 90) rfl ?_); (try (rw [drewN_self wr]; generalize hq_ : World.drewN wr _ = wr; have n0_ := Aside0.mk (Kd.R_at hq_ HO_5.out); have n1_ := Aside0.mk (Kd.R_at hq_ HO_6.out); have n2_ := Aside0.mk (Kd.R_at hq_ HO_9.out); have n3_ := Aside0.mk (below_at hq_ HB.out); clear hq_ HO_5 HO_6 HO_9 HB; have HO_5 := n0_; have HO_6 := n1_; have HO_9 := n2_; have HB := n3_; clear n0_ n1_ n2_ n3_; (try (have HX57 := Aside0.mk (show Kd.R k75 75 wr w.heap.size (fun _ => True) (.slice (some ⟨go28, 0, none⟩) x9_3.length co56) x9_3 from (by (with_reducible repeat (first | apply Kd.R_alloc | apply Kd.R_drewN | apply Kd.R_drew)); exact HO_9.out)))); (try (obtain ⟨ce57, hcl57, hM57, hcc57, hfr57⟩ := Kd.R_elem HX57.out z75 ((ji25) : Int) (of_decide_eq_true (by assumption)) (by have h_ : ((ji25) : Int) < ((x9_3.length : Int) : Int) := of_decide_eq_true (by assumption); first | exact h_ | (have e_ := (Kd.R_reads' HO_9.out).1; omega) | simpa using h_))); (try (obtain rfl := k75_openM hM57)); (try (have HP57 := Kd.R_seg HX57.out ((ji25) : Int) (of_decide_eq_true (by assumption)) (by have h_ : ((ji25) : Int) < ((x9_3.length : Int) : Int) := of_decide_eq_true (by assumption); first | exact h_ | (have e_ := (Kd.R_reads' HO_9.out).1; omega) | simpa using h_) (seg := [.int .i64 (wrap64 (((rd_T75 x9_3 (ji25)).f1) + 1))]) (j := 1) hcl57 hcc57 (show 2 ≤ 2 from by decide) (x' := (⟨(rd_T75 x9_3 (ji25)).f0, wrap64 (((rd_T75 x9_3 (ji25)).f1) + 1)⟩ : S75)) (k75_mkM _ _ _ (⟨(rd_T75 x9_3 (ji25)).f0, wrap64 (((rd_T75 x9_3 (ji25)).f1) + 1)⟩ : S75) ) (fun _ hk => hk))); (try (have hx57_1 := hcc57 1 _ rfl)); (try (try simp only [show (k75).sz = 2 from rfl, Nat.mul_one, Nat.add_zero] at hx57_1)); (try (have hf57_1 := hfr57 1)); (try (try simp only [show (k75).sz = 2 from rfl, Nat.mul_one, Nat.add_zero] at hf57_1)); (try (clear hcl57 hcc57 hfr57 hM57)))); refine store_event (t := 3) (p := 90) (v := ?vo_w58) (w1 := (wr.setCell ⟨go28, ((ji25) : Int).toNat * 2 + 1, none⟩ (.int .i64 (wrap64 (((rd_T75 x9_3 (ji25)).f1) + 1))))) ?hg ?ho ?hn ?hr ?_; (case ho => rfl); (case hg => rfl); (case hn => rfl); (case hr => first | (go_simp; done) | (go_simp; rfl)); intro w58 hw; have hg : wr.grownBy w58 (some go28) := (by rw [hw]; exact HP57.2); have hp_ : Kd.R k75 75 w58 w.heap.size (fun _ => True) (.slice (some ⟨go28, 0, none⟩) x9_3.length co56) y122 := (by rw [hw, Ny122.out]; exact HP57.1); clear HP57; have n0_ := Aside0.mk (Kd.R_over' (v := (.slice (some ⟨go28, 0, none⟩) x9_3.length co56)) (by (with_reducible repeat (first | apply Kd.R_alloc | apply Kd.R_drewN | apply Kd.R_drew)); exact HO_5.out) (Kd.R_typed HO_9.out) (by decide) hg); have n1_ := Aside0.mk (Kd.R_over' (v := (.slice (some ⟨go28, 0, none⟩) x9_3.length co56)) (by (with_reducible repeat (first | apply Kd.R_alloc | apply Kd.R_drewN | apply Kd.R_drew)); exact HO_6.out) (Kd.R_typed HO_9.out) (by decide) hg); have n2_ := Aside0.mk (hp_); have n3_ := Aside0.mk ((by rw [hw]; exact below_set (HB.out) GB28.out : Below w.heap.size w w58)); clear HO_5; clear HO_6; clear HO_9; clear HB; have HO_5 := n0_; have HO_6 := n1_; have HO_9 := n2_; have HB := n3_; clear n0_ n1_ n2_ n3_; clear hg hw hp_) | (go_at_call 42; (with_reducible refine (graph_in.calls (rd (rd_L1 l0 ((rd_T75 x9_3 (ji25)).f0)) ((rd_T75 x9_3 (ji25)).f1)) (l0.length : Int) false _ A39.out).mono ?_); rintro e w' ⟨rfl, ⟨nd, rfl⟩⟩; (try first | exact ⟨rfl, _, World.drewN_drewN _ _ _⟩ | exact ⟨rfl, _, Eq.trans (World.drewN_drewN _ _ _) (congrArg (World.drewN _) (Nat.add_assoc _ _ _))⟩))))
                        (try simp only [← hl5_3])
                        go_roundg k3
                        case measure => have := HK1.out; have := HJ9.out; have := HK3.out; omega
                        case rel => exact ⟨(x5_3), (x6_3), (y122), H', ⟨by have := HK1.out; have := HJ9.out; have := HK3.out; omega⟩, ⟨by (try simp only [hl5_3]); (with_reducible repeat (first | apply Kd.R_alloc | apply Kd.R_drewN | apply Kd.R_drew)); exact HO_5.out⟩, ⟨by (try simp only [hl5_3]); (with_reducible repeat (first | apply Kd.R_alloc | apply Kd.R_drewN | apply Kd.R_drew)); exact HO_6.out⟩, ⟨by (try simp only [hl5_3]); (with_reducible repeat (first | apply Kd.R_alloc | apply Kd.R_drewN | apply Kd.R_drew)); exact HO_9.out⟩, ⟨by repeat (first | (with_reducible first | exact HB.out | apply below_alloc | apply pw_below_drewN | apply below_drew1) | exact HB.out)⟩⟩
                      ·rw [if_neg c38] at H
                       exact absurd H (by simp)
                     ·rw [if_neg c37] at H
                      exact absurd H (by simp)
                   ·rw [if_neg c30] at H
                    exact absurd H (by simp)
                  ·rw [if_neg c29] at H
                   exact absurd H (by simp)
                 ·rw [if_neg c27] at H
                  exact absurd H (by simp)
                ·rw [if_neg c26] at H
                 exact absurd H (by simp)
               ·rw [if_neg c24] at H
                have c24b0 : decide (0 < (x9_3.length : Int)) = false := decide_eq_false c24
                have c24r0 := c24b0
                (try simp only [hl5_3] at c24r0)
                have c24b1 : decide (0 < x9_3.length) = false := decide_eq_false (by omega)
                have c24r1 := c24b1
                (try simp only [hl5_3] at c24r1)
                clear c24
                have H' := Aside0.mk H
                clear H
                obtain ⟨Ao59, co59, eo59⟩ := Kd.R_slice HO_9.out
                subst eo59
                go_wp2
                repeat (go_quiet (fail); try go_wp2)
                (try simp only [← hl5_3])
                go_roundg k3
                case measure => have := HK1.out; have := HJ9.out; have := HK3.out; omega
                case rel => exact ⟨(x5_3), (x6_3), (wrap64 (x17_1 + 1)), (by first | rfl | (simp; done) | (simp [*]; done)), H', ⟨by have := HK1.out; have := HJ9.out; have := HK3.out; omega⟩, ⟨by (try simp only [hl5_3]); (with_reducible repeat (first | apply Kd.R_alloc | apply Kd.R_drewN | apply Kd.R_drew)); exact HO_5.out⟩, ⟨by (try simp only [hl5_3]); (with_reducible repeat (first | apply Kd.R_alloc | apply Kd.R_drewN | apply Kd.R_drew)); exact HO_6.out⟩, ⟨by repeat (first | (with_reducible first | exact HB.out | apply below_alloc | apply pw_below_drewN | apply below_drew1) | exact HB.out)⟩⟩
            ·rw [if_neg c18] at H
             exact absurd H (by simp)
           ·rw [if_neg c17] at H
            exact absurd H (by simp)
       ·rw [if_neg c9] at H
        exact absurd H (by simp)
      ·rw [if_neg c8] at H
       exact absurd H (by simp)
     ·rw [if_neg c7] at H
      have c7b0 : decide (x17_1 < (l1.length : Int)) = false := decide_eq_false c7
      clear c7
      obtain rfl := Option.some.inj H
      go_wp2
      repeat (go_quiet (fail); try go_wp2)
      go_ret
      exact ⟨_, by first | rfl | (simp [errW_none, errW_some] <;> rfl) | (simp [*, errW_none, errW_some] <;> rfl), by (with_reducible repeat (first | apply Kd.R_alloc | apply Kd.R_drewN | apply Kd.R_drew)); exact HO_6.out, by repeat (first | (with_reducible first | exact HB.out | apply below_alloc | apply pw_below_drewN | apply below_drew1) | exact HB.out)⟩
  ·rw [if_neg c4] at H
   exact absurd H (by simp)
 ·rw [if_neg c3] at H
  exact absurd H (by simp)

end Go.Proofs.Ytlohkhadbkahdaa.QGraph
