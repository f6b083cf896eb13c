-- Laid by wip/hook.py (this session's own program) out of the translation; with contracts that were written by hand.
import Derived.Test.YtlohkhadbkahdaaQGraphx0
import Derived.Test.YtlohkhadbkahdaaQGraphx3
import Derived.Test.YtlohkhadbkahdaaQGraphx4
namespace Go.Proofs.Ytlohkhadbkahdaa.QGraph
open Go.RowKit Go.Proofs.YtlohkhadbkahdaaW.PrintWords Go.Proofs.YtlohkhadbkahdaaW.PrintLast Go.Proofs.YtlohkhadbkahdaaW.PrintMore
attribute [local go_sem] max2_int min2_int max_two min_two max_three min_three max_four min_four   -- for this text's walks alone
set_option linter.unusedVariables false
set_option linter.unusedSimpArgs false

/-! ### shacklelaw16_GraphMore: function 10 -/
mutual
def shacklelaw16_GraphMore.j0 : Nat → List (List Int) → List Int → Int → Bool → Bool → Option (Bool)
 | 0, _, _, _, _, _ => none
 | k + 1, x0, x1, x2, x7, x25 => if x25 = true then (some x7) else ((graph_Live.f k x0 x1).bind fun t331 => (if ([] : List Int).length + x1.length < 17592186044416 then ((some (([] : List Int) ++ x1 : List Int)).bind fun y334 => (if 0 ≤ x2 then (if x2 < (y334.length : Int) then ((graph_Live.f k x0 (y334.set (x2 : Int).toNat 1)).bind fun t338 => (if (t331.length : Int) = (t338.length : Int) then (shacklelaw16_GraphMore.l0 k x1 x2 x7 t331 t338 0) else (some false))) else (none)) else (none))) else (none)))
def shacklelaw16_GraphMore.l0 : Nat → List Int → Int → Bool → List Bool → List Bool → Int → Option (Bool)
 | 0, _, _, _, _, _, _ => none
 | k + 1, x1, x2, x7, x8, x10, x11 => if x11 < (x8.length : Int) then (if 0 ≤ x11 then (if rdOf false x8 x11 = true then (if x11 < (x10.length : Int) then (if rdOf false x10 x11 = true then (shacklelaw16_GraphMore.l0 k x1 x2 x7 x8 x10 (wrap64 (x11 + 1))) else (if 0 ≤ x2 then (if x2 < (x1.length : Int) then (if (rd x1 x2) ≤ 0 then (some false) else (shacklelaw16_GraphMore.l0 k x1 x2 x7 x8 x10 (wrap64 (x11 + 1)))) else (none)) else (none))) else (none)) else (shacklelaw16_GraphMore.l0 k x1 x2 x7 x8 x10 (wrap64 (x11 + 1)))) else (none)) else (some x7)
end
def shacklelaw16_GraphMore.f (k : Nat) (l0 : List (List Int)) (l1 : List Int) (a2 : Int) : Option (Bool) := (shacklelaw16_up.f k).bind fun t329 => ((shacklelaw16_small.f k l0).bind fun t330 => (if t330 = true then (if a2 < 0 then (shacklelaw16_GraphMore.j0 k l0 l1 a2 t329 true) else (shacklelaw16_GraphMore.j0 k l0 l1 a2 t329 (decide (a2 ≥ (l1.length : Int))))) else (shacklelaw16_GraphMore.j0 k l0 l1 a2 t329 true)))
theorem shacklelaw16_GraphMore.mono_l : ∀ k, (∀ y0 y1 y2 y3 y4, LeO (shacklelaw16_GraphMore.j0 k y0 y1 y2 y3 y4) (shacklelaw16_GraphMore.j0 (k + 1) y0 y1 y2 y3 y4)) ∧ (∀ y0 y1 y2 y3 y4 y5, LeO (shacklelaw16_GraphMore.l0 k y0 y1 y2 y3 y4 y5) (shacklelaw16_GraphMore.l0 (k + 1) y0 y1 y2 y3 y4 y5))
 | 0 => ⟨fun _ _ _ _ _ r h => by simp [shacklelaw16_GraphMore.j0] at h, fun _ _ _ _ _ _ r h => by simp [shacklelaw16_GraphMore.l0] at h⟩
 | k + 1 => by
  obtain ⟨ih0, ih1⟩ := shacklelaw16_GraphMore.mono_l k
  refine ⟨?_, ?_⟩
  ·intro y0 y1 y2 y3 y4
   unfold shacklelaw16_GraphMore.j0
   repeat' first
   | (with_reducible exact ih0 _ _ _ _ _)
   | (with_reducible exact ih1 _ _ _ _ _ _)
   | (with_reducible exact graph_Live.mono _ _ _)
   | (with_reducible exact shacklelaw16_small.mono _ _)
   | (with_reducible exact shacklelaw16_up.mono _)
   | (with_reducible exact LeO.refl _)
   | (with_reducible exact LeO.none _)
   | (with_reducible refine LeO.ite ?_ ?_)
   | (with_reducible refine LeO.bind ?_ (fun _ => ?_))
   | exact ih0 _ _ _ _ _
   | exact ih1 _ _ _ _ _ _
   | exact graph_Live.mono _ _ _
   | exact shacklelaw16_small.mono _ _
   | exact shacklelaw16_up.mono _
   | exact LeO.none _
   | refine LeO.ite ?_ ?_
   | refine LeO.bind ?_ (fun _ => ?_)
  ·intro y0 y1 y2 y3 y4 y5
   unfold shacklelaw16_GraphMore.l0
   repeat' first
   | (with_reducible exact ih0 _ _ _ _ _)
   | (with_reducible exact ih1 _ _ _ _ _ _)
   | (with_reducible exact graph_Live.mono _ _ _)
   | (with_reducible exact shacklelaw16_small.mono _ _)
   | (with_reducible exact shacklelaw16_up.mono _)
   | (with_reducible exact LeO.refl _)
   | (with_reducible exact LeO.none _)
   | (with_reducible refine LeO.ite ?_ ?_)
   | (with_reducible refine LeO.bind ?_ (fun _ => ?_))
   | exact ih0 _ _ _ _ _
   | exact ih1 _ _ _ _ _ _
   | exact graph_Live.mono _ _ _
   | exact shacklelaw16_small.mono _ _
   | exact shacklelaw16_up.mono _
   | exact LeO.none _
   | refine LeO.ite ?_ ?_
   | refine LeO.bind ?_ (fun _ => ?_)
theorem shacklelaw16_GraphMore.mono : ∀ a0 a1 a2 k, LeO (shacklelaw16_GraphMore.f k a0 a1 a2) (shacklelaw16_GraphMore.f (k + 1) a0 a1 a2) := by
 intro a0 a1 a2 k
 obtain ⟨ih0, ih1⟩ := shacklelaw16_GraphMore.mono_l k
 unfold shacklelaw16_GraphMore.f
 repeat' first
   | (with_reducible exact ih0 _ _ _ _ _)
   | (with_reducible exact ih1 _ _ _ _ _ _)
   | (with_reducible exact graph_Live.mono _ _ _)
   | (with_reducible exact shacklelaw16_small.mono _ _)
   | (with_reducible exact shacklelaw16_up.mono _)
   | (with_reducible exact LeO.refl _)
   | (with_reducible exact LeO.none _)
   | (with_reducible refine LeO.ite ?_ ?_)
   | (with_reducible refine LeO.bind ?_ (fun _ => ?_))
   | exact ih0 _ _ _ _ _
   | exact ih1 _ _ _ _ _ _
   | exact graph_Live.mono _ _ _
   | exact shacklelaw16_small.mono _ _
   | exact shacklelaw16_up.mono _
   | exact LeO.none _
   | refine LeO.ite ?_ ?_
   | refine LeO.bind ?_ (fun _ => ?_)
set_option maxHeartbeats 8000000 in
set_option maxRecDepth 100000 in
theorem shacklelaw16_GraphMore.calls (k : Nat) (A0 : Option Addr) (c0 : Nat) (l0 : List (List Int)) (A1 : Option Addr) (c1 : Nat) (l1 : List Int) (a2 : Int) (r : Bool) (w : World) (hr0 : Kd.C (Kd.slice 3 (Kd.int .i64)) w A0 l0.length l0) (hc0 : l0.length ≤ c0) (hr1 : Kd.C (Kd.int .i64) w A1 l1.length l1) (hc1 : l1.length ≤ c1) (h : shacklelaw16_GraphMore.f k l0 l1 a2 = some r) :
  Calls Try.prog 10 #[.slice A0 l0.length c0, .slice A1 l1.length c1, .int .i64 a2] w fun e w' => e = .returned (.bool r) ∧ Below w.heap.size w w' := by
 have HR0 := Aside0.mk hr0
 have HC0 := Aside0.mk hc0
 clear hr0 hc0
 have HR1 := Aside0.mk hr1
 have HC1 := Aside0.mk hc1
 clear hr1 hc1
 have HB := Aside0.mk (Below.refl w.heap.size w)
 have H : ((shacklelaw16_up.f k).bind fun t329 => ((shacklelaw16_small.f k l0).bind fun t330 => (if t330 = true then (if a2 < 0 then (shacklelaw16_GraphMore.j0 k l0 l1 a2 t329 true) else (shacklelaw16_GraphMore.j0 k l0 l1 a2 t329 (decide (a2 ≥ (l1.length : Int))))) else (shacklelaw16_GraphMore.j0 k l0 l1 a2 t329 true)))) = some r := h
 clear h
 replace H := Option.bind_eq_some_iff.mp H
 obtain ⟨t329, A40, H⟩ := H
 replace H : ((shacklelaw16_small.f k l0).bind fun t330 => (if t330 = true then (if a2 < 0 then (shacklelaw16_GraphMore.j0 k l0 l1 a2 t329 true) else (shacklelaw16_GraphMore.j0 k l0 l1 a2 t329 (decide (a2 ≥ (l1.length : Int))))) else (shacklelaw16_GraphMore.j0 k l0 l1 a2 t329 true))) = some r := H
 have A4 := Aside0.mk A40
 clear A40
 have HC5 := Aside0.mk H
 clear H
 go_enter Try.func10, Try.ntmps10
 go_upto_region 2 with (first | ((with_reducible refine gate_callee (f := 22) rfl ?_); refine goesL_ (some 12) rfl rfl Try.func22 (by kernel_rfl) rfl #[] rfl (by (try simp only [List.map_toArray, List.map_cons, List.map_nil]); first | done | rfl | (simp only [List.length_drop, List.length_take]; rfl)) ?_; (with_reducible refine (shacklelaw16_up.calls k  t329 _ A4.out).mono ?_); rintro e w6 ⟨rfl, hb⟩; refine ⟨_, rfl, ?_⟩; have n0_ := Aside0.mk (below_step (by repeat (first | (with_reducible first | exact HB.out | apply below_alloc | apply pw_below_drewN | apply below_drew1) | exact HB.out)) hb); clear HB; have HB := n0_; clear n0_; (try clear hb); (try clear hb2); (try clear hk); (try clear hi)))
 (try simp only [Act.put, List.setIfInBounds_toArray, List.set_cons_zero, List.set_cons_succ])
 go_cut [25] (fun v25 wc => ∃ (kq : Nat) (x25_4 : Bool), v25 = .bool x25_4 ∧ Aside0 (shacklelaw16_GraphMore.j0 kq l0 l1 a2 t329 x25_4 = some r) ∧ Aside0 (kq ≤ k) ∧ Aside0 (Below w.heap.size w wc))
 case first =>
  have H := HC5.out
  clear HC5
  replace H := Option.bind_eq_some_iff.mp H
  obtain ⟨t330, A70, H⟩ := H
  replace H : (if t330 = true then (if a2 < 0 then (shacklelaw16_GraphMore.j0 k l0 l1 a2 t329 true) else (shacklelaw16_GraphMore.j0 k l0 l1 a2 t329 (decide (a2 ≥ (l1.length : Int))))) else (shacklelaw16_GraphMore.j0 k l0 l1 a2 t329 true)) = some r := H
  have A7 := Aside0.mk A70
  clear A70
  by_cases c8 : t330 = true
  ·subst c8
   have H1 : (if a2 < 0 then (shacklelaw16_GraphMore.j0 k l0 l1 a2 t329 true) else (shacklelaw16_GraphMore.j0 k l0 l1 a2 t329 (decide (a2 ≥ (l1.length : Int))))) = some r := by rw [if_pos rfl] at H; exact H
   clear H
   have H := H1
   clear H1
   by_cases c9 : a2 < 0
   ·rw [if_pos c9] at H
    have c9b0 : decide (a2 < 0) = true := decide_eq_true c9
    clear c9
    (first | rw [c9b0] | (simp only [i64_w, i32_w]; rw [c9b0]) | skip)
    have H' := Aside0.mk H
    clear H
    go_wp2_with (first | ((with_reducible refine gate_callee (f := 23) rfl ?_); refine goesL_ (some 14) rfl rfl Try.func23 (by kernel_rfl) rfl #[.slice A0 l0.length c0] rfl (by (try simp only [List.map_toArray, List.map_cons, List.map_nil]); first | done | rfl | (simp only [List.length_drop, List.length_take]; rfl)) ?_; (with_reducible refine (shacklelaw16_small.calls k _ _ l0 true _ ?side1 ?side2 A7.out).mono ?_); (case side1 => repeat (first | exact (Kd.C_below HR0.out HB.out) | (with_reducible refine Kd.C_alloc ?_ _) | (with_reducible refine Kd.C_drewN ?_ _) | (with_reducible refine Kd.C_drew ?_))); (case side2 => exact HC0.out); rintro e w' ⟨rfl, ⟨nd, rfl⟩⟩; refine ⟨_, rfl, ?_⟩))
    go_meet
    case rel => exact ⟨_, (true), (by first | rfl | (simp; done) | (simp [*]; done)), H', ⟨by first | omega | exact Nat.le_refl _⟩, ⟨by repeat (first | (with_reducible first | exact HB.out | apply below_alloc | apply pw_below_drewN | apply below_drew1) | exact HB.out)⟩⟩
   ·rw [if_neg c9] at H
    have c9b0 : decide (a2 < 0) = false := decide_eq_false c9
    clear c9
    (first | rw [c9b0] | (simp only [i64_w, i32_w]; rw [c9b0]) | skip)
    have H' := Aside0.mk H
    clear H
    go_wp2_with (first | ((with_reducible refine gate_callee (f := 23) rfl ?_); refine goesL_ (some 14) rfl rfl Try.func23 (by kernel_rfl) rfl #[.slice A0 l0.length c0] rfl (by (try simp only [List.map_toArray, List.map_cons, List.map_nil]); first | done | rfl | (simp only [List.length_drop, List.length_take]; rfl)) ?_; (with_reducible refine (shacklelaw16_small.calls k _ _ l0 true _ ?side1 ?side2 A7.out).mono ?_); (case side1 => repeat (first | exact (Kd.C_below HR0.out HB.out) | (with_reducible refine Kd.C_alloc ?_ _) | (with_reducible refine Kd.C_drewN ?_ _) | (with_reducible refine Kd.C_drew ?_))); (case side2 => exact HC0.out); rintro e w' ⟨rfl, ⟨nd, rfl⟩⟩; refine ⟨_, rfl, ?_⟩))
    go_meet
    case rel => exact ⟨_, (decide (a2 ≥ (l1.length : Int))), (by first | rfl | (simp; done) | (simp [*]; done)), H', ⟨by first | omega | exact Nat.le_refl _⟩, ⟨by repeat (first | (with_reducible first | exact HB.out | apply below_alloc | apply pw_below_drewN | apply below_drew1) | exact HB.out)⟩⟩
  ·replace c8 := Bool.eq_false_iff.mpr c8
   subst c8
   have H1 : (shacklelaw16_GraphMore.j0 k l0 l1 a2 t329 true) = some r := by rw [if_neg (show ¬ (false = true) by decide)] at H; exact H
   clear H
   have H := H1
   clear H1
   have H' := Aside0.mk H
   clear H
   go_wp2_with (first | ((with_reducible refine gate_callee (f := 23) rfl ?_); refine goesL_ (some 14) rfl rfl Try.func23 (by kernel_rfl) rfl #[.slice A0 l0.length c0] rfl (by (try simp only [List.map_toArray, List.map_cons, List.map_nil]); first | done | rfl | (simp only [List.length_drop, List.length_take]; rfl)) ?_; (with_reducible refine (shacklelaw16_small.calls k _ _ l0 false _ ?side1 ?side2 A7.out).mono ?_); (case side1 => repeat (first | exact (Kd.C_below HR0.out HB.out) | (with_reducible refine Kd.C_alloc ?_ _) | (with_reducible refine Kd.C_drewN ?_ _) | (with_reducible refine Kd.C_drew ?_))); (case side2 => exact HC0.out); rintro e w' ⟨rfl, ⟨nd, rfl⟩⟩; refine ⟨_, rfl, ?_⟩))
   go_meet
   case rel => exact ⟨_, (true), (by first | rfl | (simp; done) | (simp [*]; done)), H', ⟨by first | omega | exact Nat.le_refl _⟩, ⟨by repeat (first | (with_reducible first | exact HB.out | apply below_alloc | apply pw_below_drewN | apply below_drew1) | exact HB.out)⟩⟩
 case rest =>
  clear HC5
  try clear c1
  try clear c2
  try clear p2
  try clear c8
  try clear c9
  try clear c9b0
  obtain ⟨kq, x25_4, rfl, HA, HJ4, HB⟩ := hcut
  cases kq with
  | zero => exact absurd HA.out (by simp [shacklelaw16_GraphMore.j0])
  | succ kj4 =>
   have H := HA.out
   clear HA
   simp only [shacklelaw16_GraphMore.j0] at H
   by_cases c10 : x25_4 = true
   ·subst c10
    have H1 : (some t329) = some r := by rw [if_pos rfl] at H; exact H
    clear H
    have H := H1
    clear H1
    obtain rfl := Option.some.inj H
    go_wp2
    go_ret
    exact ⟨by first | rfl | (simp [errW_none, errW_some] <;> rfl) | (simp [*, errW_none, errW_some] <;> rfl), by repeat (first | (with_reducible first | exact HB.out | apply below_alloc | apply pw_below_drewN | apply below_drew1) | exact HB.out)⟩
   ·replace c10 := Bool.eq_false_iff.mpr c10
    subst c10
    have H1 : ((graph_Live.f kj4 l0 l1).bind fun t331 => (if ([] : List Int).length + l1.length < 17592186044416 then ((some (([] : List Int) ++ l1 : List Int)).bind fun y334 => (if 0 ≤ a2 then (if a2 < (y334.length : Int) then ((graph_Live.f kj4 l0 (y334.set (a2 : Int).toNat 1)).bind fun t338 => (if (t331.length : Int) = (t338.length : Int) then (shacklelaw16_GraphMore.l0 kj4 l1 a2 t329 t331 t338 0) else (some false))) else (none)) else (none))) else (none))) = some r := by rw [if_neg (show ¬ (false = true) by decide)] at H; exact H
    clear H
    have H := H1
    clear H1
    replace H := Option.bind_eq_some_iff.mp H
    obtain ⟨t331, A110, H⟩ := H
    replace H : (if ([] : List Int).length + l1.length < 17592186044416 then ((some (([] : List Int) ++ l1 : List Int)).bind fun y334 => (if 0 ≤ a2 then (if a2 < (y334.length : Int) then ((graph_Live.f kj4 l0 (y334.set (a2 : Int).toNat 1)).bind fun t338 => (if (t331.length : Int) = (t338.length : Int) then (shacklelaw16_GraphMore.l0 kj4 l1 a2 t329 t331 t338 0) else (some false))) else (none)) else (none))) else (none)) = some r := H
    have A11 := Aside0.mk A110
    clear A110
    by_cases c12 : ([] : List Int).length + l1.length < 17592186044416
    ·rw [if_pos c12] at H
     have LMc12 := Aside0.mk c12
     clear c12
     obtain ⟨y334, hy334⟩ : ∃ y_ : List Int, y_ = (([] : List Int) ++ l1) := ⟨_, rfl⟩
     replace H : (if 0 ≤ a2 then (if a2 < (y334.length : Int) then ((graph_Live.f kj4 l0 (y334.set (a2 : Int).toNat 1)).bind fun t338 => (if (t331.length : Int) = (t338.length : Int) then (shacklelaw16_GraphMore.l0 kj4 l1 a2 t329 t331 t338 0) else (some false))) else (none)) else (none)) = some r := by first | (rw [hy334]; with_reducible exact H) | (have H2_ := (Option.bind_some _ _).symm.trans H; rw [hy334]; with_reducible exact H2_) | (have H2_ := (Option.bind_some _ _).symm.trans H; with_reducible exact H2_) | with_reducible exact H | (rw [hy334]; exact H) | exact H
     have Ny334 := Aside0.mk hy334
     clear hy334
     by_cases c13 : 0 ≤ a2
     ·rw [if_pos c13] at H
      have c13b0 : decide (0 ≤ a2) = true := decide_eq_true c13
      clear c13
      by_cases c14 : a2 < (y334.length : Int)
      ·rw [if_pos c14] at H
       have c14b0 : decide (a2 < (y334.length : Int)) = true := decide_eq_true c14
       clear c14
       obtain ⟨y337, hy337⟩ : ∃ y_ : List Int, y_ = (y334.set (a2 : Int).toNat 1) := ⟨_, rfl⟩
       replace H : ((graph_Live.f kj4 l0 y337).bind fun t338 => (if (t331.length : Int) = (t338.length : Int) then (shacklelaw16_GraphMore.l0 kj4 l1 a2 t329 t331 t338 0) else (some false))) = some r := by first | (rw [hy337]; with_reducible exact H) | (have H2_ := (Option.bind_some _ _).symm.trans H; rw [hy337]; with_reducible exact H2_) | (have H2_ := (Option.bind_some _ _).symm.trans H; with_reducible exact H2_) | with_reducible exact H | (rw [hy337]; exact H) | exact H
       have Ny337 := Aside0.mk hy337
       clear hy337
       replace H := Option.bind_eq_some_iff.mp H
       obtain ⟨t338, A160, H⟩ := H
       replace H : (if (t331.length : Int) = (t338.length : Int) then (shacklelaw16_GraphMore.l0 kj4 l1 a2 t329 t331 t338 0) else (some false)) = some r := H
       have A16 := Aside0.mk A160
       clear A160
       by_cases c17 : (t331.length : Int) = (t338.length : Int)
       ·rw [if_pos c17] at H
        have c17b0 : ((t331.length : Int) == (t338.length : Int)) = true := beq_iff_eq.mpr c17
        have c17b1 : ((t331.length : Int) != (t338.length : Int)) = false := bne_eq_false_iff_eq.mpr c17
        have c17b2 : (t331.length == t338.length) = true := by first | simpa using c17 | (simp at c17 ⊢; omega)
        clear c17
        have H' := Aside0.mk H
        clear H
        go_wp2_with (first | ((with_reducible refine gate_callee (f := 29) rfl ?_); refine goesL_ (some 29) rfl rfl Try.func29 (by kernel_rfl) rfl #[.slice A0 l0.length c0, .slice A1 l1.length c1] rfl (by (try simp only [List.map_toArray, List.map_cons, List.map_nil]); first | done | rfl | (simp only [List.length_drop, List.length_take]; rfl)) ?_; (with_reducible refine (graph_Live.calls kj4 _ _ l0 _ _ l1 t331 _ ?side1 ?side2 ?side3 ?side4 A11.out).mono ?_); (case side1 => repeat (first | exact (Kd.C_below HR0.out HB.out) | (with_reducible refine Kd.C_alloc ?_ _) | (with_reducible refine Kd.C_drewN ?_ _) | (with_reducible refine Kd.C_drew ?_))); (case side2 => exact HC0.out); (case side3 => repeat (first | exact (Kd.C_below HR1.out HB.out) | (with_reducible refine Kd.C_alloc ?_ _) | (with_reducible refine Kd.C_drewN ?_ _) | (with_reducible refine Kd.C_drew ?_))); (case side4 => exact HC1.out); rintro e w18 ⟨v332, rfl, ho0, hb⟩; refine ⟨_, rfl, ?_⟩; have n0_ := Aside0.mk (Kd.R_lower ho0 (below_size (by repeat (first | (with_reducible first | exact HB.out | apply below_alloc | apply pw_below_drewN | apply below_drew1) | exact HB.out)))); have n1_ := Aside0.mk (below_step (by repeat (first | (with_reducible first | exact HB.out | apply below_alloc | apply pw_below_drewN | apply below_drew1) | exact HB.out)) hb); clear HB; have HO333 := n0_; have HB := n1_; clear n0_ n1_; (try clear hb); (try clear hb2); (try clear hk); (try clear hi); (try clear ho0)) | ((with_reducible refine gate_builtin (b := .append) (xs := #[.tmp 30, .tmp 31]) rfl ?_); (try (refine gate_guard (by rfl) ?_; dsimp only)); at_builtin; refine Kd.R_append_rows (Kd.int .i64) (w0 := w) w.heap.size rfl (.tmp 30) (.tmp 31) 42 3 (.int .i64 0) 8 rfl Try.underlying42 info3 rfl (by decide) (by omega) (.slice none 0 0) ([] : List Int) l1 _ _ _ (fun _ => True) (fun _ => False) rfl rfl ?aO ?aR (fun _ _ h => h) (fun _ h => h.elim) ?aF ?aB ?aS ?aL ?_; (case aR => repeat (first | exact (Kd.C_below HR1.out HB.out) | (with_reducible refine Kd.C_alloc ?_ _) | (with_reducible refine Kd.C_drewN ?_ _) | (with_reducible refine Kd.C_drew ?_))); (case aB => exact (by repeat (first | (with_reducible first | exact HB.out | apply below_alloc | apply pw_below_drewN | apply below_drew1) | exact HB.out))); (case aF => exact (fun _ _ => trivial)); (case aO => exact ((Kd.R_nil _ _ _ _ (fun _ => True)))); (case aS => exact (below_size (by repeat (first | (with_reducible first | exact HB.out | apply below_alloc | apply pw_below_drewN | apply below_drew1) | exact HB.out)))); (case aL => have := LMc12.out; omega); intro v335 w19 ho hb hg hat; rw [← Ny334.out] at ho; have n0_ := Aside0.mk (Kd.R_grown (by (with_reducible repeat (first | apply Kd.R_alloc | apply Kd.R_drewN | apply Kd.R_drew)); exact HO333.out) hg (fun _ _ => by simp [Value.ownBlock])); have n1_ := Aside0.mk (hb); have n2_ := Aside0.mk (ho); clear HO333; clear HB; have HO333 := n0_; have HB := n1_; have HO336 := n2_; clear n0_ n1_ n2_; clear ho hb hg hat; have p15 : 0 ≤ (a2 : Int) := of_decide_eq_true (by assumption); have q15 : (a2 : Int) < ((y334.length : Int) : Int) := of_decide_eq_true (by assumption); obtain ⟨go15, co15, eo15, gb15, gl15, cl15, HG15⟩ := Kd.R_form HO336.out (by omega); (first | cases eo15 | (injection eo15 with ea_ en_ ec_; (first | subst ea_ | (injection ea_ with ea_; subst ea_)); subst ec_; clear en_)); have GB15 := Aside0.mk gb15; have GG15 := Aside0.mk HG15; clear gb15 gl15 HG15; obtain ⟨hx15_0, hf15_0⟩ := Kd.R_celln 0 HO336.out (a2 : Int) p15 q15; replace p15 := eq_true p15; replace q15 := eq_true q15; obtain ⟨hy20_, hz20_⟩ := Kd.R_celln 0 HO336.out (a2 : Int) (of_decide_eq_true (by assumption)) (of_decide_eq_true (by assumption)); have HP20 := Kd.R_putg HO336.out (a2 : Int) 1) | ((with_reducible refine gate_store (t := 3) (p := 35) rfl ?_); refine store_event (t := 3) (p := 35) (v := ?vo_w21) (w1 := (w19.setCell ⟨go15, (a2 : Int).toNat, none⟩ (.int .i64 1))) ?hg ?ho ?hn ?hr ?_; (case ho => rfl); (case hg => rfl); (case hn => rfl); (case hr => first | (go_simp; done) | (go_simp; rfl)); intro w21 hw; have hg : w19.grownBy w21 (some go15) := (by rw [hw]; exact HP20.2); have hp_ : Kd.R (Kd.int .i64) 3 w21 w.heap.size (fun _ => True) (.slice (some ⟨go15, 0, none⟩) y334.length co15) y337 := (by rw [hw, Ny337.out]; exact HP20.1); clear HP20; have n0_ := Aside0.mk (Kd.R_over' (v := (.slice (some ⟨go15, 0, none⟩) y334.length co15)) (by (with_reducible repeat (first | apply Kd.R_alloc | apply Kd.R_drewN | apply Kd.R_drew)); exact HO333.out) (Kd.R_typed HO336.out) (by decide) hg); have n1_ := Aside0.mk (hp_); have n2_ := Aside0.mk ((by rw [hw]; exact below_set (HB.out) GB15.out : Below w.heap.size w w21)); clear HO333; clear HO336; clear HB; have HO333 := n0_; have HO336 := n1_; have HB := n2_; clear n0_ n1_ n2_; clear hg hw hp_) | ((with_reducible refine gate_callee (f := 29) rfl ?_); refine goesL_ (some 38) rfl rfl Try.func29 (by kernel_rfl) rfl #[.slice A0 l0.length c0, .slice (some ⟨go15, 0, none⟩) y337.length co15] rfl (by (try simp only [List.map_toArray, List.map_cons, List.map_nil]); first | done | (rw [show y337.length = y334.length from (Kd.R_reads' HO336.out).1.symm] <;> rfl) | rfl | (simp only [List.length_drop, List.length_take]; rfl)) ?_; (with_reducible refine (graph_Live.calls kj4 _ _ l0 _ _ y337 t338 _ ?side1 ?side2 ?side3 ?side4 A16.out).mono ?_); (case side1 => repeat (first | exact (Kd.C_below HR0.out HB.out) | (with_reducible refine Kd.C_alloc ?_ _) | (with_reducible refine Kd.C_drewN ?_ _) | (with_reducible refine Kd.C_drew ?_))); (case side2 => exact HC0.out); (case side3 => repeat (first | exact (Kd.R_reads' HO336.out).2.2 | (with_reducible refine Kd.C_alloc ?_ _) | (with_reducible refine Kd.C_drewN ?_ _) | (with_reducible refine Kd.C_drew ?_))); (case side4 => rw [show y337.length = y334.length from (Kd.R_reads' HO336.out).1.symm]; exact (Kd.R_reads' HO336.out).2.1); rintro e w22 ⟨v339, rfl, ho0, hb⟩; refine ⟨_, rfl, ?_⟩; have n0_ := Aside0.mk (Kd.R_elder' (by (with_reducible repeat (first | apply Kd.R_alloc | apply Kd.R_drewN | apply Kd.R_drew)); exact HO333.out) (Kd.R_base ho0) hb); have n1_ := Aside0.mk (Kd.R_below (by (with_reducible repeat (first | apply Kd.R_alloc | apply Kd.R_drewN | apply Kd.R_drew)); exact HO336.out) hb); have n2_ := Aside0.mk (Kd.R_lower (Kd.R_new' ho0 (Kd.R_lt (by (with_reducible repeat (first | apply Kd.R_alloc | apply Kd.R_drewN | apply Kd.R_drew)); exact HO333.out))) (below_size (by repeat (first | (with_reducible first | exact HB.out | apply below_alloc | apply pw_below_drewN | apply below_drew1) | exact HB.out)))); have n3_ := Aside0.mk (below_step (by repeat (first | (with_reducible first | exact HB.out | apply below_alloc | apply pw_below_drewN | apply below_drew1) | exact HB.out)) hb); clear HO333; clear HO336; clear HB; have HO333 := n0_; have HO336 := n1_; have HO340 := n2_; have HB := n3_; clear n0_ n1_ n2_ n3_; (try clear hb); (try clear hb2); (try clear hk); (try clear hi); (try clear ho0); obtain ⟨Ao23, co23, eo23⟩ := Kd.R_slice HO333.out; subst eo23; obtain ⟨Ao24, co24, eo24⟩ := Kd.R_slice HO340.out; subst eo24))
        go_loopg [11] kj4 (fun kq v11 w' => ∃ (x11_2 : Int), v11 = .int .i64 x11_2 ∧ Aside0 (shacklelaw16_GraphMore.l0 kq l1 a2 t329 t331 t338 x11_2 = some r) ∧ Aside0 (kq ≤ kj4) ∧ Aside0 (Kd.R Kd.bool 4 w' w.heap.size (fun k_ => some k_ ≠ ((.slice Ao24 t338.length co24) : Value).ownBlock) (.slice Ao23 t331.length co23) t331) ∧ Aside0 (Kd.R Kd.bool 4 w' w.heap.size (fun k_ => some k_ ≠ ((.slice Ao23 t331.length co23) : Value).ownBlock) (.slice Ao24 t338.length co24) t338) ∧ Aside0 (Below w.heap.size w w'))
        case atStart => exact ⟨(0), (by first | rfl | (simp; done) | (simp [*]; done)), H', ⟨Nat.le_refl _⟩, ⟨by (with_reducible repeat (first | apply Kd.R_alloc | apply Kd.R_drewN | apply Kd.R_drew)); exact Kd.R_mono HO333.out (fun _ hk => hk.2)⟩, ⟨by (with_reducible repeat (first | apply Kd.R_alloc | apply Kd.R_drewN | apply Kd.R_drew)); exact Kd.R_mono HO340.out (fun _ hk => hk.2)⟩, ⟨by repeat (first | (with_reducible first | exact HB.out | apply below_alloc | apply pw_below_drewN | apply below_drew1) | exact HB.out)⟩⟩
        case round =>
         clear H'
         try clear c1
         try clear p1
         try clear q1
         try clear hx1
         try clear c2
         try clear p2
         try clear c8
         try clear c9
         try clear c9b0
         try clear c10
         try clear c12
         try clear c13
         try clear c13b0
         try clear c14
         try clear c14b0
         try clear p15
         try clear q15
         try clear hx15
         try clear hf15
         try clear c17
         try clear c17b0
         try clear c17b1
         try clear c17b2
         try clear c22
         try clear c23
         try clear hx15_0
         try clear p15
         try clear p2
         try clear q15
         obtain ⟨x11_2, rfl, HA, HK2, HO_8, HO_10, HB⟩ := hrel
         cases gk with
         | zero => exact absurd HA.out (by simp [shacklelaw16_GraphMore.l0])
         | succ k2 =>
          have H := HA.out
          clear HA
          simp only [shacklelaw16_GraphMore.l0] at H
          by_cases c25 : x11_2 < (t331.length : Int)
          ·rw [if_pos c25] at H
           have c25b0 : decide (x11_2 < (t331.length : Int)) = true := decide_eq_true c25
           clear c25
           by_cases c26 : 0 ≤ x11_2
           ·rw [if_pos c26] at H
            have c26b0 : decide (0 ≤ x11_2) = true := decide_eq_true c26
            clear c26
            obtain ⟨bq27, hbq27⟩ : ∃ b_ : Bool, b_ = (rdOf false t331 x11_2) := ⟨_, rfl⟩
            replace H : (if bq27 = true then (if x11_2 < (t338.length : Int) then (if rdOf false t338 x11_2 = true then (shacklelaw16_GraphMore.l0 k2 l1 a2 t329 t331 t338 (wrap64 (x11_2 + 1))) else (if 0 ≤ a2 then (if a2 < (l1.length : Int) then (if (rd l1 a2) ≤ 0 then (some false) else (shacklelaw16_GraphMore.l0 k2 l1 a2 t329 t331 t338 (wrap64 (x11_2 + 1)))) else (none)) else (none))) else (none)) else (shacklelaw16_GraphMore.l0 k2 l1 a2 t329 t331 t338 (wrap64 (x11_2 + 1)))) = some r := by rw [← hbq27] at H; exact H
            have Nbq27 := Aside0.mk hbq27
            clear hbq27
            by_cases c28 : bq27 = true
            ·subst c28
             have H1 : (if x11_2 < (t338.length : Int) then (if rdOf false t338 x11_2 = true then (shacklelaw16_GraphMore.l0 k2 l1 a2 t329 t331 t338 (wrap64 (x11_2 + 1))) else (if 0 ≤ a2 then (if a2 < (l1.length : Int) then (if (rd l1 a2) ≤ 0 then (some false) else (shacklelaw16_GraphMore.l0 k2 l1 a2 t329 t331 t338 (wrap64 (x11_2 + 1)))) else (none)) else (none))) else (none)) = some r := by rw [if_pos rfl] at H; exact H
             clear H
             have H := H1
             clear H1
             by_cases c29 : x11_2 < (t338.length : Int)
             ·rw [if_pos c29] at H
              have c29b0 : decide (x11_2 < (t338.length : Int)) = true := decide_eq_true c29
              clear c29
              obtain ⟨bq30, hbq30⟩ : ∃ b_ : Bool, b_ = (rdOf false t338 x11_2) := ⟨_, rfl⟩
              replace H : (if bq30 = true then (shacklelaw16_GraphMore.l0 k2 l1 a2 t329 t331 t338 (wrap64 (x11_2 + 1))) else (if 0 ≤ a2 then (if a2 < (l1.length : Int) then (if (rd l1 a2) ≤ 0 then (some false) else (shacklelaw16_GraphMore.l0 k2 l1 a2 t329 t331 t338 (wrap64 (x11_2 + 1)))) else (none)) else (none))) = some r := by rw [← hbq30] at H; exact H
              have Nbq30 := Aside0.mk hbq30
              clear hbq30
              by_cases c31 : bq30 = true
              ·subst c31
               have H1 : (shacklelaw16_GraphMore.l0 k2 l1 a2 t329 t331 t338 (wrap64 (x11_2 + 1))) = some r := by rw [if_pos rfl] at H; exact H
               clear H
               have H := H1
               clear H1
               have H' := Aside0.mk H
               clear H
               have p341 : 0 ≤ (x11_2 : Int) := of_decide_eq_true (by assumption)
               have q341 : x11_2 < (t331.length : Int) := of_decide_eq_true (by assumption)
               obtain ⟨ad341, e341, hx341_0⟩ := Kd.at_bool (Kd.R_reads' HO_8.out).2.2 x11_2 p341 q341
               (try rw [← Nbq27.out] at hx341_0)
               (try rw [← Nbq30.out] at hx341_0)
               cases e341
               replace p341 := eq_true p341
               replace q341 := eq_true q341
               have p342 : 0 ≤ (x11_2 : Int) := of_decide_eq_true (by assumption)
               have q342 : x11_2 < (t338.length : Int) := of_decide_eq_true (by assumption)
               obtain ⟨ad342, e342, hx342_0⟩ := Kd.at_bool (Kd.R_reads' HO_10.out).2.2 x11_2 p342 q342
               (try rw [← Nbq27.out] at hx342_0)
               (try rw [← Nbq30.out] at hx342_0)
               cases e342
               replace p342 := eq_true p342
               replace q342 := eq_true q342
               go_wp2
               go_roundg k2
               case measure => have := HJ4.out; have := HK2.out; omega
               case rel => exact ⟨(wrap64 (x11_2 + 1)), (by first | rfl | (simp; done) | (simp [*]; done)), H', ⟨by have := HJ4.out; have := HK2.out; omega⟩, ⟨by (with_reducible repeat (first | apply Kd.R_alloc | apply Kd.R_drewN | apply Kd.R_drew)); exact HO_8.out⟩, ⟨by (with_reducible repeat (first | apply Kd.R_alloc | apply Kd.R_drewN | apply Kd.R_drew)); exact HO_10.out⟩, ⟨by repeat (first | (with_reducible first | exact HB.out | apply below_alloc | apply pw_below_drewN | apply below_drew1) | exact HB.out)⟩⟩
              ·replace c31 := Bool.eq_false_iff.mpr c31
               subst c31
               have H1 : (if 0 ≤ a2 then (if a2 < (l1.length : Int) then (if (rd l1 a2) ≤ 0 then (some false) else (shacklelaw16_GraphMore.l0 k2 l1 a2 t329 t331 t338 (wrap64 (x11_2 + 1)))) else (none)) else (none)) = some r := by rw [if_neg (show ¬ (false = true) by decide)] at H; exact H
               clear H
               have H := H1
               clear H1
               by_cases c32 : 0 ≤ a2
               ·rw [if_pos c32] at H
                have c32b0 : decide (0 ≤ a2) = true := decide_eq_true c32
                clear c32
                by_cases c33 : a2 < (l1.length : Int)
                ·rw [if_pos c33] at H
                 have c33b0 : decide (a2 < (l1.length : Int)) = true := decide_eq_true c33
                 clear c33
                 by_cases c34 : (rd l1 a2) ≤ 0
                 ·rw [if_pos c34] at H
                  have c34b0 : decide ((rd l1 a2) ≤ 0) = true := decide_eq_true c34
                  clear c34
                  obtain rfl := Option.some.inj H
                  have p341 : 0 ≤ (x11_2 : Int) := of_decide_eq_true (by assumption)
                  have q341 : x11_2 < (t331.length : Int) := of_decide_eq_true (by assumption)
                  obtain ⟨ad341, e341, hx341_0⟩ := Kd.at_bool (Kd.R_reads' HO_8.out).2.2 x11_2 p341 q341
                  (try rw [← Nbq27.out] at hx341_0)
                  (try rw [← Nbq30.out] at hx341_0)
                  cases e341
                  replace p341 := eq_true p341
                  replace q341 := eq_true q341
                  have p342 : 0 ≤ (x11_2 : Int) := of_decide_eq_true (by assumption)
                  have q342 : x11_2 < (t338.length : Int) := of_decide_eq_true (by assumption)
                  obtain ⟨ad342, e342, hx342_0⟩ := Kd.at_bool (Kd.R_reads' HO_10.out).2.2 x11_2 p342 q342
                  (try rw [← Nbq27.out] at hx342_0)
                  (try rw [← Nbq30.out] at hx342_0)
                  cases e342
                  replace p342 := eq_true p342
                  replace q342 := eq_true q342
                  have p343 : 0 ≤ (a2 : Int) := of_decide_eq_true (by assumption)
                  have q343 : a2 < (l1.length : Int) := of_decide_eq_true (by assumption)
                  obtain ⟨ad343, e343, hx343_0⟩ := Kd.at_int HR1.out a2 p343 q343
                  cases e343
                  replace hx343_0 := (HB.out.cell (World.block_lt_of_cell? w _ hx343_0)).trans hx343_0
                  replace p343 := eq_true p343
                  replace q343 := eq_true q343
                  go_wp2
                  go_ret
                  exact ⟨by first | rfl | (simp [errW_none, errW_some] <;> rfl) | (simp [*, errW_none, errW_some] <;> rfl), by repeat (first | (with_reducible first | exact HB.out | apply below_alloc | apply pw_below_drewN | apply below_drew1) | exact HB.out)⟩
                 ·rw [if_neg c34] at H
                  have c34b0 : decide ((rd l1 a2) ≤ 0) = false := decide_eq_false c34
                  clear c34
                  have H' := Aside0.mk H
                  clear H
                  have p341 : 0 ≤ (x11_2 : Int) := of_decide_eq_true (by assumption)
                  have q341 : x11_2 < (t331.length : Int) := of_decide_eq_true (by assumption)
                  obtain ⟨ad341, e341, hx341_0⟩ := Kd.at_bool (Kd.R_reads' HO_8.out).2.2 x11_2 p341 q341
                  (try rw [← Nbq27.out] at hx341_0)
                  (try rw [← Nbq30.out] at hx341_0)
                  cases e341
                  replace p341 := eq_true p341
                  replace q341 := eq_true q341
                  have p342 : 0 ≤ (x11_2 : Int) := of_decide_eq_true (by assumption)
                  have q342 : x11_2 < (t338.length : Int) := of_decide_eq_true (by assumption)
                  obtain ⟨ad342, e342, hx342_0⟩ := Kd.at_bool (Kd.R_reads' HO_10.out).2.2 x11_2 p342 q342
                  (try rw [← Nbq27.out] at hx342_0)
                  (try rw [← Nbq30.out] at hx342_0)
                  cases e342
                  replace p342 := eq_true p342
                  replace q342 := eq_true q342
                  have p343 : 0 ≤ (a2 : Int) := of_decide_eq_true (by assumption)
                  have q343 : a2 < (l1.length : Int) := of_decide_eq_true (by assumption)
                  obtain ⟨ad343, e343, hx343_0⟩ := Kd.at_int HR1.out a2 p343 q343
                  cases e343
                  replace hx343_0 := (HB.out.cell (World.block_lt_of_cell? w _ hx343_0)).trans hx343_0
                  replace p343 := eq_true p343
                  replace q343 := eq_true q343
                  go_wp2
                  go_roundg k2
                  case measure => have := HJ4.out; have := HK2.out; omega
                  case rel => exact ⟨(wrap64 (x11_2 + 1)), (by first | rfl | (simp; done) | (simp [*]; done)), H', ⟨by have := HJ4.out; have := HK2.out; omega⟩, ⟨by (with_reducible repeat (first | apply Kd.R_alloc | apply Kd.R_drewN | apply Kd.R_drew)); exact HO_8.out⟩, ⟨by (with_reducible repeat (first | apply Kd.R_alloc | apply Kd.R_drewN | apply Kd.R_drew)); exact HO_10.out⟩, ⟨by repeat (first | (with_reducible first | exact HB.out | apply below_alloc | apply pw_below_drewN | apply below_drew1) | exact HB.out)⟩⟩
                ·rw [if_neg c33] at H
                 exact absurd H (by simp)
               ·rw [if_neg c32] at H
                exact absurd H (by simp)
             ·rw [if_neg c29] at H
              exact absurd H (by simp)
            ·replace c28 := Bool.eq_false_iff.mpr c28
             subst c28
             have H1 : (shacklelaw16_GraphMore.l0 k2 l1 a2 t329 t331 t338 (wrap64 (x11_2 + 1))) = some r := by rw [if_neg (show ¬ (false = true) by decide)] at H; exact H
             clear H
             have H := H1
             clear H1
             have H' := Aside0.mk H
             clear H
             have p341 : 0 ≤ (x11_2 : Int) := of_decide_eq_true (by assumption)
             have q341 : x11_2 < (t331.length : Int) := of_decide_eq_true (by assumption)
             obtain ⟨ad341, e341, hx341_0⟩ := Kd.at_bool (Kd.R_reads' HO_8.out).2.2 x11_2 p341 q341
             (try rw [← Nbq27.out] at hx341_0)
             cases e341
             replace p341 := eq_true p341
             replace q341 := eq_true q341
             go_wp2
             go_roundg k2
             case measure => have := HJ4.out; have := HK2.out; omega
             case rel => exact ⟨(wrap64 (x11_2 + 1)), (by first | rfl | (simp; done) | (simp [*]; done)), H', ⟨by have := HJ4.out; have := HK2.out; omega⟩, ⟨by (with_reducible repeat (first | apply Kd.R_alloc | apply Kd.R_drewN | apply Kd.R_drew)); exact HO_8.out⟩, ⟨by (with_reducible repeat (first | apply Kd.R_alloc | apply Kd.R_drewN | apply Kd.R_drew)); exact HO_10.out⟩, ⟨by repeat (first | (with_reducible first | exact HB.out | apply below_alloc | apply pw_below_drewN | apply below_drew1) | exact HB.out)⟩⟩
           ·rw [if_neg c26] at H
            exact absurd H (by simp)
          ·rw [if_neg c25] at H
           have c25b0 : decide (x11_2 < (t331.length : Int)) = false := decide_eq_false c25
           clear c25
           obtain rfl := Option.some.inj H
           go_wp2
           go_ret
           exact ⟨by first | rfl | (simp [errW_none, errW_some] <;> rfl) | (simp [*, errW_none, errW_some] <;> rfl), by repeat (first | (with_reducible first | exact HB.out | apply below_alloc | apply pw_below_drewN | apply below_drew1) | exact HB.out)⟩
       ·rw [if_neg c17] at H
        have c17b0 : ((t331.length : Int) == (t338.length : Int)) = false := beq_eq_false_iff_ne.mpr c17
        have c17b1 : ((t331.length : Int) != (t338.length : Int)) = true := bne_iff_ne.mpr c17
        have c17b2 : (t331.length == t338.length) = false := by first | simpa using c17 | (simp at c17 ⊢; omega)
        obtain rfl := Option.some.inj H
        go_wp2_with (first | ((with_reducible refine gate_callee (f := 29) rfl ?_); refine goesL_ (some 29) rfl rfl Try.func29 (by kernel_rfl) rfl #[.slice A0 l0.length c0, .slice A1 l1.length c1] rfl (by (try simp only [List.map_toArray, List.map_cons, List.map_nil]); first | done | rfl | (simp only [List.length_drop, List.length_take]; rfl)) ?_; (with_reducible refine (graph_Live.calls kj4 _ _ l0 _ _ l1 t331 _ ?side1 ?side2 ?side3 ?side4 A11.out).mono ?_); (case side1 => repeat (first | exact (Kd.C_below HR0.out HB.out) | (with_reducible refine Kd.C_alloc ?_ _) | (with_reducible refine Kd.C_drewN ?_ _) | (with_reducible refine Kd.C_drew ?_))); (case side2 => exact HC0.out); (case side3 => repeat (first | exact (Kd.C_below HR1.out HB.out) | (with_reducible refine Kd.C_alloc ?_ _) | (with_reducible refine Kd.C_drewN ?_ _) | (with_reducible refine Kd.C_drew ?_))); (case side4 => exact HC1.out); rintro e w35 ⟨v332, rfl, ho0, hb⟩; refine ⟨_, rfl, ?_⟩; have n0_ := Aside0.mk (Kd.R_lower ho0 (below_size (by repeat (first | (with_reducible first | exact HB.out | apply below_alloc | apply pw_below_drewN | apply below_drew1) | exact HB.out)))); have n1_ := Aside0.mk (below_step (by repeat (first | (with_reducible first | exact HB.out | apply below_alloc | apply pw_below_drewN | apply below_drew1) | exact HB.out)) hb); clear HB; have HO333 := n0_; have HB := n1_; clear n0_ n1_; (try clear hb); (try clear hb2); (try clear hk); (try clear hi); (try clear ho0)) | ((with_reducible refine gate_builtin (b := .append) (xs := #[.tmp 30, .tmp 31]) rfl ?_); (try (refine gate_guard (by rfl) ?_; dsimp only)); at_builtin; refine Kd.R_append_rows (Kd.int .i64) (w0 := w) w.heap.size rfl (.tmp 30) (.tmp 31) 42 3 (.int .i64 0) 8 rfl Try.underlying42 info3 rfl (by decide) (by omega) (.slice none 0 0) ([] : List Int) l1 _ _ _ (fun _ => True) (fun _ => False) rfl rfl ?aO ?aR (fun _ _ h => h) (fun _ h => h.elim) ?aF ?aB ?aS ?aL ?_; (case aR => repeat (first | exact (Kd.C_below HR1.out HB.out) | (with_reducible refine Kd.C_alloc ?_ _) | (with_reducible refine Kd.C_drewN ?_ _) | (with_reducible refine Kd.C_drew ?_))); (case aB => exact (by repeat (first | (with_reducible first | exact HB.out | apply below_alloc | apply pw_below_drewN | apply below_drew1) | exact HB.out))); (case aF => exact (fun _ _ => trivial)); (case aO => exact ((Kd.R_nil _ _ _ _ (fun _ => True)))); (case aS => exact (below_size (by repeat (first | (with_reducible first | exact HB.out | apply below_alloc | apply pw_below_drewN | apply below_drew1) | exact HB.out)))); (case aL => have := LMc12.out; omega); intro v335 w36 ho hb hg hat; rw [← Ny334.out] at ho; have n0_ := Aside0.mk (Kd.R_grown (by (with_reducible repeat (first | apply Kd.R_alloc | apply Kd.R_drewN | apply Kd.R_drew)); exact HO333.out) hg (fun _ _ => by simp [Value.ownBlock])); have n1_ := Aside0.mk (hb); have n2_ := Aside0.mk (ho); clear HO333; clear HB; have HO333 := n0_; have HB := n1_; have HO336 := n2_; clear n0_ n1_ n2_; clear ho hb hg hat; have p15 : 0 ≤ (a2 : Int) := of_decide_eq_true (by assumption); have q15 : (a2 : Int) < ((y334.length : Int) : Int) := of_decide_eq_true (by assumption); obtain ⟨go15, co15, eo15, gb15, gl15, cl15, HG15⟩ := Kd.R_form HO336.out (by omega); (first | cases eo15 | (injection eo15 with ea_ en_ ec_; (first | subst ea_ | (injection ea_ with ea_; subst ea_)); subst ec_; clear en_)); have GB15 := Aside0.mk gb15; have GG15 := Aside0.mk HG15; clear gb15 gl15 HG15; obtain ⟨hx15_0, hf15_0⟩ := Kd.R_celln 0 HO336.out (a2 : Int) p15 q15; replace p15 := eq_true p15; replace q15 := eq_true q15; obtain ⟨hy37_, hz37_⟩ := Kd.R_celln 0 HO336.out (a2 : Int) (of_decide_eq_true (by assumption)) (of_decide_eq_true (by assumption)); have HP37 := Kd.R_putg HO336.out (a2 : Int) 1) | ((with_reducible refine gate_store (t := 3) (p := 35) rfl ?_); refine store_event (t := 3) (p := 35) (v := ?vo_w38) (w1 := (w36.setCell ⟨go15, (a2 : Int).toNat, none⟩ (.int .i64 1))) ?hg ?ho ?hn ?hr ?_; (case ho => rfl); (case hg => rfl); (case hn => rfl); (case hr => first | (go_simp; done) | (go_simp; rfl)); intro w38 hw; have hg : w36.grownBy w38 (some go15) := (by rw [hw]; exact HP37.2); have hp_ : Kd.R (Kd.int .i64) 3 w38 w.heap.size (fun _ => True) (.slice (some ⟨go15, 0, none⟩) y334.length co15) y337 := (by rw [hw, Ny337.out]; exact HP37.1); clear HP37; have n0_ := Aside0.mk (Kd.R_over' (v := (.slice (some ⟨go15, 0, none⟩) y334.length co15)) (by (with_reducible repeat (first | apply Kd.R_alloc | apply Kd.R_drewN | apply Kd.R_drew)); exact HO333.out) (Kd.R_typed HO336.out) (by decide) hg); have n1_ := Aside0.mk (hp_); have n2_ := Aside0.mk ((by rw [hw]; exact below_set (HB.out) GB15.out : Below w.heap.size w w38)); clear HO333; clear HO336; clear HB; have HO333 := n0_; have HO336 := n1_; have HB := n2_; clear n0_ n1_ n2_; clear hg hw hp_) | ((with_reducible refine gate_callee (f := 29) rfl ?_); refine goesL_ (some 38) rfl rfl Try.func29 (by kernel_rfl) rfl #[.slice A0 l0.length c0, .slice (some ⟨go15, 0, none⟩) y337.length co15] rfl (by (try simp only [List.map_toArray, List.map_cons, List.map_nil]); first | done | (rw [show y337.length = y334.length from (Kd.R_reads' HO336.out).1.symm] <;> rfl) | rfl | (simp only [List.length_drop, List.length_take]; rfl)) ?_; (with_reducible refine (graph_Live.calls kj4 _ _ l0 _ _ y337 t338 _ ?side1 ?side2 ?side3 ?side4 A16.out).mono ?_); (case side1 => repeat (first | exact (Kd.C_below HR0.out HB.out) | (with_reducible refine Kd.C_alloc ?_ _) | (with_reducible refine Kd.C_drewN ?_ _) | (with_reducible refine Kd.C_drew ?_))); (case side2 => exact HC0.out); (case side3 => repeat (first | exact (Kd.R_reads' HO336.out).2.2 | (with_reducible refine Kd.C_alloc ?_ _) | (with_reducible refine Kd.C_drewN ?_ _) | (with_reducible refine Kd.C_drew ?_))); (case side4 => rw [show y337.length = y334.length from (Kd.R_reads' HO336.out).1.symm]; exact (Kd.R_reads' HO336.out).2.1); rintro e w39 ⟨v339, rfl, ho0, hb⟩; refine ⟨_, rfl, ?_⟩; have n0_ := Aside0.mk (Kd.R_elder' (by (with_reducible repeat (first | apply Kd.R_alloc | apply Kd.R_drewN | apply Kd.R_drew)); exact HO333.out) (Kd.R_base ho0) hb); have n1_ := Aside0.mk (Kd.R_below (by (with_reducible repeat (first | apply Kd.R_alloc | apply Kd.R_drewN | apply Kd.R_drew)); exact HO336.out) hb); have n2_ := Aside0.mk (Kd.R_lower (Kd.R_new' ho0 (Kd.R_lt (by (with_reducible repeat (first | apply Kd.R_alloc | apply Kd.R_drewN | apply Kd.R_drew)); exact HO333.out))) (below_size (by repeat (first | (with_reducible first | exact HB.out | apply below_alloc | apply pw_below_drewN | apply below_drew1) | exact HB.out)))); have n3_ := Aside0.mk (below_step (by repeat (first | (with_reducible first | exact HB.out | apply below_alloc | apply pw_below_drewN | apply below_drew1) | exact HB.out)) hb); clear HO333; clear HO336; clear HB; have HO333 := n0_; have HO336 := n1_; have HO340 := n2_; have HB := n3_; clear n0_ n1_ n2_ n3_; (try clear hb); (try clear hb2); (try clear hk); (try clear hi); (try clear ho0); obtain ⟨Ao40, co40, eo40⟩ := Kd.R_slice HO333.out; subst eo40; obtain ⟨Ao41, co41, eo41⟩ := Kd.R_slice HO340.out; subst eo41))
        go_ret
        exact ⟨by first | rfl | (simp [errW_none, errW_some] <;> rfl) | (simp [*, errW_none, errW_some] <;> rfl), by repeat (first | (with_reducible first | exact HB.out | apply below_alloc | apply pw_below_drewN | apply below_drew1) | exact HB.out)⟩
      ·rw [if_neg c14] at H
       exact absurd H (by simp)
     ·rw [if_neg c13] at H
      exact absurd H (by simp)
    ·rw [if_neg c12] at H
     exact absurd H (by simp)

end Go.Proofs.Ytlohkhadbkahdaa.QGraph
