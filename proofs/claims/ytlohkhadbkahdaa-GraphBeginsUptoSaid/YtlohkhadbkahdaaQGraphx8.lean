-- Laid by wip/hook.py (this session's own program) out of the translation; with contracts that were written by hand.
import Derived.Test.YtlohkhadbkahdaaQGraphx0
import Derived.Test.YtlohkhadbkahdaaQGraphx1
import Derived.Test.YtlohkhadbkahdaaQGraphx2
import Derived.Test.YtlohkhadbkahdaaQGraphx3
import Derived.Test.YtlohkhadbkahdaaQGraphx4
import Derived.Test.YtlohkhadbkahdaaQGraphx7
namespace Go.Proofs.Ytlohkhadbkahdaa.QGraph
open Go.RowKit Go.Proofs.YtlohkhadbkahdaaW.PrintWords Go.Proofs.YtlohkhadbkahdaaW.PrintLast Go.Proofs.YtlohkhadbkahdaaW.PrintMore
attribute [local go_sem] max2_int min2_int max_two min_two max_three min_three max_four min_four   -- for this text's walks alone
set_option linter.unusedVariables false
set_option linter.unusedSimpArgs false

/-! ### shacklelaw16_GraphBegins: function 9 -/
mutual
def shacklelaw16_GraphBegins.l0 : Nat → List (List Int) → List Int → Bool → List Int → List Int → List Int → Int → Option (Bool)
 | 0, _, _, _, _, _, _, _ => none
 | k + 1, x0, x1, x5, x6, x7, x8, x9 => if x9 < (x1.length : Int) then (if 0 ≤ x9 then (if (rd x1 x9) ≥ 0 then (if (rd x1 x9) < (x0.length : Int) then (if 0 ≤ (rd x1 x9) then (if (rd x1 x9) < (x8.length : Int) then (shacklelaw16_GraphBegins.l0 k x0 x1 x5 x6 x7 (x8.set ((rd x1 x9) : Int).toNat 1) (wrap64 (x9 + 1))) else (none)) else (none)) else (shacklelaw16_GraphBegins.l0 k x0 x1 x5 x6 x7 x8 (wrap64 (x9 + 1)))) else (shacklelaw16_GraphBegins.l0 k x0 x1 x5 x6 x7 x8 (wrap64 (x9 + 1)))) else (none)) else ((graph_Live.f k x0 x8).bind fun t316 => ((graph_Loop.f k x0).bind fun t319 => (if (x6.length : Int) = (x7.length : Int) then (shacklelaw16_GraphBegins.j1 k x0 x5 x6 x7 t316 t319 ((t316.length : Int) != (x0.length : Int))) else (shacklelaw16_GraphBegins.j1 k x0 x5 x6 x7 t316 t319 true))))
def shacklelaw16_GraphBegins.j1 : Nat → List (List Int) → Bool → List Int → List Int → List Bool → Bool → Bool → Option (Bool)
 | 0, _, _, _, _, _, _, _ => none
 | k + 1, x0, x5, x6, x7, x10, x11, x74 => if x74 = true then (some false) else (shacklelaw16_GraphBegins.l1 k x0 x5 x6 x7 x10 x11 0 0)
def shacklelaw16_GraphBegins.l1 : Nat → List (List Int) → Bool → List Int → List Int → List Bool → Bool → Int → Int → Option (Bool)
 | 0, _, _, _, _, _, _, _, _ => none
 | k + 1, x0, x5, x6, x7, x10, x11, x12, x13 => if x13 < (x0.length : Int) then ((shacklelaw16_place.f k x6 x13).bind fun t320 => ((shacklelaw16_place.f k x7 x13).bind fun t321 => (if 0 ≤ x13 then (if x13 < (x10.length : Int) then (if ((decide (t320 ≥ 0)) != (rdOf false x10 x13)) = true then (shacklelaw16_GraphBegins.j3 k x0 x5 x6 x7 x10 x11 x12 x13 t321 true) else (shacklelaw16_GraphBegins.j3 k x0 x5 x6 x7 x10 x11 x12 x13 t321 ((decide (t321 ≥ 0)) != (rdOf false x10 x13)))) else (none)) else (none)))) else (if x5 = true then (some (x12 == (x6.length : Int))) else (some false))
def shacklelaw16_GraphBegins.j3 : Nat → List (List Int) → Bool → List Int → List Int → List Bool → Bool → Int → Int → Int → Bool → Option (Bool)
 | 0, _, _, _, _, _, _, _, _, _, _ => none
 | k + 1, x0, x5, x6, x7, x10, x11, x12, x13, x15, x102 => if x102 = true then (some false) else (if 0 ≤ x13 then (if x13 < (x10.length : Int) then (if rdOf false x10 x13 = true then (shacklelaw16_GraphBegins.l2 k x0 x5 x6 x7 x10 x11 (wrap64 (x12 + 1)) x13 x15 0) else (shacklelaw16_GraphBegins.l1 k x0 x5 x6 x7 x10 x11 x12 (wrap64 (x13 + 1)))) else (none)) else (none))
def shacklelaw16_GraphBegins.l2 : Nat → List (List Int) → Bool → List Int → List Int → List Bool → Bool → Int → Int → Int → Int → Option (Bool)
 | 0, _, _, _, _, _, _, _, _, _, _ => none
 | k + 1, x0, x5, x6, x7, x10, x11, x12, x13, x15, x16 => if 0 ≤ x13 then (if x13 < (x0.length : Int) then (if x16 < ((rd_L1 x0 x13).length : Int) then (if 0 ≤ x16 then ((shacklelaw16_place.f k x7 (rd (rd_L1 x0 x13) x16)).bind fun t328 => (if x11 = true then (shacklelaw16_GraphBegins.l2 k x0 x5 x6 x7 x10 x11 x12 x13 x15 (wrap64 (x16 + 1))) else (if t328 ≥ x15 then (some false) else (shacklelaw16_GraphBegins.l2 k x0 x5 x6 x7 x10 x11 x12 x13 x15 (wrap64 (x16 + 1)))))) else (none)) else (shacklelaw16_GraphBegins.l1 k x0 x5 x6 x7 x10 x11 x12 (wrap64 (x13 + 1)))) else (none)) else (none)
end
def shacklelaw16_GraphBegins.f (k : Nat) (l0 : List (List Int)) (l1 : List Int) : Option (Bool) := (shacklelaw16_up.f k).bind fun t301 => ((shacklelaw16_small.f k l0).bind fun t302 => (if t302 = true then ((graph_Scope.f l0 l1).bind fun t303 => ((graph_Begin.f k l0 l1).bind fun t306 => (if 0 ≤ (l0.length : Int) then (if ((l0.length : Int) : Int).toNat ≤ 35184372088832 then (shacklelaw16_GraphBegins.l0 k l0 l1 t301 t303 t306 (List.replicate ((l0.length : Int) : Int).toNat 0) 0) else (none)) else (none)))) else (some t301)))
theorem shacklelaw16_GraphBegins.mono_l : ∀ k, (∀ y0 y1 y2 y3 y4 y5 y6, LeO (shacklelaw16_GraphBegins.l0 k y0 y1 y2 y3 y4 y5 y6) (shacklelaw16_GraphBegins.l0 (k + 1) y0 y1 y2 y3 y4 y5 y6)) ∧ (∀ y0 y1 y2 y3 y4 y5 y6, LeO (shacklelaw16_GraphBegins.j1 k y0 y1 y2 y3 y4 y5 y6) (shacklelaw16_GraphBegins.j1 (k + 1) y0 y1 y2 y3 y4 y5 y6)) ∧ (∀ y0 y1 y2 y3 y4 y5 y6 y7, LeO (shacklelaw16_GraphBegins.l1 k y0 y1 y2 y3 y4 y5 y6 y7) (shacklelaw16_GraphBegins.l1 (k + 1) y0 y1 y2 y3 y4 y5 y6 y7)) ∧ (∀ y0 y1 y2 y3 y4 y5 y6 y7 y8 y9, LeO (shacklelaw16_GraphBegins.j3 k y0 y1 y2 y3 y4 y5 y6 y7 y8 y9) (shacklelaw16_GraphBegins.j3 (k + 1) y0 y1 y2 y3 y4 y5 y6 y7 y8 y9)) ∧ (∀ y0 y1 y2 y3 y4 y5 y6 y7 y8 y9, LeO (shacklelaw16_GraphBegins.l2 k y0 y1 y2 y3 y4 y5 y6 y7 y8 y9) (shacklelaw16_GraphBegins.l2 (k + 1) y0 y1 y2 y3 y4 y5 y6 y7 y8 y9))
 | 0 => ⟨fun _ _ _ _ _ _ _ r h => by simp [shacklelaw16_GraphBegins.l0] at h, fun _ _ _ _ _ _ _ r h => by simp [shacklelaw16_GraphBegins.j1] at h, fun _ _ _ _ _ _ _ _ r h => by simp [shacklelaw16_GraphBegins.l1] at h, fun _ _ _ _ _ _ _ _ _ _ r h => by simp [shacklelaw16_GraphBegins.j3] at h, fun _ _ _ _ _ _ _ _ _ _ r h => by simp [shacklelaw16_GraphBegins.l2] at h⟩
 | k + 1 => by
  obtain ⟨ih0, ih1, ih2, ih3, ih4⟩ := shacklelaw16_GraphBegins.mono_l k
  refine ⟨?_, ?_, ?_, ?_, ?_⟩
  ·intro y0 y1 y2 y3 y4 y5 y6
   unfold shacklelaw16_GraphBegins.l0
   repeat' first
   | (with_reducible exact ih0 _ _ _ _ _ _ _)
   | (with_reducible exact ih1 _ _ _ _ _ _ _)
   | (with_reducible exact ih2 _ _ _ _ _ _ _ _)
   | (with_reducible exact ih3 _ _ _ _ _ _ _ _ _ _)
   | (with_reducible exact ih4 _ _ _ _ _ _ _ _ _ _)
   | (with_reducible exact graph_Begin.mono _ _ _)
   | (with_reducible exact graph_Live.mono _ _ _)
   | (with_reducible exact graph_Loop.mono _ _)
   | (with_reducible exact shacklelaw16_place.mono _ _ _)
   | (with_reducible exact shacklelaw16_small.mono _ _)
   | (with_reducible exact shacklelaw16_up.mono _)
   | (with_reducible exact LeO.refl _)
   | (with_reducible exact LeO.none _)
   | (with_reducible refine LeO.ite ?_ ?_)
   | (with_reducible refine LeO.bind ?_ (fun _ => ?_))
   | exact ih0 _ _ _ _ _ _ _
   | exact ih1 _ _ _ _ _ _ _
   | exact ih2 _ _ _ _ _ _ _ _
   | exact ih3 _ _ _ _ _ _ _ _ _ _
   | exact ih4 _ _ _ _ _ _ _ _ _ _
   | exact graph_Begin.mono _ _ _
   | exact graph_Live.mono _ _ _
   | exact graph_Loop.mono _ _
   | exact shacklelaw16_place.mono _ _ _
   | exact shacklelaw16_small.mono _ _
   | exact shacklelaw16_up.mono _
   | exact LeO.none _
   | refine LeO.ite ?_ ?_
   | refine LeO.bind ?_ (fun _ => ?_)
  ·intro y0 y1 y2 y3 y4 y5 y6
   unfold shacklelaw16_GraphBegins.j1
   repeat' first
   | (with_reducible exact ih0 _ _ _ _ _ _ _)
   | (with_reducible exact ih1 _ _ _ _ _ _ _)
   | (with_reducible exact ih2 _ _ _ _ _ _ _ _)
   | (with_reducible exact ih3 _ _ _ _ _ _ _ _ _ _)
   | (with_reducible exact ih4 _ _ _ _ _ _ _ _ _ _)
   | (with_reducible exact graph_Begin.mono _ _ _)
   | (with_reducible exact graph_Live.mono _ _ _)
   | (with_reducible exact graph_Loop.mono _ _)
   | (with_reducible exact shacklelaw16_place.mono _ _ _)
   | (with_reducible exact shacklelaw16_small.mono _ _)
   | (with_reducible exact shacklelaw16_up.mono _)
   | (with_reducible exact LeO.refl _)
   | (with_reducible exact LeO.none _)
   | (with_reducible refine LeO.ite ?_ ?_)
   | (with_reducible refine LeO.bind ?_ (fun _ => ?_))
   | exact ih0 _ _ _ _ _ _ _
   | exact ih1 _ _ _ _ _ _ _
   | exact ih2 _ _ _ _ _ _ _ _
   | exact ih3 _ _ _ _ _ _ _ _ _ _
   | exact ih4 _ _ _ _ _ _ _ _ _ _
   | exact graph_Begin.mono _ _ _
   | exact graph_Live.mono _ _ _
   | exact graph_Loop.mono _ _
   | exact shacklelaw16_place.mono _ _ _
   | exact shacklelaw16_small.mono _ _
   | exact shacklelaw16_up.mono _
   | exact LeO.none _
   | refine LeO.ite ?_ ?_
   | refine LeO.bind ?_ (fun _ => ?_)
  ·intro y0 y1 y2 y3 y4 y5 y6 y7
   unfold shacklelaw16_GraphBegins.l1
   repeat' first
   | (with_reducible exact ih0 _ _ _ _ _ _ _)
   | (with_reducible exact ih1 _ _ _ _ _ _ _)
   | (with_reducible exact ih2 _ _ _ _ _ _ _ _)
   | (with_reducible exact ih3 _ _ _ _ _ _ _ _ _ _)
   | (with_reducible exact ih4 _ _ _ _ _ _ _ _ _ _)
   | (with_reducible exact graph_Begin.mono _ _ _)
   | (with_reducible exact graph_Live.mono _ _ _)
   | (with_reducible exact graph_Loop.mono _ _)
   | (with_reducible exact shacklelaw16_place.mono _ _ _)
   | (with_reducible exact shacklelaw16_small.mono _ _)
   | (with_reducible exact shacklelaw16_up.mono _)
   | (with_reducible exact LeO.refl _)
   | (with_reducible exact LeO.none _)
   | (with_reducible refine LeO.ite ?_ ?_)
   | (with_reducible refine LeO.bind ?_ (fun _ => ?_))
   | exact ih0 _ _ _ _ _ _ _
   | exact ih1 _ _ _ _ _ _ _
   | exact ih2 _ _ _ _ _ _ _ _
   | exact ih3 _ _ _ _ _ _ _ _ _ _
   | exact ih4 _ _ _ _ _ _ _ _ _ _
   | exact graph_Begin.mono _ _ _
   | exact graph_Live.mono _ _ _
   | exact graph_Loop.mono _ _
   | exact shacklelaw16_place.mono _ _ _
   | exact shacklelaw16_small.mono _ _
   | exact shacklelaw16_up.mono _
   | exact LeO.none _
   | refine LeO.ite ?_ ?_
   | refine LeO.bind ?_ (fun _ => ?_)
  ·intro y0 y1 y2 y3 y4 y5 y6 y7 y8 y9
   unfold shacklelaw16_GraphBegins.j3
   repeat' first
   | (with_reducible exact ih0 _ _ _ _ _ _ _)
   | (with_reducible exact ih1 _ _ _ _ _ _ _)
   | (with_reducible exact ih2 _ _ _ _ _ _ _ _)
   | (with_reducible exact ih3 _ _ _ _ _ _ _ _ _ _)
   | (with_reducible exact ih4 _ _ _ _ _ _ _ _ _ _)
   | (with_reducible exact graph_Begin.mono _ _ _)
   | (with_reducible exact graph_Live.mono _ _ _)
   | (with_reducible exact graph_Loop.mono _ _)
   | (with_reducible exact shacklelaw16_place.mono _ _ _)
   | (with_reducible exact shacklelaw16_small.mono _ _)
   | (with_reducible exact shacklelaw16_up.mono _)
   | (with_reducible exact LeO.refl _)
   | (with_reducible exact LeO.none _)
   | (with_reducible refine LeO.ite ?_ ?_)
   | (with_reducible refine LeO.bind ?_ (fun _ => ?_))
   | exact ih0 _ _ _ _ _ _ _
   | exact ih1 _ _ _ _ _ _ _
   | exact ih2 _ _ _ _ _ _ _ _
   | exact ih3 _ _ _ _ _ _ _ _ _ _
   | exact ih4 _ _ _ _ _ _ _ _ _ _
   | exact graph_Begin.mono _ _ _
   | exact graph_Live.mono _ _ _
   | exact graph_Loop.mono _ _
   | exact shacklelaw16_place.mono _ _ _
   | exact shacklelaw16_small.mono _ _
   | exact shacklelaw16_up.mono _
   | exact LeO.none _
   | refine LeO.ite ?_ ?_
   | refine LeO.bind ?_ (fun _ => ?_)
  ·intro y0 y1 y2 y3 y4 y5 y6 y7 y8 y9
   unfold shacklelaw16_GraphBegins.l2
   repeat' first
   | (with_reducible exact ih0 _ _ _ _ _ _ _)
   | (with_reducible exact ih1 _ _ _ _ _ _ _)
   | (with_reducible exact ih2 _ _ _ _ _ _ _ _)
   | (with_reducible exact ih3 _ _ _ _ _ _ _ _ _ _)
   | (with_reducible exact ih4 _ _ _ _ _ _ _ _ _ _)
   | (with_reducible exact graph_Begin.mono _ _ _)
   | (with_reducible exact graph_Live.mono _ _ _)
   | (with_reducible exact graph_Loop.mono _ _)
   | (with_reducible exact shacklelaw16_place.mono _ _ _)
   | (with_reducible exact shacklelaw16_small.mono _ _)
   | (with_reducible exact shacklelaw16_up.mono _)
   | (with_reducible exact LeO.refl _)
   | (with_reducible exact LeO.none _)
   | (with_reducible refine LeO.ite ?_ ?_)
   | (with_reducible refine LeO.bind ?_ (fun _ => ?_))
   | exact ih0 _ _ _ _ _ _ _
   | exact ih1 _ _ _ _ _ _ _
   | exact ih2 _ _ _ _ _ _ _ _
   | exact ih3 _ _ _ _ _ _ _ _ _ _
   | exact ih4 _ _ _ _ _ _ _ _ _ _
   | exact graph_Begin.mono _ _ _
   | exact graph_Live.mono _ _ _
   | exact graph_Loop.mono _ _
   | exact shacklelaw16_place.mono _ _ _
   | exact shacklelaw16_small.mono _ _
   | exact shacklelaw16_up.mono _
   | exact LeO.none _
   | refine LeO.ite ?_ ?_
   | refine LeO.bind ?_ (fun _ => ?_)
theorem shacklelaw16_GraphBegins.mono : ∀ a0 a1 k, LeO (shacklelaw16_GraphBegins.f k a0 a1) (shacklelaw16_GraphBegins.f (k + 1) a0 a1) := by
 intro a0 a1 k
 obtain ⟨ih0, ih1, ih2, ih3, ih4⟩ := shacklelaw16_GraphBegins.mono_l k
 unfold shacklelaw16_GraphBegins.f
 repeat' first
   | (with_reducible exact ih0 _ _ _ _ _ _ _)
   | (with_reducible exact ih1 _ _ _ _ _ _ _)
   | (with_reducible exact ih2 _ _ _ _ _ _ _ _)
   | (with_reducible exact ih3 _ _ _ _ _ _ _ _ _ _)
   | (with_reducible exact ih4 _ _ _ _ _ _ _ _ _ _)
   | (with_reducible exact graph_Begin.mono _ _ _)
   | (with_reducible exact graph_Live.mono _ _ _)
   | (with_reducible exact graph_Loop.mono _ _)
   | (with_reducible exact shacklelaw16_place.mono _ _ _)
   | (with_reducible exact shacklelaw16_small.mono _ _)
   | (with_reducible exact shacklelaw16_up.mono _)
   | (with_reducible exact LeO.refl _)
   | (with_reducible exact LeO.none _)
   | (with_reducible refine LeO.ite ?_ ?_)
   | (with_reducible refine LeO.bind ?_ (fun _ => ?_))
   | exact ih0 _ _ _ _ _ _ _
   | exact ih1 _ _ _ _ _ _ _
   | exact ih2 _ _ _ _ _ _ _ _
   | exact ih3 _ _ _ _ _ _ _ _ _ _
   | exact ih4 _ _ _ _ _ _ _ _ _ _
   | exact graph_Begin.mono _ _ _
   | exact graph_Live.mono _ _ _
   | exact graph_Loop.mono _ _
   | exact shacklelaw16_place.mono _ _ _
   | exact shacklelaw16_small.mono _ _
   | exact shacklelaw16_up.mono _
   | exact LeO.none _
   | refine LeO.ite ?_ ?_
   | refine LeO.bind ?_ (fun _ => ?_)
set_option maxHeartbeats 8000000 in
set_option maxRecDepth 100000 in
theorem shacklelaw16_GraphBegins.calls (k : Nat) (A0 : Option Addr) (c0 : Nat) (l0 : List (List Int)) (A1 : Option Addr) (c1 : Nat) (l1 : List Int) (r : Bool) (w : World) (hr0 : Kd.C (Kd.slice 3 (Kd.int .i64)) w A0 l0.length l0) (hc0 : l0.length ≤ c0) (hr1 : Kd.C (Kd.int .i64) w A1 l1.length l1) (hc1 : l1.length ≤ c1) (h : shacklelaw16_GraphBegins.f k l0 l1 = some r) :
  Calls Try.prog 9 #[.slice A0 l0.length c0, .slice A1 l1.length c1] w fun e w' => e = .returned (.bool r) ∧ Below w.heap.size w w' := by
 have HR0 := Aside0.mk hr0
 have HC0 := Aside0.mk hc0
 clear hr0 hc0
 have HR1 := Aside0.mk hr1
 have HC1 := Aside0.mk hc1
 clear hr1 hc1
 have HB := Aside0.mk (Below.refl w.heap.size w)
 have H : ((shacklelaw16_up.f k).bind fun t301 => ((shacklelaw16_small.f k l0).bind fun t302 => (if t302 = true then ((graph_Scope.f l0 l1).bind fun t303 => ((graph_Begin.f k l0 l1).bind fun t306 => (if 0 ≤ (l0.length : Int) then (if ((l0.length : Int) : Int).toNat ≤ 35184372088832 then (shacklelaw16_GraphBegins.l0 k l0 l1 t301 t303 t306 (List.replicate ((l0.length : Int) : Int).toNat 0) 0) else (none)) else (none)))) else (some t301)))) = some r := h
 clear h
 replace H := Option.bind_eq_some_iff.mp H
 obtain ⟨t301, A30, H⟩ := H
 replace H : ((shacklelaw16_small.f k l0).bind fun t302 => (if t302 = true then ((graph_Scope.f l0 l1).bind fun t303 => ((graph_Begin.f k l0 l1).bind fun t306 => (if 0 ≤ (l0.length : Int) then (if ((l0.length : Int) : Int).toNat ≤ 35184372088832 then (shacklelaw16_GraphBegins.l0 k l0 l1 t301 t303 t306 (List.replicate ((l0.length : Int) : Int).toNat 0) 0) else (none)) else (none)))) else (some t301))) = some r := H
 have A3 := Aside0.mk A30
 clear A30
 replace H := Option.bind_eq_some_iff.mp H
 obtain ⟨t302, A40, H⟩ := H
 replace H : (if t302 = true then ((graph_Scope.f l0 l1).bind fun t303 => ((graph_Begin.f k l0 l1).bind fun t306 => (if 0 ≤ (l0.length : Int) then (if ((l0.length : Int) : Int).toNat ≤ 35184372088832 then (shacklelaw16_GraphBegins.l0 k l0 l1 t301 t303 t306 (List.replicate ((l0.length : Int) : Int).toNat 0) 0) else (none)) else (none)))) else (some t301)) = some r := H
 have A4 := Aside0.mk A40
 clear A40
 by_cases c5 : t302 = true
 ·subst c5
  have H1 : ((graph_Scope.f l0 l1).bind fun t303 => ((graph_Begin.f k l0 l1).bind fun t306 => (if 0 ≤ (l0.length : Int) then (if ((l0.length : Int) : Int).toNat ≤ 35184372088832 then (shacklelaw16_GraphBegins.l0 k l0 l1 t301 t303 t306 (List.replicate ((l0.length : Int) : Int).toNat 0) 0) else (none)) else (none)))) = some r := by rw [if_pos rfl] at H; exact H
  clear H
  have H := H1
  clear H1
  replace H := Option.bind_eq_some_iff.mp H
  obtain ⟨t303, A60, H⟩ := H
  replace H : ((graph_Begin.f k l0 l1).bind fun t306 => (if 0 ≤ (l0.length : Int) then (if ((l0.length : Int) : Int).toNat ≤ 35184372088832 then (shacklelaw16_GraphBegins.l0 k l0 l1 t301 t303 t306 (List.replicate ((l0.length : Int) : Int).toNat 0) 0) else (none)) else (none))) = some r := H
  have A6 := Aside0.mk A60
  clear A60
  replace H := Option.bind_eq_some_iff.mp H
  obtain ⟨t306, A70, H⟩ := H
  replace H : (if 0 ≤ (l0.length : Int) then (if ((l0.length : Int) : Int).toNat ≤ 35184372088832 then (shacklelaw16_GraphBegins.l0 k l0 l1 t301 t303 t306 (List.replicate ((l0.length : Int) : Int).toNat 0) 0) else (none)) else (none)) = some r := H
  have A7 := Aside0.mk A70
  clear A70
  by_cases c8 : 0 ≤ (l0.length : Int)
  ·rw [if_pos c8] at H
   have c8b0 := eq_true c8
   have c8b1 : decide (0 ≤ (l0.length : Int)) = true := decide_eq_true c8
   clear c8
   by_cases c9 : ((l0.length : Int) : Int).toNat ≤ 35184372088832
   ·rw [if_pos c9] at H
    have c9b0 := eq_true c9
    have c9b1 : decide (((l0.length : Int) : Int).toNat ≤ 35184372088832) = true := decide_eq_true c9
    clear c9
    obtain ⟨y309, hy309⟩ : ∃ y_ : List Int, y_ = (List.replicate ((l0.length : Int) : Int).toNat 0) := ⟨_, rfl⟩
    replace H : (shacklelaw16_GraphBegins.l0 k l0 l1 t301 t303 t306 y309 0) = some r := by first | (rw [hy309]; with_reducible exact H) | (have H2_ := (Option.bind_some _ _).symm.trans H; rw [hy309]; with_reducible exact H2_) | (have H2_ := (Option.bind_some _ _).symm.trans H; with_reducible exact H2_) | with_reducible exact H | (rw [hy309]; exact H) | exact H
    have Ny309 := Aside0.mk hy309
    clear hy309
    have H' := Aside0.mk H
    clear H
    go_enter Try.func9, Try.ntmps9
    go_wp2_with (first | ((with_reducible refine gate_callee (f := 22) rfl ?_); refine goesL_ (some 18) rfl rfl Try.func22 (by kernel_rfl) rfl #[] rfl (by (try simp only [List.map_toArray, List.map_cons, List.map_nil]); first | done | rfl | (simp only [List.length_drop, List.length_take]; rfl)) ?_; (with_reducible refine (shacklelaw16_up.calls k  t301 _ A3.out).mono ?_); rintro e w10 ⟨rfl, hb⟩; refine ⟨_, rfl, ?_⟩; have n0_ := Aside0.mk (below_step (by repeat (first | (with_reducible first | exact HB.out | apply below_alloc | apply pw_below_drewN | apply below_drew1) | exact HB.out)) hb); clear HB; have HB := n0_; clear n0_; (try clear hb); (try clear hb2); (try clear hk); (try clear hi)) | ((with_reducible refine gate_callee (f := 23) rfl ?_); refine goesL_ (some 20) rfl rfl Try.func23 (by kernel_rfl) rfl #[.slice A0 l0.length c0] rfl (by (try simp only [List.map_toArray, List.map_cons, List.map_nil]); first | done | rfl | (simp only [List.length_drop, List.length_take]; rfl)) ?_; (with_reducible refine (shacklelaw16_small.calls k _ _ l0 true _ ?side1 ?side2 A4.out).mono ?_); (case side1 => repeat (first | exact (Kd.C_below HR0.out HB.out) | (with_reducible refine Kd.C_alloc ?_ _) | (with_reducible refine Kd.C_drewN ?_ _) | (with_reducible refine Kd.C_drew ?_))); (case side2 => exact HC0.out); rintro e w' ⟨rfl, ⟨nd, rfl⟩⟩; refine ⟨_, rfl, ?_⟩) | ((with_reducible refine gate_callee (f := 25) rfl ?_); refine goesL_ (some 25) rfl rfl Try.func25 (by kernel_rfl) rfl #[.slice A0 l0.length c0, .slice A1 l1.length c1] rfl (by (try simp only [List.map_toArray, List.map_cons, List.map_nil]); first | done | rfl | (simp only [List.length_drop, List.length_take]; rfl)) ?_; (with_reducible refine (graph_Scope.calls _ _ l0 _ _ l1 t303 _ ?side1 ?side2 ?side3 ?side4 A6.out).mono ?_); (case side1 => repeat (first | exact (Kd.C_below HR0.out (by repeat (first | (with_reducible first | exact HB.out | apply below_alloc | apply pw_below_drewN | apply below_drew1) | exact HB.out))) | (with_reducible refine Kd.C_alloc ?_ _) | (with_reducible refine Kd.C_drewN ?_ _) | (with_reducible refine Kd.C_drew ?_))); (case side2 => exact HC0.out); (case side3 => repeat (first | exact (Kd.C_below HR1.out (by repeat (first | (with_reducible first | exact HB.out | apply below_alloc | apply pw_below_drewN | apply below_drew1) | exact HB.out))) | (with_reducible refine Kd.C_alloc ?_ _) | (with_reducible refine Kd.C_drewN ?_ _) | (with_reducible refine Kd.C_drew ?_))); (case side4 => exact HC1.out); rintro e w11 ⟨v304, rfl, ho0, hb⟩; refine ⟨_, rfl, ?_⟩; have n0_ := Aside0.mk (Kd.R_lower ho0 (below_size (by repeat (first | (with_reducible first | exact HB.out | apply below_alloc | apply pw_below_drewN | apply below_drew1) | exact HB.out)))); have n1_ := Aside0.mk (below_step (by repeat (first | (with_reducible first | exact HB.out | apply below_alloc | apply pw_below_drewN | apply below_drew1) | exact HB.out)) hb); clear HB; have HO305 := n0_; have HB := n1_; clear n0_ n1_; (try clear hb); (try clear hb2); (try clear hk); (try clear hi); (try clear ho0)) | ((with_reducible refine gate_callee (f := 27) rfl ?_); refine goesL_ (some 28) rfl rfl Try.func27 (by kernel_rfl) rfl #[.slice A0 l0.length c0, .slice A1 l1.length c1] rfl (by (try simp only [List.map_toArray, List.map_cons, List.map_nil]); first | done | rfl | (simp only [List.length_drop, List.length_take]; rfl)) ?_; (with_reducible refine (graph_Begin.calls k _ _ l0 _ _ l1 t306 _ ?side1 ?side2 ?side3 ?side4 A7.out).mono ?_); (case side1 => repeat (first | exact (Kd.C_below HR0.out HB.out) | (with_reducible refine Kd.C_alloc ?_ _) | (with_reducible refine Kd.C_drewN ?_ _) | (with_reducible refine Kd.C_drew ?_))); (case side2 => exact HC0.out); (case side3 => repeat (first | exact (Kd.C_below HR1.out HB.out) | (with_reducible refine Kd.C_alloc ?_ _) | (with_reducible refine Kd.C_drewN ?_ _) | (with_reducible refine Kd.C_drew ?_))); (case side4 => exact HC1.out); rintro e w12 ⟨v307, rfl, ho0, hb⟩; refine ⟨_, rfl, ?_⟩; have n0_ := Aside0.mk (Kd.R_elder' (by (with_reducible repeat (first | apply Kd.R_alloc | apply Kd.R_drewN | apply Kd.R_drew)); exact HO305.out) (Kd.R_base ho0) hb); have n1_ := Aside0.mk (Kd.R_lower (Kd.R_new' ho0 (Kd.R_lt (by (with_reducible repeat (first | apply Kd.R_alloc | apply Kd.R_drewN | apply Kd.R_drew)); exact HO305.out))) (below_size (by repeat (first | (with_reducible first | exact HB.out | apply below_alloc | apply pw_below_drewN | apply below_drew1) | exact HB.out)))); have n2_ := Aside0.mk (below_step (by repeat (first | (with_reducible first | exact HB.out | apply below_alloc | apply pw_below_drewN | apply below_drew1) | exact HB.out)) hb); clear HO305; clear HB; have HO305 := n0_; have HO308 := n1_; have HB := n2_; clear n0_ n1_ n2_; (try clear hb); (try clear hb2); (try clear hk); (try clear hi); (try clear ho0)) | ((with_reducible refine gate_dst (N := 31) rfl ?_); (try (refine gate_guard (by rfl) ?_; dsimp only)); refine Kd.R_make (Kd.int .i64) _ 3 rfl (N := 31) rfl 42 _ _ rfl (l0.length : Int) rfl rfl Try.underlying42 (.int .i64 0) 8 info3 rfl (by decide) (by omega) 0 (ok := fun _ => True) (okp := fun _ => True) rfl (fun _ hk => hk) trivial (of_decide_eq_true (by assumption)) (Nat.le_trans (Nat.mul_le_mul_right _ (of_decide_eq_true (by assumption) : (l0.length : Int).toNat ≤ 35184372088832)) (by omega)) (Below.refl _ _) (Nat.le_refl _) ?_; intro v310 w13 ho14 hb hg_ hnew_; clear hg_ hnew_; (first | rw [← Ny309.out] at ho14 | (simp only [Int.reduceToNat] at ho14; rw [← Ny309.out] at ho14)); have n0_ := Aside0.mk (Kd.R_elder' (by (with_reducible repeat (first | apply Kd.R_alloc | apply Kd.R_drewN | apply Kd.R_drew)); exact HO305.out) (Kd.R_base ho14) hb); have n1_ := Aside0.mk (Kd.R_elder' (by (with_reducible repeat (first | apply Kd.R_alloc | apply Kd.R_drewN | apply Kd.R_drew)); exact HO308.out) (Kd.R_base ho14) hb); have n2_ := Aside0.mk (Kd.R_lower (Kd.R_new' (Kd.R_new' ho14 (Kd.R_lt (by (with_reducible repeat (first | apply Kd.R_alloc | apply Kd.R_drewN | apply Kd.R_drew)); exact HO305.out))) (Kd.R_lt (by (with_reducible repeat (first | apply Kd.R_alloc | apply Kd.R_drewN | apply Kd.R_drew)); exact HO308.out))) (below_size (by repeat (first | (with_reducible first | exact HB.out | apply below_alloc | apply pw_below_drewN | apply below_drew1) | exact HB.out)))); have n3_ := Aside0.mk (below_step (by repeat (first | (with_reducible first | exact HB.out | apply below_alloc | apply pw_below_drewN | apply below_drew1) | exact HB.out)) hb); clear HO305; clear HO308; clear HB; have HO305 := n0_; have HO308 := n1_; have HO311 := n2_; have HB := n3_; clear n0_ n1_ n2_ n3_; clear hb ho14))
    go_loopg [9] k (fun kq v9 w' => ∃ (x8_1 : List Int) (x9_1 : Int), v9 = .int .i64 x9_1 ∧ Aside0 (shacklelaw16_GraphBegins.l0 kq l0 l1 t301 t303 t306 x8_1 x9_1 = some r) ∧ Aside0 (kq ≤ k) ∧ Aside0 (Kd.R (Kd.int .i64) 3 w' w.heap.size (fun k_ => some k_ ≠ (v307 : Value).ownBlock ∧ some k_ ≠ (v310 : Value).ownBlock) v304 t303) ∧ Aside0 (Kd.R (Kd.int .i64) 3 w' w.heap.size (fun k_ => some k_ ≠ (v304 : Value).ownBlock ∧ some k_ ≠ (v310 : Value).ownBlock) v307 t306) ∧ Aside0 (Kd.R (Kd.int .i64) 3 w' w.heap.size (fun k_ => some k_ ≠ (v304 : Value).ownBlock ∧ some k_ ≠ (v307 : Value).ownBlock) v310 x8_1) ∧ Aside0 (Below w.heap.size w w'))
    case atStart => exact ⟨(y309), (0), (by first | rfl | (simp; done) | (simp [*]; done)), H', ⟨Nat.le_refl _⟩, ⟨by (with_reducible repeat (first | apply Kd.R_alloc | apply Kd.R_drewN | apply Kd.R_drew)); exact Kd.R_mono HO305.out (fun _ hk => ⟨hk.1.2, hk.2⟩)⟩, ⟨by (with_reducible repeat (first | apply Kd.R_alloc | apply Kd.R_drewN | apply Kd.R_drew)); exact Kd.R_mono HO308.out (fun _ hk => ⟨hk.1.2, hk.2⟩)⟩, ⟨by (with_reducible repeat (first | apply Kd.R_alloc | apply Kd.R_drewN | apply Kd.R_drew)); exact Kd.R_mono HO311.out (fun _ hk => ⟨hk.1.2, hk.2⟩)⟩, ⟨by repeat (first | (with_reducible first | exact HB.out | apply below_alloc | apply pw_below_drewN | apply below_drew1) | exact HB.out)⟩⟩
    case round =>
     clear H'
     try clear c1
     try clear c2
     try clear p2
     try clear c5
     try clear c8
     try clear c8b0
     try clear c8b1
     try clear c9
     try clear c9b0
     try clear c9b1
     obtain ⟨x8_1, x9_1, rfl, HA, HK1, HO_6, HO_7, HO_8, HB⟩ := hrel
     cases gk with
     | zero => exact absurd HA.out (by simp [shacklelaw16_GraphBegins.l0])
     | succ k1 =>
      have H := HA.out
      clear HA
      simp only [shacklelaw16_GraphBegins.l0] at H
      by_cases c15 : x9_1 < (l1.length : Int)
      ·rw [if_pos c15] at H
       have c15b0 : decide (x9_1 < (l1.length : Int)) = true := decide_eq_true c15
       clear c15
       by_cases c16 : 0 ≤ x9_1
       ·rw [if_pos c16] at H
        have c16b0 : decide (0 ≤ x9_1) = true := decide_eq_true c16
        clear c16
        by_cases c17 : (rd l1 x9_1) ≥ 0
        ·rw [if_pos c17] at H
         have c17b0 : decide (0 ≤ (rd l1 x9_1)) = true := decide_eq_true c17
         clear c17
         by_cases c18 : (rd l1 x9_1) < (l0.length : Int)
         ·rw [if_pos c18] at H
          have c18b0 : decide ((rd l1 x9_1) < (l0.length : Int)) = true := decide_eq_true c18
          clear c18
          by_cases c19 : 0 ≤ (rd l1 x9_1)
          ·rw [if_pos c19] at H
           have c19b0 : decide (0 ≤ (rd l1 x9_1)) = true := decide_eq_true c19
           clear c19
           by_cases c20 : (rd l1 x9_1) < (x8_1.length : Int)
           ·rw [if_pos c20] at H
            have c20b0 : decide ((rd l1 x9_1) < (x8_1.length : Int)) = true := decide_eq_true c20
            clear c20
            obtain ⟨y315, hy315⟩ : ∃ y_ : List Int, y_ = (x8_1.set ((rd l1 x9_1) : Int).toNat 1) := ⟨_, rfl⟩
            replace H : (shacklelaw16_GraphBegins.l0 k1 l0 l1 t301 t303 t306 y315 (wrap64 (x9_1 + 1))) = some r := by first | (rw [hy315]; with_reducible exact H) | (have H2_ := (Option.bind_some _ _).symm.trans H; rw [hy315]; with_reducible exact H2_) | (have H2_ := (Option.bind_some _ _).symm.trans H; with_reducible exact H2_) | with_reducible exact H | (rw [hy315]; exact H) | exact H
            have Ny315 := Aside0.mk hy315
            clear hy315
            have H' := Aside0.mk H
            clear H
            have p312 : 0 ≤ (x9_1 : Int) := of_decide_eq_true (by assumption)
            have q312 : x9_1 < (l1.length : Int) := of_decide_eq_true (by assumption)
            obtain ⟨ad312, e312, hx312_0⟩ := Kd.at_int HR1.out x9_1 p312 q312
            cases e312
            replace hx312_0 := (HB.out.cell (World.block_lt_of_cell? w _ hx312_0)).trans hx312_0
            replace p312 := eq_true p312
            replace q312 := eq_true q312
            have p313 : 0 ≤ (x9_1 : Int) := of_decide_eq_true (by assumption)
            have q313 : x9_1 < (l1.length : Int) := of_decide_eq_true (by assumption)
            obtain ⟨ad313, e313, hx313_0⟩ := Kd.at_int HR1.out x9_1 p313 q313
            obtain rfl : ad312 = ad313 := (by injection e313)
            replace hx313_0 := (HB.out.cell (World.block_lt_of_cell? w _ hx313_0)).trans hx313_0
            replace p313 := eq_true p313
            replace q313 := eq_true q313
            have p314 : 0 ≤ (x9_1 : Int) := of_decide_eq_true (by assumption)
            have q314 : x9_1 < (l1.length : Int) := of_decide_eq_true (by assumption)
            obtain ⟨ad314, e314, hx314_0⟩ := Kd.at_int HR1.out x9_1 p314 q314
            obtain rfl : ad312 = ad314 := (by injection e314)
            replace hx314_0 := (HB.out.cell (World.block_lt_of_cell? w _ hx314_0)).trans hx314_0
            replace p314 := eq_true p314
            replace q314 := eq_true q314
            have p21 : 0 ≤ ((rd l1 x9_1) : Int) := of_decide_eq_true (by assumption)
            have q21 : ((rd l1 x9_1) : Int) < ((x8_1.length : Int) : Int) := of_decide_eq_true (by assumption)
            obtain ⟨go21, co21, eo21, gb21, gl21, cl21, HG21⟩ := Kd.R_form HO_8.out (by omega)
            (first | cases eo21 | (injection eo21 with ea_ en_ ec_; (first | subst ea_ | (injection ea_ with ea_; subst ea_)); subst ec_; clear en_))
            have GB21 := Aside0.mk gb21
            have GG21 := Aside0.mk HG21
            clear gb21 gl21 HG21
            obtain ⟨hx21_0, hf21_0⟩ := Kd.R_celln 0 HO_8.out ((rd l1 x9_1) : Int) p21 q21
            replace p21 := eq_true p21
            replace q21 := eq_true q21
            have HP22 := Kd.R_putg HO_8.out ((rd l1 x9_1) : Int) 1
            go_wp2_with (first | ((with_reducible refine gate_store (t := 3) (p := 57) rfl ?_); refine store_event (t := 3) (p := 57) (v := ?vo_w23) (w1 := (wr.setCell ⟨go21, ((rd l1 x9_1) : Int).toNat, none⟩ (.int .i64 1))) ?hg ?ho ?hn ?hr ?_; (case ho => rfl); (case hg => rfl); (case hn => rfl); (case hr => first | (go_simp; done) | (go_simp; rfl)); intro w23 hw; have hg : wr.grownBy w23 (some go21) := (by rw [hw]; exact HP22.2); have hp_ : Kd.R (Kd.int .i64) 3 w23 w.heap.size (fun k_ => some k_ ≠ (v304 : Value).ownBlock ∧ some k_ ≠ (v307 : Value).ownBlock) (.slice (some ⟨go21, 0, none⟩) x8_1.length co21) y315 := (by rw [hw, Ny315.out]; exact HP22.1); clear HP22; have n0_ := Aside0.mk (Kd.R_after (v := (.slice (some ⟨go21, 0, none⟩) x8_1.length co21)) (v1 := (.slice (some ⟨go21, 0, none⟩) x8_1.length co21)) (ok := (fun k_ => some k_ ≠ (v307 : Value).ownBlock)) (by (with_reducible repeat (first | apply Kd.R_alloc | apply Kd.R_drewN | apply Kd.R_drew)); exact HO_6.out) hg (.inl rfl)); have n1_ := Aside0.mk (Kd.R_after (v := (.slice (some ⟨go21, 0, none⟩) x8_1.length co21)) (v1 := (.slice (some ⟨go21, 0, none⟩) x8_1.length co21)) (ok := (fun k_ => some k_ ≠ (v304 : Value).ownBlock)) (by (with_reducible repeat (first | apply Kd.R_alloc | apply Kd.R_drewN | apply Kd.R_drew)); exact HO_7.out) hg (.inl rfl)); have n2_ := Aside0.mk (hp_); have n3_ := Aside0.mk ((by rw [hw]; exact below_set (HB.out) GB21.out : Below w.heap.size w w23)); clear HO_6; clear HO_7; clear HO_8; clear HB; have HO_6 := n0_; have HO_7 := n1_; have HO_8 := n2_; have HB := n3_; clear n0_ n1_ n2_ n3_; clear hg hw hp_))
            go_roundg k1
            case measure => have := HK1.out; omega
            case rel => exact ⟨(y315), (wrap64 (x9_1 + 1)), (by first | rfl | (simp; done) | (simp [*]; done)), H', ⟨by have := HK1.out; omega⟩, ⟨by (with_reducible repeat (first | apply Kd.R_alloc | apply Kd.R_drewN | apply Kd.R_drew)); exact HO_6.out⟩, ⟨by (with_reducible repeat (first | apply Kd.R_alloc | apply Kd.R_drewN | apply Kd.R_drew)); exact HO_7.out⟩, ⟨by (with_reducible repeat (first | apply Kd.R_alloc | apply Kd.R_drewN | apply Kd.R_drew)); exact HO_8.out⟩, ⟨by repeat (first | (with_reducible first | exact HB.out | apply below_alloc | apply pw_below_drewN | apply below_drew1) | exact HB.out)⟩⟩
           ·rw [if_neg c20] at H
            exact absurd H (by simp)
          ·rw [if_neg c19] at H
           exact absurd H (by simp)
         ·rw [if_neg c18] at H
          have c18b0 : decide ((rd l1 x9_1) < (l0.length : Int)) = false := decide_eq_false c18
          clear c18
          have H' := Aside0.mk H
          clear H
          have p312 : 0 ≤ (x9_1 : Int) := of_decide_eq_true (by assumption)
          have q312 : x9_1 < (l1.length : Int) := of_decide_eq_true (by assumption)
          obtain ⟨ad312, e312, hx312_0⟩ := Kd.at_int HR1.out x9_1 p312 q312
          cases e312
          replace hx312_0 := (HB.out.cell (World.block_lt_of_cell? w _ hx312_0)).trans hx312_0
          replace p312 := eq_true p312
          replace q312 := eq_true q312
          have p313 : 0 ≤ (x9_1 : Int) := of_decide_eq_true (by assumption)
          have q313 : x9_1 < (l1.length : Int) := of_decide_eq_true (by assumption)
          obtain ⟨ad313, e313, hx313_0⟩ := Kd.at_int HR1.out x9_1 p313 q313
          obtain rfl : ad312 = ad313 := (by injection e313)
          replace hx313_0 := (HB.out.cell (World.block_lt_of_cell? w _ hx313_0)).trans hx313_0
          replace p313 := eq_true p313
          replace q313 := eq_true q313
          go_wp2
          go_roundg k1
          case measure => have := HK1.out; omega
          case rel => exact ⟨(x8_1), (wrap64 (x9_1 + 1)), (by first | rfl | (simp; done) | (simp [*]; done)), H', ⟨by have := HK1.out; omega⟩, ⟨by (with_reducible repeat (first | apply Kd.R_alloc | apply Kd.R_drewN | apply Kd.R_drew)); exact HO_6.out⟩, ⟨by (with_reducible repeat (first | apply Kd.R_alloc | apply Kd.R_drewN | apply Kd.R_drew)); exact HO_7.out⟩, ⟨by (with_reducible repeat (first | apply Kd.R_alloc | apply Kd.R_drewN | apply Kd.R_drew)); exact HO_8.out⟩, ⟨by repeat (first | (with_reducible first | exact HB.out | apply below_alloc | apply pw_below_drewN | apply below_drew1) | exact HB.out)⟩⟩
        ·rw [if_neg c17] at H
         have c17b0 : decide (0 ≤ (rd l1 x9_1)) = false := decide_eq_false c17
         clear c17
         have H' := Aside0.mk H
         clear H
         have p312 : 0 ≤ (x9_1 : Int) := of_decide_eq_true (by assumption)
         have q312 : x9_1 < (l1.length : Int) := of_decide_eq_true (by assumption)
         obtain ⟨ad312, e312, hx312_0⟩ := Kd.at_int HR1.out x9_1 p312 q312
         cases e312
         replace hx312_0 := (HB.out.cell (World.block_lt_of_cell? w _ hx312_0)).trans hx312_0
         replace p312 := eq_true p312
         replace q312 := eq_true q312
         go_wp2
         go_roundg k1
         case measure => have := HK1.out; omega
         case rel => exact ⟨(x8_1), (wrap64 (x9_1 + 1)), (by first | rfl | (simp; done) | (simp [*]; done)), H', ⟨by have := HK1.out; omega⟩, ⟨by (with_reducible repeat (first | apply Kd.R_alloc | apply Kd.R_drewN | apply Kd.R_drew)); exact HO_6.out⟩, ⟨by (with_reducible repeat (first | apply Kd.R_alloc | apply Kd.R_drewN | apply Kd.R_drew)); exact HO_7.out⟩, ⟨by (with_reducible repeat (first | apply Kd.R_alloc | apply Kd.R_drewN | apply Kd.R_drew)); exact HO_8.out⟩, ⟨by repeat (first | (with_reducible first | exact HB.out | apply below_alloc | apply pw_below_drewN | apply below_drew1) | exact HB.out)⟩⟩
       ·rw [if_neg c16] at H
        exact absurd H (by simp)
      ·rw [if_neg c15] at H
       have c15b0 : decide (x9_1 < (l1.length : Int)) = false := decide_eq_false c15
       clear c15
       replace H := Option.bind_eq_some_iff.mp H
       obtain ⟨t316, A240, H⟩ := H
       replace H : ((graph_Loop.f k1 l0).bind fun t319 => (if (t303.length : Int) = (t306.length : Int) then (shacklelaw16_GraphBegins.j1 k1 l0 t301 t303 t306 t316 t319 ((t316.length : Int) != (l0.length : Int))) else (shacklelaw16_GraphBegins.j1 k1 l0 t301 t303 t306 t316 t319 true))) = some r := H
       have A24 := Aside0.mk A240
       clear A240
       replace H := Option.bind_eq_some_iff.mp H
       obtain ⟨t319, A250, H⟩ := H
       replace H : (if (t303.length : Int) = (t306.length : Int) then (shacklelaw16_GraphBegins.j1 k1 l0 t301 t303 t306 t316 t319 ((t316.length : Int) != (l0.length : Int))) else (shacklelaw16_GraphBegins.j1 k1 l0 t301 t303 t306 t316 t319 true)) = some r := H
       have A25 := Aside0.mk A250
       clear A250
       have HC26 := Aside0.mk H
       clear H
       obtain ⟨Ao27, co27, eo27⟩ := Kd.R_slice HO_8.out
       subst eo27
       go_upto_region 14 with (first | ((with_reducible refine gate_callee (f := 29) rfl ?_); refine goesL_ (some 60) rfl rfl Try.func29 (by kernel_rfl) rfl #[.slice A0 l0.length c0, .slice Ao27 x8_1.length co27] rfl (by (try simp only [List.map_toArray, List.map_cons, List.map_nil]); first | done | rfl | (simp only [List.length_drop, List.length_take]; rfl)) ?_; (with_reducible refine (graph_Live.calls k1 _ _ l0 _ _ x8_1 t316 _ ?side1 ?side2 ?side3 ?side4 A24.out).mono ?_); (case side1 => repeat (first | exact (Kd.C_below HR0.out HB.out) | (with_reducible refine Kd.C_alloc ?_ _) | (with_reducible refine Kd.C_drewN ?_ _) | (with_reducible refine Kd.C_drew ?_))); (case side2 => exact HC0.out); (case side3 => repeat (first | exact (Kd.R_reads' HO_8.out).2.2 | (with_reducible refine Kd.C_alloc ?_ _) | (with_reducible refine Kd.C_drewN ?_ _) | (with_reducible refine Kd.C_drew ?_))); (case side4 => exact (Kd.R_reads' HO_8.out).2.1); rintro e w28 ⟨v317, rfl, ho0, hb⟩; refine ⟨_, rfl, ?_⟩; have n0_ := Aside0.mk (Kd.R_below (by (with_reducible repeat (first | apply Kd.R_alloc | apply Kd.R_drewN | apply Kd.R_drew)); exact HO_6.out) hb); have n1_ := Aside0.mk (Kd.R_below (by (with_reducible repeat (first | apply Kd.R_alloc | apply Kd.R_drewN | apply Kd.R_drew)); exact HO_7.out) hb); have n2_ := Aside0.mk (Kd.R_below (by (with_reducible repeat (first | apply Kd.R_alloc | apply Kd.R_drewN | apply Kd.R_drew)); exact HO_8.out) hb); have n3_ := Aside0.mk (Kd.R_lower ho0 (below_size (by repeat (first | (with_reducible first | exact HB.out | apply below_alloc | apply pw_below_drewN | apply below_drew1) | exact HB.out)))); have n4_ := Aside0.mk (below_step (by repeat (first | (with_reducible first | exact HB.out | apply below_alloc | apply pw_below_drewN | apply below_drew1) | exact HB.out)) hb); clear HO_6; clear HO_7; clear HO_8; clear HB; have HO_6 := n0_; have HO_7 := n1_; have HO_8 := n2_; have HO318 := n3_; have HB := n4_; clear n0_ n1_ n2_ n3_ n4_; (try clear hb); (try clear hb2); (try clear hk); (try clear hi); (try clear ho0)) | ((with_reducible refine gate_callee (f := 31) rfl ?_); refine goesL_ (some 62) rfl rfl Try.func31 (by kernel_rfl) rfl #[.slice A0 l0.length c0] rfl (by (try simp only [List.map_toArray, List.map_cons, List.map_nil]); first | done | rfl | (simp only [List.length_drop, List.length_take]; rfl)) ?_; (with_reducible refine (graph_Loop.calls k1 _ _ l0 t319 _ ?side1 ?side2 A25.out).mono ?_); (case side1 => repeat (first | exact (Kd.C_below HR0.out HB.out) | (with_reducible refine Kd.C_alloc ?_ _) | (with_reducible refine Kd.C_drewN ?_ _) | (with_reducible refine Kd.C_drew ?_))); (case side2 => exact HC0.out); rintro e w29 ⟨rfl, hb⟩; refine ⟨_, rfl, ?_⟩; have n0_ := Aside0.mk (Kd.R_below (by (with_reducible repeat (first | apply Kd.R_alloc | apply Kd.R_drewN | apply Kd.R_drew)); exact HO_6.out) hb); have n1_ := Aside0.mk (Kd.R_below (by (with_reducible repeat (first | apply Kd.R_alloc | apply Kd.R_drewN | apply Kd.R_drew)); exact HO_7.out) hb); have n2_ := Aside0.mk (Kd.R_below (by (with_reducible repeat (first | apply Kd.R_alloc | apply Kd.R_drewN | apply Kd.R_drew)); exact HO_8.out) hb); have n3_ := Aside0.mk (Kd.R_below (by (with_reducible repeat (first | apply Kd.R_alloc | apply Kd.R_drewN | apply Kd.R_drew)); exact HO318.out) hb); have n4_ := Aside0.mk (below_step (by repeat (first | (with_reducible first | exact HB.out | apply below_alloc | apply pw_below_drewN | apply below_drew1) | exact HB.out)) hb); clear HO_6; clear HO_7; clear HO_8; clear HO318; clear HB; have HO_6 := n0_; have HO_7 := n1_; have HO_8 := n2_; have HO318 := n3_; have HB := n4_; clear n0_ n1_ n2_ n3_ n4_; (try clear hb); (try clear hb2); (try clear hk); (try clear hi)))
       (try simp only [Act.put, List.setIfInBounds_toArray, List.set_cons_zero, List.set_cons_succ])
       go_cut [74] (fun v74 wc => ∃ (kq : Nat) (x74_25 : Bool), v74 = .bool x74_25 ∧ Aside0 (shacklelaw16_GraphBegins.j1 kq l0 t301 t303 t306 t316 t319 x74_25 = some r) ∧ Aside0 (kq ≤ k1) ∧ Aside0 (Kd.R (Kd.int .i64) 3 wc w.heap.size (fun k_ => some k_ ≠ (v307 : Value).ownBlock) v304 t303) ∧ Aside0 (Kd.R (Kd.int .i64) 3 wc w.heap.size (fun k_ => some k_ ≠ (v304 : Value).ownBlock) v307 t306) ∧ Aside0 (Kd.R Kd.bool 4 wc w.heap.size (fun _ => True) v317 t316) ∧ Aside0 (Below w.heap.size w wc))
       case first =>
        have H := HC26.out
        clear HC26
        by_cases c30 : (t303.length : Int) = (t306.length : Int)
        ·rw [if_pos c30] at H
         have c30b0 : ((t303.length : Int) == (t306.length : Int)) = true := beq_iff_eq.mpr c30
         have c30b1 : ((t303.length : Int) != (t306.length : Int)) = false := bne_eq_false_iff_eq.mpr c30
         have c30b2 : (t303.length == t306.length) = true := by first | simpa using c30 | (simp at c30 ⊢; omega)
         clear c30
         (first | rw [c30b0] | (simp only [i64_w, i32_w]; rw [c30b0]) | skip)
         have H' := Aside0.mk H
         clear H
         obtain ⟨Ao31, co31, eo31⟩ := Kd.R_slice HO_6.out
         subst eo31
         obtain ⟨Ao32, co32, eo32⟩ := Kd.R_slice HO_7.out
         subst eo32
         obtain ⟨Ao33, co33, eo33⟩ := Kd.R_slice HO318.out
         subst eo33
         go_wp2
         go_meet
         case rel => exact ⟨_, (((t316.length : Int) != (l0.length : Int))), (by first | rfl | (simp; done) | (simp [*]; done)), H', ⟨by have := HK1.out; first | omega | exact Nat.le_refl _⟩, ⟨by (with_reducible repeat (first | apply Kd.R_alloc | apply Kd.R_drewN | apply Kd.R_drew)); exact Kd.R_mono HO_6.out (fun _ hk => hk.1)⟩, ⟨by (with_reducible repeat (first | apply Kd.R_alloc | apply Kd.R_drewN | apply Kd.R_drew)); exact Kd.R_mono HO_7.out (fun _ hk => hk.1)⟩, ⟨by (with_reducible repeat (first | apply Kd.R_alloc | apply Kd.R_drewN | apply Kd.R_drew)); exact HO318.out⟩, ⟨by repeat (first | (with_reducible first | exact HB.out | apply below_alloc | apply pw_below_drewN | apply below_drew1) | exact HB.out)⟩⟩
        ·rw [if_neg c30] at H
         have c30b0 : ((t303.length : Int) == (t306.length : Int)) = false := beq_eq_false_iff_ne.mpr c30
         have c30b1 : ((t303.length : Int) != (t306.length : Int)) = true := bne_iff_ne.mpr c30
         have c30b2 : (t303.length == t306.length) = false := by first | simpa using c30 | (simp at c30 ⊢; omega)
         (first | rw [c30b0] | (simp only [i64_w, i32_w]; rw [c30b0]) | skip)
         have H' := Aside0.mk H
         clear H
         obtain ⟨Ao34, co34, eo34⟩ := Kd.R_slice HO_6.out
         subst eo34
         obtain ⟨Ao35, co35, eo35⟩ := Kd.R_slice HO_7.out
         subst eo35
         go_wp2
         go_meet
         case rel => exact ⟨_, (true), (by first | rfl | (simp; done) | (simp [*]; done)), H', ⟨by have := HK1.out; first | omega | exact Nat.le_refl _⟩, ⟨by (with_reducible repeat (first | apply Kd.R_alloc | apply Kd.R_drewN | apply Kd.R_drew)); exact Kd.R_mono HO_6.out (fun _ hk => hk.1)⟩, ⟨by (with_reducible repeat (first | apply Kd.R_alloc | apply Kd.R_drewN | apply Kd.R_drew)); exact Kd.R_mono HO_7.out (fun _ hk => hk.1)⟩, ⟨by (with_reducible repeat (first | apply Kd.R_alloc | apply Kd.R_drewN | apply Kd.R_drew)); exact HO318.out⟩, ⟨by repeat (first | (with_reducible first | exact HB.out | apply below_alloc | apply pw_below_drewN | apply below_drew1) | exact HB.out)⟩⟩
       case rest =>
        clear HC26
        try clear c1
        try clear c2
        try clear p2
        try clear q2
        try clear hx2
        try clear hf2
        try clear c3
        try clear p3
        try clear q3
        try clear hx3
        try clear c5
        try clear p6
        try clear c8
        try clear c8b0
        try clear c8b1
        try clear c9
        try clear c9b0
        try clear c9b1
        try clear c15
        try clear c15b0
        try clear c16
        try clear c16b0
        try clear c17
        try clear c17b0
        try clear c18
        try clear c18b0
        try clear c19
        try clear c19b0
        try clear c20
        try clear c20b0
        try clear p21
        try clear q21
        try clear hx21
        try clear hf21
        try clear c22
        try clear c23
        try clear c25
        try clear c27
        try clear c29
        try clear c30
        try clear c30b0
        try clear c30b1
        try clear c30b2
        try clear c31
        try clear p31
        try clear q31
        try clear hx31
        try clear hx21_0
        try clear hx312_0
        try clear hx313_0
        try clear hx314_0
        try clear p2
        try clear p21
        try clear p312
        try clear p313
        try clear p314
        try clear q21
        try clear q312
        try clear q313
        try clear q314
        obtain ⟨kq, x74_25, rfl, HA, HJ25, HO_6, HO_7, HO_10, HB⟩ := hcut
        cases kq with
        | zero => exact absurd HA.out (by simp [shacklelaw16_GraphBegins.j1])
        | succ kj25 =>
         have H := HA.out
         clear HA
         simp only [shacklelaw16_GraphBegins.j1] at H
         by_cases c36 : x74_25 = true
         ·subst c36
          have H1 : (some false) = some r := by rw [if_pos rfl] at H; exact H
          clear H
          have H := H1
          clear H1
          obtain rfl := Option.some.inj H
          go_wp2
          go_ret
          exact ⟨by first | rfl | (simp [errW_none, errW_some] <;> rfl) | (simp [*, errW_none, errW_some] <;> rfl), by repeat (first | (with_reducible first | exact HB.out | apply below_alloc | apply pw_below_drewN | apply below_drew1) | exact HB.out)⟩
         ·replace c36 := Bool.eq_false_iff.mpr c36
          subst c36
          have H1 : (shacklelaw16_GraphBegins.l1 kj25 l0 t301 t303 t306 t316 t319 0 0) = some r := by rw [if_neg (show ¬ (false = true) by decide)] at H; exact H
          clear H
          have H := H1
          clear H1
          have H' := Aside0.mk H
          clear H
          go_wp2
          go_loopg [12, 13] kj25 (fun kq v12 v13 w' => ∃ (x12_3 : Int) (x13_3 : Int), v12 = .int .i64 x12_3 ∧ v13 = .int .i64 x13_3 ∧ Aside0 (shacklelaw16_GraphBegins.l1 kq l0 t301 t303 t306 t316 t319 x12_3 x13_3 = some r) ∧ Aside0 (kq ≤ kj25) ∧ Aside0 (Kd.R (Kd.int .i64) 3 w' w.heap.size (fun k_ => some k_ ≠ (v307 : Value).ownBlock) v304 t303) ∧ Aside0 (Kd.R (Kd.int .i64) 3 w' w.heap.size (fun k_ => some k_ ≠ (v304 : Value).ownBlock) v307 t306) ∧ Aside0 (Kd.R Kd.bool 4 w' w.heap.size (fun _ => True) v317 t316) ∧ Aside0 (Below w.heap.size w w'))
          case atStart => exact ⟨(0), (0), (by first | rfl | (simp; done) | (simp [*]; done)), (by first | rfl | (simp; done) | (simp [*]; done)), H', ⟨Nat.le_refl _⟩, ⟨by (with_reducible repeat (first | apply Kd.R_alloc | apply Kd.R_drewN | apply Kd.R_drew)); exact HO_6.out⟩, ⟨by (with_reducible repeat (first | apply Kd.R_alloc | apply Kd.R_drewN | apply Kd.R_drew)); exact HO_7.out⟩, ⟨by (with_reducible repeat (first | apply Kd.R_alloc | apply Kd.R_drewN | apply Kd.R_drew)); exact HO_10.out⟩, ⟨by repeat (first | (with_reducible first | exact HB.out | apply below_alloc | apply pw_below_drewN | apply below_drew1) | exact HB.out)⟩⟩
          case round =>
           clear H'
           try clear c1
           try clear c2
           try clear p2
           try clear q2
           try clear hx2
           try clear hf2
           try clear c3
           try clear p3
           try clear q3
           try clear hx3
           try clear c5
           try clear p6
           try clear c8
           try clear c8b0
           try clear c8b1
           try clear c9
           try clear c9b0
           try clear c9b1
           try clear c15
           try clear c15b0
           try clear c16
           try clear c16b0
           try clear c17
           try clear c17b0
           try clear c18
           try clear c18b0
           try clear c19
           try clear c19b0
           try clear c20
           try clear c20b0
           try clear p21
           try clear q21
           try clear hx21
           try clear hf21
           try clear c22
           try clear c23
           try clear c25
           try clear c27
           try clear c29
           try clear c30
           try clear c30b0
           try clear c30b1
           try clear c30b2
           try clear c31
           try clear p31
           try clear q31
           try clear hx31
           try clear c36
           try clear hx21_0
           try clear hx312_0
           try clear hx313_0
           try clear hx314_0
           try clear p2
           try clear p21
           try clear p3
           try clear p31
           try clear p312
           try clear p313
           try clear p314
           try clear p6
           try clear q2
           try clear q21
           try clear q3
           try clear q31
           try clear q312
           try clear q313
           try clear q314
           obtain ⟨x12_3, x13_3, rfl, rfl, HA, HK3, HO_6, HO_7, HO_10, HB⟩ := hrel
           cases gk with
           | zero => exact absurd HA.out (by simp [shacklelaw16_GraphBegins.l1])
           | succ k3 =>
            have H := HA.out
            clear HA
            simp only [shacklelaw16_GraphBegins.l1] at H
            by_cases c37 : x13_3 < (l0.length : Int)
            ·rw [if_pos c37] at H
             have c37b0 : decide (x13_3 < (l0.length : Int)) = true := decide_eq_true c37
             clear c37
             replace H := Option.bind_eq_some_iff.mp H
             obtain ⟨t320, A380, H⟩ := H
             replace H : ((shacklelaw16_place.f k3 t306 x13_3).bind fun t321 => (if 0 ≤ x13_3 then (if x13_3 < (t316.length : Int) then (if ((decide (t320 ≥ 0)) != (rdOf false t316 x13_3)) = true then (shacklelaw16_GraphBegins.j3 k3 l0 t301 t303 t306 t316 t319 x12_3 x13_3 t321 true) else (shacklelaw16_GraphBegins.j3 k3 l0 t301 t303 t306 t316 t319 x12_3 x13_3 t321 ((decide (t321 ≥ 0)) != (rdOf false t316 x13_3)))) else (none)) else (none))) = some r := H
             have A38 := Aside0.mk A380
             clear A380
             replace H := Option.bind_eq_some_iff.mp H
             obtain ⟨t321, A390, H⟩ := H
             replace H : (if 0 ≤ x13_3 then (if x13_3 < (t316.length : Int) then (if ((decide (t320 ≥ 0)) != (rdOf false t316 x13_3)) = true then (shacklelaw16_GraphBegins.j3 k3 l0 t301 t303 t306 t316 t319 x12_3 x13_3 t321 true) else (shacklelaw16_GraphBegins.j3 k3 l0 t301 t303 t306 t316 t319 x12_3 x13_3 t321 ((decide (t321 ≥ 0)) != (rdOf false t316 x13_3)))) else (none)) else (none)) = some r := H
             have A39 := Aside0.mk A390
             clear A390
             have HC40 := Aside0.mk H
             clear H
             obtain ⟨Ao41, co41, eo41⟩ := Kd.R_slice HO_6.out
             subst eo41
             go_upto_region 22 with (first | ((with_reducible refine gate_callee (f := 33) rfl ?_); refine goesL_ (some 83) rfl rfl Try.func33 (by kernel_rfl) rfl #[.slice Ao41 t303.length co41, .int .i64 x13_3] rfl (by (try simp only [List.map_toArray, List.map_cons, List.map_nil]); first | done | rfl | (simp only [List.length_drop, List.length_take]; rfl)) ?_; (with_reducible refine (shacklelaw16_place.calls k3 _ _ t303 x13_3 t320 _ ?side1 ?side2 A38.out).mono ?_); (case side1 => repeat (first | exact (Kd.R_reads' HO_6.out).2.2 | (with_reducible refine Kd.C_alloc ?_ _) | (with_reducible refine Kd.C_drewN ?_ _) | (with_reducible refine Kd.C_drew ?_))); (case side2 => exact (Kd.R_reads' HO_6.out).2.1); rintro e w' ⟨rfl, ⟨nd, rfl⟩⟩; refine ⟨_, rfl, ?_⟩; obtain ⟨Ao42, co42, eo42⟩ := Kd.R_slice HO_7.out; subst eo42) | ((with_reducible refine gate_callee (f := 33) rfl ?_); refine goesL_ (some 86) rfl rfl Try.func33 (by kernel_rfl) rfl #[.slice Ao42 t306.length co42, .int .i64 x13_3] rfl (by (try simp only [List.map_toArray, List.map_cons, List.map_nil]); first | done | rfl | (simp only [List.length_drop, List.length_take]; rfl)) ?_; (with_reducible refine (shacklelaw16_place.calls k3 _ _ t306 x13_3 t321 _ ?side1 ?side2 A39.out).mono ?_); (case side1 => repeat (first | exact (Kd.R_reads' HO_7.out).2.2 | (with_reducible refine Kd.C_alloc ?_ _) | (with_reducible refine Kd.C_drewN ?_ _) | (with_reducible refine Kd.C_drew ?_))); (case side2 => exact (Kd.R_reads' HO_7.out).2.1); rintro e w' ⟨rfl, ⟨nd, rfl⟩⟩; refine ⟨_, rfl, ?_⟩))
             (try simp only [Act.put, List.setIfInBounds_toArray, List.set_cons_zero, List.set_cons_succ])
             go_cut [102] (fun v102 wc => ∃ (kq : Nat) (x102_39 : Bool), v102 = .bool x102_39 ∧ Aside0 (shacklelaw16_GraphBegins.j3 kq l0 t301 t303 t306 t316 t319 x12_3 x13_3 t321 x102_39 = some r) ∧ Aside0 (kq ≤ k3) ∧ Aside0 (Kd.R (Kd.int .i64) 3 wc w.heap.size (fun k_ => some k_ ≠ ((.slice Ao42 t306.length co42) : Value).ownBlock) (.slice Ao41 t303.length co41) t303) ∧ Aside0 (Kd.R (Kd.int .i64) 3 wc w.heap.size (fun k_ => some k_ ≠ ((.slice Ao41 t303.length co41) : Value).ownBlock) (.slice Ao42 t306.length co42) t306) ∧ Aside0 (Kd.R Kd.bool 4 wc w.heap.size (fun _ => True) v317 t316) ∧ Aside0 (Below w.heap.size w wc))
             case first =>
              have H := HC40.out
              clear HC40
              by_cases c43 : 0 ≤ x13_3
              ·rw [if_pos c43] at H
               have c43b0 : decide (0 ≤ x13_3) = true := decide_eq_true c43
               clear c43
               (first | rw [c43b0] | (simp only [i64_w, i32_w]; rw [c43b0]) | skip)
               by_cases c44 : x13_3 < (t316.length : Int)
               ·rw [if_pos c44] at H
                have c44b0 : decide (x13_3 < (t316.length : Int)) = true := decide_eq_true c44
                clear c44
                by_cases c45 : ((decide (t320 ≥ 0)) != (rdOf false t316 x13_3)) = true
                ·rw [if_pos c45] at H
                 have c45b0 : ((decide (t320 ≥ 0)) != (rdOf false t316 x13_3)) = true := c45
                 (try (have c45b1 : decide ((decide (t320 ≥ 0)) = (rdOf false t316 x13_3)) = false := by simpa using c45))
                 (try (have c45b2 : ((decide (t320 ≥ 0)) == (rdOf false t316 x13_3)) = false := by simpa using c45))
                 (try (have c45b3 : ¬ ((decide (t320 ≥ 0)) = (rdOf false t316 x13_3)) := by simpa using c45))
                 clear c45
                 have H' := Aside0.mk H
                 clear H
                 obtain ⟨Ao46, co46, eo46⟩ := Kd.R_slice HO_10.out
                 subst eo46
                 have p322 : 0 ≤ (x13_3 : Int) := of_decide_eq_true (by assumption)
                 have q322 : x13_3 < (t316.length : Int) := of_decide_eq_true (by assumption)
                 obtain ⟨ad322, e322, hx322_0⟩ := Kd.at_bool (Kd.R_reads' HO_10.out).2.2 x13_3 p322 q322
                 cases e322
                 replace p322 := eq_true p322
                 replace q322 := eq_true q322
                 go_wp2
                 go_meet
                 case rel => exact ⟨_, (true), (by first | rfl | (simp; done) | (simp [*]; done)), H', ⟨by have := HK1.out; have := HJ25.out; have := HK3.out; first | omega | exact Nat.le_refl _⟩, ⟨by (with_reducible repeat (first | apply Kd.R_alloc | apply Kd.R_drewN | apply Kd.R_drew)); exact HO_6.out⟩, ⟨by (with_reducible repeat (first | apply Kd.R_alloc | apply Kd.R_drewN | apply Kd.R_drew)); exact HO_7.out⟩, ⟨by (with_reducible repeat (first | apply Kd.R_alloc | apply Kd.R_drewN | apply Kd.R_drew)); exact HO_10.out⟩, ⟨by repeat (first | (with_reducible first | exact HB.out | apply below_alloc | apply pw_below_drewN | apply below_drew1) | exact HB.out)⟩⟩
                ·rw [if_neg c45] at H
                 have c45b0 : ((decide (t320 ≥ 0)) != (rdOf false t316 x13_3)) = false := by simpa using c45
                 (try (have c45b1 : decide ((decide (t320 ≥ 0)) = (rdOf false t316 x13_3)) = true := by simpa using c45))
                 (try (have c45b2 : ((decide (t320 ≥ 0)) == (rdOf false t316 x13_3)) = true := by simpa using c45))
                 clear c45
                 have H' := Aside0.mk H
                 clear H
                 obtain ⟨Ao47, co47, eo47⟩ := Kd.R_slice HO_10.out
                 subst eo47
                 have p322 : 0 ≤ (x13_3 : Int) := of_decide_eq_true (by assumption)
                 have q322 : x13_3 < (t316.length : Int) := of_decide_eq_true (by assumption)
                 obtain ⟨ad322, e322, hx322_0⟩ := Kd.at_bool (Kd.R_reads' HO_10.out).2.2 x13_3 p322 q322
                 cases e322
                 replace p322 := eq_true p322
                 replace q322 := eq_true q322
                 have p323 : 0 ≤ (x13_3 : Int) := of_decide_eq_true (by assumption)
                 have q323 : x13_3 < (t316.length : Int) := of_decide_eq_true (by assumption)
                 obtain ⟨ad323, e323, hx323_0⟩ := Kd.at_bool (Kd.R_reads' HO_10.out).2.2 x13_3 p323 q323
                 obtain rfl : ad322 = ad323 := (by injection e323)
                 replace p323 := eq_true p323
                 replace q323 := eq_true q323
                 go_wp2
                 go_meet
                 case rel => exact ⟨_, (((decide (t321 ≥ 0)) != (rdOf false t316 x13_3))), (by first | rfl | (simp; done) | (simp [*]; done)), H', ⟨by have := HK1.out; have := HJ25.out; have := HK3.out; first | omega | exact Nat.le_refl _⟩, ⟨by (with_reducible repeat (first | apply Kd.R_alloc | apply Kd.R_drewN | apply Kd.R_drew)); exact HO_6.out⟩, ⟨by (with_reducible repeat (first | apply Kd.R_alloc | apply Kd.R_drewN | apply Kd.R_drew)); exact HO_7.out⟩, ⟨by (with_reducible repeat (first | apply Kd.R_alloc | apply Kd.R_drewN | apply Kd.R_drew)); exact HO_10.out⟩, ⟨by repeat (first | (with_reducible first | exact HB.out | apply below_alloc | apply pw_below_drewN | apply below_drew1) | exact HB.out)⟩⟩
               ·rw [if_neg c44] at H
                exact absurd H (by simp)
              ·rw [if_neg c43] at H
               exact absurd H (by simp)
             case rest =>
              clear HC40
              try clear c1
              try clear c2
              try clear p2
              try clear q2
              try clear hx2
              try clear hf2
              try clear c3
              try clear p3
              try clear q3
              try clear hx3
              try clear c4
              try clear c5
              try clear p6
              try clear c8
              try clear c8b0
              try clear c8b1
              try clear c9
              try clear c9b0
              try clear c9b1
              try clear c15
              try clear c15b0
              try clear c16
              try clear c16b0
              try clear c17
              try clear c17b0
              try clear c18
              try clear c18b0
              try clear c19
              try clear c19b0
              try clear c20
              try clear c20b0
              try clear p21
              try clear q21
              try clear hx21
              try clear hf21
              try clear c22
              try clear c23
              try clear c25
              try clear c27
              try clear c29
              try clear c30
              try clear c30b0
              try clear c30b1
              try clear c30b2
              try clear c31
              try clear p31
              try clear q31
              try clear hx31
              try clear p32
              try clear q32
              try clear hx32
              try clear c33
              try clear c36
              try clear c37
              try clear c37b0
              try clear c43
              try clear c43b0
              try clear c44
              try clear c44b0
              try clear c45
              try clear c45b0
              try clear c45b1
              try clear c45b2
              try clear hx21_0
              try clear hx312_0
              try clear hx313_0
              try clear hx314_0
              try clear hx322_0
              try clear hx323_0
              try clear p2
              try clear p21
              try clear p3
              try clear p31
              try clear p312
              try clear p313
              try clear p314
              try clear p322
              try clear p323
              try clear p6
              try clear q2
              try clear q21
              try clear q3
              try clear q31
              try clear q312
              try clear q313
              try clear q314
              try clear q322
              try clear q323
              obtain ⟨kq, x102_39, rfl, HA, HJ39, HO_6, HO_7, HO_10, HB⟩ := hcut
              cases kq with
              | zero => exact absurd HA.out (by simp [shacklelaw16_GraphBegins.j3])
              | succ kj39 =>
               have H := HA.out
               clear HA
               simp only [shacklelaw16_GraphBegins.j3] at H
               by_cases c48 : x102_39 = true
               ·subst c48
                have H1 : (some false) = some r := by rw [if_pos rfl] at H; exact H
                clear H
                have H := H1
                clear H1
                obtain rfl := Option.some.inj H
                go_wp2
                go_ret
                exact ⟨by first | rfl | (simp [errW_none, errW_some] <;> rfl) | (simp [*, errW_none, errW_some] <;> rfl), by repeat (first | (with_reducible first | exact HB.out | apply below_alloc | apply pw_below_drewN | apply below_drew1) | exact HB.out)⟩
               ·replace c48 := Bool.eq_false_iff.mpr c48
                subst c48
                have H1 : (if 0 ≤ x13_3 then (if x13_3 < (t316.length : Int) then (if rdOf false t316 x13_3 = true then (shacklelaw16_GraphBegins.l2 kj39 l0 t301 t303 t306 t316 t319 (wrap64 (x12_3 + 1)) x13_3 t321 0) else (shacklelaw16_GraphBegins.l1 kj39 l0 t301 t303 t306 t316 t319 x12_3 (wrap64 (x13_3 + 1)))) else (none)) else (none)) = some r := by rw [if_neg (show ¬ (false = true) by decide)] at H; exact H
                clear H
                have H := H1
                clear H1
                by_cases c49 : 0 ≤ x13_3
                ·rw [if_pos c49] at H
                 have c49b0 : decide (0 ≤ x13_3) = true := decide_eq_true c49
                 clear c49
                 by_cases c50 : x13_3 < (t316.length : Int)
                 ·rw [if_pos c50] at H
                  have c50b0 : decide (x13_3 < (t316.length : Int)) = true := decide_eq_true c50
                  clear c50
                  obtain ⟨bq51, hbq51⟩ : ∃ b_ : Bool, b_ = (rdOf false t316 x13_3) := ⟨_, rfl⟩
                  replace H : (if bq51 = true then (shacklelaw16_GraphBegins.l2 kj39 l0 t301 t303 t306 t316 t319 (wrap64 (x12_3 + 1)) x13_3 t321 0) else (shacklelaw16_GraphBegins.l1 kj39 l0 t301 t303 t306 t316 t319 x12_3 (wrap64 (x13_3 + 1)))) = some r := by rw [← hbq51] at H; exact H
                  have Nbq51 := Aside0.mk hbq51
                  clear hbq51
                  by_cases c52 : bq51 = true
                  ·subst c52
                   have H1 : (shacklelaw16_GraphBegins.l2 kj39 l0 t301 t303 t306 t316 t319 (wrap64 (x12_3 + 1)) x13_3 t321 0) = some r := by rw [if_pos rfl] at H; exact H
                   clear H
                   have H := H1
                   clear H1
                   have H' := Aside0.mk H
                   clear H
                   obtain ⟨Ao53, co53, eo53⟩ := Kd.R_slice HO_10.out
                   subst eo53
                   have p324 : 0 ≤ (x13_3 : Int) := of_decide_eq_true (by assumption)
                   have q324 : x13_3 < (t316.length : Int) := of_decide_eq_true (by assumption)
                   obtain ⟨ad324, e324, hx324_0⟩ := Kd.at_bool (Kd.R_reads' HO_10.out).2.2 x13_3 p324 q324
                   (try rw [← Nbq51.out] at hx324_0)
                   cases e324
                   replace p324 := eq_true p324
                   replace q324 := eq_true q324
                   go_wp2
                   go_loopg [16] kj39 (fun kq v16 w' => ∃ (x16_5 : Int), v16 = .int .i64 x16_5 ∧ Aside0 (shacklelaw16_GraphBegins.l2 kq l0 t301 t303 t306 t316 t319 (wrap64 (x12_3 + 1)) x13_3 t321 x16_5 = some r) ∧ Aside0 (kq ≤ kj39) ∧ Aside0 (Kd.R (Kd.int .i64) 3 w' w.heap.size (fun k_ => some k_ ≠ ((.slice Ao42 t306.length co42) : Value).ownBlock) (.slice Ao41 t303.length co41) t303) ∧ Aside0 (Kd.R (Kd.int .i64) 3 w' w.heap.size (fun k_ => some k_ ≠ ((.slice Ao41 t303.length co41) : Value).ownBlock) (.slice Ao42 t306.length co42) t306) ∧ Aside0 (Kd.R Kd.bool 4 w' w.heap.size (fun _ => True) (.slice (some ad324) t316.length co53) t316) ∧ Aside0 (Below w.heap.size w w'))
                   case atStart => exact ⟨(0), (by first | rfl | (simp; done) | (simp [*]; done)), H', ⟨Nat.le_refl _⟩, ⟨by (with_reducible repeat (first | apply Kd.R_alloc | apply Kd.R_drewN | apply Kd.R_drew)); exact HO_6.out⟩, ⟨by (with_reducible repeat (first | apply Kd.R_alloc | apply Kd.R_drewN | apply Kd.R_drew)); exact HO_7.out⟩, ⟨by (with_reducible repeat (first | apply Kd.R_alloc | apply Kd.R_drewN | apply Kd.R_drew)); exact HO_10.out⟩, ⟨by repeat (first | (with_reducible first | exact HB.out | apply below_alloc | apply pw_below_drewN | apply below_drew1) | exact HB.out)⟩⟩
                   case round =>
                    clear H'
                    try clear c1
                    try clear c2
                    try clear p2
                    try clear q2
                    try clear hx2
                    try clear hf2
                    try clear c3
                    try clear p3
                    try clear q3
                    try clear hx3
                    try clear c4
                    try clear c5
                    try clear q5
                    try clear p6
                    try clear c8
                    try clear c8b0
                    try clear c8b1
                    try clear c9
                    try clear c9b0
                    try clear c9b1
                    try clear c15
                    try clear c15b0
                    try clear c16
                    try clear c16b0
                    try clear c17
                    try clear c17b0
                    try clear c18
                    try clear c18b0
                    try clear c19
                    try clear c19b0
                    try clear c20
                    try clear c20b0
                    try clear p21
                    try clear q21
                    try clear hx21
                    try clear hf21
                    try clear c22
                    try clear c23
                    try clear c25
                    try clear c27
                    try clear c29
                    try clear c30
                    try clear c30b0
                    try clear c30b1
                    try clear c30b2
                    try clear c31
                    try clear p31
                    try clear q31
                    try clear hx31
                    try clear p32
                    try clear q32
                    try clear hx32
                    try clear c33
                    try clear c36
                    try clear c37
                    try clear c37b0
                    try clear c43
                    try clear c43b0
                    try clear c44
                    try clear c44b0
                    try clear c45
                    try clear c45b0
                    try clear c45b1
                    try clear c45b2
                    try clear c48
                    try clear c49
                    try clear c49b0
                    try clear c50
                    try clear c50b0
                    try clear q51
                    try clear c52
                    try clear hx21_0
                    try clear hx312_0
                    try clear hx313_0
                    try clear hx314_0
                    try clear hx322_0
                    try clear hx323_0
                    try clear hx324_0
                    try clear p2
                    try clear p21
                    try clear p3
                    try clear p31
                    try clear p312
                    try clear p313
                    try clear p314
                    try clear p32
                    try clear p322
                    try clear p323
                    try clear p324
                    try clear p6
                    try clear q2
                    try clear q21
                    try clear q3
                    try clear q31
                    try clear q312
                    try clear q313
                    try clear q314
                    try clear q32
                    try clear q322
                    try clear q323
                    try clear q324
                    obtain ⟨x16_5, rfl, HA, HK5, HO_6, HO_7, HO_10, HB⟩ := hrel
                    cases gk with
                    | zero => exact absurd HA.out (by simp [shacklelaw16_GraphBegins.l2])
                    | succ k5 =>
                     have H := HA.out
                     clear HA
                     simp only [shacklelaw16_GraphBegins.l2] at H
                     by_cases c54 : 0 ≤ x13_3
                     ·rw [if_pos c54] at H
                      have c54b0 : decide (0 ≤ x13_3) = true := decide_eq_true c54
                      clear c54
                      by_cases c55 : x13_3 < (l0.length : Int)
                      ·rw [if_pos c55] at H
                       have c55b0 : decide (x13_3 < (l0.length : Int)) = true := decide_eq_true c55
                       clear c55
                       by_cases c56 : x16_5 < ((rd_L1 l0 x13_3).length : Int)
                       ·rw [if_pos c56] at H
                        have c56b0 : decide (x16_5 < ((rd_L1 l0 x13_3).length : Int)) = true := decide_eq_true c56
                        clear c56
                        by_cases c57 : 0 ≤ x16_5
                        ·rw [if_pos c57] at H
                         have c57b0 : decide (0 ≤ x16_5) = true := decide_eq_true c57
                         clear c57
                         replace H := Option.bind_eq_some_iff.mp H
                         obtain ⟨t328, A580, H⟩ := H
                         replace H : (if t319 = true then (shacklelaw16_GraphBegins.l2 k5 l0 t301 t303 t306 t316 t319 (wrap64 (x12_3 + 1)) x13_3 t321 (wrap64 (x16_5 + 1))) else (if t328 ≥ t321 then (some false) else (shacklelaw16_GraphBegins.l2 k5 l0 t301 t303 t306 t316 t319 (wrap64 (x12_3 + 1)) x13_3 t321 (wrap64 (x16_5 + 1))))) = some r := H
                         have A58 := Aside0.mk A580
                         clear A580
                         by_cases c59 : t319 = true
                         ·subst c59
                          have H1 : (shacklelaw16_GraphBegins.l2 k5 l0 t301 t303 t306 t316 true (wrap64 (x12_3 + 1)) x13_3 t321 (wrap64 (x16_5 + 1))) = some r := by rw [if_pos rfl] at H; exact H
                          clear H
                          have H := H1
                          clear H1
                          have H' := Aside0.mk H
                          clear H
                          have p325 : 0 ≤ (x13_3 : Int) := of_decide_eq_true (by assumption)
                          have q325 : x13_3 < (l0.length : Int) := of_decide_eq_true (by assumption)
                          obtain ⟨ad325, A325_0, c325_0, e325, hx325_0, hl325_0, hi325_0⟩ := at_L1 HR0.out x13_3 p325 q325
                          cases e325
                          replace hx325_0 := (HB.out.cell (World.block_lt_of_cell? w _ hx325_0)).trans hx325_0
                          have HR325_0 := Aside0.mk hi325_0
                          have HC325_0 := Aside0.mk hl325_0
                          clear hi325_0 hl325_0
                          replace p325 := eq_true p325
                          replace q325 := eq_true q325
                          have p326 : 0 ≤ (x13_3 : Int) := of_decide_eq_true (by assumption)
                          have q326 : x13_3 < (l0.length : Int) := of_decide_eq_true (by assumption)
                          obtain ⟨ad326, A326_0, c326_0, e326, hx326_0, hl326_0, hi326_0⟩ := at_L1 HR0.out x13_3 p326 q326
                          obtain rfl : ad325 = ad326 := (by injection e326)
                          replace hx326_0 := (HB.out.cell (World.block_lt_of_cell? w _ hx326_0)).trans hx326_0
                          have HR326_0 := Aside0.mk hi326_0
                          have HC326_0 := Aside0.mk hl326_0
                          clear hi326_0 hl326_0
                          replace p326 := eq_true p326
                          replace q326 := eq_true q326
                          have ea_ := Option.some.inj (hx325_0.symm.trans hx326_0)
                          injection ea_ with ea_ en_ ec_
                          subst ea_
                          subst ec_
                          clear en_
                          have p327 : 0 ≤ (x16_5 : Int) := of_decide_eq_true (by assumption)
                          have q327 : x16_5 < ((rd_L1 l0 x13_3).length : Int) := of_decide_eq_true (by assumption)
                          obtain ⟨ad327, e327, hx327_0⟩ := Kd.at_int HR326_0.out x16_5 p327 q327
                          cases e327
                          replace hx327_0 := (HB.out.cell (World.block_lt_of_cell? w _ hx327_0)).trans hx327_0
                          replace p327 := eq_true p327
                          replace q327 := eq_true q327
                          go_wp2_with (first | ((with_reducible refine gate_callee (f := 33) rfl ?_); refine goesL_ (some 127) rfl rfl Try.func33 (by kernel_rfl) rfl #[.slice Ao42 t306.length co42, .int .i64 (rd (rd_L1 l0 x13_3) x16_5)] rfl (by (try simp only [List.map_toArray, List.map_cons, List.map_nil]); first | done | rfl | (simp only [List.length_drop, List.length_take]; rfl)) ?_; (with_reducible refine (shacklelaw16_place.calls k5 _ _ t306 (rd (rd_L1 l0 x13_3) x16_5) t328 _ ?side1 ?side2 A58.out).mono ?_); (case side1 => repeat (first | exact (Kd.R_reads' HO_7.out).2.2 | (with_reducible refine Kd.C_alloc ?_ _) | (with_reducible refine Kd.C_drewN ?_ _) | (with_reducible refine Kd.C_drew ?_))); (case side2 => exact (Kd.R_reads' HO_7.out).2.1); rintro e w' ⟨rfl, ⟨nd, rfl⟩⟩; refine ⟨_, rfl, ?_⟩))
                          go_roundg k5
                          case measure => have := HK1.out; have := HJ25.out; have := HK3.out; have := HJ39.out; have := HK5.out; omega
                          case rel => exact ⟨(wrap64 (x16_5 + 1)), (by first | rfl | (simp; done) | (simp [*]; done)), H', ⟨by have := HK1.out; have := HJ25.out; have := HK3.out; have := HJ39.out; have := HK5.out; omega⟩, ⟨by (with_reducible repeat (first | apply Kd.R_alloc | apply Kd.R_drewN | apply Kd.R_drew)); exact HO_6.out⟩, ⟨by (with_reducible repeat (first | apply Kd.R_alloc | apply Kd.R_drewN | apply Kd.R_drew)); exact HO_7.out⟩, ⟨by (with_reducible repeat (first | apply Kd.R_alloc | apply Kd.R_drewN | apply Kd.R_drew)); exact HO_10.out⟩, ⟨by repeat (first | (with_reducible first | exact HB.out | apply below_alloc | apply pw_below_drewN | apply below_drew1) | exact HB.out)⟩⟩
                         ·replace c59 := Bool.eq_false_iff.mpr c59
                          subst c59
                          have H1 : (if t328 ≥ t321 then (some false) else (shacklelaw16_GraphBegins.l2 k5 l0 t301 t303 t306 t316 false (wrap64 (x12_3 + 1)) x13_3 t321 (wrap64 (x16_5 + 1)))) = some r := by rw [if_neg (show ¬ (false = true) by decide)] at H; exact H
                          clear H
                          have H := H1
                          clear H1
                          by_cases c60 : t328 ≥ t321
                          ·rw [if_pos c60] at H
                           have c60b0 : decide (t321 ≤ t328) = true := decide_eq_true c60
                           clear c60
                           obtain rfl := Option.some.inj H
                           have p325 : 0 ≤ (x13_3 : Int) := of_decide_eq_true (by assumption)
                           have q325 : x13_3 < (l0.length : Int) := of_decide_eq_true (by assumption)
                           obtain ⟨ad325, A325_0, c325_0, e325, hx325_0, hl325_0, hi325_0⟩ := at_L1 HR0.out x13_3 p325 q325
                           cases e325
                           replace hx325_0 := (HB.out.cell (World.block_lt_of_cell? w _ hx325_0)).trans hx325_0
                           have HR325_0 := Aside0.mk hi325_0
                           have HC325_0 := Aside0.mk hl325_0
                           clear hi325_0 hl325_0
                           replace p325 := eq_true p325
                           replace q325 := eq_true q325
                           have p326 : 0 ≤ (x13_3 : Int) := of_decide_eq_true (by assumption)
                           have q326 : x13_3 < (l0.length : Int) := of_decide_eq_true (by assumption)
                           obtain ⟨ad326, A326_0, c326_0, e326, hx326_0, hl326_0, hi326_0⟩ := at_L1 HR0.out x13_3 p326 q326
                           obtain rfl : ad325 = ad326 := (by injection e326)
                           replace hx326_0 := (HB.out.cell (World.block_lt_of_cell? w _ hx326_0)).trans hx326_0
                           have HR326_0 := Aside0.mk hi326_0
                           have HC326_0 := Aside0.mk hl326_0
                           clear hi326_0 hl326_0
                           replace p326 := eq_true p326
                           replace q326 := eq_true q326
                           have ea_ := Option.some.inj (hx325_0.symm.trans hx326_0)
                           injection ea_ with ea_ en_ ec_
                           subst ea_
                           subst ec_
                           clear en_
                           have p327 : 0 ≤ (x16_5 : Int) := of_decide_eq_true (by assumption)
                           have q327 : x16_5 < ((rd_L1 l0 x13_3).length : Int) := of_decide_eq_true (by assumption)
                           obtain ⟨ad327, e327, hx327_0⟩ := Kd.at_int HR326_0.out x16_5 p327 q327
                           cases e327
                           replace hx327_0 := (HB.out.cell (World.block_lt_of_cell? w _ hx327_0)).trans hx327_0
                           replace p327 := eq_true p327
                           replace q327 := eq_true q327
                           go_wp2_with (first | ((with_reducible refine gate_callee (f := 33) rfl ?_); refine goesL_ (some 127) rfl rfl Try.func33 (by kernel_rfl) rfl #[.slice Ao42 t306.length co42, .int .i64 (rd (rd_L1 l0 x13_3) x16_5)] rfl (by (try simp only [List.map_toArray, List.map_cons, List.map_nil]); first | done | rfl | (simp only [List.length_drop, List.length_take]; rfl)) ?_; (with_reducible refine (shacklelaw16_place.calls k5 _ _ t306 (rd (rd_L1 l0 x13_3) x16_5) t328 _ ?side1 ?side2 A58.out).mono ?_); (case side1 => repeat (first | exact (Kd.R_reads' HO_7.out).2.2 | (with_reducible refine Kd.C_alloc ?_ _) | (with_reducible refine Kd.C_drewN ?_ _) | (with_reducible refine Kd.C_drew ?_))); (case side2 => exact (Kd.R_reads' HO_7.out).2.1); rintro e w' ⟨rfl, ⟨nd, rfl⟩⟩; refine ⟨_, rfl, ?_⟩))
                           go_ret
                           exact ⟨by first | rfl | (simp [errW_none, errW_some] <;> rfl) | (simp [*, errW_none, errW_some] <;> rfl), by repeat (first | (with_reducible first | exact HB.out | apply below_alloc | apply pw_below_drewN | apply below_drew1) | exact HB.out)⟩
                          ·rw [if_neg c60] at H
                           have c60b0 : decide (t321 ≤ t328) = false := decide_eq_false c60
                           clear c60
                           have H' := Aside0.mk H
                           clear H
                           have p325 : 0 ≤ (x13_3 : Int) := of_decide_eq_true (by assumption)
                           have q325 : x13_3 < (l0.length : Int) := of_decide_eq_true (by assumption)
                           obtain ⟨ad325, A325_0, c325_0, e325, hx325_0, hl325_0, hi325_0⟩ := at_L1 HR0.out x13_3 p325 q325
                           cases e325
                           replace hx325_0 := (HB.out.cell (World.block_lt_of_cell? w _ hx325_0)).trans hx325_0
                           have HR325_0 := Aside0.mk hi325_0
                           have HC325_0 := Aside0.mk hl325_0
                           clear hi325_0 hl325_0
                           replace p325 := eq_true p325
                           replace q325 := eq_true q325
                           have p326 : 0 ≤ (x13_3 : Int) := of_decide_eq_true (by assumption)
                           have q326 : x13_3 < (l0.length : Int) := of_decide_eq_true (by assumption)
                           obtain ⟨ad326, A326_0, c326_0, e326, hx326_0, hl326_0, hi326_0⟩ := at_L1 HR0.out x13_3 p326 q326
                           obtain rfl : ad325 = ad326 := (by injection e326)
                           replace hx326_0 := (HB.out.cell (World.block_lt_of_cell? w _ hx326_0)).trans hx326_0
                           have HR326_0 := Aside0.mk hi326_0
                           have HC326_0 := Aside0.mk hl326_0
                           clear hi326_0 hl326_0
                           replace p326 := eq_true p326
                           replace q326 := eq_true q326
                           have ea_ := Option.some.inj (hx325_0.symm.trans hx326_0)
                           injection ea_ with ea_ en_ ec_
                           subst ea_
                           subst ec_
                           clear en_
                           have p327 : 0 ≤ (x16_5 : Int) := of_decide_eq_true (by assumption)
                           have q327 : x16_5 < ((rd_L1 l0 x13_3).length : Int) := of_decide_eq_true (by assumption)
                           obtain ⟨ad327, e327, hx327_0⟩ := Kd.at_int HR326_0.out x16_5 p327 q327
                           cases e327
                           replace hx327_0 := (HB.out.cell (World.block_lt_of_cell? w _ hx327_0)).trans hx327_0
                           replace p327 := eq_true p327
                           replace q327 := eq_true q327
                           go_wp2_with (first | ((with_reducible refine gate_callee (f := 33) rfl ?_); refine goesL_ (some 127) rfl rfl Try.func33 (by kernel_rfl) rfl #[.slice Ao42 t306.length co42, .int .i64 (rd (rd_L1 l0 x13_3) x16_5)] rfl (by (try simp only [List.map_toArray, List.map_cons, List.map_nil]); first | done | rfl | (simp only [List.length_drop, List.length_take]; rfl)) ?_; (with_reducible refine (shacklelaw16_place.calls k5 _ _ t306 (rd (rd_L1 l0 x13_3) x16_5) t328 _ ?side1 ?side2 A58.out).mono ?_); (case side1 => repeat (first | exact (Kd.R_reads' HO_7.out).2.2 | (with_reducible refine Kd.C_alloc ?_ _) | (with_reducible refine Kd.C_drewN ?_ _) | (with_reducible refine Kd.C_drew ?_))); (case side2 => exact (Kd.R_reads' HO_7.out).2.1); rintro e w' ⟨rfl, ⟨nd, rfl⟩⟩; refine ⟨_, rfl, ?_⟩))
                           go_roundg k5
                           case measure => have := HK1.out; have := HJ25.out; have := HK3.out; have := HJ39.out; have := HK5.out; omega
                           case rel => exact ⟨(wrap64 (x16_5 + 1)), (by first | rfl | (simp; done) | (simp [*]; done)), H', ⟨by have := HK1.out; have := HJ25.out; have := HK3.out; have := HJ39.out; have := HK5.out; omega⟩, ⟨by (with_reducible repeat (first | apply Kd.R_alloc | apply Kd.R_drewN | apply Kd.R_drew)); exact HO_6.out⟩, ⟨by (with_reducible repeat (first | apply Kd.R_alloc | apply Kd.R_drewN | apply Kd.R_drew)); exact HO_7.out⟩, ⟨by (with_reducible repeat (first | apply Kd.R_alloc | apply Kd.R_drewN | apply Kd.R_drew)); exact HO_10.out⟩, ⟨by repeat (first | (with_reducible first | exact HB.out | apply below_alloc | apply pw_below_drewN | apply below_drew1) | exact HB.out)⟩⟩
                        ·rw [if_neg c57] at H
                         exact absurd H (by simp)
                       ·rw [if_neg c56] at H
                        have c56b0 : decide (x16_5 < ((rd_L1 l0 x13_3).length : Int)) = false := decide_eq_false c56
                        clear c56
                        have H' := Aside0.mk H
                        clear H
                        have p325 : 0 ≤ (x13_3 : Int) := of_decide_eq_true (by assumption)
                        have q325 : x13_3 < (l0.length : Int) := of_decide_eq_true (by assumption)
                        obtain ⟨ad325, A325_0, c325_0, e325, hx325_0, hl325_0, hi325_0⟩ := at_L1 HR0.out x13_3 p325 q325
                        cases e325
                        replace hx325_0 := (HB.out.cell (World.block_lt_of_cell? w _ hx325_0)).trans hx325_0
                        have HR325_0 := Aside0.mk hi325_0
                        have HC325_0 := Aside0.mk hl325_0
                        clear hi325_0 hl325_0
                        replace p325 := eq_true p325
                        replace q325 := eq_true q325
                        go_wp2
                        go_roundg k5
                        case measure => have := HK1.out; have := HJ25.out; have := HK3.out; have := HJ39.out; have := HK5.out; omega
                        case rel => exact ⟨((wrap64 (x12_3 + 1))), (wrap64 (x13_3 + 1)), (by first | rfl | (simp; done) | (simp [*]; done)), (by first | rfl | (simp; done) | (simp [*]; done)), H', ⟨by have := HK1.out; have := HJ25.out; have := HK3.out; have := HJ39.out; have := HK5.out; omega⟩, ⟨by (with_reducible repeat (first | apply Kd.R_alloc | apply Kd.R_drewN | apply Kd.R_drew)); exact HO_6.out⟩, ⟨by (with_reducible repeat (first | apply Kd.R_alloc | apply Kd.R_drewN | apply Kd.R_drew)); exact HO_7.out⟩, ⟨by (with_reducible repeat (first | apply Kd.R_alloc | apply Kd.R_drewN | apply Kd.R_drew)); exact HO_10.out⟩, ⟨by repeat (first | (with_reducible first | exact HB.out | apply below_alloc | apply pw_below_drewN | apply below_drew1) | exact HB.out)⟩⟩
                      ·rw [if_neg c55] at H
                       exact absurd H (by simp)
                     ·rw [if_neg c54] at H
                      exact absurd H (by simp)
                  ·replace c52 := Bool.eq_false_iff.mpr c52
                   subst c52
                   have H1 : (shacklelaw16_GraphBegins.l1 kj39 l0 t301 t303 t306 t316 t319 x12_3 (wrap64 (x13_3 + 1))) = some r := by rw [if_neg (show ¬ (false = true) by decide)] at H; exact H
                   clear H
                   have H := H1
                   clear H1
                   have H' := Aside0.mk H
                   clear H
                   obtain ⟨Ao61, co61, eo61⟩ := Kd.R_slice HO_10.out
                   subst eo61
                   have p324 : 0 ≤ (x13_3 : Int) := of_decide_eq_true (by assumption)
                   have q324 : x13_3 < (t316.length : Int) := of_decide_eq_true (by assumption)
                   obtain ⟨ad324, e324, hx324_0⟩ := Kd.at_bool (Kd.R_reads' HO_10.out).2.2 x13_3 p324 q324
                   (try rw [← Nbq51.out] at hx324_0)
                   cases e324
                   replace p324 := eq_true p324
                   replace q324 := eq_true q324
                   go_wp2
                   go_roundg kj39
                   case measure => have := HK1.out; have := HJ25.out; have := HK3.out; have := HJ39.out; omega
                   case rel => exact ⟨(x12_3), (wrap64 (x13_3 + 1)), (by first | rfl | (simp; done) | (simp [*]; done)), (by first | rfl | (simp; done) | (simp [*]; done)), H', ⟨by have := HK1.out; have := HJ25.out; have := HK3.out; have := HJ39.out; omega⟩, ⟨by (with_reducible repeat (first | apply Kd.R_alloc | apply Kd.R_drewN | apply Kd.R_drew)); exact HO_6.out⟩, ⟨by (with_reducible repeat (first | apply Kd.R_alloc | apply Kd.R_drewN | apply Kd.R_drew)); exact HO_7.out⟩, ⟨by (with_reducible repeat (first | apply Kd.R_alloc | apply Kd.R_drewN | apply Kd.R_drew)); exact HO_10.out⟩, ⟨by repeat (first | (with_reducible first | exact HB.out | apply below_alloc | apply pw_below_drewN | apply below_drew1) | exact HB.out)⟩⟩
                 ·rw [if_neg c50] at H
                  exact absurd H (by simp)
                ·rw [if_neg c49] at H
                 exact absurd H (by simp)
            ·rw [if_neg c37] at H
             have c37b0 : decide (x13_3 < (l0.length : Int)) = false := decide_eq_false c37
             clear c37
             by_cases c62 : t301 = true
             ·subst c62
              have H1 : (some (x12_3 == (t303.length : Int))) = some r := by rw [if_pos rfl] at H; exact H
              clear H
              have H := H1
              clear H1
              obtain rfl := Option.some.inj H
              obtain ⟨Ao63, co63, eo63⟩ := Kd.R_slice HO_6.out
              subst eo63
              go_wp2
              go_ret
              exact ⟨by first | rfl | (simp [errW_none, errW_some] <;> rfl) | (simp [*, errW_none, errW_some] <;> rfl), by repeat (first | (with_reducible first | exact HB.out | apply below_alloc | apply pw_below_drewN | apply below_drew1) | exact HB.out)⟩
             ·replace c62 := Bool.eq_false_iff.mpr c62
              subst c62
              have H1 : (some false) = some r := by rw [if_neg (show ¬ (false = true) by decide)] at H; exact H
              clear H
              have H := H1
              clear H1
              obtain rfl := Option.some.inj H
              go_wp2
              go_ret
              exact ⟨by first | rfl | (simp [errW_none, errW_some] <;> rfl) | (simp [*, errW_none, errW_some] <;> rfl), by repeat (first | (with_reducible first | exact HB.out | apply below_alloc | apply pw_below_drewN | apply below_drew1) | exact HB.out)⟩
   ·rw [if_neg c9] at H
    exact absurd H (by simp)
  ·rw [if_neg c8] at H
   exact absurd H (by simp)
 ·replace c5 := Bool.eq_false_iff.mpr c5
  subst c5
  have H1 : (some t301) = some r := by rw [if_neg (show ¬ (false = true) by decide)] at H; exact H
  clear H
  have H := H1
  clear H1
  obtain rfl := Option.some.inj H
  go_enter Try.func9, Try.ntmps9
  go_wp2_with (first | ((with_reducible refine gate_callee (f := 22) rfl ?_); refine goesL_ (some 18) rfl rfl Try.func22 (by kernel_rfl) rfl #[] rfl (by (try simp only [List.map_toArray, List.map_cons, List.map_nil]); first | done | rfl | (simp only [List.length_drop, List.length_take]; rfl)) ?_; (with_reducible refine (shacklelaw16_up.calls k  t301 _ A3.out).mono ?_); rintro e w64 ⟨rfl, hb⟩; refine ⟨_, rfl, ?_⟩; have n0_ := Aside0.mk (below_step (by repeat (first | (with_reducible first | exact HB.out | apply below_alloc | apply pw_below_drewN | apply below_drew1) | exact HB.out)) hb); clear HB; have HB := n0_; clear n0_; (try clear hb); (try clear hb2); (try clear hk); (try clear hi)) | ((with_reducible refine gate_callee (f := 23) rfl ?_); refine goesL_ (some 20) rfl rfl Try.func23 (by kernel_rfl) rfl #[.slice A0 l0.length c0] rfl (by (try simp only [List.map_toArray, List.map_cons, List.map_nil]); first | done | rfl | (simp only [List.length_drop, List.length_take]; rfl)) ?_; (with_reducible refine (shacklelaw16_small.calls k _ _ l0 false _ ?side1 ?side2 A4.out).mono ?_); (case side1 => repeat (first | exact (Kd.C_below HR0.out HB.out) | (with_reducible refine Kd.C_alloc ?_ _) | (with_reducible refine Kd.C_drewN ?_ _) | (with_reducible refine Kd.C_drew ?_))); (case side2 => exact HC0.out); rintro e w' ⟨rfl, ⟨nd, rfl⟩⟩; refine ⟨_, rfl, ?_⟩))
  go_ret
  exact ⟨by first | rfl | (simp [errW_none, errW_some] <;> rfl) | (simp [*, errW_none, errW_some] <;> rfl), by repeat (first | (with_reducible first | exact HB.out | apply below_alloc | apply pw_below_drewN | apply below_drew1) | exact HB.out)⟩

end Go.Proofs.Ytlohkhadbkahdaa.QGraph
