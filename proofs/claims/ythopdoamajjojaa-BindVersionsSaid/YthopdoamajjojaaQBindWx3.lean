-- Laid by wip/hook.py (this session's own program) out of the translation; with contracts that were written by hand.
import Derived.Test.YthopdoamajjojaaQBindWx0
import Derived.Test.YthopdoamajjojaaQBindWx2
namespace Go.Proofs.Ythopdoamajjojaa.QBindW
open Go.RowKit Go.Proofs.YthopdoamajjojaaW.PrintWords Go.Proofs.YthopdoamajjojaaW.PrintLast Go.Proofs.YthopdoamajjojaaW.PrintMore
attribute [local go_sem] max2_int min2_int max_two min_two max_three min_three max_four min_four   -- for this text's walks alone
set_option linter.unusedVariables false
set_option linter.unusedSimpArgs false

/-! ### shackleref17_Versions: function 28 -/
mutual
def shackleref17_Versions.l0 : Nat → List (S127) → List ByteArray → Int → Option (Int × ByteArray × ByteArray × ByteArray × Bool)
 | 0, _, _, _ => none
 | k + 1, x0, x1, x7 => if x7 < (x0.length : Int) then (shackleref17_Versions.l1 k x0 x1 x7 0) else (some (0, (⟨#[]⟩ : ByteArray), (⟨#[]⟩ : ByteArray), (⟨#[]⟩ : ByteArray), true))
def shackleref17_Versions.l1 : Nat → List (S127) → List ByteArray → Int → Int → Option (Int × ByteArray × ByteArray × ByteArray × Bool)
 | 0, _, _, _, _ => none
 | k + 1, x0, x1, x7, x8 => if 0 ≤ x7 then (if x7 < (x0.length : Int) then (if x8 < (((rd_T127 x0 x7).f8.f3).length : Int) then (if 0 ≤ x8 then (shackleref17_Versions.l2 k x0 x1 x7 x8 0 ((rd_T66 ((rd_T127 x0 x7).f8.f3) x8).f0) ((rd_T66 ((rd_T127 x0 x7).f8.f3) x8).f1)) else (none)) else (shackleref17_Versions.l0 k x0 x1 (wrap64 (x7 + 1)))) else (none)) else (none)
def shackleref17_Versions.l2 : Nat → List (S127) → List ByteArray → Int → Int → Int → ByteArray → List (S68) → Option (Int × ByteArray × ByteArray × ByteArray × Bool)
 | 0, _, _, _, _, _, _, _ => none
 | k + 1, x0, x1, x7, x8, x10, x124000, x124001 => if x10 < (x124001.length : Int) then (if 0 ≤ x10 then ((shackleref17_provides.f k x0 x1 x124000 ((rd_T68 x124001 x10).f2)).bind fun t125 => (if (rd_T68 x124001 x10).f1 = true then (shackleref17_Versions.l2 k x0 x1 x7 x8 (wrap64 (x10 + 1)) x124000 x124001) else (if t125 = true then (shackleref17_Versions.l2 k x0 x1 x7 x8 (wrap64 (x10 + 1)) x124000 x124001) else (some (x7, (⟨#[]⟩ : ByteArray), (rd_T68 x124001 x10).f2, x124000, false))))) else (none)) else (shackleref17_Versions.l1 k x0 x1 x7 (wrap64 (x8 + 1)))
end
def shackleref17_Versions.f (k : Nat) (l0 : List (S127)) (l1 : List ByteArray) : Option (Int × ByteArray × ByteArray × ByteArray × Bool) := shackleref17_Versions.l0 k l0 l1 0
theorem shackleref17_Versions.mono_l : ∀ k, (∀ y0 y1 y2, LeO (shackleref17_Versions.l0 k y0 y1 y2) (shackleref17_Versions.l0 (k + 1) y0 y1 y2)) ∧ (∀ y0 y1 y2 y3, LeO (shackleref17_Versions.l1 k y0 y1 y2 y3) (shackleref17_Versions.l1 (k + 1) y0 y1 y2 y3)) ∧ (∀ y0 y1 y2 y3 y4 y5 y6, LeO (shackleref17_Versions.l2 k y0 y1 y2 y3 y4 y5 y6) (shackleref17_Versions.l2 (k + 1) y0 y1 y2 y3 y4 y5 y6))
 | 0 => ⟨fun _ _ _ r h => by simp [shackleref17_Versions.l0] at h, fun _ _ _ _ r h => by simp [shackleref17_Versions.l1] at h, fun _ _ _ _ _ _ _ r h => by simp [shackleref17_Versions.l2] at h⟩
 | k + 1 => by
  obtain ⟨ih0, ih1, ih2⟩ := shackleref17_Versions.mono_l k
  refine ⟨?_, ?_, ?_⟩
  ·intro y0 y1 y2
   unfold shackleref17_Versions.l0
   repeat' first
   | (with_reducible exact ih0 _ _ _)
   | (with_reducible exact ih1 _ _ _ _)
   | (with_reducible exact ih2 _ _ _ _ _ _ _)
   | (with_reducible exact shackleref17_provides.mono _ _ _ _ _)
   | (with_reducible exact LeO.refl _)
   | (with_reducible exact LeO.none _)
   | (with_reducible refine LeO.ite ?_ ?_)
   | (with_reducible refine LeO.bind ?_ (fun _ => ?_))
   | exact ih0 _ _ _
   | exact ih1 _ _ _ _
   | exact ih2 _ _ _ _ _ _ _
   | exact shackleref17_provides.mono _ _ _ _ _
   | exact LeO.none _
   | refine LeO.ite ?_ ?_
   | refine LeO.bind ?_ (fun _ => ?_)
  ·intro y0 y1 y2 y3
   unfold shackleref17_Versions.l1
   repeat' first
   | (with_reducible exact ih0 _ _ _)
   | (with_reducible exact ih1 _ _ _ _)
   | (with_reducible exact ih2 _ _ _ _ _ _ _)
   | (with_reducible exact shackleref17_provides.mono _ _ _ _ _)
   | (with_reducible exact LeO.refl _)
   | (with_reducible exact LeO.none _)
   | (with_reducible refine LeO.ite ?_ ?_)
   | (with_reducible refine LeO.bind ?_ (fun _ => ?_))
   | exact ih0 _ _ _
   | exact ih1 _ _ _ _
   | exact ih2 _ _ _ _ _ _ _
   | exact shackleref17_provides.mono _ _ _ _ _
   | exact LeO.none _
   | refine LeO.ite ?_ ?_
   | refine LeO.bind ?_ (fun _ => ?_)
  ·intro y0 y1 y2 y3 y4 y5 y6
   unfold shackleref17_Versions.l2
   repeat' first
   | (with_reducible exact ih0 _ _ _)
   | (with_reducible exact ih1 _ _ _ _)
   | (with_reducible exact ih2 _ _ _ _ _ _ _)
   | (with_reducible exact shackleref17_provides.mono _ _ _ _ _)
   | (with_reducible exact LeO.refl _)
   | (with_reducible exact LeO.none _)
   | (with_reducible refine LeO.ite ?_ ?_)
   | (with_reducible refine LeO.bind ?_ (fun _ => ?_))
   | exact ih0 _ _ _
   | exact ih1 _ _ _ _
   | exact ih2 _ _ _ _ _ _ _
   | exact shackleref17_provides.mono _ _ _ _ _
   | exact LeO.none _
   | refine LeO.ite ?_ ?_
   | refine LeO.bind ?_ (fun _ => ?_)
theorem shackleref17_Versions.mono : ∀ a0 a1 k, LeO (shackleref17_Versions.f k a0 a1) (shackleref17_Versions.f (k + 1) a0 a1) := by
 intro a0 a1 k
 obtain ⟨ih0, ih1, ih2⟩ := shackleref17_Versions.mono_l k
 unfold shackleref17_Versions.f
 repeat' first
   | (with_reducible exact ih0 _ _ _)
   | (with_reducible exact ih1 _ _ _ _)
   | (with_reducible exact ih2 _ _ _ _ _ _ _)
   | (with_reducible exact shackleref17_provides.mono _ _ _ _ _)
   | (with_reducible exact LeO.refl _)
   | (with_reducible exact LeO.none _)
   | (with_reducible refine LeO.ite ?_ ?_)
   | (with_reducible refine LeO.bind ?_ (fun _ => ?_))
   | exact ih0 _ _ _
   | exact ih1 _ _ _ _
   | exact ih2 _ _ _ _ _ _ _
   | exact shackleref17_provides.mono _ _ _ _ _
   | exact LeO.none _
   | refine LeO.ite ?_ ?_
   | refine LeO.bind ?_ (fun _ => ?_)
def shackleref17_Versions.T11 : Bool × List (List Nat × List Nat) := (true, [([], []), ([], []), ([], []), ([2], [2]), ([], []), ([4], [4]), ([], []), ([5, 6], [5, 6]), ([7], [7]), ([8], [8]), ([0, 1, 3, 9], [0, 1, 3, 9]), ([10, 10, 0, 1, 2, 3, 4, 5, 6, 7, 8, 9, 10], [10])])
def shackleref17_Versions.B11 : List Nat := [0, 0, 0, 4, 0, 16, 0, 112, 240, 496, 1023, 2047]
theorem shackleref17_Versions.tab11 : rtab .any (opsOf Try.f28 11) = shackleref17_Versions.T11 := by kernel_rfl
theorem shackleref17_Versions.bits11 : waitsOk shackleref17_Versions.T11.2 shackleref17_Versions.B11 = true := by kernel_rfl
def shackleref17_Versions.T13 : Bool × List (List Nat × List Nat) := (true, [([], []), ([], []), ([1], [1]), ([], []), ([2, 3], [2, 3]), ([4], [4]), ([5], [5]), ([], []), ([7], [7]), ([6, 8], [6, 8]), ([0, 0], [0]), ([9, 10, 0, 1, 2, 3, 4, 5, 6, 7, 8, 9, 10], [9]), ([11, 0, 1, 2, 3, 4, 5, 6, 7, 8, 9, 10, 11], [])])
def shackleref17_Versions.B13 : List Nat := [0, 0, 2, 0, 14, 30, 62, 0, 128, 510, 1, 2047, 4095]
theorem shackleref17_Versions.tab13 : rtab .any (opsOf Try.f28 13) = shackleref17_Versions.T13 := by kernel_rfl
theorem shackleref17_Versions.bits13 : waitsOk shackleref17_Versions.T13.2 shackleref17_Versions.B13 = true := by kernel_rfl
set_option maxHeartbeats 8000000 in
set_option maxRecDepth 100000 in
theorem shackleref17_Versions.calls (k : Nat) (A0 : Option Addr) (c0 : Nat) (l0 : List (S127)) (A1 : Option Addr) (c1 : Nat) (l1 : List ByteArray) (r1 : Int) (r2 : ByteArray) (r3 : ByteArray) (r4 : ByteArray) (r5 : Bool) (w : World) (hr0 : Kd.C k127 w A0 l0.length l0) (hc0 : l0.length ≤ c0) (hr1 : Kd.C Kd.string w A1 l1.length l1) (hc1 : l1.length ≤ c1) (h : shackleref17_Versions.f k l0 l1 = some (r1, r2, r3, r4, r5)) :
  Calls Try.prog 28 #[.slice A0 l0.length c0, .slice A1 l1.length c1] w fun e w' => e = .returned (.tuple #[.int .i64 r1, .agg #[.string r2, .string r3, .string r4], .bool r5]) ∧ Below w.heap.size w w' := by
 have hu74 := Try.underlying74
 have hu66 := Try.underlying66
 have HR0 := Aside0.mk hr0
 have HC0 := Aside0.mk hc0
 clear hr0 hc0
 have HR1 := Aside0.mk hr1
 have HC1 := Aside0.mk hc1
 clear hr1 hc1
 have HB := Aside0.mk (Below.refl w.heap.size w)
 have H : (shackleref17_Versions.l0 k l0 l1 0) = some (r1, r2, r3, r4, r5) := h
 clear h
 have H' := Aside0.mk H
 clear H
 go_enter Try.func28, Try.ntmps28
 go_wp2_with (first | ((with_reducible refine gate_dst (N := 5) rfl ?_); refine box_event ?hg (N := 5) ?hd (cs := #[.string (⟨#[]⟩ : ByteArray), .string (⟨#[]⟩ : ByteArray), .string (⟨#[]⟩ : ByteArray)]) (t := 74) ?hr ?_; (case hd => rfl); (case hg => rfl); (case hr => first | (go_simp; done) | (go_simp; rfl)); intro gb119 hg w3 hbox hb; have n0_ := Aside0.mk (below_step (by repeat (first | (with_reducible first | exact HB.out | apply below_alloc | apply pw_below_drewN | apply below_drew1) | exact HB.out)) hb); have n1_ := Aside0.mk (hbox); have n2_ := Aside0.mk ((by rw [hg]; exact (below_size (by repeat (first | (with_reducible first | exact HB.out | apply below_alloc | apply pw_below_drewN | apply below_drew1) | exact HB.out))) : w.heap.size ≤ gb119)); have n3_ := Aside0.mk ((by rw [hg]; exact (below_size (by repeat (first | (with_reducible first | exact HB.out | apply below_alloc | apply pw_below_drewN | apply below_drew1) | exact HB.out))) : w.heap.size ≤ gb119)); clear HB; have HB := n0_; have BK119 := n1_; have GW119 := n2_; have GE119 := n3_; clear n0_ n1_ n2_ n3_; clear hb hbox hg))
 go_loopg [7] k (fun kq v7 w' => ∃ (x7_1 : Int) (x120000_1 : ByteArray) (x120001_1 : ByteArray) (x120002_1 : ByteArray), v7 = .int .i64 x7_1 ∧ Aside0 (shackleref17_Versions.l0 kq l0 l1 x7_1 = some (r1, r2, r3, r4, r5)) ∧ Aside0 (kq ≤ k) ∧ Aside0 (w'.heap[gb119]? = some (.cells #[.string x120000_1, .string x120001_1, .string x120002_1] 74 (0, 0))) ∧ Aside0 (Below w.heap.size w w'))
 case atStart => exact ⟨(0), ((⟨#[]⟩ : ByteArray)), ((⟨#[]⟩ : ByteArray)), ((⟨#[]⟩ : ByteArray)), (by first | rfl | (simp; done) | (simp [*]; done)), H', ⟨Nat.le_refl _⟩, ⟨by (with_reducible repeat (first | refine blk_drewN ?_ _ | refine blk_drew ?_ | refine blk_alloc ?_ _)); exact BK119.out⟩, ⟨by repeat (first | (with_reducible first | exact HB.out | apply below_alloc | apply pw_below_drewN | apply below_drew1 | refine below_set ?_ GE119.out) | exact HB.out)⟩⟩
 case round =>
  clear H'
  try clear c1
  try clear c2
  try clear p2
  obtain ⟨x7_1, x120000_1, x120001_1, x120002_1, rfl, HA, HK1, BK119, HB⟩ := hrel
  cases gk with
  | zero => exact absurd HA.out (by simp [shackleref17_Versions.l0])
  | succ k1 =>
   have H := HA.out
   clear HA
   simp only [shackleref17_Versions.l0] at H
   by_cases c4 : x7_1 < (l0.length : Int)
   ·rw [if_pos c4] at H
    have c4b0 : decide (x7_1 < (l0.length : Int)) = true := decide_eq_true c4
    clear c4
    have H' := Aside0.mk H
    clear H
    go_wp2
    go_loopg [8] k1 (fun kq v8 w' => ∃ (x8_2 : Int) (x120000_2 : ByteArray) (x120001_2 : ByteArray) (x120002_2 : ByteArray), v8 = .int .i64 x8_2 ∧ Aside0 (shackleref17_Versions.l1 kq l0 l1 x7_1 x8_2 = some (r1, r2, r3, r4, r5)) ∧ Aside0 (kq ≤ k1) ∧ Aside0 (w'.heap[gb119]? = some (.cells #[.string x120000_2, .string x120001_2, .string x120002_2] 74 (0, 0))) ∧ Aside0 (Below w.heap.size w w'))
    case atStart => exact ⟨(0), (x120000_1), (x120001_1), (x120002_1), (by first | rfl | (simp; done) | (simp [*]; done)), H', ⟨Nat.le_refl _⟩, ⟨by (with_reducible repeat (first | refine blk_drewN ?_ _ | refine blk_drew ?_ | refine blk_alloc ?_ _)); exact BK119.out⟩, ⟨by repeat (first | (with_reducible first | exact HB.out | apply below_alloc | apply pw_below_drewN | apply below_drew1 | refine below_set ?_ GE119.out) | exact HB.out)⟩⟩
    case round =>
     clear H'
     try clear c1
     try clear c2
     try clear p2
     try clear c4
     try clear c4b0
     try clear p2
     obtain ⟨x8_2, x120000_2, x120001_2, x120002_2, rfl, HA, HK2, BK119, HB⟩ := hrel
     cases gk with
     | zero => exact absurd HA.out (by simp [shackleref17_Versions.l1])
     | succ k2 =>
      have H := HA.out
      clear HA
      simp only [shackleref17_Versions.l1] at H
      by_cases c5 : 0 ≤ x7_1
      ·rw [if_pos c5] at H
       have c5b0 : decide (0 ≤ x7_1) = true := decide_eq_true c5
       clear c5
       by_cases c6 : x7_1 < (l0.length : Int)
       ·rw [if_pos c6] at H
        have c6b0 : decide (x7_1 < (l0.length : Int)) = true := decide_eq_true c6
        clear c6
        by_cases c7 : x8_2 < (((rd_T127 l0 x7_1).f8.f3).length : Int)
        ·rw [if_pos c7] at H
         have c7b0 : decide (x8_2 < (((rd_T127 l0 x7_1).f8.f3).length : Int)) = true := decide_eq_true c7
         clear c7
         by_cases c8 : 0 ≤ x8_2
         ·rw [if_pos c8] at H
          have c8b0 : decide (0 ≤ x8_2) = true := decide_eq_true c8
          clear c8
          have H' := Aside0.mk H
          clear H
          have p120 : 0 ≤ (x7_1 : Int) := of_decide_eq_true (by assumption)
          have q120 : x7_1 < (l0.length : Int) := of_decide_eq_true (by assumption)
          obtain ⟨ad120, A120_2, c120_2, A120_4, c120_4, A120_44, c120_44, A120_45, c120_45, A120_47, c120_47, A120_48, c120_48, A120_49, c120_49, A120_50, c120_50, A120_51, c120_51, A120_52, c120_52, A120_53, c120_53, e120, hx120_0, hx120_1, hx120_2, hx120_3, hx120_4, hx120_5, hx120_6, hx120_7, hx120_8, hx120_9, hx120_10, hx120_11, hx120_12, hx120_13, hx120_14, hx120_15, hx120_16, hx120_17, hx120_18, hx120_19, hx120_20, hx120_21, hx120_22, hx120_23, hx120_24, hx120_25, hx120_26, hx120_27, hx120_28, hx120_29, hx120_30, hx120_31, hx120_32, hx120_33, hx120_34, hx120_35, hx120_36, hx120_37, hx120_38, hx120_39, hx120_40, hx120_41, hx120_42, hx120_43, hx120_44, hx120_45, hx120_46, hx120_47, hx120_48, hx120_49, hx120_50, hx120_51, hx120_52, hx120_53, hl120_2, hi120_2, hl120_4, hi120_4, hl120_44, hi120_44, hl120_45, hi120_45, hl120_47, hi120_47, hl120_48, hi120_48, hl120_49, hi120_49, hl120_50, hi120_50, hl120_51, hi120_51, hl120_52, hi120_52, hl120_53, hi120_53⟩ := at_T127 HR0.out x7_1 p120 q120
          cases e120
          replace hx120_0 := (HB.out.cell (World.block_lt_of_cell? w _ hx120_0)).trans hx120_0
          replace hx120_1 := (HB.out.cell (World.block_lt_of_cell? w _ hx120_1)).trans hx120_1
          replace hx120_2 := (HB.out.cell (World.block_lt_of_cell? w _ hx120_2)).trans hx120_2
          replace hx120_3 := (HB.out.cell (World.block_lt_of_cell? w _ hx120_3)).trans hx120_3
          replace hx120_4 := (HB.out.cell (World.block_lt_of_cell? w _ hx120_4)).trans hx120_4
          replace hx120_5 := (HB.out.cell (World.block_lt_of_cell? w _ hx120_5)).trans hx120_5
          replace hx120_6 := (HB.out.cell (World.block_lt_of_cell? w _ hx120_6)).trans hx120_6
          replace hx120_7 := (HB.out.cell (World.block_lt_of_cell? w _ hx120_7)).trans hx120_7
          replace hx120_8 := (HB.out.cell (World.block_lt_of_cell? w _ hx120_8)).trans hx120_8
          replace hx120_9 := (HB.out.cell (World.block_lt_of_cell? w _ hx120_9)).trans hx120_9
          replace hx120_10 := (HB.out.cell (World.block_lt_of_cell? w _ hx120_10)).trans hx120_10
          replace hx120_11 := (HB.out.cell (World.block_lt_of_cell? w _ hx120_11)).trans hx120_11
          replace hx120_12 := (HB.out.cell (World.block_lt_of_cell? w _ hx120_12)).trans hx120_12
          replace hx120_13 := (HB.out.cell (World.block_lt_of_cell? w _ hx120_13)).trans hx120_13
          replace hx120_14 := (HB.out.cell (World.block_lt_of_cell? w _ hx120_14)).trans hx120_14
          replace hx120_15 := (HB.out.cell (World.block_lt_of_cell? w _ hx120_15)).trans hx120_15
          replace hx120_16 := (HB.out.cell (World.block_lt_of_cell? w _ hx120_16)).trans hx120_16
          replace hx120_17 := (HB.out.cell (World.block_lt_of_cell? w _ hx120_17)).trans hx120_17
          replace hx120_18 := (HB.out.cell (World.block_lt_of_cell? w _ hx120_18)).trans hx120_18
          replace hx120_19 := (HB.out.cell (World.block_lt_of_cell? w _ hx120_19)).trans hx120_19
          replace hx120_20 := (HB.out.cell (World.block_lt_of_cell? w _ hx120_20)).trans hx120_20
          replace hx120_21 := (HB.out.cell (World.block_lt_of_cell? w _ hx120_21)).trans hx120_21
          replace hx120_22 := (HB.out.cell (World.block_lt_of_cell? w _ hx120_22)).trans hx120_22
          replace hx120_23 := (HB.out.cell (World.block_lt_of_cell? w _ hx120_23)).trans hx120_23
          replace hx120_24 := (HB.out.cell (World.block_lt_of_cell? w _ hx120_24)).trans hx120_24
          replace hx120_25 := (HB.out.cell (World.block_lt_of_cell? w _ hx120_25)).trans hx120_25
          replace hx120_26 := (HB.out.cell (World.block_lt_of_cell? w _ hx120_26)).trans hx120_26
          replace hx120_27 := (HB.out.cell (World.block_lt_of_cell? w _ hx120_27)).trans hx120_27
          replace hx120_28 := (HB.out.cell (World.block_lt_of_cell? w _ hx120_28)).trans hx120_28
          replace hx120_29 := (HB.out.cell (World.block_lt_of_cell? w _ hx120_29)).trans hx120_29
          replace hx120_30 := (HB.out.cell (World.block_lt_of_cell? w _ hx120_30)).trans hx120_30
          replace hx120_31 := (HB.out.cell (World.block_lt_of_cell? w _ hx120_31)).trans hx120_31
          replace hx120_32 := (HB.out.cell (World.block_lt_of_cell? w _ hx120_32)).trans hx120_32
          replace hx120_33 := (HB.out.cell (World.block_lt_of_cell? w _ hx120_33)).trans hx120_33
          replace hx120_34 := (HB.out.cell (World.block_lt_of_cell? w _ hx120_34)).trans hx120_34
          replace hx120_35 := (HB.out.cell (World.block_lt_of_cell? w _ hx120_35)).trans hx120_35
          replace hx120_36 := (HB.out.cell (World.block_lt_of_cell? w _ hx120_36)).trans hx120_36
          replace hx120_37 := (HB.out.cell (World.block_lt_of_cell? w _ hx120_37)).trans hx120_37
          replace hx120_38 := (HB.out.cell (World.block_lt_of_cell? w _ hx120_38)).trans hx120_38
          replace hx120_39 := (HB.out.cell (World.block_lt_of_cell? w _ hx120_39)).trans hx120_39
          replace hx120_40 := (HB.out.cell (World.block_lt_of_cell? w _ hx120_40)).trans hx120_40
          replace hx120_41 := (HB.out.cell (World.block_lt_of_cell? w _ hx120_41)).trans hx120_41
          replace hx120_42 := (HB.out.cell (World.block_lt_of_cell? w _ hx120_42)).trans hx120_42
          replace hx120_43 := (HB.out.cell (World.block_lt_of_cell? w _ hx120_43)).trans hx120_43
          replace hx120_44 := (HB.out.cell (World.block_lt_of_cell? w _ hx120_44)).trans hx120_44
          replace hx120_45 := (HB.out.cell (World.block_lt_of_cell? w _ hx120_45)).trans hx120_45
          replace hx120_46 := (HB.out.cell (World.block_lt_of_cell? w _ hx120_46)).trans hx120_46
          replace hx120_47 := (HB.out.cell (World.block_lt_of_cell? w _ hx120_47)).trans hx120_47
          replace hx120_48 := (HB.out.cell (World.block_lt_of_cell? w _ hx120_48)).trans hx120_48
          replace hx120_49 := (HB.out.cell (World.block_lt_of_cell? w _ hx120_49)).trans hx120_49
          replace hx120_50 := (HB.out.cell (World.block_lt_of_cell? w _ hx120_50)).trans hx120_50
          replace hx120_51 := (HB.out.cell (World.block_lt_of_cell? w _ hx120_51)).trans hx120_51
          replace hx120_52 := (HB.out.cell (World.block_lt_of_cell? w _ hx120_52)).trans hx120_52
          replace hx120_53 := (HB.out.cell (World.block_lt_of_cell? w _ hx120_53)).trans hx120_53
          have HR120_2 := Aside0.mk hi120_2
          have HC120_2 := Aside0.mk hl120_2
          clear hi120_2 hl120_2
          have HR120_4 := Aside0.mk hi120_4
          have HC120_4 := Aside0.mk hl120_4
          clear hi120_4 hl120_4
          have HR120_44 := Aside0.mk hi120_44
          have HC120_44 := Aside0.mk hl120_44
          clear hi120_44 hl120_44
          have HR120_45 := Aside0.mk hi120_45
          have HC120_45 := Aside0.mk hl120_45
          clear hi120_45 hl120_45
          have HR120_47 := Aside0.mk hi120_47
          have HC120_47 := Aside0.mk hl120_47
          clear hi120_47 hl120_47
          have HR120_48 := Aside0.mk hi120_48
          have HC120_48 := Aside0.mk hl120_48
          clear hi120_48 hl120_48
          have HR120_49 := Aside0.mk hi120_49
          have HC120_49 := Aside0.mk hl120_49
          clear hi120_49 hl120_49
          have HR120_50 := Aside0.mk hi120_50
          have HC120_50 := Aside0.mk hl120_50
          clear hi120_50 hl120_50
          have HR120_51 := Aside0.mk hi120_51
          have HC120_51 := Aside0.mk hl120_51
          clear hi120_51 hl120_51
          have HR120_52 := Aside0.mk hi120_52
          have HC120_52 := Aside0.mk hl120_52
          clear hi120_52 hl120_52
          have HR120_53 := Aside0.mk hi120_53
          have HC120_53 := Aside0.mk hl120_53
          clear hi120_53 hl120_53
          replace p120 := eq_true p120
          replace q120 := eq_true q120
          have p121 : 0 ≤ (x7_1 : Int) := of_decide_eq_true (by assumption)
          have q121 : x7_1 < (l0.length : Int) := of_decide_eq_true (by assumption)
          obtain ⟨ad121, A121_2, c121_2, A121_4, c121_4, A121_44, c121_44, A121_45, c121_45, A121_47, c121_47, A121_48, c121_48, A121_49, c121_49, A121_50, c121_50, A121_51, c121_51, A121_52, c121_52, A121_53, c121_53, e121, hx121_0, hx121_1, hx121_2, hx121_3, hx121_4, hx121_5, hx121_6, hx121_7, hx121_8, hx121_9, hx121_10, hx121_11, hx121_12, hx121_13, hx121_14, hx121_15, hx121_16, hx121_17, hx121_18, hx121_19, hx121_20, hx121_21, hx121_22, hx121_23, hx121_24, hx121_25, hx121_26, hx121_27, hx121_28, hx121_29, hx121_30, hx121_31, hx121_32, hx121_33, hx121_34, hx121_35, hx121_36, hx121_37, hx121_38, hx121_39, hx121_40, hx121_41, hx121_42, hx121_43, hx121_44, hx121_45, hx121_46, hx121_47, hx121_48, hx121_49, hx121_50, hx121_51, hx121_52, hx121_53, hl121_2, hi121_2, hl121_4, hi121_4, hl121_44, hi121_44, hl121_45, hi121_45, hl121_47, hi121_47, hl121_48, hi121_48, hl121_49, hi121_49, hl121_50, hi121_50, hl121_51, hi121_51, hl121_52, hi121_52, hl121_53, hi121_53⟩ := at_T127 HR0.out x7_1 p121 q121
          obtain rfl : ad120 = ad121 := (by injection e121)
          replace hx121_0 := (HB.out.cell (World.block_lt_of_cell? w _ hx121_0)).trans hx121_0
          replace hx121_1 := (HB.out.cell (World.block_lt_of_cell? w _ hx121_1)).trans hx121_1
          replace hx121_2 := (HB.out.cell (World.block_lt_of_cell? w _ hx121_2)).trans hx121_2
          replace hx121_3 := (HB.out.cell (World.block_lt_of_cell? w _ hx121_3)).trans hx121_3
          replace hx121_4 := (HB.out.cell (World.block_lt_of_cell? w _ hx121_4)).trans hx121_4
          replace hx121_5 := (HB.out.cell (World.block_lt_of_cell? w _ hx121_5)).trans hx121_5
          replace hx121_6 := (HB.out.cell (World.block_lt_of_cell? w _ hx121_6)).trans hx121_6
          replace hx121_7 := (HB.out.cell (World.block_lt_of_cell? w _ hx121_7)).trans hx121_7
          replace hx121_8 := (HB.out.cell (World.block_lt_of_cell? w _ hx121_8)).trans hx121_8
          replace hx121_9 := (HB.out.cell (World.block_lt_of_cell? w _ hx121_9)).trans hx121_9
          replace hx121_10 := (HB.out.cell (World.block_lt_of_cell? w _ hx121_10)).trans hx121_10
          replace hx121_11 := (HB.out.cell (World.block_lt_of_cell? w _ hx121_11)).trans hx121_11
          replace hx121_12 := (HB.out.cell (World.block_lt_of_cell? w _ hx121_12)).trans hx121_12
          replace hx121_13 := (HB.out.cell (World.block_lt_of_cell? w _ hx121_13)).trans hx121_13
          replace hx121_14 := (HB.out.cell (World.block_lt_of_cell? w _ hx121_14)).trans hx121_14
          replace hx121_15 := (HB.out.cell (World.block_lt_of_cell? w _ hx121_15)).trans hx121_15
          replace hx121_16 := (HB.out.cell (World.block_lt_of_cell? w _ hx121_16)).trans hx121_16
          replace hx121_17 := (HB.out.cell (World.block_lt_of_cell? w _ hx121_17)).trans hx121_17
          replace hx121_18 := (HB.out.cell (World.block_lt_of_cell? w _ hx121_18)).trans hx121_18
          replace hx121_19 := (HB.out.cell (World.block_lt_of_cell? w _ hx121_19)).trans hx121_19
          replace hx121_20 := (HB.out.cell (World.block_lt_of_cell? w _ hx121_20)).trans hx121_20
          replace hx121_21 := (HB.out.cell (World.block_lt_of_cell? w _ hx121_21)).trans hx121_21
          replace hx121_22 := (HB.out.cell (World.block_lt_of_cell? w _ hx121_22)).trans hx121_22
          replace hx121_23 := (HB.out.cell (World.block_lt_of_cell? w _ hx121_23)).trans hx121_23
          replace hx121_24 := (HB.out.cell (World.block_lt_of_cell? w _ hx121_24)).trans hx121_24
          replace hx121_25 := (HB.out.cell (World.block_lt_of_cell? w _ hx121_25)).trans hx121_25
          replace hx121_26 := (HB.out.cell (World.block_lt_of_cell? w _ hx121_26)).trans hx121_26
          replace hx121_27 := (HB.out.cell (World.block_lt_of_cell? w _ hx121_27)).trans hx121_27
          replace hx121_28 := (HB.out.cell (World.block_lt_of_cell? w _ hx121_28)).trans hx121_28
          replace hx121_29 := (HB.out.cell (World.block_lt_of_cell? w _ hx121_29)).trans hx121_29
          replace hx121_30 := (HB.out.cell (World.block_lt_of_cell? w _ hx121_30)).trans hx121_30
          replace hx121_31 := (HB.out.cell (World.block_lt_of_cell? w _ hx121_31)).trans hx121_31
          replace hx121_32 := (HB.out.cell (World.block_lt_of_cell? w _ hx121_32)).trans hx121_32
          replace hx121_33 := (HB.out.cell (World.block_lt_of_cell? w _ hx121_33)).trans hx121_33
          replace hx121_34 := (HB.out.cell (World.block_lt_of_cell? w _ hx121_34)).trans hx121_34
          replace hx121_35 := (HB.out.cell (World.block_lt_of_cell? w _ hx121_35)).trans hx121_35
          replace hx121_36 := (HB.out.cell (World.block_lt_of_cell? w _ hx121_36)).trans hx121_36
          replace hx121_37 := (HB.out.cell (World.block_lt_of_cell? w _ hx121_37)).trans hx121_37
          replace hx121_38 := (HB.out.cell (World.block_lt_of_cell? w _ hx121_38)).trans hx121_38
          replace hx121_39 := (HB.out.cell (World.block_lt_of_cell? w _ hx121_39)).trans hx121_39
          replace hx121_40 := (HB.out.cell (World.block_lt_of_cell? w _ hx121_40)).trans hx121_40
          replace hx121_41 := (HB.out.cell (World.block_lt_of_cell? w _ hx121_41)).trans hx121_41
          replace hx121_42 := (HB.out.cell (World.block_lt_of_cell? w _ hx121_42)).trans hx121_42
          replace hx121_43 := (HB.out.cell (World.block_lt_of_cell? w _ hx121_43)).trans hx121_43
          replace hx121_44 := (HB.out.cell (World.block_lt_of_cell? w _ hx121_44)).trans hx121_44
          replace hx121_45 := (HB.out.cell (World.block_lt_of_cell? w _ hx121_45)).trans hx121_45
          replace hx121_46 := (HB.out.cell (World.block_lt_of_cell? w _ hx121_46)).trans hx121_46
          replace hx121_47 := (HB.out.cell (World.block_lt_of_cell? w _ hx121_47)).trans hx121_47
          replace hx121_48 := (HB.out.cell (World.block_lt_of_cell? w _ hx121_48)).trans hx121_48
          replace hx121_49 := (HB.out.cell (World.block_lt_of_cell? w _ hx121_49)).trans hx121_49
          replace hx121_50 := (HB.out.cell (World.block_lt_of_cell? w _ hx121_50)).trans hx121_50
          replace hx121_51 := (HB.out.cell (World.block_lt_of_cell? w _ hx121_51)).trans hx121_51
          replace hx121_52 := (HB.out.cell (World.block_lt_of_cell? w _ hx121_52)).trans hx121_52
          replace hx121_53 := (HB.out.cell (World.block_lt_of_cell? w _ hx121_53)).trans hx121_53
          have HR121_2 := Aside0.mk hi121_2
          have HC121_2 := Aside0.mk hl121_2
          clear hi121_2 hl121_2
          have HR121_4 := Aside0.mk hi121_4
          have HC121_4 := Aside0.mk hl121_4
          clear hi121_4 hl121_4
          have HR121_44 := Aside0.mk hi121_44
          have HC121_44 := Aside0.mk hl121_44
          clear hi121_44 hl121_44
          have HR121_45 := Aside0.mk hi121_45
          have HC121_45 := Aside0.mk hl121_45
          clear hi121_45 hl121_45
          have HR121_47 := Aside0.mk hi121_47
          have HC121_47 := Aside0.mk hl121_47
          clear hi121_47 hl121_47
          have HR121_48 := Aside0.mk hi121_48
          have HC121_48 := Aside0.mk hl121_48
          clear hi121_48 hl121_48
          have HR121_49 := Aside0.mk hi121_49
          have HC121_49 := Aside0.mk hl121_49
          clear hi121_49 hl121_49
          have HR121_50 := Aside0.mk hi121_50
          have HC121_50 := Aside0.mk hl121_50
          clear hi121_50 hl121_50
          have HR121_51 := Aside0.mk hi121_51
          have HC121_51 := Aside0.mk hl121_51
          clear hi121_51 hl121_51
          have HR121_52 := Aside0.mk hi121_52
          have HC121_52 := Aside0.mk hl121_52
          clear hi121_52 hl121_52
          have HR121_53 := Aside0.mk hi121_53
          have HC121_53 := Aside0.mk hl121_53
          clear hi121_53 hl121_53
          replace p121 := eq_true p121
          replace q121 := eq_true q121
          have ea_ := Option.some.inj (hx120_2.symm.trans hx121_2)
          injection ea_ with ea_ en_ ec_
          subst ea_
          subst ec_
          clear en_
          have ea_ := Option.some.inj (hx120_4.symm.trans hx121_4)
          injection ea_ with ea_ en_ ec_
          subst ea_
          subst ec_
          clear en_
          have ea_ := Option.some.inj (hx120_44.symm.trans hx121_44)
          injection ea_ with ea_ en_ ec_
          subst ea_
          subst ec_
          clear en_
          have ea_ := Option.some.inj (hx120_45.symm.trans hx121_45)
          injection ea_ with ea_ en_ ec_
          subst ea_
          subst ec_
          clear en_
          have ea_ := Option.some.inj (hx120_47.symm.trans hx121_47)
          injection ea_ with ea_ en_ ec_
          subst ea_
          subst ec_
          clear en_
          have ea_ := Option.some.inj (hx120_48.symm.trans hx121_48)
          injection ea_ with ea_ en_ ec_
          subst ea_
          subst ec_
          clear en_
          have ea_ := Option.some.inj (hx120_49.symm.trans hx121_49)
          injection ea_ with ea_ en_ ec_
          subst ea_
          subst ec_
          clear en_
          have ea_ := Option.some.inj (hx120_50.symm.trans hx121_50)
          injection ea_ with ea_ en_ ec_
          subst ea_
          subst ec_
          clear en_
          have ea_ := Option.some.inj (hx120_51.symm.trans hx121_51)
          injection ea_ with ea_ en_ ec_
          subst ea_
          subst ec_
          clear en_
          have ea_ := Option.some.inj (hx120_52.symm.trans hx121_52)
          injection ea_ with ea_ en_ ec_
          subst ea_
          subst ec_
          clear en_
          have ea_ := Option.some.inj (hx120_53.symm.trans hx121_53)
          injection ea_ with ea_ en_ ec_
          subst ea_
          subst ec_
          clear en_
          have p122 : 0 ≤ (x8_2 : Int) := of_decide_eq_true (by assumption)
          have q122 : x8_2 < (((rd_T127 l0 x7_1).f8.f3).length : Int) := of_decide_eq_true (by assumption)
          obtain ⟨ad122, A122_1, c122_1, e122, hx122_0, hx122_1, hl122_1, hi122_1⟩ := at_T66 HR121_49.out x8_2 p122 q122
          cases e122
          replace hx122_0 := (HB.out.cell (World.block_lt_of_cell? w _ hx122_0)).trans hx122_0
          replace hx122_1 := (HB.out.cell (World.block_lt_of_cell? w _ hx122_1)).trans hx122_1
          have HR122_1 := Aside0.mk hi122_1
          have HC122_1 := Aside0.mk hl122_1
          clear hi122_1 hl122_1
          replace p122 := eq_true p122
          replace q122 := eq_true q122
          go_wp2_with (first | ((with_reducible refine gate_dst (N := 9) rfl ?_); refine box_event ?hg (N := 9) ?hd (cs := #[.string (⟨#[]⟩ : ByteArray), .slice none 0 0]) (t := 66) ?hr ?_; (case hd => rfl); (case hg => rfl); (case hr => first | (go_simp; done) | (go_simp; rfl)); intro gb123 hg w9 hbox hb; have n0_ := Aside0.mk (blk_below (g := gb119) (o := .cells #[.string x120000_2, .string x120001_2, .string x120002_2] 74 (0, 0)) (by (with_reducible repeat (first | refine blk_drewN ?_ _ | refine blk_drew ?_ | refine blk_alloc ?_ _)); exact BK119.out) hb); have n1_ := Aside0.mk (below_step (by repeat (first | (with_reducible first | exact HB.out | apply below_alloc | apply pw_below_drewN | apply below_drew1 | refine below_set ?_ GE119.out) | exact HB.out)) hb); have n2_ := Aside0.mk (hbox); have n3_ := Aside0.mk ((by rw [hg]; exact (below_size (by repeat (first | (with_reducible first | exact HB.out | apply below_alloc | apply pw_below_drewN | apply below_drew1 | refine below_set ?_ GE119.out) | exact HB.out))) : w.heap.size ≤ gb123)); have n4_ := Aside0.mk ((by rw [hg]; exact (below_size (by repeat (first | (with_reducible first | exact HB.out | apply below_alloc | apply pw_below_drewN | apply below_drew1 | refine below_set ?_ GE119.out) | exact HB.out))) : w.heap.size ≤ gb123)); have n5_ := Aside0.mk ((by rw [hg]; exact Nat.ne_of_lt (blk_lt (g := gb119) (o := .cells #[.string x120000_2, .string x120001_2, .string x120002_2] 74 (0, 0)) (by (with_reducible repeat (first | refine blk_drewN ?_ _ | refine blk_drew ?_ | refine blk_alloc ?_ _)); exact BK119.out)) : gb119 ≠ gb123)); have n6_ := Aside0.mk ((by rw [hg]; exact Nat.ne_of_gt (blk_lt (g := gb119) (o := .cells #[.string x120000_2, .string x120001_2, .string x120002_2] 74 (0, 0)) (by (with_reducible repeat (first | refine blk_drewN ?_ _ | refine blk_drew ?_ | refine blk_alloc ?_ _)); exact BK119.out)) : gb123 ≠ gb119)); clear BK119; clear HB; have BK119 := n0_; have HB := n1_; have BK123 := n2_; have GW123 := n3_; have GE123 := n4_; have NB119_123 := n5_; have NB123_119 := n6_; clear n0_ n1_ n2_ n3_ n4_ n5_ n6_; clear hb hbox hg; have hnb10 := NB123_119.out; have hnc10 := NB119_123.out; have hcz11_0 : w9.cell? ⟨gb123, 0, none⟩ = some (.string (⟨#[]⟩ : ByteArray)) := (blk_cell BK123.out 0).trans rfl; have hcz11_1 : w9.cell? ⟨gb123, 1, none⟩ = some (.slice none 0 0) := (blk_cell BK123.out 1).trans rfl; have hfz11_0 := blk_frozen BK123.out 0; have hfz11_1 := blk_frozen BK123.out 1))
          go_loopg [10] k2 (fun kq v10 w' => ∃ (x10_3 : Int) (x120000_3 : ByteArray) (x120001_3 : ByteArray) (x120002_3 : ByteArray), v10 = .int .i64 x10_3 ∧ Aside0 (shackleref17_Versions.l2 kq l0 l1 x7_1 x8_2 x10_3 ((rd_T66 ((rd_T127 l0 x7_1).f8.f3) x8_2).f0) ((rd_T66 ((rd_T127 l0 x7_1).f8.f3) x8_2).f1) = some (r1, r2, r3, r4, r5)) ∧ Aside0 (kq ≤ k2) ∧ Aside0 (w'.heap[gb119]? = some (.cells #[.string x120000_3, .string x120001_3, .string x120002_3] 74 (0, 0))) ∧ Aside0 (w'.heap[gb123]? = some (.cells #[.string ((rd_T66 ((rd_T127 l0 x7_1).f8.f3) x8_2).f0), (.slice A122_1 ((rd_T66 ((rd_T127 l0 x7_1).f8.f3) x8_2).f1).length c122_1)] 66 (0, 0))) ∧ Aside0 (Below w.heap.size w w'))
          case atStart => exact ⟨(0), (x120000_2), (x120001_2), (x120002_2), (by first | rfl | (simp; done) | (simp [*]; done)), H', ⟨Nat.le_refl _⟩, ⟨by (with_reducible repeat (first | refine blk_drewN ?_ _ | refine blk_drew ?_ | refine blk_alloc ?_ _)); refine blk_far ?_ NB119_123.out _; (with_reducible repeat (first | refine blk_drewN ?_ _ | refine blk_drew ?_ | refine blk_alloc ?_ _)); refine blk_far ?_ NB119_123.out _; (with_reducible repeat (first | refine blk_drewN ?_ _ | refine blk_drew ?_ | refine blk_alloc ?_ _)); exact BK119.out⟩, ⟨by (with_reducible repeat (first | refine blk_drewN ?_ _ | refine blk_drew ?_ | refine blk_alloc ?_ _)); refine blk_put (cs := #[.string ((rd_T66 ((rd_T127 l0 x7_1).f8.f3) x8_2).f0), .slice none 0 0]) ?_ 1 _ rfl; (with_reducible repeat (first | refine blk_drewN ?_ _ | refine blk_drew ?_ | refine blk_alloc ?_ _)); refine blk_put (cs := #[.string (⟨#[]⟩ : ByteArray), .slice none 0 0]) ?_ 0 _ rfl; (with_reducible repeat (first | refine blk_drewN ?_ _ | refine blk_drew ?_ | refine blk_alloc ?_ _)); exact BK123.out⟩, ⟨by repeat (first | (with_reducible first | exact HB.out | apply below_alloc | apply pw_below_drewN | apply below_drew1 | refine below_set ?_ GE119.out | refine below_set ?_ GE123.out) | exact HB.out)⟩⟩
          case round =>
           clear H'
           try clear c1
           try clear p1
           try clear q1
           try clear hx1
           try clear c2
           try clear p2
           try clear c4
           try clear c4b0
           try clear c5
           try clear c5b0
           try clear c6
           try clear c6b0
           try clear c7
           try clear c7b0
           try clear c8
           try clear c8b0
           try clear c10
           try clear hcz11_0
           try clear hcz11_1
           try clear hfz11_0
           try clear hfz11_1
           try clear hx120_0
           try clear hx120_1
           try clear hx120_10
           try clear hx120_11
           try clear hx120_12
           try clear hx120_13
           try clear hx120_14
           try clear hx120_15
           try clear hx120_16
           try clear hx120_17
           try clear hx120_18
           try clear hx120_19
           try clear hx120_2
           try clear hx120_20
           try clear hx120_21
           try clear hx120_22
           try clear hx120_23
           try clear hx120_24
           try clear hx120_25
           try clear hx120_26
           try clear hx120_27
           try clear hx120_28
           try clear hx120_29
           try clear hx120_3
           try clear hx120_30
           try clear hx120_31
           try clear hx120_32
           try clear hx120_33
           try clear hx120_34
           try clear hx120_35
           try clear hx120_36
           try clear hx120_37
           try clear hx120_38
           try clear hx120_39
           try clear hx120_4
           try clear hx120_40
           try clear hx120_41
           try clear hx120_42
           try clear hx120_43
           try clear hx120_44
           try clear hx120_45
           try clear hx120_46
           try clear hx120_47
           try clear hx120_48
           try clear hx120_49
           try clear hx120_5
           try clear hx120_50
           try clear hx120_51
           try clear hx120_52
           try clear hx120_53
           try clear hx120_6
           try clear hx120_7
           try clear hx120_8
           try clear hx120_9
           try clear hx121_0
           try clear hx121_1
           try clear hx121_10
           try clear hx121_11
           try clear hx121_12
           try clear hx121_13
           try clear hx121_14
           try clear hx121_15
           try clear hx121_16
           try clear hx121_17
           try clear hx121_18
           try clear hx121_19
           try clear hx121_2
           try clear hx121_20
           try clear hx121_21
           try clear hx121_22
           try clear hx121_23
           try clear hx121_24
           try clear hx121_25
           try clear hx121_26
           try clear hx121_27
           try clear hx121_28
           try clear hx121_29
           try clear hx121_3
           try clear hx121_30
           try clear hx121_31
           try clear hx121_32
           try clear hx121_33
           try clear hx121_34
           try clear hx121_35
           try clear hx121_36
           try clear hx121_37
           try clear hx121_38
           try clear hx121_39
           try clear hx121_4
           try clear hx121_40
           try clear hx121_41
           try clear hx121_42
           try clear hx121_43
           try clear hx121_44
           try clear hx121_45
           try clear hx121_46
           try clear hx121_47
           try clear hx121_48
           try clear hx121_49
           try clear hx121_5
           try clear hx121_50
           try clear hx121_51
           try clear hx121_52
           try clear hx121_53
           try clear hx121_6
           try clear hx121_7
           try clear hx121_8
           try clear hx121_9
           try clear hx122_0
           try clear hx122_1
           try clear p120
           try clear p121
           try clear p122
           try clear p2
           try clear q120
           try clear q121
           try clear q122
           obtain ⟨x10_3, x120000_3, x120001_3, x120002_3, rfl, HA, HK3, BK119, BK123, HB⟩ := hrel
           cases gk with
           | zero => exact absurd HA.out (by simp [shackleref17_Versions.l2])
           | succ k3 =>
            have H := HA.out
            clear HA
            simp only [shackleref17_Versions.l2] at H
            by_cases c12 : x10_3 < (((rd_T66 ((rd_T127 l0 x7_1).f8.f3) x8_2).f1).length : Int)
            ·rw [if_pos c12] at H
             have c12b0 : decide (x10_3 < (((rd_T66 ((rd_T127 l0 x7_1).f8.f3) x8_2).f1).length : Int)) = true := decide_eq_true c12
             clear c12
             by_cases c13 : 0 ≤ x10_3
             ·rw [if_pos c13] at H
              have c13b0 : decide (0 ≤ x10_3) = true := decide_eq_true c13
              clear c13
              replace H := Option.bind_eq_some_iff.mp H
              obtain ⟨t125, A140, H⟩ := H
              replace H : (if (rd_T68 ((rd_T66 ((rd_T127 l0 x7_1).f8.f3) x8_2).f1) x10_3).f1 = true then (shackleref17_Versions.l2 k3 l0 l1 x7_1 x8_2 (wrap64 (x10_3 + 1)) ((rd_T66 ((rd_T127 l0 x7_1).f8.f3) x8_2).f0) ((rd_T66 ((rd_T127 l0 x7_1).f8.f3) x8_2).f1)) else (if t125 = true then (shackleref17_Versions.l2 k3 l0 l1 x7_1 x8_2 (wrap64 (x10_3 + 1)) ((rd_T66 ((rd_T127 l0 x7_1).f8.f3) x8_2).f0) ((rd_T66 ((rd_T127 l0 x7_1).f8.f3) x8_2).f1)) else (some (x7_1, (⟨#[]⟩ : ByteArray), (rd_T68 ((rd_T66 ((rd_T127 l0 x7_1).f8.f3) x8_2).f1) x10_3).f2, ((rd_T66 ((rd_T127 l0 x7_1).f8.f3) x8_2).f0), false)))) = some (r1, r2, r3, r4, r5) := H
              have A14 := Aside0.mk A140
              clear A140
              obtain ⟨bq15, hbq15⟩ : ∃ b_ : Bool, b_ = ((rd_T68 ((rd_T66 ((rd_T127 l0 x7_1).f8.f3) x8_2).f1) x10_3).f1) := ⟨_, rfl⟩
              replace H : (if bq15 = true then (shackleref17_Versions.l2 k3 l0 l1 x7_1 x8_2 (wrap64 (x10_3 + 1)) ((rd_T66 ((rd_T127 l0 x7_1).f8.f3) x8_2).f0) ((rd_T66 ((rd_T127 l0 x7_1).f8.f3) x8_2).f1)) else (if t125 = true then (shackleref17_Versions.l2 k3 l0 l1 x7_1 x8_2 (wrap64 (x10_3 + 1)) ((rd_T66 ((rd_T127 l0 x7_1).f8.f3) x8_2).f0) ((rd_T66 ((rd_T127 l0 x7_1).f8.f3) x8_2).f1)) else (some (x7_1, (⟨#[]⟩ : ByteArray), (rd_T68 ((rd_T66 ((rd_T127 l0 x7_1).f8.f3) x8_2).f1) x10_3).f2, ((rd_T66 ((rd_T127 l0 x7_1).f8.f3) x8_2).f0), false)))) = some (r1, r2, r3, r4, r5) := by rw [← hbq15] at H; exact H
              have Nbq15 := Aside0.mk hbq15
              clear hbq15
              by_cases c16 : bq15 = true
              ·subst c16
               have H1 : (shackleref17_Versions.l2 k3 l0 l1 x7_1 x8_2 (wrap64 (x10_3 + 1)) ((rd_T66 ((rd_T127 l0 x7_1).f8.f3) x8_2).f0) ((rd_T66 ((rd_T127 l0 x7_1).f8.f3) x8_2).f1)) = some (r1, r2, r3, r4, r5) := by rw [if_pos rfl] at H; exact H
               clear H
               have H := H1
               clear H1
               have H' := Aside0.mk H
               clear H
               have hnb17 := NB123_119.out
               have hnc17 := NB119_123.out
               have hcz18_0 : wr.cell? ⟨gb123, 0, none⟩ = some (.string ((rd_T66 ((rd_T127 l0 x7_1).f8.f3) x8_2).f0)) := (blk_cell BK123.out 0).trans rfl
               have hcz18_1 : wr.cell? ⟨gb123, 1, none⟩ = some (.slice A122_1 ((rd_T66 ((rd_T127 l0 x7_1).f8.f3) x8_2).f1).length c122_1) := (blk_cell BK123.out 1).trans rfl
               have hfz18_0 := blk_frozen BK123.out 0
               have hfz18_1 := blk_frozen BK123.out 1
               try go_wp2
               have n0_ := Aside0.mk (blk_drew BK119.out)
               have n1_ := Aside0.mk (blk_drew BK123.out)
               have n2_ := Aside0.mk (below_drew1 HB.out)
               clear BK119
               clear BK123
               clear HB
               have BK119 := n0_
               have BK123 := n1_
               have HB := n2_
               clear n0_ n1_ n2_
               have p124 : 0 ≤ (x10_3 : Int) := of_decide_eq_true (by assumption)
               have q124 : x10_3 < (((rd_T66 ((rd_T127 l0 x7_1).f8.f3) x8_2).f1).length : Int) := of_decide_eq_true (by assumption)
               obtain ⟨ad124, e124, hx124_0, hx124_1, hx124_2⟩ := at_T68 HR122_1.out x10_3 p124 q124
               have hw124_2 := hx124_2
               have hw124_1 := hx124_1
               have hw124_0 := hx124_0
               (try rw [← Nbq15.out] at hx124_1)
               (try rw [← Nbq15.out] at hw124_1)
               cases e124
               replace hx124_0 := (HB.out.cell (World.block_lt_of_cell? w _ hx124_0)).trans hx124_0
               replace hx124_1 := (HB.out.cell (World.block_lt_of_cell? w _ hx124_1)).trans hx124_1
               replace hx124_2 := (HB.out.cell (World.block_lt_of_cell? w _ hx124_2)).trans hx124_2
               replace p124 := eq_true p124
               replace q124 := eq_true q124
               refine start_ (n := 12) (S := fun w' => w'.cell? ⟨gb123, 0, none⟩ = some (.string ((rd_T66 ((rd_T127 l0 x7_1).f8.f3) x8_2).f0)) ∧ w'.cell? ⟨gb123, 1, none⟩ = some (.slice (some ad124) ((rd_T66 ((rd_T127 l0 x7_1).f8.f3) x8_2).f1).length c122_1) ∧ w'.cell? (ad124.add ((x10_3).toNat * 3)) = some (.int .i64 ((rd_T68 ((rd_T66 ((rd_T127 l0 x7_1).f8.f3) x8_2).f1) x10_3).f0)) ∧ w'.cell? ⟨(ad124.add ((x10_3).toNat * 3)).block, (ad124.add ((x10_3).toNat * 3)).off + 1, none⟩ = some (.bool true) ∧ w'.cell? ⟨(ad124.add ((x10_3).toNat * 3)).block, (ad124.add ((x10_3).toNat * 3)).off + 2, none⟩ = some (.string ((rd_T68 ((rd_T66 ((rd_T127 l0 x7_1).f8.f3) x8_2).f1) x10_3).f2))) (ds := []) #[false, false, false, false, false, false, false, false, false, false, false, false] (by kernel_rfl) rfl rfl ⟨(blk_cell BK123.out 0).trans rfl, (blk_cell BK123.out 1).trans rfl, ((HB.out.cell (World.block_lt_of_cell? w _ hw124_0)).trans hw124_0), ((HB.out.cell (World.block_lt_of_cell? w _ hw124_1)).trans hw124_1), ((HB.out.cell (World.block_lt_of_cell? w _ hw124_2)).trans hw124_2)⟩ (fun hHeld => ?_); refine with_tabW shackleref17_Versions.tab11 shackleref17_Versions.bits11 (fun HT_ HW_ => ?_)
               generalize wr.drew = w19 at BK119 BK123 HB hx124_0 hx124_1 hx124_2 hHeld ⊢
               refine pure_ (i := 0) (N := some 45) (v := ?_) (a' := ?_) #[true, false, false, false, false, false, false, false, false, false, false, false] rfl rfl (any_of HT_.out (by kernel_rfl)) (fun _ _ _ h => h) (Or.inl ⟨by rfl, ?_⟩) ?_ ?_
               rotate_left
               ·intro w'
                go_simp
                with_reducible rfl
               rotate_left
               ·simp only [Act.put, List.setIfInBounds_toArray, List.set_cons_zero, List.set_cons_succ, i64_w, i32_w]
                rfl
               refine pure_ (i := 1) (N := some 46) (v := ?_) (a' := ?_) #[true, true, false, false, false, false, false, false, false, false, false, false] rfl rfl (any_of HT_.out (by kernel_rfl)) (fun _ _ _ h => h) (Or.inl ⟨by rfl, ?_⟩) ?_ ?_
               rotate_left
               ·intro w'
                go_simp
                with_reducible rfl
               rotate_left
               ·simp only [Act.put, List.setIfInBounds_toArray, List.set_cons_zero, List.set_cons_succ, i64_w, i32_w]
                rfl
               refine pure_ (i := 2) (N := some 47) (v := ?_) (a' := ?_) #[true, true, true, false, false, false, false, false, false, false, false, false] rfl rfl (any_of HT_.out (by kernel_rfl)) (fun _ _ _ h => h) (Or.inl ⟨by rfl, ?_⟩) ?_ ?_
               rotate_left
               ·intro w'
                go_simp
                with_reducible rfl
               rotate_left
               ·simp only [Act.put, List.setIfInBounds_toArray, List.set_cons_zero, List.set_cons_succ, i64_w, i32_w]
                rfl
               refine pure_ (i := 4) (N := some 49) (v := ?_) (a' := ?_) #[true, true, true, false, true, false, false, false, false, false, false, false] rfl rfl (any_of HT_.out (by kernel_rfl)) (fun _ _ _ h => h) (Or.inl ⟨by rfl, ?_⟩) ?_ ?_
               rotate_left
               ·intro w'
                go_simp
                with_reducible rfl
               rotate_left
               ·simp only [Act.put, List.setIfInBounds_toArray, List.set_cons_zero, List.set_cons_succ, i64_w, i32_w]
                rfl
               refine pure_ (i := 6) (N := some 51) (v := ?_) (a' := ?_) #[true, true, true, false, true, false, true, false, false, false, false, false] rfl rfl (any_of HT_.out (by kernel_rfl)) (fun _ _ _ h => h) (Or.inl ⟨by rfl, ?_⟩) ?_ ?_
               rotate_left
               ·intro w'
                go_simp
                with_reducible rfl
               rotate_left
               ·simp only [Act.put, List.setIfInBounds_toArray, List.set_cons_zero, List.set_cons_succ, i64_w, i32_w]
                rfl
               refine take_ (i := 3) (N := some 48) (v := ?_) (a' := ?_) #[true, true, true, true, true, false, true, false, false, false, false, false] rfl rfl (take_ofW HT_.out HW_.out (by kernel_rfl)) (fun _ _ _ h => h) (Or.inl ⟨by rfl, ?_⟩) hHeld ?_ ?_
               rotate_left
               ·rintro w' ⟨s0, s1, s2, s3, s4⟩
                go_simp
                with_reducible rfl
               rotate_left
               ·simp only [Act.put, List.setIfInBounds_toArray, List.set_cons_zero, List.set_cons_succ, i64_w, i32_w]
                rfl
               refine take_ (i := 5) (N := some 50) (v := ?_) (a' := ?_) #[true, true, true, true, true, true, true, false, false, false, false, false] rfl rfl (take_ofW HT_.out HW_.out (by kernel_rfl)) (fun _ _ _ h => h) (Or.inl ⟨by rfl, ?_⟩) hHeld ?_ ?_
               rotate_left
               ·rintro w' ⟨s0, s1, s2, s3, s4⟩
                go_simp
                with_reducible rfl
               rotate_left
               ·simp only [Act.put, List.setIfInBounds_toArray, List.set_cons_zero, List.set_cons_succ, i64_w, i32_w]
                rfl
               refine pure_ (i := 7) (N := some 52) (v := ?_) (a' := ?_) #[true, true, true, true, true, true, true, true, false, false, false, false] rfl rfl (any_of HT_.out (by kernel_rfl)) (fun _ _ _ h => h) (Or.inl ⟨by rfl, ?_⟩) ?_ ?_
               rotate_left
               ·intro w'
                go_simp
                with_reducible rfl
               rotate_left
               ·simp only [Act.put, List.setIfInBounds_toArray, List.set_cons_zero, List.set_cons_succ, i64_w, i32_w]
                rfl
               refine pure_ (i := 8) (N := some 53) (v := ?_) (a' := ?_) #[true, true, true, true, true, true, true, true, true, false, false, false] rfl rfl (any_of HT_.out (by kernel_rfl)) (fun _ _ _ h => h) (Or.inl ⟨by rfl, ?_⟩) ?_ ?_
               rotate_left
               ·intro w'
                go_simp
                with_reducible rfl
               rotate_left
               ·simp only [Act.put, List.setIfInBounds_toArray, List.set_cons_zero, List.set_cons_succ, i64_w, i32_w]
                rfl
               refine take_ (i := 9) (N := some 54) (v := ?_) (a' := ?_) #[true, true, true, true, true, true, true, true, true, true, false, false] rfl rfl (take_ofW HT_.out HW_.out (by kernel_rfl)) (fun _ _ _ h => h) (Or.inl ⟨by rfl, ?_⟩) hHeld ?_ ?_
               rotate_left
               ·rintro w' ⟨s0, s1, s2, s3, s4⟩
                go_simp
                with_reducible rfl
               rotate_left
               ·simp only [Act.put, List.setIfInBounds_toArray, List.set_cons_zero, List.set_cons_succ, i64_w, i32_w]
                rfl
               refine one_ (i := 10) (N := some 55) #[true, true, true, true, true, true, true, true, true, true, true, false] rfl rfl (one_of HT_.out (by kernel_rfl)) (by decide) (fun K hK => ?_)
               refine goes_ Try.func51 (by kernel_rfl) rfl #[.slice (some ad120) l0.length c0, .slice A1 l1.length c1, .string ((rd_T66 ((rd_T127 l0 x7_1).f8.f3) x8_2).f0), .string ((rd_T68 ((rd_T66 ((rd_T127 l0 x7_1).f8.f3) x8_2).f1) x10_3).f2)] (by rfl) rfl rfl (by (try simp only [List.map_toArray, List.map_cons, List.map_nil]); first | done | rfl | (simp only [List.length_drop, List.length_take]; rfl)) ?_
               with_reducible refine (shackleref17_provides.calls k3 _ _ l0 _ _ l1 ((rd_T66 ((rd_T127 l0 x7_1).f8.f3) x8_2).f0) ((rd_T68 ((rd_T66 ((rd_T127 l0 x7_1).f8.f3) x8_2).f1) x10_3).f2) t125 _ ?side1 ?side2 ?side3 ?side4 A14.out).mono ?_
               (case side1 => repeat (first | exact (Kd.C_below HR0.out HB.out) | (with_reducible refine Kd.C_alloc ?_ _) | (with_reducible refine Kd.C_drewN ?_ _) | (with_reducible refine Kd.C_drew ?_)))
               (case side2 => exact HC0.out)
               (case side3 => repeat (first | exact (Kd.C_below HR1.out HB.out) | (with_reducible refine Kd.C_alloc ?_ _) | (with_reducible refine Kd.C_drewN ?_ _) | (with_reducible refine Kd.C_drew ?_)))
               (case side4 => exact HC1.out)
               rintro e w' ⟨rfl, ⟨nd, rfl⟩⟩
               refine ⟨_, rfl, ?_⟩
               refine hK.out _ _ ⟨(blk_cell BK123.out 0).trans rfl, (blk_cell BK123.out 1).trans rfl, ((HB.out.cell (World.block_lt_of_cell? w _ hw124_0)).trans hw124_0), ((HB.out.cell (World.block_lt_of_cell? w _ hw124_1)).trans hw124_1), ((HB.out.cell (World.block_lt_of_cell? w _ hw124_2)).trans hw124_2)⟩ (fun hHeld => ?_)
               clear hK K
               refine norm_ (a' := ?_) ?_ ?_
               rotate_left
               ·show Act.put _ (some 55) _ = _
                simp only [Act.put, List.setIfInBounds_toArray, List.set_cons_zero, List.set_cons_succ, i64_w, i32_w]
                rfl
               refine pure_ (i := 11) (N := some 11) (v := ?_) (a' := ?_) #[true, true, true, true, true, true, true, true, true, true, true, true] rfl rfl (any_of HT_.out (by kernel_rfl)) (fun _ _ _ h => h) (Or.inl ⟨by rfl, ?_⟩) ?_ ?_
               rotate_left
               ·intro w'
                go_simp
                with_reducible rfl
               rotate_left
               ·simp only [Act.put, List.setIfInBounds_toArray, List.set_cons_zero, List.set_cons_succ, i64_w, i32_w]
                rfl
               refine done_ (done_of HT_.out (by kernel_rfl)) ?_
               have hcz20_0 : w19.cell? ⟨gb123, 0, none⟩ = some (.string ((rd_T66 ((rd_T127 l0 x7_1).f8.f3) x8_2).f0)) := (blk_cell BK123.out 0).trans rfl
               have hcz20_1 : w19.cell? ⟨gb123, 1, none⟩ = some (.slice (some ad124) ((rd_T66 ((rd_T127 l0 x7_1).f8.f3) x8_2).f1).length c122_1) := (blk_cell BK123.out 1).trans rfl
               have hfz20_0 := blk_frozen BK123.out 0
               have hfz20_1 := blk_frozen BK123.out 1
               have p126 : 0 ≤ (x10_3 : Int) := of_decide_eq_true (by assumption)
               have q126 : x10_3 < (((rd_T66 ((rd_T127 l0 x7_1).f8.f3) x8_2).f1).length : Int) := of_decide_eq_true (by assumption)
               obtain ⟨ad126, e126, hx126_0, hx126_1, hx126_2⟩ := at_T68 HR122_1.out x10_3 p126 q126
               (try rw [← Nbq15.out] at hx126_1)
               (try rw [← Nbq15.out] at hw126_1)
               obtain rfl : ad124 = ad126 := (by injection e126)
               replace hx126_0 := (HB.out.cell (World.block_lt_of_cell? w _ hx126_0)).trans hx126_0
               replace hx126_1 := (HB.out.cell (World.block_lt_of_cell? w _ hx126_1)).trans hx126_1
               replace hx126_2 := (HB.out.cell (World.block_lt_of_cell? w _ hx126_2)).trans hx126_2
               replace p126 := eq_true p126
               replace q126 := eq_true q126
               try go_wp2
               go_roundg k3
               case measure => have := HK1.out; have := HK2.out; have := HK3.out; omega
               case rel => exact ⟨(wrap64 (x10_3 + 1)), (x120000_3), (x120001_3), (x120002_3), (by first | rfl | (simp; done) | (simp [*]; done)), H', ⟨by have := HK1.out; have := HK2.out; have := HK3.out; omega⟩, ⟨by (with_reducible repeat (first | refine blk_drewN ?_ _ | refine blk_drew ?_ | refine blk_alloc ?_ _)); exact BK119.out⟩, ⟨by (with_reducible repeat (first | refine blk_drewN ?_ _ | refine blk_drew ?_ | refine blk_alloc ?_ _)); exact BK123.out⟩, ⟨by repeat (first | (with_reducible first | exact HB.out | apply below_alloc | apply pw_below_drewN | apply below_drew1 | refine below_set ?_ GE119.out | refine below_set ?_ GE123.out) | exact HB.out)⟩⟩
              ·replace c16 := Bool.eq_false_iff.mpr c16
               subst c16
               have H1 : (if t125 = true then (shackleref17_Versions.l2 k3 l0 l1 x7_1 x8_2 (wrap64 (x10_3 + 1)) ((rd_T66 ((rd_T127 l0 x7_1).f8.f3) x8_2).f0) ((rd_T66 ((rd_T127 l0 x7_1).f8.f3) x8_2).f1)) else (some (x7_1, (⟨#[]⟩ : ByteArray), (rd_T68 ((rd_T66 ((rd_T127 l0 x7_1).f8.f3) x8_2).f1) x10_3).f2, ((rd_T66 ((rd_T127 l0 x7_1).f8.f3) x8_2).f0), false))) = some (r1, r2, r3, r4, r5) := by rw [if_neg (show ¬ (false = true) by decide)] at H; exact H
               clear H
               have H := H1
               clear H1
               by_cases c21 : t125 = true
               ·subst c21
                have H1 : (shackleref17_Versions.l2 k3 l0 l1 x7_1 x8_2 (wrap64 (x10_3 + 1)) ((rd_T66 ((rd_T127 l0 x7_1).f8.f3) x8_2).f0) ((rd_T66 ((rd_T127 l0 x7_1).f8.f3) x8_2).f1)) = some (r1, r2, r3, r4, r5) := by rw [if_pos rfl] at H; exact H
                clear H
                have H := H1
                clear H1
                have H' := Aside0.mk H
                clear H
                have hnb22 := NB123_119.out
                have hnc22 := NB119_123.out
                have hcz23_0 : wr.cell? ⟨gb123, 0, none⟩ = some (.string ((rd_T66 ((rd_T127 l0 x7_1).f8.f3) x8_2).f0)) := (blk_cell BK123.out 0).trans rfl
                have hcz23_1 : wr.cell? ⟨gb123, 1, none⟩ = some (.slice A122_1 ((rd_T66 ((rd_T127 l0 x7_1).f8.f3) x8_2).f1).length c122_1) := (blk_cell BK123.out 1).trans rfl
                have hfz23_0 := blk_frozen BK123.out 0
                have hfz23_1 := blk_frozen BK123.out 1
                try go_wp2
                have n0_ := Aside0.mk (blk_drew BK119.out)
                have n1_ := Aside0.mk (blk_drew BK123.out)
                have n2_ := Aside0.mk (below_drew1 HB.out)
                clear BK119
                clear BK123
                clear HB
                have BK119 := n0_
                have BK123 := n1_
                have HB := n2_
                clear n0_ n1_ n2_
                have p124 : 0 ≤ (x10_3 : Int) := of_decide_eq_true (by assumption)
                have q124 : x10_3 < (((rd_T66 ((rd_T127 l0 x7_1).f8.f3) x8_2).f1).length : Int) := of_decide_eq_true (by assumption)
                obtain ⟨ad124, e124, hx124_0, hx124_1, hx124_2⟩ := at_T68 HR122_1.out x10_3 p124 q124
                have hw124_2 := hx124_2
                have hw124_1 := hx124_1
                have hw124_0 := hx124_0
                (try rw [← Nbq15.out] at hx124_1)
                (try rw [← Nbq15.out] at hw124_1)
                cases e124
                replace hx124_0 := (HB.out.cell (World.block_lt_of_cell? w _ hx124_0)).trans hx124_0
                replace hx124_1 := (HB.out.cell (World.block_lt_of_cell? w _ hx124_1)).trans hx124_1
                replace hx124_2 := (HB.out.cell (World.block_lt_of_cell? w _ hx124_2)).trans hx124_2
                replace p124 := eq_true p124
                replace q124 := eq_true q124
                refine start_ (n := 12) (S := fun w' => w'.cell? ⟨gb123, 0, none⟩ = some (.string ((rd_T66 ((rd_T127 l0 x7_1).f8.f3) x8_2).f0)) ∧ w'.cell? ⟨gb123, 1, none⟩ = some (.slice (some ad124) ((rd_T66 ((rd_T127 l0 x7_1).f8.f3) x8_2).f1).length c122_1) ∧ w'.cell? (ad124.add ((x10_3).toNat * 3)) = some (.int .i64 ((rd_T68 ((rd_T66 ((rd_T127 l0 x7_1).f8.f3) x8_2).f1) x10_3).f0)) ∧ w'.cell? ⟨(ad124.add ((x10_3).toNat * 3)).block, (ad124.add ((x10_3).toNat * 3)).off + 1, none⟩ = some (.bool false) ∧ w'.cell? ⟨(ad124.add ((x10_3).toNat * 3)).block, (ad124.add ((x10_3).toNat * 3)).off + 2, none⟩ = some (.string ((rd_T68 ((rd_T66 ((rd_T127 l0 x7_1).f8.f3) x8_2).f1) x10_3).f2))) (ds := []) #[false, false, false, false, false, false, false, false, false, false, false, false] (by kernel_rfl) rfl rfl ⟨(blk_cell BK123.out 0).trans rfl, (blk_cell BK123.out 1).trans rfl, ((HB.out.cell (World.block_lt_of_cell? w _ hw124_0)).trans hw124_0), ((HB.out.cell (World.block_lt_of_cell? w _ hw124_1)).trans hw124_1), ((HB.out.cell (World.block_lt_of_cell? w _ hw124_2)).trans hw124_2)⟩ (fun hHeld => ?_); refine with_tabW shackleref17_Versions.tab11 shackleref17_Versions.bits11 (fun HT_ HW_ => ?_)
                generalize wr.drew = w24 at BK119 BK123 HB hx124_0 hx124_1 hx124_2 hHeld ⊢
                refine pure_ (i := 0) (N := some 45) (v := ?_) (a' := ?_) #[true, false, false, false, false, false, false, false, false, false, false, false] rfl rfl (any_of HT_.out (by kernel_rfl)) (fun _ _ _ h => h) (Or.inl ⟨by rfl, ?_⟩) ?_ ?_
                rotate_left
                ·intro w'
                 go_simp
                 with_reducible rfl
                rotate_left
                ·simp only [Act.put, List.setIfInBounds_toArray, List.set_cons_zero, List.set_cons_succ, i64_w, i32_w]
                 rfl
                refine pure_ (i := 1) (N := some 46) (v := ?_) (a' := ?_) #[true, true, false, false, false, false, false, false, false, false, false, false] rfl rfl (any_of HT_.out (by kernel_rfl)) (fun _ _ _ h => h) (Or.inl ⟨by rfl, ?_⟩) ?_ ?_
                rotate_left
                ·intro w'
                 go_simp
                 with_reducible rfl
                rotate_left
                ·simp only [Act.put, List.setIfInBounds_toArray, List.set_cons_zero, List.set_cons_succ, i64_w, i32_w]
                 rfl
                refine pure_ (i := 2) (N := some 47) (v := ?_) (a' := ?_) #[true, true, true, false, false, false, false, false, false, false, false, false] rfl rfl (any_of HT_.out (by kernel_rfl)) (fun _ _ _ h => h) (Or.inl ⟨by rfl, ?_⟩) ?_ ?_
                rotate_left
                ·intro w'
                 go_simp
                 with_reducible rfl
                rotate_left
                ·simp only [Act.put, List.setIfInBounds_toArray, List.set_cons_zero, List.set_cons_succ, i64_w, i32_w]
                 rfl
                refine pure_ (i := 4) (N := some 49) (v := ?_) (a' := ?_) #[true, true, true, false, true, false, false, false, false, false, false, false] rfl rfl (any_of HT_.out (by kernel_rfl)) (fun _ _ _ h => h) (Or.inl ⟨by rfl, ?_⟩) ?_ ?_
                rotate_left
                ·intro w'
                 go_simp
                 with_reducible rfl
                rotate_left
                ·simp only [Act.put, List.setIfInBounds_toArray, List.set_cons_zero, List.set_cons_succ, i64_w, i32_w]
                 rfl
                refine pure_ (i := 6) (N := some 51) (v := ?_) (a' := ?_) #[true, true, true, false, true, false, true, false, false, false, false, false] rfl rfl (any_of HT_.out (by kernel_rfl)) (fun _ _ _ h => h) (Or.inl ⟨by rfl, ?_⟩) ?_ ?_
                rotate_left
                ·intro w'
                 go_simp
                 with_reducible rfl
                rotate_left
                ·simp only [Act.put, List.setIfInBounds_toArray, List.set_cons_zero, List.set_cons_succ, i64_w, i32_w]
                 rfl
                refine take_ (i := 3) (N := some 48) (v := ?_) (a' := ?_) #[true, true, true, true, true, false, true, false, false, false, false, false] rfl rfl (take_ofW HT_.out HW_.out (by kernel_rfl)) (fun _ _ _ h => h) (Or.inl ⟨by rfl, ?_⟩) hHeld ?_ ?_
                rotate_left
                ·rintro w' ⟨s0, s1, s2, s3, s4⟩
                 go_simp
                 with_reducible rfl
                rotate_left
                ·simp only [Act.put, List.setIfInBounds_toArray, List.set_cons_zero, List.set_cons_succ, i64_w, i32_w]
                 rfl
                refine take_ (i := 5) (N := some 50) (v := ?_) (a' := ?_) #[true, true, true, true, true, true, true, false, false, false, false, false] rfl rfl (take_ofW HT_.out HW_.out (by kernel_rfl)) (fun _ _ _ h => h) (Or.inl ⟨by rfl, ?_⟩) hHeld ?_ ?_
                rotate_left
                ·rintro w' ⟨s0, s1, s2, s3, s4⟩
                 go_simp
                 with_reducible rfl
                rotate_left
                ·simp only [Act.put, List.setIfInBounds_toArray, List.set_cons_zero, List.set_cons_succ, i64_w, i32_w]
                 rfl
                refine pure_ (i := 7) (N := some 52) (v := ?_) (a' := ?_) #[true, true, true, true, true, true, true, true, false, false, false, false] rfl rfl (any_of HT_.out (by kernel_rfl)) (fun _ _ _ h => h) (Or.inl ⟨by rfl, ?_⟩) ?_ ?_
                rotate_left
                ·intro w'
                 go_simp
                 with_reducible rfl
                rotate_left
                ·simp only [Act.put, List.setIfInBounds_toArray, List.set_cons_zero, List.set_cons_succ, i64_w, i32_w]
                 rfl
                refine pure_ (i := 8) (N := some 53) (v := ?_) (a' := ?_) #[true, true, true, true, true, true, true, true, true, false, false, false] rfl rfl (any_of HT_.out (by kernel_rfl)) (fun _ _ _ h => h) (Or.inl ⟨by rfl, ?_⟩) ?_ ?_
                rotate_left
                ·intro w'
                 go_simp
                 with_reducible rfl
                rotate_left
                ·simp only [Act.put, List.setIfInBounds_toArray, List.set_cons_zero, List.set_cons_succ, i64_w, i32_w]
                 rfl
                refine take_ (i := 9) (N := some 54) (v := ?_) (a' := ?_) #[true, true, true, true, true, true, true, true, true, true, false, false] rfl rfl (take_ofW HT_.out HW_.out (by kernel_rfl)) (fun _ _ _ h => h) (Or.inl ⟨by rfl, ?_⟩) hHeld ?_ ?_
                rotate_left
                ·rintro w' ⟨s0, s1, s2, s3, s4⟩
                 go_simp
                 with_reducible rfl
                rotate_left
                ·simp only [Act.put, List.setIfInBounds_toArray, List.set_cons_zero, List.set_cons_succ, i64_w, i32_w]
                 rfl
                refine one_ (i := 10) (N := some 55) #[true, true, true, true, true, true, true, true, true, true, true, false] rfl rfl (one_of HT_.out (by kernel_rfl)) (by decide) (fun K hK => ?_)
                refine goes_ Try.func51 (by kernel_rfl) rfl #[.slice (some ad120) l0.length c0, .slice A1 l1.length c1, .string ((rd_T66 ((rd_T127 l0 x7_1).f8.f3) x8_2).f0), .string ((rd_T68 ((rd_T66 ((rd_T127 l0 x7_1).f8.f3) x8_2).f1) x10_3).f2)] (by rfl) rfl rfl (by (try simp only [List.map_toArray, List.map_cons, List.map_nil]); first | done | rfl | (simp only [List.length_drop, List.length_take]; rfl)) ?_
                with_reducible refine (shackleref17_provides.calls k3 _ _ l0 _ _ l1 ((rd_T66 ((rd_T127 l0 x7_1).f8.f3) x8_2).f0) ((rd_T68 ((rd_T66 ((rd_T127 l0 x7_1).f8.f3) x8_2).f1) x10_3).f2) true _ ?side1 ?side2 ?side3 ?side4 A14.out).mono ?_
                (case side1 => repeat (first | exact (Kd.C_below HR0.out HB.out) | (with_reducible refine Kd.C_alloc ?_ _) | (with_reducible refine Kd.C_drewN ?_ _) | (with_reducible refine Kd.C_drew ?_)))
                (case side2 => exact HC0.out)
                (case side3 => repeat (first | exact (Kd.C_below HR1.out HB.out) | (with_reducible refine Kd.C_alloc ?_ _) | (with_reducible refine Kd.C_drewN ?_ _) | (with_reducible refine Kd.C_drew ?_)))
                (case side4 => exact HC1.out)
                rintro e w' ⟨rfl, ⟨nd, rfl⟩⟩
                refine ⟨_, rfl, ?_⟩
                refine hK.out _ _ ⟨(blk_cell BK123.out 0).trans rfl, (blk_cell BK123.out 1).trans rfl, ((HB.out.cell (World.block_lt_of_cell? w _ hw124_0)).trans hw124_0), ((HB.out.cell (World.block_lt_of_cell? w _ hw124_1)).trans hw124_1), ((HB.out.cell (World.block_lt_of_cell? w _ hw124_2)).trans hw124_2)⟩ (fun hHeld => ?_)
                clear hK K
                refine norm_ (a' := ?_) ?_ ?_
                rotate_left
                ·show Act.put _ (some 55) _ = _
                 simp only [Act.put, List.setIfInBounds_toArray, List.set_cons_zero, List.set_cons_succ, i64_w, i32_w]
                 rfl
                refine pure_ (i := 11) (N := some 11) (v := ?_) (a' := ?_) #[true, true, true, true, true, true, true, true, true, true, true, true] rfl rfl (any_of HT_.out (by kernel_rfl)) (fun _ _ _ h => h) (Or.inl ⟨by rfl, ?_⟩) ?_ ?_
                rotate_left
                ·intro w'
                 go_simp
                 with_reducible rfl
                rotate_left
                ·simp only [Act.put, List.setIfInBounds_toArray, List.set_cons_zero, List.set_cons_succ, i64_w, i32_w]
                 rfl
                refine done_ (done_of HT_.out (by kernel_rfl)) ?_
                have hcz25_0 : w24.cell? ⟨gb123, 0, none⟩ = some (.string ((rd_T66 ((rd_T127 l0 x7_1).f8.f3) x8_2).f0)) := (blk_cell BK123.out 0).trans rfl
                have hcz25_1 : w24.cell? ⟨gb123, 1, none⟩ = some (.slice (some ad124) ((rd_T66 ((rd_T127 l0 x7_1).f8.f3) x8_2).f1).length c122_1) := (blk_cell BK123.out 1).trans rfl
                have hfz25_0 := blk_frozen BK123.out 0
                have hfz25_1 := blk_frozen BK123.out 1
                have p126 : 0 ≤ (x10_3 : Int) := of_decide_eq_true (by assumption)
                have q126 : x10_3 < (((rd_T66 ((rd_T127 l0 x7_1).f8.f3) x8_2).f1).length : Int) := of_decide_eq_true (by assumption)
                obtain ⟨ad126, e126, hx126_0, hx126_1, hx126_2⟩ := at_T68 HR122_1.out x10_3 p126 q126
                (try rw [← Nbq15.out] at hx126_1)
                (try rw [← Nbq15.out] at hw126_1)
                obtain rfl : ad124 = ad126 := (by injection e126)
                replace hx126_0 := (HB.out.cell (World.block_lt_of_cell? w _ hx126_0)).trans hx126_0
                replace hx126_1 := (HB.out.cell (World.block_lt_of_cell? w _ hx126_1)).trans hx126_1
                replace hx126_2 := (HB.out.cell (World.block_lt_of_cell? w _ hx126_2)).trans hx126_2
                replace p126 := eq_true p126
                replace q126 := eq_true q126
                try go_wp2
                go_roundg k3
                case measure => have := HK1.out; have := HK2.out; have := HK3.out; omega
                case rel => exact ⟨(wrap64 (x10_3 + 1)), (x120000_3), (x120001_3), (x120002_3), (by first | rfl | (simp; done) | (simp [*]; done)), H', ⟨by have := HK1.out; have := HK2.out; have := HK3.out; omega⟩, ⟨by (with_reducible repeat (first | refine blk_drewN ?_ _ | refine blk_drew ?_ | refine blk_alloc ?_ _)); exact BK119.out⟩, ⟨by (with_reducible repeat (first | refine blk_drewN ?_ _ | refine blk_drew ?_ | refine blk_alloc ?_ _)); exact BK123.out⟩, ⟨by repeat (first | (with_reducible first | exact HB.out | apply below_alloc | apply pw_below_drewN | apply below_drew1 | refine below_set ?_ GE119.out | refine below_set ?_ GE123.out) | exact HB.out)⟩⟩
               ·replace c21 := Bool.eq_false_iff.mpr c21
                subst c21
                have H1 : (some (x7_1, (⟨#[]⟩ : ByteArray), (rd_T68 ((rd_T66 ((rd_T127 l0 x7_1).f8.f3) x8_2).f1) x10_3).f2, ((rd_T66 ((rd_T127 l0 x7_1).f8.f3) x8_2).f0), false)) = some (r1, r2, r3, r4, r5) := by rw [if_neg (show ¬ (false = true) by decide)] at H; exact H
                clear H
                have H := H1
                clear H1
                simp only [Option.some.injEq, Prod.mk.injEq] at H
                obtain ⟨rfl, rfl, rfl, rfl, rfl⟩ := H
                have hnb26 := NB123_119.out
                have hnc26 := NB119_123.out
                have hcz27_0 : wr.cell? ⟨gb123, 0, none⟩ = some (.string ((rd_T66 ((rd_T127 l0 x7_1).f8.f3) x8_2).f0)) := (blk_cell BK123.out 0).trans rfl
                have hcz27_1 : wr.cell? ⟨gb123, 1, none⟩ = some (.slice A122_1 ((rd_T66 ((rd_T127 l0 x7_1).f8.f3) x8_2).f1).length c122_1) := (blk_cell BK123.out 1).trans rfl
                have hfz27_0 := blk_frozen BK123.out 0
                have hfz27_1 := blk_frozen BK123.out 1
                try go_wp2
                have n0_ := Aside0.mk (blk_drew BK119.out)
                have n1_ := Aside0.mk (blk_drew BK123.out)
                have n2_ := Aside0.mk (below_drew1 HB.out)
                clear BK119
                clear BK123
                clear HB
                have BK119 := n0_
                have BK123 := n1_
                have HB := n2_
                clear n0_ n1_ n2_
                have p124 : 0 ≤ (x10_3 : Int) := of_decide_eq_true (by assumption)
                have q124 : x10_3 < (((rd_T66 ((rd_T127 l0 x7_1).f8.f3) x8_2).f1).length : Int) := of_decide_eq_true (by assumption)
                obtain ⟨ad124, e124, hx124_0, hx124_1, hx124_2⟩ := at_T68 HR122_1.out x10_3 p124 q124
                have hw124_2 := hx124_2
                have hw124_1 := hx124_1
                have hw124_0 := hx124_0
                (try rw [← Nbq15.out] at hx124_1)
                (try rw [← Nbq15.out] at hw124_1)
                cases e124
                replace hx124_0 := (HB.out.cell (World.block_lt_of_cell? w _ hx124_0)).trans hx124_0
                replace hx124_1 := (HB.out.cell (World.block_lt_of_cell? w _ hx124_1)).trans hx124_1
                replace hx124_2 := (HB.out.cell (World.block_lt_of_cell? w _ hx124_2)).trans hx124_2
                replace p124 := eq_true p124
                replace q124 := eq_true q124
                refine start_ (n := 12) (S := fun w' => w'.cell? ⟨gb123, 0, none⟩ = some (.string ((rd_T66 ((rd_T127 l0 x7_1).f8.f3) x8_2).f0)) ∧ w'.cell? ⟨gb123, 1, none⟩ = some (.slice (some ad124) ((rd_T66 ((rd_T127 l0 x7_1).f8.f3) x8_2).f1).length c122_1) ∧ w'.cell? (ad124.add ((x10_3).toNat * 3)) = some (.int .i64 ((rd_T68 ((rd_T66 ((rd_T127 l0 x7_1).f8.f3) x8_2).f1) x10_3).f0)) ∧ w'.cell? ⟨(ad124.add ((x10_3).toNat * 3)).block, (ad124.add ((x10_3).toNat * 3)).off + 1, none⟩ = some (.bool false) ∧ w'.cell? ⟨(ad124.add ((x10_3).toNat * 3)).block, (ad124.add ((x10_3).toNat * 3)).off + 2, none⟩ = some (.string ((rd_T68 ((rd_T66 ((rd_T127 l0 x7_1).f8.f3) x8_2).f1) x10_3).f2))) (ds := []) #[false, false, false, false, false, false, false, false, false, false, false, false] (by kernel_rfl) rfl rfl ⟨(blk_cell BK123.out 0).trans rfl, (blk_cell BK123.out 1).trans rfl, ((HB.out.cell (World.block_lt_of_cell? w _ hw124_0)).trans hw124_0), ((HB.out.cell (World.block_lt_of_cell? w _ hw124_1)).trans hw124_1), ((HB.out.cell (World.block_lt_of_cell? w _ hw124_2)).trans hw124_2)⟩ (fun hHeld => ?_); refine with_tabW shackleref17_Versions.tab11 shackleref17_Versions.bits11 (fun HT_ HW_ => ?_)
                generalize wr.drew = w28 at BK119 BK123 HB hx124_0 hx124_1 hx124_2 hHeld ⊢
                refine pure_ (i := 0) (N := some 45) (v := ?_) (a' := ?_) #[true, false, false, false, false, false, false, false, false, false, false, false] rfl rfl (any_of HT_.out (by kernel_rfl)) (fun _ _ _ h => h) (Or.inl ⟨by rfl, ?_⟩) ?_ ?_
                rotate_left
                ·intro w'
                 go_simp
                 with_reducible rfl
                rotate_left
                ·simp only [Act.put, List.setIfInBounds_toArray, List.set_cons_zero, List.set_cons_succ, i64_w, i32_w]
                 rfl
                refine pure_ (i := 1) (N := some 46) (v := ?_) (a' := ?_) #[true, true, false, false, false, false, false, false, false, false, false, false] rfl rfl (any_of HT_.out (by kernel_rfl)) (fun _ _ _ h => h) (Or.inl ⟨by rfl, ?_⟩) ?_ ?_
                rotate_left
                ·intro w'
                 go_simp
                 with_reducible rfl
                rotate_left
                ·simp only [Act.put, List.setIfInBounds_toArray, List.set_cons_zero, List.set_cons_succ, i64_w, i32_w]
                 rfl
                refine pure_ (i := 2) (N := some 47) (v := ?_) (a' := ?_) #[true, true, true, false, false, false, false, false, false, false, false, false] rfl rfl (any_of HT_.out (by kernel_rfl)) (fun _ _ _ h => h) (Or.inl ⟨by rfl, ?_⟩) ?_ ?_
                rotate_left
                ·intro w'
                 go_simp
                 with_reducible rfl
                rotate_left
                ·simp only [Act.put, List.setIfInBounds_toArray, List.set_cons_zero, List.set_cons_succ, i64_w, i32_w]
                 rfl
                refine pure_ (i := 4) (N := some 49) (v := ?_) (a' := ?_) #[true, true, true, false, true, false, false, false, false, false, false, false] rfl rfl (any_of HT_.out (by kernel_rfl)) (fun _ _ _ h => h) (Or.inl ⟨by rfl, ?_⟩) ?_ ?_
                rotate_left
                ·intro w'
                 go_simp
                 with_reducible rfl
                rotate_left
                ·simp only [Act.put, List.setIfInBounds_toArray, List.set_cons_zero, List.set_cons_succ, i64_w, i32_w]
                 rfl
                refine pure_ (i := 6) (N := some 51) (v := ?_) (a' := ?_) #[true, true, true, false, true, false, true, false, false, false, false, false] rfl rfl (any_of HT_.out (by kernel_rfl)) (fun _ _ _ h => h) (Or.inl ⟨by rfl, ?_⟩) ?_ ?_
                rotate_left
                ·intro w'
                 go_simp
                 with_reducible rfl
                rotate_left
                ·simp only [Act.put, List.setIfInBounds_toArray, List.set_cons_zero, List.set_cons_succ, i64_w, i32_w]
                 rfl
                refine take_ (i := 3) (N := some 48) (v := ?_) (a' := ?_) #[true, true, true, true, true, false, true, false, false, false, false, false] rfl rfl (take_ofW HT_.out HW_.out (by kernel_rfl)) (fun _ _ _ h => h) (Or.inl ⟨by rfl, ?_⟩) hHeld ?_ ?_
                rotate_left
                ·rintro w' ⟨s0, s1, s2, s3, s4⟩
                 go_simp
                 with_reducible rfl
                rotate_left
                ·simp only [Act.put, List.setIfInBounds_toArray, List.set_cons_zero, List.set_cons_succ, i64_w, i32_w]
                 rfl
                refine take_ (i := 5) (N := some 50) (v := ?_) (a' := ?_) #[true, true, true, true, true, true, true, false, false, false, false, false] rfl rfl (take_ofW HT_.out HW_.out (by kernel_rfl)) (fun _ _ _ h => h) (Or.inl ⟨by rfl, ?_⟩) hHeld ?_ ?_
                rotate_left
                ·rintro w' ⟨s0, s1, s2, s3, s4⟩
                 go_simp
                 with_reducible rfl
                rotate_left
                ·simp only [Act.put, List.setIfInBounds_toArray, List.set_cons_zero, List.set_cons_succ, i64_w, i32_w]
                 rfl
                refine pure_ (i := 7) (N := some 52) (v := ?_) (a' := ?_) #[true, true, true, true, true, true, true, true, false, false, false, false] rfl rfl (any_of HT_.out (by kernel_rfl)) (fun _ _ _ h => h) (Or.inl ⟨by rfl, ?_⟩) ?_ ?_
                rotate_left
                ·intro w'
                 go_simp
                 with_reducible rfl
                rotate_left
                ·simp only [Act.put, List.setIfInBounds_toArray, List.set_cons_zero, List.set_cons_succ, i64_w, i32_w]
                 rfl
                refine pure_ (i := 8) (N := some 53) (v := ?_) (a' := ?_) #[true, true, true, true, true, true, true, true, true, false, false, false] rfl rfl (any_of HT_.out (by kernel_rfl)) (fun _ _ _ h => h) (Or.inl ⟨by rfl, ?_⟩) ?_ ?_
                rotate_left
                ·intro w'
                 go_simp
                 with_reducible rfl
                rotate_left
                ·simp only [Act.put, List.setIfInBounds_toArray, List.set_cons_zero, List.set_cons_succ, i64_w, i32_w]
                 rfl
                refine take_ (i := 9) (N := some 54) (v := ?_) (a' := ?_) #[true, true, true, true, true, true, true, true, true, true, false, false] rfl rfl (take_ofW HT_.out HW_.out (by kernel_rfl)) (fun _ _ _ h => h) (Or.inl ⟨by rfl, ?_⟩) hHeld ?_ ?_
                rotate_left
                ·rintro w' ⟨s0, s1, s2, s3, s4⟩
                 go_simp
                 with_reducible rfl
                rotate_left
                ·simp only [Act.put, List.setIfInBounds_toArray, List.set_cons_zero, List.set_cons_succ, i64_w, i32_w]
                 rfl
                refine one_ (i := 10) (N := some 55) #[true, true, true, true, true, true, true, true, true, true, true, false] rfl rfl (one_of HT_.out (by kernel_rfl)) (by decide) (fun K hK => ?_)
                refine goes_ Try.func51 (by kernel_rfl) rfl #[.slice (some ad120) l0.length c0, .slice A1 l1.length c1, .string ((rd_T66 ((rd_T127 l0 x7_1).f8.f3) x8_2).f0), .string ((rd_T68 ((rd_T66 ((rd_T127 l0 x7_1).f8.f3) x8_2).f1) x10_3).f2)] (by rfl) rfl rfl (by (try simp only [List.map_toArray, List.map_cons, List.map_nil]); first | done | rfl | (simp only [List.length_drop, List.length_take]; rfl)) ?_
                with_reducible refine (shackleref17_provides.calls k3 _ _ l0 _ _ l1 ((rd_T66 ((rd_T127 l0 x7_1).f8.f3) x8_2).f0) ((rd_T68 ((rd_T66 ((rd_T127 l0 x7_1).f8.f3) x8_2).f1) x10_3).f2) false _ ?side1 ?side2 ?side3 ?side4 A14.out).mono ?_
                (case side1 => repeat (first | exact (Kd.C_below HR0.out HB.out) | (with_reducible refine Kd.C_alloc ?_ _) | (with_reducible refine Kd.C_drewN ?_ _) | (with_reducible refine Kd.C_drew ?_)))
                (case side2 => exact HC0.out)
                (case side3 => repeat (first | exact (Kd.C_below HR1.out HB.out) | (with_reducible refine Kd.C_alloc ?_ _) | (with_reducible refine Kd.C_drewN ?_ _) | (with_reducible refine Kd.C_drew ?_)))
                (case side4 => exact HC1.out)
                rintro e w' ⟨rfl, ⟨nd, rfl⟩⟩
                refine ⟨_, rfl, ?_⟩
                refine hK.out _ _ ⟨(blk_cell BK123.out 0).trans rfl, (blk_cell BK123.out 1).trans rfl, ((HB.out.cell (World.block_lt_of_cell? w _ hw124_0)).trans hw124_0), ((HB.out.cell (World.block_lt_of_cell? w _ hw124_1)).trans hw124_1), ((HB.out.cell (World.block_lt_of_cell? w _ hw124_2)).trans hw124_2)⟩ (fun hHeld => ?_)
                clear hK K
                refine norm_ (a' := ?_) ?_ ?_
                rotate_left
                ·show Act.put _ (some 55) _ = _
                 simp only [Act.put, List.setIfInBounds_toArray, List.set_cons_zero, List.set_cons_succ, i64_w, i32_w]
                 rfl
                refine pure_ (i := 11) (N := some 11) (v := ?_) (a' := ?_) #[true, true, true, true, true, true, true, true, true, true, true, true] rfl rfl (any_of HT_.out (by kernel_rfl)) (fun _ _ _ h => h) (Or.inl ⟨by rfl, ?_⟩) ?_ ?_
                rotate_left
                ·intro w'
                 go_simp
                 with_reducible rfl
                rotate_left
                ·simp only [Act.put, List.setIfInBounds_toArray, List.set_cons_zero, List.set_cons_succ, i64_w, i32_w]
                 rfl
                refine done_ (done_of HT_.out (by kernel_rfl)) ?_
                have hcz29_0 : w28.cell? ⟨gb123, 0, none⟩ = some (.string ((rd_T66 ((rd_T127 l0 x7_1).f8.f3) x8_2).f0)) := (blk_cell BK123.out 0).trans rfl
                have hcz29_1 : w28.cell? ⟨gb123, 1, none⟩ = some (.slice (some ad124) ((rd_T66 ((rd_T127 l0 x7_1).f8.f3) x8_2).f1).length c122_1) := (blk_cell BK123.out 1).trans rfl
                have hfz29_0 := blk_frozen BK123.out 0
                have hfz29_1 := blk_frozen BK123.out 1
                have p126 : 0 ≤ (x10_3 : Int) := of_decide_eq_true (by assumption)
                have q126 : x10_3 < (((rd_T66 ((rd_T127 l0 x7_1).f8.f3) x8_2).f1).length : Int) := of_decide_eq_true (by assumption)
                obtain ⟨ad126, e126, hx126_0, hx126_1, hx126_2⟩ := at_T68 HR122_1.out x10_3 p126 q126
                (try rw [← Nbq15.out] at hx126_1)
                (try rw [← Nbq15.out] at hw126_1)
                obtain rfl : ad124 = ad126 := (by injection e126)
                replace hx126_0 := (HB.out.cell (World.block_lt_of_cell? w _ hx126_0)).trans hx126_0
                replace hx126_1 := (HB.out.cell (World.block_lt_of_cell? w _ hx126_1)).trans hx126_1
                replace hx126_2 := (HB.out.cell (World.block_lt_of_cell? w _ hx126_2)).trans hx126_2
                replace p126 := eq_true p126
                replace q126 := eq_true q126
                try go_wp2
                (try (rw [drewN_self w28]; generalize hq_ : World.drewN w28 _ = w28; have n0_ : Aside0 (w28.heap[gb119]? = some (.cells #[.string x120000_3, .string x120001_3, .string x120002_3] 74 (0, 0))) := ⟨by rw [← hq_]; exact (by (with_reducible repeat (first | refine blk_drewN ?_ _ | refine blk_drew ?_ | refine blk_alloc ?_ _)); exact BK119.out)⟩; have n1_ : Aside0 (w28.heap[gb123]? = some (.cells #[.string ((rd_T66 ((rd_T127 l0 x7_1).f8.f3) x8_2).f0), .slice (some ad124) ((rd_T66 ((rd_T127 l0 x7_1).f8.f3) x8_2).f1).length c122_1] 66 (0, 0))) := ⟨by rw [← hq_]; exact (by (with_reducible repeat (first | refine blk_drewN ?_ _ | refine blk_drew ?_ | refine blk_alloc ?_ _)); exact BK123.out)⟩; have n2_ : Aside0 (Below w.heap.size w w28) := ⟨by rw [← hq_]; exact (by repeat (first | (with_reducible first | exact HB.out | apply below_alloc | apply pw_below_drewN | apply below_drew1 | refine below_set ?_ GE119.out | refine below_set ?_ GE123.out) | exact HB.out))⟩; clear BK119 BK123 HB hq_; have BK119 := n0_; have BK123 := n1_; have HB := n2_; clear n0_ n1_ n2_))
                have n0_ := Aside0.mk (blk_drew BK119.out)
                have n1_ := Aside0.mk (blk_drew BK123.out)
                have n2_ := Aside0.mk (below_drew1 HB.out)
                clear BK119
                clear BK123
                clear HB
                have BK119 := n0_
                have BK123 := n1_
                have HB := n2_
                clear n0_ n1_ n2_
                have p127 : 0 ≤ (x10_3 : Int) := of_decide_eq_true (by assumption)
                have q127 : x10_3 < (((rd_T66 ((rd_T127 l0 x7_1).f8.f3) x8_2).f1).length : Int) := of_decide_eq_true (by assumption)
                obtain ⟨ad127, e127, hx127_0, hx127_1, hx127_2⟩ := at_T68 HR122_1.out x10_3 p127 q127
                have hw127_2 := hx127_2
                have hw127_1 := hx127_1
                have hw127_0 := hx127_0
                (try rw [← Nbq15.out] at hx127_1)
                (try rw [← Nbq15.out] at hw127_1)
                obtain rfl : ad124 = ad127 := (by injection e127)
                replace hx127_0 := (HB.out.cell (World.block_lt_of_cell? w _ hx127_0)).trans hx127_0
                replace hx127_1 := (HB.out.cell (World.block_lt_of_cell? w _ hx127_1)).trans hx127_1
                replace hx127_2 := (HB.out.cell (World.block_lt_of_cell? w _ hx127_2)).trans hx127_2
                replace p127 := eq_true p127
                replace q127 := eq_true q127
                refine start_ (n := 13) (S := fun w' => w'.cell? ⟨gb123, 0, none⟩ = some (.string ((rd_T66 ((rd_T127 l0 x7_1).f8.f3) x8_2).f0)) ∧ w'.cell? ⟨gb123, 1, none⟩ = some (.slice (some ad124) ((rd_T66 ((rd_T127 l0 x7_1).f8.f3) x8_2).f1).length c122_1) ∧ w'.cell? (ad124.add ((x10_3).toNat * 3)) = some (.int .i64 ((rd_T68 ((rd_T66 ((rd_T127 l0 x7_1).f8.f3) x8_2).f1) x10_3).f0)) ∧ w'.cell? ⟨(ad124.add ((x10_3).toNat * 3)).block, (ad124.add ((x10_3).toNat * 3)).off + 1, none⟩ = some (.bool (false)) ∧ w'.cell? ⟨(ad124.add ((x10_3).toNat * 3)).block, (ad124.add ((x10_3).toNat * 3)).off + 2, none⟩ = some (.string ((rd_T68 ((rd_T66 ((rd_T127 l0 x7_1).f8.f3) x8_2).f1) x10_3).f2))) (ds := []) #[false, false, false, false, false, false, false, false, false, false, false, false, false] (by kernel_rfl) rfl rfl ⟨(blk_cell BK123.out 0).trans rfl, (blk_cell BK123.out 1).trans rfl, ((HB.out.cell (World.block_lt_of_cell? w _ hw127_0)).trans hw127_0), ((HB.out.cell (World.block_lt_of_cell? w _ hw127_1)).trans hw127_1), ((HB.out.cell (World.block_lt_of_cell? w _ hw127_2)).trans hw127_2)⟩ (fun hHeld => ?_); refine with_tabW shackleref17_Versions.tab13 shackleref17_Versions.bits13 (fun HT_ HW_ => ?_)
                generalize w28.drew = w30 at BK119 BK123 HB hx127_0 hx127_1 hx127_2 hHeld ⊢
                refine pure_ (i := 0) (N := some 67) (v := ?_) (a' := ?_) #[true, false, false, false, false, false, false, false, false, false, false, false, false] rfl rfl (any_of HT_.out (by kernel_rfl)) (fun _ _ _ h => h) (Or.inl ⟨by rfl, ?_⟩) ?_ ?_
                rotate_left
                ·intro w'
                 go_simp
                 with_reducible rfl
                rotate_left
                ·simp only [Act.put, List.setIfInBounds_toArray, List.set_cons_zero, List.set_cons_succ, i64_w, i32_w]
                 rfl
                refine pure_ (i := 1) (N := some 68) (v := ?_) (a' := ?_) #[true, true, false, false, false, false, false, false, false, false, false, false, false] rfl rfl (any_of HT_.out (by kernel_rfl)) (fun _ _ _ h => h) (Or.inl ⟨by rfl, ?_⟩) ?_ ?_
                rotate_left
                ·intro w'
                 go_simp
                 with_reducible rfl
                rotate_left
                ·simp only [Act.put, List.setIfInBounds_toArray, List.set_cons_zero, List.set_cons_succ, i64_w, i32_w]
                 rfl
                refine pure_ (i := 3) (N := some 70) (v := ?_) (a' := ?_) #[true, true, false, true, false, false, false, false, false, false, false, false, false] rfl rfl (any_of HT_.out (by kernel_rfl)) (fun _ _ _ h => h) (Or.inl ⟨by rfl, ?_⟩) ?_ ?_
                rotate_left
                ·intro w'
                 go_simp
                 with_reducible rfl
                rotate_left
                ·simp only [Act.put, List.setIfInBounds_toArray, List.set_cons_zero, List.set_cons_succ, i64_w, i32_w]
                 rfl
                refine pure_ (i := 7) (N := some 74) (v := ?_) (a' := ?_) #[true, true, false, true, false, false, false, true, false, false, false, false, false] rfl rfl (any_of HT_.out (by kernel_rfl)) (fun _ _ _ h => h) (Or.inl ⟨by rfl, ?_⟩) ?_ ?_
                rotate_left
                ·intro w'
                 go_simp
                 with_reducible rfl
                rotate_left
                ·simp only [Act.put, List.setIfInBounds_toArray, List.set_cons_zero, List.set_cons_succ, i64_w, i32_w]
                 rfl
                refine pure_ (i := 10) (N := some 4) (v := ?_) (a' := ?_) #[true, true, false, true, false, false, false, true, false, false, true, false, false] rfl rfl (any_of HT_.out (by kernel_rfl)) (fun _ _ _ h => h) (Or.inl ⟨by rfl, ?_⟩) ?_ ?_
                rotate_left
                ·intro w'
                 go_simp
                 with_reducible rfl
                rotate_left
                ·simp only [Act.put, List.setIfInBounds_toArray, List.set_cons_zero, List.set_cons_succ, i64_w, i32_w]
                 rfl
                refine take_ (i := 2) (N := some 69) (v := ?_) (a' := ?_) #[true, true, true, true, false, false, false, true, false, false, true, false, false] rfl rfl (take_ofW HT_.out HW_.out (by kernel_rfl)) (fun _ _ _ h => h) (Or.inl ⟨by rfl, ?_⟩) hHeld ?_ ?_
                rotate_left
                ·rintro w' ⟨s0, s1, s2, s3, s4⟩
                 go_simp
                 with_reducible rfl
                rotate_left
                ·simp only [Act.put, List.setIfInBounds_toArray, List.set_cons_zero, List.set_cons_succ, i64_w, i32_w]
                 rfl
                refine pure_ (i := 4) (N := some 71) (v := ?_) (a' := ?_) #[true, true, true, true, true, false, false, true, false, false, true, false, false] rfl rfl (any_of HT_.out (by kernel_rfl)) (fun _ _ _ h => h) (Or.inl ⟨by rfl, ?_⟩) ?_ ?_
                rotate_left
                ·intro w'
                 go_simp
                 with_reducible rfl
                rotate_left
                ·simp only [Act.put, List.setIfInBounds_toArray, List.set_cons_zero, List.set_cons_succ, i64_w, i32_w]
                 rfl
                refine pure_ (i := 5) (N := some 72) (v := ?_) (a' := ?_) #[true, true, true, true, true, true, false, true, false, false, true, false, false] rfl rfl (any_of HT_.out (by kernel_rfl)) (fun _ _ _ h => h) (Or.inl ⟨by rfl, ?_⟩) ?_ ?_
                rotate_left
                ·intro w'
                 go_simp
                 with_reducible rfl
                rotate_left
                ·simp only [Act.put, List.setIfInBounds_toArray, List.set_cons_zero, List.set_cons_succ, i64_w, i32_w]
                 rfl
                refine take_ (i := 6) (N := some 73) (v := ?_) (a' := ?_) #[true, true, true, true, true, true, true, true, false, false, true, false, false] rfl rfl (take_ofW HT_.out HW_.out (by kernel_rfl)) (fun _ _ _ h => h) (Or.inl ⟨by rfl, ?_⟩) hHeld ?_ ?_
                rotate_left
                ·rintro w' ⟨s0, s1, s2, s3, s4⟩
                 go_simp
                 with_reducible rfl
                rotate_left
                ·simp only [Act.put, List.setIfInBounds_toArray, List.set_cons_zero, List.set_cons_succ, i64_w, i32_w]
                 rfl
                refine take_ (i := 8) (N := some 75) (v := ?_) (a' := ?_) #[true, true, true, true, true, true, true, true, true, false, true, false, false] rfl rfl (take_ofW HT_.out HW_.out (by kernel_rfl)) (fun _ _ _ h => h) (Or.inl ⟨by rfl, ?_⟩) hHeld ?_ ?_
                rotate_left
                ·rintro w' ⟨s0, s1, s2, s3, s4⟩
                 go_simp
                 with_reducible rfl
                rotate_left
                ·simp only [Act.put, List.setIfInBounds_toArray, List.set_cons_zero, List.set_cons_succ, i64_w, i32_w]
                 rfl
                refine pure_ (i := 9) (N := some 76) (v := ?_) (a' := ?_) #[true, true, true, true, true, true, true, true, true, true, true, false, false] rfl rfl (any_of HT_.out (by kernel_rfl)) (fun _ _ _ h => h) (Or.inl ⟨by rfl, ?_⟩) ?_ ?_
                rotate_left
                ·intro w'
                 go_simp
                 with_reducible rfl
                rotate_left
                ·simp only [Act.put, List.setIfInBounds_toArray, List.set_cons_zero, List.set_cons_succ, i64_w, i32_w]
                 rfl
                refine one_ (i := 11) (N := none) #[true, true, true, true, true, true, true, true, true, true, true, true, false] rfl rfl (one_of HT_.out (by kernel_rfl)) (by decide) (fun K hK => ?_)
                have hs31 : w30.cell? ⟨gb119, 0, none⟩ = some (.string x120000_3) := (blk_cell BK119.out 0).trans rfl
                have hfs31 := blk_frozen BK119.out 0
                have hns31_1 := NB123_119.out
                have hms31_1 := NB119_123.out
                have hs32 : w30.cell? ⟨gb119, 1, none⟩ = some (.string x120001_3) := (blk_cell BK119.out 1).trans rfl
                have hfs32 := blk_frozen BK119.out 1
                have hns32_1 := NB123_119.out
                have hms32_1 := NB119_123.out
                have hs33 : w30.cell? ⟨gb119, 2, none⟩ = some (.string x120002_3) := (blk_cell BK119.out 2).trans rfl
                have hfs33 := blk_frozen BK119.out 2
                have hns33_1 := NB123_119.out
                have hms33_1 := NB119_123.out
                refine skip_ (w1 := ?_) (by rfl) rfl ?_ ?_
                rotate_left
                ·go_simp
                 rfl
                refine hK.out _ _ ⟨((cell_far (p := ⟨gb119, _, none⟩) NB123_119.out _).trans (((cell_far (p := ⟨gb119, _, none⟩) NB123_119.out _).trans (((cell_far (p := ⟨gb119, _, none⟩) NB123_119.out _).trans (hHeld.1)))))), ((cell_far (p := ⟨gb119, _, none⟩) NB123_119.out _).trans (((cell_far (p := ⟨gb119, _, none⟩) NB123_119.out _).trans (((cell_far (p := ⟨gb119, _, none⟩) NB123_119.out _).trans (hHeld.2.1)))))), ((cell_far (p := ⟨gb119, _, none⟩) (by first | exact Nat.ne_of_lt (Nat.lt_of_lt_of_le (by have := World.block_lt_of_cell? _ _ hw127_0; first | rwa [add_block] at this | exact this) GW119.out) | (rw [add_block]; exact Nat.ne_of_lt (Nat.lt_of_lt_of_le (by have := World.block_lt_of_cell? _ _ hw127_0; first | rwa [add_block] at this | exact this) GW119.out)) | (show (Addr.add _ _).block ≠ _; rw [add_block]; exact Nat.ne_of_lt (Nat.lt_of_lt_of_le (by have := World.block_lt_of_cell? _ _ hw127_0; first | rwa [add_block] at this | exact this) GW119.out)) | (dsimp only; exact Nat.ne_of_lt (Nat.lt_of_lt_of_le (by have := World.block_lt_of_cell? _ _ hw127_0; first | rwa [add_block] at this | exact this) GW119.out))) _).trans (((cell_far (p := ⟨gb119, _, none⟩) (by first | exact Nat.ne_of_lt (Nat.lt_of_lt_of_le (by have := World.block_lt_of_cell? _ _ hw127_0; first | rwa [add_block] at this | exact this) GW119.out) | (rw [add_block]; exact Nat.ne_of_lt (Nat.lt_of_lt_of_le (by have := World.block_lt_of_cell? _ _ hw127_0; first | rwa [add_block] at this | exact this) GW119.out)) | (show (Addr.add _ _).block ≠ _; rw [add_block]; exact Nat.ne_of_lt (Nat.lt_of_lt_of_le (by have := World.block_lt_of_cell? _ _ hw127_0; first | rwa [add_block] at this | exact this) GW119.out)) | (dsimp only; exact Nat.ne_of_lt (Nat.lt_of_lt_of_le (by have := World.block_lt_of_cell? _ _ hw127_0; first | rwa [add_block] at this | exact this) GW119.out))) _).trans (((cell_far (p := ⟨gb119, _, none⟩) (by first | exact Nat.ne_of_lt (Nat.lt_of_lt_of_le (by have := World.block_lt_of_cell? _ _ hw127_0; first | rwa [add_block] at this | exact this) GW119.out) | (rw [add_block]; exact Nat.ne_of_lt (Nat.lt_of_lt_of_le (by have := World.block_lt_of_cell? _ _ hw127_0; first | rwa [add_block] at this | exact this) GW119.out)) | (show (Addr.add _ _).block ≠ _; rw [add_block]; exact Nat.ne_of_lt (Nat.lt_of_lt_of_le (by have := World.block_lt_of_cell? _ _ hw127_0; first | rwa [add_block] at this | exact this) GW119.out)) | (dsimp only; exact Nat.ne_of_lt (Nat.lt_of_lt_of_le (by have := World.block_lt_of_cell? _ _ hw127_0; first | rwa [add_block] at this | exact this) GW119.out))) _).trans (hHeld.2.2.1)))))), ((cell_far (p := ⟨gb119, _, none⟩) (by first | exact Nat.ne_of_lt (Nat.lt_of_lt_of_le (by have := World.block_lt_of_cell? _ _ hw127_1; first | rwa [add_block] at this | exact this) GW119.out) | (rw [add_block]; exact Nat.ne_of_lt (Nat.lt_of_lt_of_le (by have := World.block_lt_of_cell? _ _ hw127_1; first | rwa [add_block] at this | exact this) GW119.out)) | (show (Addr.add _ _).block ≠ _; rw [add_block]; exact Nat.ne_of_lt (Nat.lt_of_lt_of_le (by have := World.block_lt_of_cell? _ _ hw127_1; first | rwa [add_block] at this | exact this) GW119.out)) | (dsimp only; exact Nat.ne_of_lt (Nat.lt_of_lt_of_le (by have := World.block_lt_of_cell? _ _ hw127_1; first | rwa [add_block] at this | exact this) GW119.out))) _).trans (((cell_far (p := ⟨gb119, _, none⟩) (by first | exact Nat.ne_of_lt (Nat.lt_of_lt_of_le (by have := World.block_lt_of_cell? _ _ hw127_1; first | rwa [add_block] at this | exact this) GW119.out) | (rw [add_block]; exact Nat.ne_of_lt (Nat.lt_of_lt_of_le (by have := World.block_lt_of_cell? _ _ hw127_1; first | rwa [add_block] at this | exact this) GW119.out)) | (show (Addr.add _ _).block ≠ _; rw [add_block]; exact Nat.ne_of_lt (Nat.lt_of_lt_of_le (by have := World.block_lt_of_cell? _ _ hw127_1; first | rwa [add_block] at this | exact this) GW119.out)) | (dsimp only; exact Nat.ne_of_lt (Nat.lt_of_lt_of_le (by have := World.block_lt_of_cell? _ _ hw127_1; first | rwa [add_block] at this | exact this) GW119.out))) _).trans (((cell_far (p := ⟨gb119, _, none⟩) (by first | exact Nat.ne_of_lt (Nat.lt_of_lt_of_le (by have := World.block_lt_of_cell? _ _ hw127_1; first | rwa [add_block] at this | exact this) GW119.out) | (rw [add_block]; exact Nat.ne_of_lt (Nat.lt_of_lt_of_le (by have := World.block_lt_of_cell? _ _ hw127_1; first | rwa [add_block] at this | exact this) GW119.out)) | (show (Addr.add _ _).block ≠ _; rw [add_block]; exact Nat.ne_of_lt (Nat.lt_of_lt_of_le (by have := World.block_lt_of_cell? _ _ hw127_1; first | rwa [add_block] at this | exact this) GW119.out)) | (dsimp only; exact Nat.ne_of_lt (Nat.lt_of_lt_of_le (by have := World.block_lt_of_cell? _ _ hw127_1; first | rwa [add_block] at this | exact this) GW119.out))) _).trans (hHeld.2.2.2.1)))))), ((cell_far (p := ⟨gb119, _, none⟩) (by first | exact Nat.ne_of_lt (Nat.lt_of_lt_of_le (by have := World.block_lt_of_cell? _ _ hw127_2; first | rwa [add_block] at this | exact this) GW119.out) | (rw [add_block]; exact Nat.ne_of_lt (Nat.lt_of_lt_of_le (by have := World.block_lt_of_cell? _ _ hw127_2; first | rwa [add_block] at this | exact this) GW119.out)) | (show (Addr.add _ _).block ≠ _; rw [add_block]; exact Nat.ne_of_lt (Nat.lt_of_lt_of_le (by have := World.block_lt_of_cell? _ _ hw127_2; first | rwa [add_block] at this | exact this) GW119.out)) | (dsimp only; exact Nat.ne_of_lt (Nat.lt_of_lt_of_le (by have := World.block_lt_of_cell? _ _ hw127_2; first | rwa [add_block] at this | exact this) GW119.out))) _).trans (((cell_far (p := ⟨gb119, _, none⟩) (by first | exact Nat.ne_of_lt (Nat.lt_of_lt_of_le (by have := World.block_lt_of_cell? _ _ hw127_2; first | rwa [add_block] at this | exact this) GW119.out) | (rw [add_block]; exact Nat.ne_of_lt (Nat.lt_of_lt_of_le (by have := World.block_lt_of_cell? _ _ hw127_2; first | rwa [add_block] at this | exact this) GW119.out)) | (show (Addr.add _ _).block ≠ _; rw [add_block]; exact Nat.ne_of_lt (Nat.lt_of_lt_of_le (by have := World.block_lt_of_cell? _ _ hw127_2; first | rwa [add_block] at this | exact this) GW119.out)) | (dsimp only; exact Nat.ne_of_lt (Nat.lt_of_lt_of_le (by have := World.block_lt_of_cell? _ _ hw127_2; first | rwa [add_block] at this | exact this) GW119.out))) _).trans (((cell_far (p := ⟨gb119, _, none⟩) (by first | exact Nat.ne_of_lt (Nat.lt_of_lt_of_le (by have := World.block_lt_of_cell? _ _ hw127_2; first | rwa [add_block] at this | exact this) GW119.out) | (rw [add_block]; exact Nat.ne_of_lt (Nat.lt_of_lt_of_le (by have := World.block_lt_of_cell? _ _ hw127_2; first | rwa [add_block] at this | exact this) GW119.out)) | (show (Addr.add _ _).block ≠ _; rw [add_block]; exact Nat.ne_of_lt (Nat.lt_of_lt_of_le (by have := World.block_lt_of_cell? _ _ hw127_2; first | rwa [add_block] at this | exact this) GW119.out)) | (dsimp only; exact Nat.ne_of_lt (Nat.lt_of_lt_of_le (by have := World.block_lt_of_cell? _ _ hw127_2; first | rwa [add_block] at this | exact this) GW119.out))) _).trans (hHeld.2.2.2.2))))))⟩ (fun hHeld => ?_)
                clear hK K
                refine pure_ (i := 12) (N := some 6) (v := ?_) (a' := ?_) #[true, true, true, true, true, true, true, true, true, true, true, true, true] rfl rfl (any_of HT_.out (by kernel_rfl)) (fun _ _ _ h => h) (Or.inl ⟨by rfl, ?_⟩) ?_ ?_
                rotate_left
                ·intro w'
                 go_simp
                 with_reducible rfl
                rotate_left
                ·simp only [Act.put, List.setIfInBounds_toArray, List.set_cons_zero, List.set_cons_succ, i64_w, i32_w]
                 rfl
                refine done_ (done_of HT_.out (by kernel_rfl)) ?_
                try go_wp2
                refine bodyPost_ret (results_list (rs := [.tmp 4, .cell 5 74, .tmp 6]) rfl (by simp) (.tmp (.cell gb119 74 #[.string (⟨#[]⟩ : ByteArray), .string ((rd_T68 ((rd_T66 ((rd_T127 l0 x7_1).f8.f3) x8_2).f1) x10_3).f2), .string ((rd_T66 ((rd_T127 l0 x7_1).f8.f3) x8_2).f0)] (0, 0) _ rfl (by (with_reducible repeat (first | refine blk_drewN ?_ _ | refine blk_drew ?_ | refine blk_alloc ?_ _)); refine blk_put (cs := #[.string (⟨#[]⟩ : ByteArray), .string ((rd_T68 ((rd_T66 ((rd_T127 l0 x7_1).f8.f3) x8_2).f1) x10_3).f2), .string x120002_3]) ?_ 2 _ rfl; (with_reducible repeat (first | refine blk_drewN ?_ _ | refine blk_drew ?_ | refine blk_alloc ?_ _)); refine blk_put (cs := #[.string (⟨#[]⟩ : ByteArray), .string x120001_3, .string x120002_3]) ?_ 1 _ rfl; (with_reducible repeat (first | refine blk_drewN ?_ _ | refine blk_drew ?_ | refine blk_alloc ?_ _)); refine blk_put (cs := #[.string x120000_3, .string x120001_3, .string x120002_3]) ?_ 0 _ rfl; (with_reducible repeat (first | refine blk_drewN ?_ _ | refine blk_drew ?_ | refine blk_alloc ?_ _)); exact BK119.out) Try.underlying74 rfl (by kernel_rfl) (.tmp .nil)))) rfl ?_
                exact ⟨by first | rfl | (simp [errW_none, errW_some] <;> rfl) | (simp [*, errW_none, errW_some] <;> rfl), by repeat (first | (with_reducible first | exact HB.out | apply below_alloc | apply pw_below_drewN | apply below_drew1 | refine below_set ?_ GE119.out | refine below_set ?_ GE123.out) | exact HB.out)⟩
             ·rw [if_neg c13] at H
              exact absurd H (by simp)
            ·rw [if_neg c12] at H
             have c12b0 : decide (x10_3 < (((rd_T66 ((rd_T127 l0 x7_1).f8.f3) x8_2).f1).length : Int)) = false := decide_eq_false c12
             clear c12
             have H' := Aside0.mk H
             clear H
             have hnb34 := NB123_119.out
             have hnc34 := NB119_123.out
             have hcz35_0 : wr.cell? ⟨gb123, 0, none⟩ = some (.string ((rd_T66 ((rd_T127 l0 x7_1).f8.f3) x8_2).f0)) := (blk_cell BK123.out 0).trans rfl
             have hcz35_1 : wr.cell? ⟨gb123, 1, none⟩ = some (.slice A122_1 ((rd_T66 ((rd_T127 l0 x7_1).f8.f3) x8_2).f1).length c122_1) := (blk_cell BK123.out 1).trans rfl
             have hfz35_0 := blk_frozen BK123.out 0
             have hfz35_1 := blk_frozen BK123.out 1
             go_wp2
             go_roundg k3
             case measure => have := HK1.out; have := HK2.out; have := HK3.out; omega
             case rel => exact ⟨(wrap64 (x8_2 + 1)), (x120000_3), (x120001_3), (x120002_3), (by first | rfl | (simp; done) | (simp [*]; done)), H', ⟨by have := HK1.out; have := HK2.out; have := HK3.out; omega⟩, ⟨by (with_reducible repeat (first | refine blk_drewN ?_ _ | refine blk_drew ?_ | refine blk_alloc ?_ _)); exact BK119.out⟩, ⟨by repeat (first | (with_reducible first | exact HB.out | apply below_alloc | apply pw_below_drewN | apply below_drew1 | refine below_set ?_ GE119.out | refine below_set ?_ GE123.out) | exact HB.out)⟩⟩
         ·rw [if_neg c8] at H
          exact absurd H (by simp)
        ·rw [if_neg c7] at H
         have c7b0 : decide (x8_2 < (((rd_T127 l0 x7_1).f8.f3).length : Int)) = false := decide_eq_false c7
         clear c7
         have H' := Aside0.mk H
         clear H
         have p120 : 0 ≤ (x7_1 : Int) := of_decide_eq_true (by assumption)
         have q120 : x7_1 < (l0.length : Int) := of_decide_eq_true (by assumption)
         obtain ⟨ad120, A120_2, c120_2, A120_4, c120_4, A120_44, c120_44, A120_45, c120_45, A120_47, c120_47, A120_48, c120_48, A120_49, c120_49, A120_50, c120_50, A120_51, c120_51, A120_52, c120_52, A120_53, c120_53, e120, hx120_0, hx120_1, hx120_2, hx120_3, hx120_4, hx120_5, hx120_6, hx120_7, hx120_8, hx120_9, hx120_10, hx120_11, hx120_12, hx120_13, hx120_14, hx120_15, hx120_16, hx120_17, hx120_18, hx120_19, hx120_20, hx120_21, hx120_22, hx120_23, hx120_24, hx120_25, hx120_26, hx120_27, hx120_28, hx120_29, hx120_30, hx120_31, hx120_32, hx120_33, hx120_34, hx120_35, hx120_36, hx120_37, hx120_38, hx120_39, hx120_40, hx120_41, hx120_42, hx120_43, hx120_44, hx120_45, hx120_46, hx120_47, hx120_48, hx120_49, hx120_50, hx120_51, hx120_52, hx120_53, hl120_2, hi120_2, hl120_4, hi120_4, hl120_44, hi120_44, hl120_45, hi120_45, hl120_47, hi120_47, hl120_48, hi120_48, hl120_49, hi120_49, hl120_50, hi120_50, hl120_51, hi120_51, hl120_52, hi120_52, hl120_53, hi120_53⟩ := at_T127 HR0.out x7_1 p120 q120
         cases e120
         replace hx120_0 := (HB.out.cell (World.block_lt_of_cell? w _ hx120_0)).trans hx120_0
         replace hx120_1 := (HB.out.cell (World.block_lt_of_cell? w _ hx120_1)).trans hx120_1
         replace hx120_2 := (HB.out.cell (World.block_lt_of_cell? w _ hx120_2)).trans hx120_2
         replace hx120_3 := (HB.out.cell (World.block_lt_of_cell? w _ hx120_3)).trans hx120_3
         replace hx120_4 := (HB.out.cell (World.block_lt_of_cell? w _ hx120_4)).trans hx120_4
         replace hx120_5 := (HB.out.cell (World.block_lt_of_cell? w _ hx120_5)).trans hx120_5
         replace hx120_6 := (HB.out.cell (World.block_lt_of_cell? w _ hx120_6)).trans hx120_6
         replace hx120_7 := (HB.out.cell (World.block_lt_of_cell? w _ hx120_7)).trans hx120_7
         replace hx120_8 := (HB.out.cell (World.block_lt_of_cell? w _ hx120_8)).trans hx120_8
         replace hx120_9 := (HB.out.cell (World.block_lt_of_cell? w _ hx120_9)).trans hx120_9
         replace hx120_10 := (HB.out.cell (World.block_lt_of_cell? w _ hx120_10)).trans hx120_10
         replace hx120_11 := (HB.out.cell (World.block_lt_of_cell? w _ hx120_11)).trans hx120_11
         replace hx120_12 := (HB.out.cell (World.block_lt_of_cell? w _ hx120_12)).trans hx120_12
         replace hx120_13 := (HB.out.cell (World.block_lt_of_cell? w _ hx120_13)).trans hx120_13
         replace hx120_14 := (HB.out.cell (World.block_lt_of_cell? w _ hx120_14)).trans hx120_14
         replace hx120_15 := (HB.out.cell (World.block_lt_of_cell? w _ hx120_15)).trans hx120_15
         replace hx120_16 := (HB.out.cell (World.block_lt_of_cell? w _ hx120_16)).trans hx120_16
         replace hx120_17 := (HB.out.cell (World.block_lt_of_cell? w _ hx120_17)).trans hx120_17
         replace hx120_18 := (HB.out.cell (World.block_lt_of_cell? w _ hx120_18)).trans hx120_18
         replace hx120_19 := (HB.out.cell (World.block_lt_of_cell? w _ hx120_19)).trans hx120_19
         replace hx120_20 := (HB.out.cell (World.block_lt_of_cell? w _ hx120_20)).trans hx120_20
         replace hx120_21 := (HB.out.cell (World.block_lt_of_cell? w _ hx120_21)).trans hx120_21
         replace hx120_22 := (HB.out.cell (World.block_lt_of_cell? w _ hx120_22)).trans hx120_22
         replace hx120_23 := (HB.out.cell (World.block_lt_of_cell? w _ hx120_23)).trans hx120_23
         replace hx120_24 := (HB.out.cell (World.block_lt_of_cell? w _ hx120_24)).trans hx120_24
         replace hx120_25 := (HB.out.cell (World.block_lt_of_cell? w _ hx120_25)).trans hx120_25
         replace hx120_26 := (HB.out.cell (World.block_lt_of_cell? w _ hx120_26)).trans hx120_26
         replace hx120_27 := (HB.out.cell (World.block_lt_of_cell? w _ hx120_27)).trans hx120_27
         replace hx120_28 := (HB.out.cell (World.block_lt_of_cell? w _ hx120_28)).trans hx120_28
         replace hx120_29 := (HB.out.cell (World.block_lt_of_cell? w _ hx120_29)).trans hx120_29
         replace hx120_30 := (HB.out.cell (World.block_lt_of_cell? w _ hx120_30)).trans hx120_30
         replace hx120_31 := (HB.out.cell (World.block_lt_of_cell? w _ hx120_31)).trans hx120_31
         replace hx120_32 := (HB.out.cell (World.block_lt_of_cell? w _ hx120_32)).trans hx120_32
         replace hx120_33 := (HB.out.cell (World.block_lt_of_cell? w _ hx120_33)).trans hx120_33
         replace hx120_34 := (HB.out.cell (World.block_lt_of_cell? w _ hx120_34)).trans hx120_34
         replace hx120_35 := (HB.out.cell (World.block_lt_of_cell? w _ hx120_35)).trans hx120_35
         replace hx120_36 := (HB.out.cell (World.block_lt_of_cell? w _ hx120_36)).trans hx120_36
         replace hx120_37 := (HB.out.cell (World.block_lt_of_cell? w _ hx120_37)).trans hx120_37
         replace hx120_38 := (HB.out.cell (World.block_lt_of_cell? w _ hx120_38)).trans hx120_38
         replace hx120_39 := (HB.out.cell (World.block_lt_of_cell? w _ hx120_39)).trans hx120_39
         replace hx120_40 := (HB.out.cell (World.block_lt_of_cell? w _ hx120_40)).trans hx120_40
         replace hx120_41 := (HB.out.cell (World.block_lt_of_cell? w _ hx120_41)).trans hx120_41
         replace hx120_42 := (HB.out.cell (World.block_lt_of_cell? w _ hx120_42)).trans hx120_42
         replace hx120_43 := (HB.out.cell (World.block_lt_of_cell? w _ hx120_43)).trans hx120_43
         replace hx120_44 := (HB.out.cell (World.block_lt_of_cell? w _ hx120_44)).trans hx120_44
         replace hx120_45 := (HB.out.cell (World.block_lt_of_cell? w _ hx120_45)).trans hx120_45
         replace hx120_46 := (HB.out.cell (World.block_lt_of_cell? w _ hx120_46)).trans hx120_46
         replace hx120_47 := (HB.out.cell (World.block_lt_of_cell? w _ hx120_47)).trans hx120_47
         replace hx120_48 := (HB.out.cell (World.block_lt_of_cell? w _ hx120_48)).trans hx120_48
         replace hx120_49 := (HB.out.cell (World.block_lt_of_cell? w _ hx120_49)).trans hx120_49
         replace hx120_50 := (HB.out.cell (World.block_lt_of_cell? w _ hx120_50)).trans hx120_50
         replace hx120_51 := (HB.out.cell (World.block_lt_of_cell? w _ hx120_51)).trans hx120_51
         replace hx120_52 := (HB.out.cell (World.block_lt_of_cell? w _ hx120_52)).trans hx120_52
         replace hx120_53 := (HB.out.cell (World.block_lt_of_cell? w _ hx120_53)).trans hx120_53
         have HR120_2 := Aside0.mk hi120_2
         have HC120_2 := Aside0.mk hl120_2
         clear hi120_2 hl120_2
         have HR120_4 := Aside0.mk hi120_4
         have HC120_4 := Aside0.mk hl120_4
         clear hi120_4 hl120_4
         have HR120_44 := Aside0.mk hi120_44
         have HC120_44 := Aside0.mk hl120_44
         clear hi120_44 hl120_44
         have HR120_45 := Aside0.mk hi120_45
         have HC120_45 := Aside0.mk hl120_45
         clear hi120_45 hl120_45
         have HR120_47 := Aside0.mk hi120_47
         have HC120_47 := Aside0.mk hl120_47
         clear hi120_47 hl120_47
         have HR120_48 := Aside0.mk hi120_48
         have HC120_48 := Aside0.mk hl120_48
         clear hi120_48 hl120_48
         have HR120_49 := Aside0.mk hi120_49
         have HC120_49 := Aside0.mk hl120_49
         clear hi120_49 hl120_49
         have HR120_50 := Aside0.mk hi120_50
         have HC120_50 := Aside0.mk hl120_50
         clear hi120_50 hl120_50
         have HR120_51 := Aside0.mk hi120_51
         have HC120_51 := Aside0.mk hl120_51
         clear hi120_51 hl120_51
         have HR120_52 := Aside0.mk hi120_52
         have HC120_52 := Aside0.mk hl120_52
         clear hi120_52 hl120_52
         have HR120_53 := Aside0.mk hi120_53
         have HC120_53 := Aside0.mk hl120_53
         clear hi120_53 hl120_53
         replace p120 := eq_true p120
         replace q120 := eq_true q120
         go_wp2
         go_roundg k2
         case measure => have := HK1.out; have := HK2.out; omega
         case rel => exact ⟨(wrap64 (x7_1 + 1)), (x120000_2), (x120001_2), (x120002_2), (by first | rfl | (simp; done) | (simp [*]; done)), H', ⟨by have := HK1.out; have := HK2.out; omega⟩, ⟨by (with_reducible repeat (first | refine blk_drewN ?_ _ | refine blk_drew ?_ | refine blk_alloc ?_ _)); exact BK119.out⟩, ⟨by repeat (first | (with_reducible first | exact HB.out | apply below_alloc | apply pw_below_drewN | apply below_drew1 | refine below_set ?_ GE119.out) | exact HB.out)⟩⟩
       ·rw [if_neg c6] at H
        exact absurd H (by simp)
      ·rw [if_neg c5] at H
       exact absurd H (by simp)
   ·rw [if_neg c4] at H
    have c4b0 : decide (x7_1 < (l0.length : Int)) = false := decide_eq_false c4
    clear c4
    simp only [Option.some.injEq, Prod.mk.injEq] at H
    obtain ⟨rfl, rfl, rfl, rfl, rfl⟩ := H
    have hcz36_0 : wr.cell? ⟨gb119, 0, none⟩ = some (.string x120000_1) := (blk_cell BK119.out 0).trans rfl
    have hcz36_1 : wr.cell? ⟨gb119, 1, none⟩ = some (.string x120001_1) := (blk_cell BK119.out 1).trans rfl
    have hcz36_2 : wr.cell? ⟨gb119, 2, none⟩ = some (.string x120002_1) := (blk_cell BK119.out 2).trans rfl
    have hfz36_0 := blk_frozen BK119.out 0
    have hfz36_1 := blk_frozen BK119.out 1
    have hfz36_2 := blk_frozen BK119.out 2
    go_wp2
    refine bodyPost_ret (results_list (rs := [.tmp 4, .cell 5 74, .tmp 6]) rfl (by simp) (.tmp (.cell gb119 74 #[.string (⟨#[]⟩ : ByteArray), .string (⟨#[]⟩ : ByteArray), .string (⟨#[]⟩ : ByteArray)] (0, 0) _ rfl (by (with_reducible repeat (first | refine blk_drewN ?_ _ | refine blk_drew ?_ | refine blk_alloc ?_ _)); refine blk_put (cs := #[.string (⟨#[]⟩ : ByteArray), .string (⟨#[]⟩ : ByteArray), .string x120002_1]) ?_ 2 _ rfl; (with_reducible repeat (first | refine blk_drewN ?_ _ | refine blk_drew ?_ | refine blk_alloc ?_ _)); refine blk_put (cs := #[.string (⟨#[]⟩ : ByteArray), .string x120001_1, .string x120002_1]) ?_ 1 _ rfl; (with_reducible repeat (first | refine blk_drewN ?_ _ | refine blk_drew ?_ | refine blk_alloc ?_ _)); refine blk_put (cs := #[.string x120000_1, .string x120001_1, .string x120002_1]) ?_ 0 _ rfl; (with_reducible repeat (first | refine blk_drewN ?_ _ | refine blk_drew ?_ | refine blk_alloc ?_ _)); exact BK119.out) Try.underlying74 rfl (by kernel_rfl) (.tmp .nil)))) rfl ?_
    exact ⟨by first | rfl | (simp [errW_none, errW_some] <;> rfl) | (simp [*, errW_none, errW_some] <;> rfl), by repeat (first | (with_reducible first | exact HB.out | apply below_alloc | apply pw_below_drewN | apply below_drew1 | refine below_set ?_ GE119.out) | exact HB.out)⟩

end Go.Proofs.Ythopdoamajjojaa.QBindW
