import Derived.Test.YthopdoamajjojaaQBindFx0
namespace Go.Proofs.Ythopdoamajjojaa.QBindF
open Go.RowKit Go.Proofs.YthopdoamajjojaaW.PrintWords Go.Proofs.YthopdoamajjojaaW.PrintLast Go.Proofs.YthopdoamajjojaaW.PrintMore
attribute [local go_sem] max2_int min2_int max_two min_two max_three min_three max_four min_four
set_option linter.unusedVariables false
set_option linter.unusedSimpArgs false
attribute [local go_sem] eqErr_ii neErr_ii eqErr_ni neErr_ni
def hash_Sysv.l0 : Nat → ByteArray → Int → Int → Int → Option (Int)
 | 0, _, _, _, _ => none
 | k + 1, x0, x3, x7, x8 => if x8 < x7 then (if 0 ≤ x8 then (if x8 < (x0.size : Int) then (hash_Sysv.l0 k x0 (Go.bits .andNot .u32 (Go.bits .xor .u32 ((((x3 * 16) % 4294967296) + ((bt x0 x8) % 4294967296)) % 4294967296) ((Go.bits .and .u32 ((((x3 * 16) % 4294967296) + ((bt x0 x8) % 4294967296)) % 4294967296) 4026531840) / 16777216)) (Go.bits .and .u32 ((((x3 * 16) % 4294967296) + ((bt x0 x8) % 4294967296)) % 4294967296) 4026531840)) x7 (wrap64 (x8 + 1))) else (none)) else (none)) else (some x3)
def hash_Sysv.f (k : Nat) (a0 : ByteArray) : Option (Int) := hash_Sysv.l0 k a0 0 (a0.size : Int) 0
theorem hash_Sysv.mono_l : ∀ k, (∀ y0 y1 y2 y3, LeO (hash_Sysv.l0 k y0 y1 y2 y3) (hash_Sysv.l0 (k + 1) y0 y1 y2 y3))
 | 0 => fun _ _ _ _ r h => by simp [hash_Sysv.l0] at h
 | k + 1 => by
  have ih0 := hash_Sysv.mono_l k
  ·intro y0 y1 y2 y3
   unfold hash_Sysv.l0
   repeat' first
   | (with_reducible exact ih0 _ _ _ _)
   | (with_reducible exact LeO.refl _)
   | (with_reducible exact LeO.none _)
   | (with_reducible refine LeO.ite ?_ ?_)
   | (with_reducible refine LeO.bind ?_ (fun _ => ?_))
   | exact ih0 _ _ _ _
   | exact LeO.none _
   | refine LeO.ite ?_ ?_
   | refine LeO.bind ?_ (fun _ => ?_)
theorem hash_Sysv.mono : ∀ a0 k, LeO (hash_Sysv.f k a0) (hash_Sysv.f (k + 1) a0) := by
 intro a0 k
 have ih0 := hash_Sysv.mono_l k
 unfold hash_Sysv.f
 repeat' first
   | (with_reducible exact ih0 _ _ _ _)
   | (with_reducible exact LeO.refl _)
   | (with_reducible exact LeO.none _)
   | (with_reducible refine LeO.ite ?_ ?_)
   | (with_reducible refine LeO.bind ?_ (fun _ => ?_))
   | exact ih0 _ _ _ _
   | exact LeO.none _
   | refine LeO.ite ?_ ?_
   | refine LeO.bind ?_ (fun _ => ?_)
set_option maxHeartbeats 8000000 in
set_option maxRecDepth 100000 in
theorem hash_Sysv.calls (k : Nat) (a0 : ByteArray) (r : Int) (w : World) (h : hash_Sysv.f k a0 = some r) :
  Calls Try.prog 24 #[.string a0] w fun e w' => e = .returned (.int .u32 r) ∧ Drawn0 w w' := by
 have H : (hash_Sysv.l0 k a0 0 (a0.size : Int) 0) = some r := h
 clear h
 have H' := Aside0.mk H
 clear H
 go_enter Try.func24, Try.ntmps24
 go_wp2
 go_loopg [3, 8] k (fun kq v3 v8 w' => ∃ (x3_1 : Int) (x8_1 : Int), v3 = .int .u32 x3_1 ∧ v8 = .int .i64 x8_1 ∧ Aside0 (hash_Sysv.l0 kq a0 x3_1 (a0.size : Int) x8_1 = some r) ∧ Aside0 (kq ≤ k) ∧ Drawn0 w w')
 case atStart => exact ⟨(0), (0), (by first | rfl | (simp; done) | (simp [*]; done)), (by first | rfl | (simp; done) | (simp [*]; done)), H', ⟨Nat.le_refl _⟩, by repeat (first | exact Drawn0.refl _ | apply Drawn0.step)⟩
 case round =>
  clear H'
  obtain ⟨x3_1, x8_1, rfl, rfl, HA, HK1, ⟨m1, rfl⟩⟩ := hrel
  cases gk with
  | zero => exact absurd HA.out (by simp [hash_Sysv.l0])
  | succ k1 =>
   have H := HA.out
   clear HA
   simp only [hash_Sysv.l0] at H
   by_cases c2 : x8_1 < (a0.size : Int)
   ·rw [if_pos c2] at H
    have c2b0 : decide (x8_1 < (a0.size : Int)) = true := decide_eq_true c2
    clear c2
    by_cases c3 : 0 ≤ x8_1
    ·rw [if_pos c3] at H
     have c3b0 : decide (0 ≤ x8_1) = true := decide_eq_true c3
     clear c3
     by_cases c4 : x8_1 < (a0.size : Int)
     ·rw [if_pos c4] at H
      have c4b0 : decide (x8_1 < (a0.size : Int)) = true := decide_eq_true c4
      clear c4
      have H' := Aside0.mk H
      clear H
      have p5 : 0 ≤ (x8_1 : Int) := of_decide_eq_true (by assumption)
      have q5 : x8_1 < (a0.size : Int) := of_decide_eq_true (by assumption)
      have hx5 := bt_at a0 x8_1
      replace p5 := eq_true p5
      replace q5 := eq_true q5
      go_wp2
      go_roundg k1
      case measure => have := HK1.out; omega
      case rel => exact ⟨(Go.bits .andNot .u32 (Go.bits .xor .u32 ((((x3_1 * 16) % 4294967296) + ((bt a0 x8_1) % 4294967296)) % 4294967296) ((Go.bits .and .u32 ((((x3_1 * 16) % 4294967296) + ((bt a0 x8_1) % 4294967296)) % 4294967296) 4026531840) / 16777216)) (Go.bits .and .u32 ((((x3_1 * 16) % 4294967296) + ((bt a0 x8_1) % 4294967296)) % 4294967296) 4026531840)), (wrap64 (x8_1 + 1)), (by first | rfl | (simp; done) | (simp [*]; done)), (by first | rfl | (simp; done) | (simp [*]; done)), H', ⟨by have := HK1.out; omega⟩, by repeat (first | exact Drawn0.refl _ | apply Drawn0.step)⟩
     ·rw [if_neg c4] at H
      exact absurd H (by simp)
    ·rw [if_neg c3] at H
     exact absurd H (by simp)
   ·rw [if_neg c2] at H
    have c2b0 : decide (x8_1 < (a0.size : Int)) = false := decide_eq_false c2
    clear c2
    obtain rfl := Option.some.inj H
    go_wp2
    go_ret
    exact ⟨by first | rfl | (simp; done) | (simp [*]; done), by repeat (first | exact Drawn0.refl _ | apply Drawn0.step)⟩
mutual
def hash_first_look.l0 : Nat → List (S39) → ByteArray → List Int → Int → Int → List Int → List Int → Option (List Int × Option Int)
 | 0, _, _, _, _, _, _, _ => none
 | k + 1, x1, x2, x8, x9, x10, x228000, x228001 => if x10 = 0 then (some (x8, none)) else (if (wrap64 (x10)) ≥ (x228001.length : Int) then (hash_first_look.j1 k x1 x2 x8 x9 x10 true x228000 x228001) else (hash_first_look.j1 k x1 x2 x8 x9 x10 (decide ((wrap64 (x10)) ≥ (x1.length : Int))) x228000 x228001))
def hash_first_look.j1 : Nat → List (S39) → ByteArray → List Int → Int → Int → Bool → List Int → List Int → Option (List Int × Option Int)
 | 0, _, _, _, _, _, _, _, _ => none
 | k + 1, x1, x2, x8, x9, x10, x29, x228000, x228001 => if x29 = true then (some (([] : List Int), some 4)) else (if x9 = (x228001.length : Int) then (some (([] : List Int), some 3)) else (if 0 ≤ x10 then (if x10 < (x1.length : Int) then (if ((rd_T39 x1 x10).f0).toList = x2.toList then (if x8.length < 17592186044416 then (if x10 < (x228001.length : Int) then (hash_first_look.l0 k x1 x2 (x8 ++ [wrap64 (x10)]) (wrap64 (x9 + 1)) (rd x228001 x10) x228000 x228001) else (none)) else (none)) else (if x10 < (x228001.length : Int) then (hash_first_look.l0 k x1 x2 x8 (wrap64 (x9 + 1)) (rd x228001 x10) x228000 x228001) else (none))) else (none)) else (none)))
end
def hash_first_look.f (k : Nat) (l0_0 : List Int) (l0_1 : List Int) (l1 : List (S39)) (a2 : ByteArray) : Option (List Int × Option Int) := (hash_Sysv.f k a2).bind fun t228 => (if (((l0_0.length : Int)) % 4294967296) = 0 then (none) else (if 0 ≤ (Int.tmod t228 (((l0_0.length : Int)) % 4294967296)) then (if (Int.tmod t228 (((l0_0.length : Int)) % 4294967296)) < (l0_0.length : Int) then (hash_first_look.l0 k l1 a2 ([] : List Int) 0 (rd l0_0 (Int.tmod t228 (((l0_0.length : Int)) % 4294967296))) l0_0 l0_1) else (none)) else (none)))
theorem hash_first_look.mono_l : ∀ k, (∀ y0 y1 y2 y3 y4 y5 y6, LeO (hash_first_look.l0 k y0 y1 y2 y3 y4 y5 y6) (hash_first_look.l0 (k + 1) y0 y1 y2 y3 y4 y5 y6)) ∧ (∀ y0 y1 y2 y3 y4 y5 y6 y7, LeO (hash_first_look.j1 k y0 y1 y2 y3 y4 y5 y6 y7) (hash_first_look.j1 (k + 1) y0 y1 y2 y3 y4 y5 y6 y7))
 | 0 => ⟨fun _ _ _ _ _ _ _ r h => by simp [hash_first_look.l0] at h, fun _ _ _ _ _ _ _ _ r h => by simp [hash_first_look.j1] at h⟩
 | k + 1 => by
  obtain ⟨ih0, ih1⟩ := hash_first_look.mono_l k
  refine ⟨?_, ?_⟩
  ·intro y0 y1 y2 y3 y4 y5 y6
   unfold hash_first_look.l0
   repeat' first
   | (with_reducible exact ih0 _ _ _ _ _ _ _)
   | (with_reducible exact ih1 _ _ _ _ _ _ _ _)
   | (with_reducible exact hash_Sysv.mono _ _)
   | (with_reducible exact LeO.refl _)
   | (with_reducible exact LeO.none _)
   | (with_reducible refine LeO.ite ?_ ?_)
   | (with_reducible refine LeO.bind ?_ (fun _ => ?_))
   | exact ih0 _ _ _ _ _ _ _
   | exact ih1 _ _ _ _ _ _ _ _
   | exact hash_Sysv.mono _ _
   | exact LeO.none _
   | refine LeO.ite ?_ ?_
   | refine LeO.bind ?_ (fun _ => ?_)
  ·intro y0 y1 y2 y3 y4 y5 y6 y7
   unfold hash_first_look.j1
   repeat' first
   | (with_reducible exact ih0 _ _ _ _ _ _ _)
   | (with_reducible exact ih1 _ _ _ _ _ _ _ _)
   | (with_reducible exact hash_Sysv.mono _ _)
   | (with_reducible exact LeO.refl _)
   | (with_reducible exact LeO.none _)
   | (with_reducible refine LeO.ite ?_ ?_)
   | (with_reducible refine LeO.bind ?_ (fun _ => ?_))
   | exact ih0 _ _ _ _ _ _ _
   | exact ih1 _ _ _ _ _ _ _ _
   | exact hash_Sysv.mono _ _
   | exact LeO.none _
   | refine LeO.ite ?_ ?_
   | refine LeO.bind ?_ (fun _ => ?_)
theorem hash_first_look.mono : ∀ a0 a1 a2 a3 k, LeO (hash_first_look.f k a0 a1 a2 a3) (hash_first_look.f (k + 1) a0 a1 a2 a3) := by
 intro a0 a1 a2 a3 k
 obtain ⟨ih0, ih1⟩ := hash_first_look.mono_l k
 unfold hash_first_look.f
 repeat' first
   | (with_reducible exact ih0 _ _ _ _ _ _ _)
   | (with_reducible exact ih1 _ _ _ _ _ _ _ _)
   | (with_reducible exact hash_Sysv.mono _ _)
   | (with_reducible exact LeO.refl _)
   | (with_reducible exact LeO.none _)
   | (with_reducible refine LeO.ite ?_ ?_)
   | (with_reducible refine LeO.bind ?_ (fun _ => ?_))
   | exact ih0 _ _ _ _ _ _ _
   | exact ih1 _ _ _ _ _ _ _ _
   | exact hash_Sysv.mono _ _
   | exact LeO.none _
   | refine LeO.ite ?_ ?_
   | refine LeO.bind ?_ (fun _ => ?_)
set_option maxHeartbeats 8000000 in
set_option maxRecDepth 100000 in
theorem hash_first_look.calls (k : Nat) (A0_0 : Option Addr) (c0_0 : Nat) (l0_0 : List Int) (A0_1 : Option Addr) (c0_1 : Nat) (l0_1 : List Int) (A1 : Option Addr) (c1 : Nat) (l1 : List (S39)) (a2 : ByteArray) (r1 : List Int) (r2 : Option Int) (w : World) (hr0_0 : Kd.C (Kd.int .u32) w A0_0 l0_0.length l0_0) (hc0_0 : l0_0.length ≤ c0_0) (hr0_1 : Kd.C (Kd.int .u32) w A0_1 l0_1.length l0_1) (hc0_1 : l0_1.length ≤ c0_1) (hr1 : Kd.C k39 w A1 l1.length l1) (hc1 : l1.length ≤ c1) (h : hash_first_look.f k l0_0 l0_1 l1 a2 = some (r1, r2)) :
  Calls Try.prog 34 #[.agg #[.slice A0_0 l0_0.length c0_0, .slice A0_1 l0_1.length c0_1], .slice A1 l1.length c1, .string a2] w fun e w' => ∃ v0_ : Value, e = .returned (.tuple #[v0_, errW r2]) ∧ Kd.R (Kd.int .i64) 3 w' w.heap.size (fun _ => True) v0_ r1 ∧ Below w.heap.size w w' := by
 have hu88 := Try.underlying88
 have hu41 := Try.underlying41
 have hu97 := Try.underlying97
 have HR0_0 := Aside0.mk hr0_0
 have HC0_0 := Aside0.mk hc0_0
 clear hr0_0 hc0_0
 have HR0_1 := Aside0.mk hr0_1
 have HC0_1 := Aside0.mk hc0_1
 clear hr0_1 hc0_1
 have HR1 := Aside0.mk hr1
 have HC1 := Aside0.mk hc1
 clear hr1 hc1
 have HB := Aside0.mk (Below.refl w.heap.size w)
 have H : ((hash_Sysv.f k a2).bind fun t228 => (if (((l0_0.length : Int)) % 4294967296) = 0 then (none) else (if 0 ≤ (Int.tmod t228 (((l0_0.length : Int)) % 4294967296)) then (if (Int.tmod t228 (((l0_0.length : Int)) % 4294967296)) < (l0_0.length : Int) then (hash_first_look.l0 k l1 a2 ([] : List Int) 0 (rd l0_0 (Int.tmod t228 (((l0_0.length : Int)) % 4294967296))) l0_0 l0_1) else (none)) else (none)))) = some (r1, r2) := h
 clear h
 replace H := Option.bind_eq_some_iff.mp H
 obtain ⟨t228, A40, H⟩ := H
 replace H : (if (((l0_0.length : Int)) % 4294967296) = 0 then (none) else (if 0 ≤ (Int.tmod t228 (((l0_0.length : Int)) % 4294967296)) then (if (Int.tmod t228 (((l0_0.length : Int)) % 4294967296)) < (l0_0.length : Int) then (hash_first_look.l0 k l1 a2 ([] : List Int) 0 (rd l0_0 (Int.tmod t228 (((l0_0.length : Int)) % 4294967296))) l0_0 l0_1) else (none)) else (none))) = some (r1, r2) := H
 have A4 := Aside0.mk A40
 clear A40
 by_cases c5 : (((l0_0.length : Int)) % 4294967296) = 0
 ·rw [if_pos c5] at H
  exact absurd H (by simp)
 ·rw [if_neg c5] at H
  have c5b0 : ((((l0_0.length : Int)) % 4294967296) == 0) = false := beq_eq_false_iff_ne.mpr c5
  have c5b0w : ((IntKind.u32.wrap (((l0_0.length : Int)))) == 0) = false := by simp only [IntKind.wrap_u32]; exact c5b0
  have c5bp : ¬ (IntKind.u32.wrap (((l0_0.length : Int)))) = 0 := by simp only [IntKind.wrap_u32]; exact c5
  have c5b1 : ((((l0_0.length : Int)) % 4294967296) != 0) = true := bne_iff_ne.mpr c5
  have c5b1w : ((IntKind.u32.wrap (((l0_0.length : Int)))) != 0) = true := by simp only [IntKind.wrap_u32]; exact c5b1
  obtain ⟨ji6, hji6⟩ : ∃ j_ : Int, (Int.tmod t228 (((l0_0.length : Int)) % 4294967296)) = j_ := ⟨_, rfl⟩
  have hji6v : (Int.tmod t228 (IntKind.u32.wrap (((l0_0.length : Int))))) = ji6 := by simp only [IntKind.wrap_u32]; exact hji6
  replace H : (if 0 ≤ (ji6) then (if (ji6) < (l0_0.length : Int) then (hash_first_look.l0 k l1 a2 ([] : List Int) 0 (rd l0_0 (ji6)) l0_0 l0_1) else (none)) else (none)) = some (r1, r2) := by first | (rw [hji6] at H; exact H) | (simp only [hji6] at H ⊢; exact H)
  (try rw [hji6] at A4)
  by_cases c7 : 0 ≤ (ji6)
  ·rw [if_pos c7] at H
   have c7b0 : decide (0 ≤ (ji6)) = true := decide_eq_true c7
   clear c7
   by_cases c8 : (ji6) < (l0_0.length : Int)
   ·rw [if_pos c8] at H
    have c8b0 : decide ((ji6) < (l0_0.length : Int)) = true := decide_eq_true c8
    clear c8
    have H' := Aside0.mk H
    clear H
    go_enter Try.func34, Try.ntmps34
    go_wp2_with (first | ((with_reducible refine gate_dst (N := 3) rfl ?_); (try (refine gate_guard (by rfl) ?_; dsimp only)); refine box_event ?hg (N := 3) ?hd (cs := #[.slice A0_0 l0_0.length c0_0, .slice A0_1 l0_1.length c0_1]) (t := 88) ?hr ?_; (case hd => rfl); (case hg => rfl); (case hr => first | (go_simp; done) | (go_simp; rfl)); intro gb227 hg w9 hbox hb; have n0_ := Aside0.mk (below_step (by repeat (first | (with_reducible first | exact HB.out | apply below_alloc | apply pw_below_drewN | apply below_drew1) | exact HB.out)) hb); have n1_ := Aside0.mk (hbox); have n2_ := Aside0.mk ((by rw [hg]; exact (below_size (by repeat (first | (with_reducible first | exact HB.out | apply below_alloc | apply pw_below_drewN | apply below_drew1) | exact HB.out))) : w.heap.size ≤ gb227)); have n3_ := Aside0.mk ((by rw [hg]; exact (below_size (by repeat (first | (with_reducible first | exact HB.out | apply below_alloc | apply pw_below_drewN | apply below_drew1) | exact HB.out))) : w.heap.size ≤ gb227)); clear HB; have HB := n0_; have BK227 := n1_; have GW227 := n2_; have GE227 := n3_; clear n0_ n1_ n2_ n3_; clear hb hbox hg; have hcz10_0 : w9.cell? ⟨gb227, 0, none⟩ = some (.slice A0_0 l0_0.length c0_0) := (blk_cell BK227.out 0).trans rfl; have hcz10_1 : w9.cell? ⟨gb227, 1, none⟩ = some (.slice A0_1 l0_1.length c0_1) := (blk_cell BK227.out 1).trans rfl; have hfz10_0 := blk_frozen BK227.out 0; have hfz10_1 := blk_frozen BK227.out 1) | (go_at_call 24; (with_reducible refine (hash_Sysv.calls k a2 t228 _ A4.out).mono ?_); rintro e w' ⟨rfl, ⟨nd, rfl⟩⟩; (try first | exact ⟨rfl, _, World.drewN_drewN _ _ _⟩ | exact ⟨rfl, _, Eq.trans (World.drewN_drewN _ _ _) (congrArg (World.drewN _) (Nat.add_assoc _ _ _))⟩); have p229 : 0 ≤ ((ji6) : Int) := of_decide_eq_true (by assumption); have q229 : (ji6) < (l0_0.length : Int) := of_decide_eq_true (by assumption); obtain ⟨ad229, e229, hx229_0⟩ := Kd.at_int HR0_0.out (ji6) p229 q229; cases e229; replace hx229_0 := (HB.out.cell (World.block_lt_of_cell? w _ hx229_0)).trans hx229_0; replace p229 := eq_true p229; replace q229 := eq_true q229))
    repeat (go_quiet (first | ((with_reducible refine gate_dst (N := 3) rfl ?_); (try (refine gate_guard (by rfl) ?_; dsimp only)); refine box_event ?hg (N := 3) ?hd (cs := #[.slice A0_0 l0_0.length c0_0, .slice A0_1 l0_1.length c0_1]) (t := 88) ?hr ?_; (case hd => rfl); (case hg => rfl); (case hr => first | (go_simp; done) | (go_simp; rfl)); intro gb227 hg w9 hbox hb; have n0_ := Aside0.mk (below_step (by repeat (first | (with_reducible first | exact HB.out | apply below_alloc | apply pw_below_drewN | apply below_drew1) | exact HB.out)) hb); have n1_ := Aside0.mk (hbox); have n2_ := Aside0.mk ((by rw [hg]; exact (below_size (by repeat (first | (with_reducible first | exact HB.out | apply below_alloc | apply pw_below_drewN | apply below_drew1) | exact HB.out))) : w.heap.size ≤ gb227)); have n3_ := Aside0.mk ((by rw [hg]; exact (below_size (by repeat (first | (with_reducible first | exact HB.out | apply below_alloc | apply pw_below_drewN | apply below_drew1) | exact HB.out))) : w.heap.size ≤ gb227)); clear HB; have HB := n0_; have BK227 := n1_; have GW227 := n2_; have GE227 := n3_; clear n0_ n1_ n2_ n3_; clear hb hbox hg; have hcz10_0 : w9.cell? ⟨gb227, 0, none⟩ = some (.slice A0_0 l0_0.length c0_0) := (blk_cell BK227.out 0).trans rfl; have hcz10_1 : w9.cell? ⟨gb227, 1, none⟩ = some (.slice A0_1 l0_1.length c0_1) := (blk_cell BK227.out 1).trans rfl; have hfz10_0 := blk_frozen BK227.out 0; have hfz10_1 := blk_frozen BK227.out 1) | (go_at_call 24; (with_reducible refine (hash_Sysv.calls k a2 t228 _ A4.out).mono ?_); rintro e w' ⟨rfl, ⟨nd, rfl⟩⟩; (try first | exact ⟨rfl, _, World.drewN_drewN _ _ _⟩ | exact ⟨rfl, _, Eq.trans (World.drewN_drewN _ _ _) (congrArg (World.drewN _) (Nat.add_assoc _ _ _))⟩); have p229 : 0 ≤ ((ji6) : Int) := of_decide_eq_true (by assumption); have q229 : (ji6) < (l0_0.length : Int) := of_decide_eq_true (by assumption); obtain ⟨ad229, e229, hx229_0⟩ := Kd.at_int HR0_0.out (ji6) p229 q229; cases e229; replace hx229_0 := (HB.out.cell (World.block_lt_of_cell? w _ hx229_0)).trans hx229_0; replace p229 := eq_true p229; replace q229 := eq_true q229)); try go_wp2_with (first | ((with_reducible refine gate_dst (N := 3) rfl ?_); (try (refine gate_guard (by rfl) ?_; dsimp only)); refine box_event ?hg (N := 3) ?hd (cs := #[.slice A0_0 l0_0.length c0_0, .slice A0_1 l0_1.length c0_1]) (t := 88) ?hr ?_; (case hd => rfl); (case hg => rfl); (case hr => first | (go_simp; done) | (go_simp; rfl)); intro gb227 hg w9 hbox hb; have n0_ := Aside0.mk (below_step (by repeat (first | (with_reducible first | exact HB.out | apply below_alloc | apply pw_below_drewN | apply below_drew1) | exact HB.out)) hb); have n1_ := Aside0.mk (hbox); have n2_ := Aside0.mk ((by rw [hg]; exact (below_size (by repeat (first | (with_reducible first | exact HB.out | apply below_alloc | apply pw_below_drewN | apply below_drew1) | exact HB.out))) : w.heap.size ≤ gb227)); have n3_ := Aside0.mk ((by rw [hg]; exact (below_size (by repeat (first | (with_reducible first | exact HB.out | apply below_alloc | apply pw_below_drewN | apply below_drew1) | exact HB.out))) : w.heap.size ≤ gb227)); clear HB; have HB := n0_; have BK227 := n1_; have GW227 := n2_; have GE227 := n3_; clear n0_ n1_ n2_ n3_; clear hb hbox hg; have hcz10_0 : w9.cell? ⟨gb227, 0, none⟩ = some (.slice A0_0 l0_0.length c0_0) := (blk_cell BK227.out 0).trans rfl; have hcz10_1 : w9.cell? ⟨gb227, 1, none⟩ = some (.slice A0_1 l0_1.length c0_1) := (blk_cell BK227.out 1).trans rfl; have hfz10_0 := blk_frozen BK227.out 0; have hfz10_1 := blk_frozen BK227.out 1) | (go_at_call 24; (with_reducible refine (hash_Sysv.calls k a2 t228 _ A4.out).mono ?_); rintro e w' ⟨rfl, ⟨nd, rfl⟩⟩; (try first | exact ⟨rfl, _, World.drewN_drewN _ _ _⟩ | exact ⟨rfl, _, Eq.trans (World.drewN_drewN _ _ _) (congrArg (World.drewN _) (Nat.add_assoc _ _ _))⟩); have p229 : 0 ≤ ((ji6) : Int) := of_decide_eq_true (by assumption); have q229 : (ji6) < (l0_0.length : Int) := of_decide_eq_true (by assumption); obtain ⟨ad229, e229, hx229_0⟩ := Kd.at_int HR0_0.out (ji6) p229 q229; cases e229; replace hx229_0 := (HB.out.cell (World.block_lt_of_cell? w _ hx229_0)).trans hx229_0; replace p229 := eq_true p229; replace q229 := eq_true q229)))
    go_loopg [8, 9, 10] k (fun kq v8 v9 v10 w' => ∃ (x8_1 : List Int) (x9_1 : Int) (x10_1 : Int), v9 = .int .i64 x9_1 ∧ v10 = .int .u32 x10_1 ∧ Aside0 (hash_first_look.l0 kq l1 a2 x8_1 x9_1 x10_1 l0_0 l0_1 = some (r1, r2)) ∧ Aside0 (kq ≤ k) ∧ Aside0 (Kd.R (Kd.int .i64) 3 w' w.heap.size (fun _ => True) v8 x8_1) ∧ Aside0 (w'.heap[gb227]? = some (.cells #[(.slice (some ad229) l0_0.length c0_0), (.slice A0_1 l0_1.length c0_1)] 88 (0, 0))) ∧ Aside0 (Below w.heap.size w w'))
    case atStart => exact ⟨(([] : List Int)), (0), (rd l0_0 (ji6)), (by first | rfl | (simp; done) | (simp [*]; done)), (by first | rfl | (simp; done) | (simp only [← hji6] <;> (first | rfl | simp)) | (simp [*]; done)), H', ⟨Nat.le_refl _⟩, ⟨by first | exact Kd.R_nil _ _ _ _ _ | exact Kd.N_nil _ _ _ _ _ | exact Kd.V_nil _ _ _ _ _ | exact Kd.Q_nil _ _ _ _ _ | exact Kd.S_nil _ _ _ _ _⟩, ⟨by (with_reducible repeat (first | refine blk_drewN ?_ _ | refine blk_drew ?_ | refine blk_alloc ?_ _)); exact BK227.out⟩, ⟨by repeat (first | (with_reducible first | exact HB.out | apply below_alloc | apply pw_below_drewN | apply below_drew1 | refine below_set ?_ GE227.out) | exact HB.out)⟩⟩
    case round =>
     clear H'
     try clear c1
     try clear p2
     try clear q2
     try clear hx2
     try clear c3
     try clear c5
     try clear c5b0
     try clear c5b1
     try clear c7
     try clear c7b0
     try clear c8
     try clear c8b0
     try clear hcz10_0
     try clear hcz10_1
     try clear hfz10_0
     try clear hfz10_1
     try clear hx229_0
     try clear p229
     try clear q229
     obtain ⟨x8_1, x9_1, x10_1, rfl, rfl, HA, HK1, HO_8, BK227, HB⟩ := hrel
     cases gk with
     | zero => exact absurd HA.out (by simp [hash_first_look.l0])
     | succ k1 =>
      have H := HA.out
      clear HA
      simp only [hash_first_look.l0] at H
      by_cases c11 : x10_1 = 0
      ·rw [if_pos c11] at H
       have c11b0 : (x10_1 == 0) = true := beq_iff_eq.mpr c11
       have c11b1 : (x10_1 != 0) = false := bne_eq_false_iff_eq.mpr c11
       clear c11
       simp only [Option.some.injEq, Prod.mk.injEq] at H
       obtain ⟨rfl, rfl⟩ := H
       go_wp2
       repeat (go_quiet (fail); try go_wp2)
       go_ret2
       exact ⟨_, by first | rfl | (simp [errW_none, errW_some] <;> rfl) | (simp only [← hji6]; first | rfl | (simp [errW_none, errW_some] <;> rfl)) | (simp [*, errW_none, errW_some] <;> rfl), by (with_reducible repeat (first | apply Kd.R_alloc | apply Kd.R_drewN | apply Kd.R_drew)); exact HO_8.out, by repeat (first | (with_reducible first | exact HB.out | apply below_alloc | apply pw_below_drewN | apply below_drew1 | refine below_set ?_ GE227.out) | exact HB.out)⟩
      ·rw [if_neg c11] at H
       have c11b0 : (x10_1 == 0) = false := beq_eq_false_iff_ne.mpr c11
       have c11b1 : (x10_1 != 0) = true := bne_iff_ne.mpr c11
       have HC12 := Aside0.mk H
       clear H
       go_upto_region 6 with (fail)
       repeat (go_quiet (fail); go_upto_region 6 with (fail))
       go_cut [29] (fun v29 wc => ∃ (kq : Nat) (x29_11 : Bool), v29 = .bool x29_11 ∧ Aside0 (hash_first_look.j1 kq l1 a2 x8_1 x9_1 x10_1 x29_11 l0_0 l0_1 = some (r1, r2)) ∧ Aside0 (kq ≤ k1) ∧ Aside0 (Kd.R (Kd.int .i64) 3 wc w.heap.size (fun _ => True) u8 x8_1) ∧ Aside0 (wc.heap[gb227]? = some (.cells #[(.slice (some ad229) l0_0.length c0_0), (.slice A0_1 l0_1.length c0_1)] 88 (0, 0))) ∧ Aside0 (Below w.heap.size w wc))
       case first =>
        have H := HC12.out
        clear HC12
        by_cases c13 : (wrap64 (x10_1)) ≥ (l0_1.length : Int)
        ·rw [if_pos c13] at H
         have c13b0 : decide ((l0_1.length : Int) ≤ (wrap64 (x10_1))) = true := decide_eq_true c13
         clear c13
         (first | rw [c13b0] | (simp only [i64_w, i32_w]; rw [c13b0]) | skip)
         have H' := Aside0.mk H
         clear H
         have hcz14_0 : wr.cell? ⟨gb227, 0, none⟩ = some (.slice (some ad229) l0_0.length c0_0) := (blk_cell BK227.out 0).trans rfl
         have hcz14_1 : wr.cell? ⟨gb227, 1, none⟩ = some (.slice A0_1 l0_1.length c0_1) := (blk_cell BK227.out 1).trans rfl
         have hfz14_0 := blk_frozen BK227.out 0
         have hfz14_1 := blk_frozen BK227.out 1
         go_wp2
         repeat (go_quiet (fail); try go_wp2)
         go_meet
         case rel => exact ⟨_, (true), (by first | rfl | (simp; done) | (simp [*]; done)), H', ⟨by have := HK1.out; first | omega | exact Nat.le_refl _⟩, ⟨by (with_reducible repeat (first | apply Kd.R_alloc | apply Kd.R_drewN | apply Kd.R_drew)); exact HO_8.out⟩, ⟨by (with_reducible repeat (first | refine blk_drewN ?_ _ | refine blk_drew ?_ | refine blk_alloc ?_ _)); exact BK227.out⟩, ⟨by repeat (first | (with_reducible first | exact HB.out | apply below_alloc | apply pw_below_drewN | apply below_drew1 | refine below_set ?_ GE227.out) | exact HB.out)⟩⟩
        ·rw [if_neg c13] at H
         have c13b0 : decide ((l0_1.length : Int) ≤ (wrap64 (x10_1))) = false := decide_eq_false c13
         clear c13
         (first | rw [c13b0] | (simp only [i64_w, i32_w]; rw [c13b0]) | skip)
         have H' := Aside0.mk H
         clear H
         have hcz15_0 : wr.cell? ⟨gb227, 0, none⟩ = some (.slice (some ad229) l0_0.length c0_0) := (blk_cell BK227.out 0).trans rfl
         have hcz15_1 : wr.cell? ⟨gb227, 1, none⟩ = some (.slice A0_1 l0_1.length c0_1) := (blk_cell BK227.out 1).trans rfl
         have hfz15_0 := blk_frozen BK227.out 0
         have hfz15_1 := blk_frozen BK227.out 1
         go_wp2
         repeat (go_quiet (fail); try go_wp2)
         go_meet
         case rel => exact ⟨_, (decide ((wrap64 (x10_1)) ≥ (l1.length : Int))), (by first | rfl | (simp; done) | (simp [*]; done)), H', ⟨by have := HK1.out; first | omega | exact Nat.le_refl _⟩, ⟨by (with_reducible repeat (first | apply Kd.R_alloc | apply Kd.R_drewN | apply Kd.R_drew)); exact HO_8.out⟩, ⟨by (with_reducible repeat (first | refine blk_drewN ?_ _ | refine blk_drew ?_ | refine blk_alloc ?_ _)); exact BK227.out⟩, ⟨by repeat (first | (with_reducible first | exact HB.out | apply below_alloc | apply pw_below_drewN | apply below_drew1 | refine below_set ?_ GE227.out) | exact HB.out)⟩⟩
       case rest =>
        clear HC12
        try clear c1
        try clear p2
        try clear q2
        try clear hx2
        try clear c3
        try clear c5
        try clear c5b0
        try clear c5b1
        try clear p6
        try clear c7
        try clear c7b0
        try clear c8
        try clear c8b0
        try clear c11
        try clear c11b0
        try clear c11b1
        try clear c13
        try clear c13b0
        try clear hcz10_0
        try clear hcz10_1
        try clear hcz14_0
        try clear hcz14_1
        try clear hcz15_0
        try clear hcz15_1
        try clear hfz10_0
        try clear hfz10_1
        try clear hfz14_0
        try clear hfz14_1
        try clear hfz15_0
        try clear hfz15_1
        try clear hx229_0
        try clear p2
        try clear p229
        try clear q2
        try clear q229
        obtain ⟨kq, x29_11, rfl, HA, HJ11, HO_8, BK227, HB⟩ := hcut
        cases kq with
        | zero => exact absurd HA.out (by simp [hash_first_look.j1])
        | succ kj11 =>
         have H := HA.out
         clear HA
         simp only [hash_first_look.j1] at H
         by_cases c16 : x29_11 = true
         ·subst c16
          have H1 : (some (([] : List Int), some 4)) = some (r1, r2) := by rw [if_pos rfl] at H; exact H
          clear H
          have H := H1
          clear H1
          simp only [Option.some.injEq, Prod.mk.injEq] at H
          obtain ⟨rfl, rfl⟩ := H
          go_wp2
          repeat (go_quiet (fail); try go_wp2)
          go_ret2
          exact ⟨_, by first | rfl | (simp [errW_none, errW_some] <;> rfl) | (simp only [← hji6]; first | rfl | (simp [errW_none, errW_some] <;> rfl)) | (simp [*, errW_none, errW_some] <;> rfl), by first | exact Kd.R_nil _ _ _ _ _ | exact Kd.N_nil _ _ _ _ _ | exact Kd.V_nil _ _ _ _ _ | exact Kd.Q_nil _ _ _ _ _ | exact Kd.S_nil _ _ _ _ _, by repeat (first | (with_reducible first | exact HB.out | apply below_alloc | apply pw_below_drewN | apply below_drew1 | refine below_set ?_ GE227.out) | exact HB.out)⟩
         ·replace c16 := Bool.eq_false_iff.mpr c16
          subst c16
          have H1 : (if x9_1 = (l0_1.length : Int) then (some (([] : List Int), some 3)) else (if 0 ≤ x10_1 then (if x10_1 < (l1.length : Int) then (if ((rd_T39 l1 x10_1).f0).toList = a2.toList then (if x8_1.length < 17592186044416 then (if x10_1 < (l0_1.length : Int) then (hash_first_look.l0 kj11 l1 a2 (x8_1 ++ [wrap64 (x10_1)]) (wrap64 (x9_1 + 1)) (rd l0_1 x10_1) l0_0 l0_1) else (none)) else (none)) else (if x10_1 < (l0_1.length : Int) then (hash_first_look.l0 kj11 l1 a2 x8_1 (wrap64 (x9_1 + 1)) (rd l0_1 x10_1) l0_0 l0_1) else (none))) else (none)) else (none))) = some (r1, r2) := by rw [if_neg (show ¬ (false = true) by decide)] at H; exact H
          clear H
          have H := H1
          clear H1
          by_cases c17 : x9_1 = (l0_1.length : Int)
          ·rw [if_pos c17] at H
           have c17b0 : (x9_1 == (l0_1.length : Int)) = true := beq_iff_eq.mpr c17
           have c17b1 : (x9_1 != (l0_1.length : Int)) = false := bne_eq_false_iff_eq.mpr c17
           clear c17
           simp only [Option.some.injEq, Prod.mk.injEq] at H
           obtain ⟨rfl, rfl⟩ := H
           have hcz18_0 : wc.cell? ⟨gb227, 0, none⟩ = some (.slice (some ad229) l0_0.length c0_0) := (blk_cell BK227.out 0).trans rfl
           have hcz18_1 : wc.cell? ⟨gb227, 1, none⟩ = some (.slice A0_1 l0_1.length c0_1) := (blk_cell BK227.out 1).trans rfl
           have hfz18_0 := blk_frozen BK227.out 0
           have hfz18_1 := blk_frozen BK227.out 1
           go_wp2
           repeat (go_quiet (fail); try go_wp2)
           go_ret2
           exact ⟨_, by first | rfl | (simp [errW_none, errW_some] <;> rfl) | (simp only [← hji6]; first | rfl | (simp [errW_none, errW_some] <;> rfl)) | (simp [*, errW_none, errW_some] <;> rfl), by first | exact Kd.R_nil _ _ _ _ _ | exact Kd.N_nil _ _ _ _ _ | exact Kd.V_nil _ _ _ _ _ | exact Kd.Q_nil _ _ _ _ _ | exact Kd.S_nil _ _ _ _ _, by repeat (first | (with_reducible first | exact HB.out | apply below_alloc | apply pw_below_drewN | apply below_drew1 | refine below_set ?_ GE227.out) | exact HB.out)⟩
          ·rw [if_neg c17] at H
           have c17b0 : (x9_1 == (l0_1.length : Int)) = false := beq_eq_false_iff_ne.mpr c17
           have c17b1 : (x9_1 != (l0_1.length : Int)) = true := bne_iff_ne.mpr c17
           by_cases c19 : 0 ≤ x10_1
           ·rw [if_pos c19] at H
            have c19b0 : decide (0 ≤ x10_1) = true := decide_eq_true c19
            clear c19
            by_cases c20 : x10_1 < (l1.length : Int)
            ·rw [if_pos c20] at H
             have c20b0 : decide (x10_1 < (l1.length : Int)) = true := decide_eq_true c20
             clear c20
             by_cases c21 : ((rd_T39 l1 x10_1).f0).toList = a2.toList
             ·rw [if_pos c21] at H
              have c21b0 : (((rd_T39 l1 x10_1).f0).toList == a2.toList) = true := beq_iff_eq.mpr c21
              have c21b1 : (((rd_T39 l1 x10_1).f0).toList != a2.toList) = false := bne_eq_false_iff_eq.mpr c21
              clear c21
              by_cases c22 : x8_1.length < 17592186044416
              ·rw [if_pos c22] at H
               have LMc22 := Aside0.mk c22
               clear c22
               obtain ⟨y231, hy231⟩ : ∃ y_ : List Int, y_ = (x8_1 ++ [wrap64 (x10_1)]) := ⟨_, rfl⟩
               replace H : (if x10_1 < (l0_1.length : Int) then (hash_first_look.l0 kj11 l1 a2 y231 (wrap64 (x9_1 + 1)) (rd l0_1 x10_1) l0_0 l0_1) else (none)) = some (r1, r2) := by first | (rw [hy231]; with_reducible exact H) | (have H2_ := (Option.bind_some _ _).symm.trans H; rw [hy231]; with_reducible exact H2_) | (have H2_ := (Option.bind_some _ _).symm.trans H; with_reducible exact H2_) | with_reducible exact H | (rw [hy231]; exact H) | exact H
               have Ny231 := Aside0.mk hy231
               clear hy231
               by_cases c23 : x10_1 < (l0_1.length : Int)
               ·rw [if_pos c23] at H
                have c23b0 : decide (x10_1 < (l0_1.length : Int)) = true := decide_eq_true c23
                clear c23
                have H' := Aside0.mk H
                clear H
                have hcz24_0 : wc.cell? ⟨gb227, 0, none⟩ = some (.slice (some ad229) l0_0.length c0_0) := (blk_cell BK227.out 0).trans rfl
                have hcz24_1 : wc.cell? ⟨gb227, 1, none⟩ = some (.slice A0_1 l0_1.length c0_1) := (blk_cell BK227.out 1).trans rfl
                have hfz24_0 := blk_frozen BK227.out 0
                have hfz24_1 := blk_frozen BK227.out 1
                have p230 : 0 ≤ (x10_1 : Int) := of_decide_eq_true (by assumption)
                have q230 : x10_1 < (l1.length : Int) := of_decide_eq_true (by assumption)
                obtain ⟨ad230, e230, hx230_0, hx230_1, hx230_2, hx230_3, hx230_4, hx230_5, hx230_6⟩ := at_T39 HR1.out x10_1 p230 q230
                cases e230
                replace hx230_0 := (HB.out.cell (World.block_lt_of_cell? w _ hx230_0)).trans hx230_0
                replace hx230_1 := (HB.out.cell (World.block_lt_of_cell? w _ hx230_1)).trans hx230_1
                replace hx230_2 := (HB.out.cell (World.block_lt_of_cell? w _ hx230_2)).trans hx230_2
                replace hx230_3 := (HB.out.cell (World.block_lt_of_cell? w _ hx230_3)).trans hx230_3
                replace hx230_4 := (HB.out.cell (World.block_lt_of_cell? w _ hx230_4)).trans hx230_4
                replace hx230_5 := (HB.out.cell (World.block_lt_of_cell? w _ hx230_5)).trans hx230_5
                replace hx230_6 := (HB.out.cell (World.block_lt_of_cell? w _ hx230_6)).trans hx230_6
                replace p230 := eq_true p230
                replace q230 := eq_true q230
                go_wp2_with (first | ((with_reducible refine gate_builtin (b := .append) (xs := #[.tmp 60, .tmp 63]) rfl ?_); (try (refine gate_guard (by rfl) ?_; dsimp only)); at_builtin; refine Kd.R_append (Kd.int .i64) (w0 := w) w.heap.size rfl (.tmp 60) (.tmp 63) 37 3 (.int .i64 0) 8 rfl Try.underlying37 info3 rfl (by decide) (by omega) u8 x8_1 (wrap64 (x10_1)) [.int .i64 (wrap64 (x10_1))] (fun _ => True) (fun _ => False) rfl rfl ?aP (fun _ hk => hk.elim) ?aF ?aO ?aB ?aS ?aL ?_; (case aP => exact rfl); (case aB => exact (by repeat (first | (with_reducible first | exact HB.out | apply below_alloc | apply pw_below_drewN | apply below_drew1 | refine below_set ?_ GE227.out) | exact HB.out))); (case aF => exact (fun _ _ => trivial)); (case aO => exact (by (with_reducible repeat (first | apply Kd.R_alloc | apply Kd.R_drewN | apply Kd.R_drew)); exact HO_8.out)); (case aS => exact (below_size (by repeat (first | (with_reducible first | exact HB.out | apply below_alloc | apply pw_below_drewN | apply below_drew1 | refine below_set ?_ GE227.out) | exact HB.out)))); (case aL => have := LMc22.out; omega); intro v232 w25 ho hb hg hat; rw [← Ny231.out] at ho; have n0_ := Aside0.mk (blk_grown (g := gb227) (o := .cells #[.slice (some ad229) l0_0.length c0_0, .slice A0_1 l0_1.length c0_1] 88 (0, 0)) (by (with_reducible repeat (first | refine blk_drewN ?_ _ | refine blk_drew ?_ | refine blk_alloc ?_ _)); exact BK227.out) hg (Kd.R_ne HO_8.out BK227.out (by decide))); have n1_ := Aside0.mk (hb); have n2_ := Aside0.mk (ho); clear BK227; clear HB; clear HO_8; have BK227 := n0_; have HB := n1_; have HO233 := n2_; clear n0_ n1_ n2_; clear ho hb hg hat; have hcz26_0 : w25.cell? ⟨gb227, 0, none⟩ = some (.slice (some ad229) l0_0.length c0_0) := (blk_cell BK227.out 0).trans rfl; have hcz26_1 : w25.cell? ⟨gb227, 1, none⟩ = some (.slice A0_1 l0_1.length c0_1) := (blk_cell BK227.out 1).trans rfl; have hfz26_0 := blk_frozen BK227.out 0; have hfz26_1 := blk_frozen BK227.out 1; have p234 : 0 ≤ (x10_1 : Int) := of_decide_eq_true (by assumption); have q234 : x10_1 < (l0_1.length : Int) := of_decide_eq_true (by assumption); obtain ⟨ad234, e234, hx234_0⟩ := Kd.at_int HR0_1.out x10_1 p234 q234; cases e234; replace hx234_0 := (HB.out.cell (World.block_lt_of_cell? w _ hx234_0)).trans hx234_0; replace p234 := eq_true p234; replace q234 := eq_true q234))
                repeat (go_quiet (first | ((with_reducible refine gate_builtin (b := .append) (xs := #[.tmp 60, .tmp 63]) rfl ?_); (try (refine gate_guard (by rfl) ?_; dsimp only)); at_builtin; refine Kd.R_append (Kd.int .i64) (w0 := w) w.heap.size rfl (.tmp 60) (.tmp 63) 37 3 (.int .i64 0) 8 rfl Try.underlying37 info3 rfl (by decide) (by omega) u8 x8_1 (wrap64 (x10_1)) [.int .i64 (wrap64 (x10_1))] (fun _ => True) (fun _ => False) rfl rfl ?aP (fun _ hk => hk.elim) ?aF ?aO ?aB ?aS ?aL ?_; (case aP => exact rfl); (case aB => exact (by repeat (first | (with_reducible first | exact HB.out | apply below_alloc | apply pw_below_drewN | apply below_drew1 | refine below_set ?_ GE227.out) | exact HB.out))); (case aF => exact (fun _ _ => trivial)); (case aO => exact (by (with_reducible repeat (first | apply Kd.R_alloc | apply Kd.R_drewN | apply Kd.R_drew)); exact HO_8.out)); (case aS => exact (below_size (by repeat (first | (with_reducible first | exact HB.out | apply below_alloc | apply pw_below_drewN | apply below_drew1 | refine below_set ?_ GE227.out) | exact HB.out)))); (case aL => have := LMc22.out; omega); intro v232 w25 ho hb hg hat; rw [← Ny231.out] at ho; have n0_ := Aside0.mk (blk_grown (g := gb227) (o := .cells #[.slice (some ad229) l0_0.length c0_0, .slice A0_1 l0_1.length c0_1] 88 (0, 0)) (by (with_reducible repeat (first | refine blk_drewN ?_ _ | refine blk_drew ?_ | refine blk_alloc ?_ _)); exact BK227.out) hg (Kd.R_ne HO_8.out BK227.out (by decide))); have n1_ := Aside0.mk (hb); have n2_ := Aside0.mk (ho); clear BK227; clear HB; clear HO_8; have BK227 := n0_; have HB := n1_; have HO233 := n2_; clear n0_ n1_ n2_; clear ho hb hg hat; have hcz26_0 : w25.cell? ⟨gb227, 0, none⟩ = some (.slice (some ad229) l0_0.length c0_0) := (blk_cell BK227.out 0).trans rfl; have hcz26_1 : w25.cell? ⟨gb227, 1, none⟩ = some (.slice A0_1 l0_1.length c0_1) := (blk_cell BK227.out 1).trans rfl; have hfz26_0 := blk_frozen BK227.out 0; have hfz26_1 := blk_frozen BK227.out 1; have p234 : 0 ≤ (x10_1 : Int) := of_decide_eq_true (by assumption); have q234 : x10_1 < (l0_1.length : Int) := of_decide_eq_true (by assumption); obtain ⟨ad234, e234, hx234_0⟩ := Kd.at_int HR0_1.out x10_1 p234 q234; cases e234; replace hx234_0 := (HB.out.cell (World.block_lt_of_cell? w _ hx234_0)).trans hx234_0; replace p234 := eq_true p234; replace q234 := eq_true q234)); try go_wp2_with (first | ((with_reducible refine gate_builtin (b := .append) (xs := #[.tmp 60, .tmp 63]) rfl ?_); (try (refine gate_guard (by rfl) ?_; dsimp only)); at_builtin; refine Kd.R_append (Kd.int .i64) (w0 := w) w.heap.size rfl (.tmp 60) (.tmp 63) 37 3 (.int .i64 0) 8 rfl Try.underlying37 info3 rfl (by decide) (by omega) u8 x8_1 (wrap64 (x10_1)) [.int .i64 (wrap64 (x10_1))] (fun _ => True) (fun _ => False) rfl rfl ?aP (fun _ hk => hk.elim) ?aF ?aO ?aB ?aS ?aL ?_; (case aP => exact rfl); (case aB => exact (by repeat (first | (with_reducible first | exact HB.out | apply below_alloc | apply pw_below_drewN | apply below_drew1 | refine below_set ?_ GE227.out) | exact HB.out))); (case aF => exact (fun _ _ => trivial)); (case aO => exact (by (with_reducible repeat (first | apply Kd.R_alloc | apply Kd.R_drewN | apply Kd.R_drew)); exact HO_8.out)); (case aS => exact (below_size (by repeat (first | (with_reducible first | exact HB.out | apply below_alloc | apply pw_below_drewN | apply below_drew1 | refine below_set ?_ GE227.out) | exact HB.out)))); (case aL => have := LMc22.out; omega); intro v232 w25 ho hb hg hat; rw [← Ny231.out] at ho; have n0_ := Aside0.mk (blk_grown (g := gb227) (o := .cells #[.slice (some ad229) l0_0.length c0_0, .slice A0_1 l0_1.length c0_1] 88 (0, 0)) (by (with_reducible repeat (first | refine blk_drewN ?_ _ | refine blk_drew ?_ | refine blk_alloc ?_ _)); exact BK227.out) hg (Kd.R_ne HO_8.out BK227.out (by decide))); have n1_ := Aside0.mk (hb); have n2_ := Aside0.mk (ho); clear BK227; clear HB; clear HO_8; have BK227 := n0_; have HB := n1_; have HO233 := n2_; clear n0_ n1_ n2_; clear ho hb hg hat; have hcz26_0 : w25.cell? ⟨gb227, 0, none⟩ = some (.slice (some ad229) l0_0.length c0_0) := (blk_cell BK227.out 0).trans rfl; have hcz26_1 : w25.cell? ⟨gb227, 1, none⟩ = some (.slice A0_1 l0_1.length c0_1) := (blk_cell BK227.out 1).trans rfl; have hfz26_0 := blk_frozen BK227.out 0; have hfz26_1 := blk_frozen BK227.out 1; have p234 : 0 ≤ (x10_1 : Int) := of_decide_eq_true (by assumption); have q234 : x10_1 < (l0_1.length : Int) := of_decide_eq_true (by assumption); obtain ⟨ad234, e234, hx234_0⟩ := Kd.at_int HR0_1.out x10_1 p234 q234; cases e234; replace hx234_0 := (HB.out.cell (World.block_lt_of_cell? w _ hx234_0)).trans hx234_0; replace p234 := eq_true p234; replace q234 := eq_true q234)))
                go_roundg kj11
                case measure => have := HK1.out; have := HJ11.out; omega
                case rel => exact ⟨(y231), (wrap64 (x9_1 + 1)), (rd l0_1 x10_1), (by first | rfl | (simp; done) | (simp [*]; done)), (by first | rfl | (simp; done) | (simp [*]; done)), H', ⟨by have := HK1.out; have := HJ11.out; omega⟩, ⟨by (with_reducible repeat (first | apply Kd.R_alloc | apply Kd.R_drewN | apply Kd.R_drew)); exact HO233.out⟩, ⟨by (with_reducible repeat (first | refine blk_drewN ?_ _ | refine blk_drew ?_ | refine blk_alloc ?_ _)); exact BK227.out⟩, ⟨by repeat (first | (with_reducible first | exact HB.out | apply below_alloc | apply pw_below_drewN | apply below_drew1 | refine below_set ?_ GE227.out) | exact HB.out)⟩⟩
               ·rw [if_neg c23] at H
                exact absurd H (by simp)
              ·rw [if_neg c22] at H
               exact absurd H (by simp)
             ·rw [if_neg c21] at H
              have c21b0 : (((rd_T39 l1 x10_1).f0).toList == a2.toList) = false := beq_eq_false_iff_ne.mpr c21
              have c21b1 : (((rd_T39 l1 x10_1).f0).toList != a2.toList) = true := bne_iff_ne.mpr c21
              by_cases c27 : x10_1 < (l0_1.length : Int)
              ·rw [if_pos c27] at H
               have c27b0 : decide (x10_1 < (l0_1.length : Int)) = true := decide_eq_true c27
               clear c27
               have H' := Aside0.mk H
               clear H
               have hcz28_0 : wc.cell? ⟨gb227, 0, none⟩ = some (.slice (some ad229) l0_0.length c0_0) := (blk_cell BK227.out 0).trans rfl
               have hcz28_1 : wc.cell? ⟨gb227, 1, none⟩ = some (.slice A0_1 l0_1.length c0_1) := (blk_cell BK227.out 1).trans rfl
               have hfz28_0 := blk_frozen BK227.out 0
               have hfz28_1 := blk_frozen BK227.out 1
               have p230 : 0 ≤ (x10_1 : Int) := of_decide_eq_true (by assumption)
               have q230 : x10_1 < (l1.length : Int) := of_decide_eq_true (by assumption)
               obtain ⟨ad230, e230, hx230_0, hx230_1, hx230_2, hx230_3, hx230_4, hx230_5, hx230_6⟩ := at_T39 HR1.out x10_1 p230 q230
               cases e230
               replace hx230_0 := (HB.out.cell (World.block_lt_of_cell? w _ hx230_0)).trans hx230_0
               replace hx230_1 := (HB.out.cell (World.block_lt_of_cell? w _ hx230_1)).trans hx230_1
               replace hx230_2 := (HB.out.cell (World.block_lt_of_cell? w _ hx230_2)).trans hx230_2
               replace hx230_3 := (HB.out.cell (World.block_lt_of_cell? w _ hx230_3)).trans hx230_3
               replace hx230_4 := (HB.out.cell (World.block_lt_of_cell? w _ hx230_4)).trans hx230_4
               replace hx230_5 := (HB.out.cell (World.block_lt_of_cell? w _ hx230_5)).trans hx230_5
               replace hx230_6 := (HB.out.cell (World.block_lt_of_cell? w _ hx230_6)).trans hx230_6
               replace p230 := eq_true p230
               replace q230 := eq_true q230
               have p235 : 0 ≤ (x10_1 : Int) := of_decide_eq_true (by assumption)
               have q235 : x10_1 < (l0_1.length : Int) := of_decide_eq_true (by assumption)
               obtain ⟨ad235, e235, hx235_0⟩ := Kd.at_int HR0_1.out x10_1 p235 q235
               cases e235
               replace hx235_0 := (HB.out.cell (World.block_lt_of_cell? w _ hx235_0)).trans hx235_0
               replace p235 := eq_true p235
               replace q235 := eq_true q235
               go_wp2
               repeat (go_quiet (fail); try go_wp2)
               go_roundg kj11
               case measure => have := HK1.out; have := HJ11.out; omega
               case rel => exact ⟨(x8_1), (wrap64 (x9_1 + 1)), (rd l0_1 x10_1), (by first | rfl | (simp; done) | (simp [*]; done)), (by first | rfl | (simp; done) | (simp [*]; done)), H', ⟨by have := HK1.out; have := HJ11.out; omega⟩, ⟨by (with_reducible repeat (first | apply Kd.R_alloc | apply Kd.R_drewN | apply Kd.R_drew)); exact HO_8.out⟩, ⟨by (with_reducible repeat (first | refine blk_drewN ?_ _ | refine blk_drew ?_ | refine blk_alloc ?_ _)); exact BK227.out⟩, ⟨by repeat (first | (with_reducible first | exact HB.out | apply below_alloc | apply pw_below_drewN | apply below_drew1 | refine below_set ?_ GE227.out) | exact HB.out)⟩⟩
              ·rw [if_neg c27] at H
               exact absurd H (by simp)
            ·rw [if_neg c20] at H
             exact absurd H (by simp)
           ·rw [if_neg c19] at H
            exact absurd H (by simp)
   ·rw [if_neg c8] at H
    exact absurd H (by simp)
  ·rw [if_neg c7] at H
   exact absurd H (by simp)
end Go.Proofs.Ythopdoamajjojaa.QBindF
