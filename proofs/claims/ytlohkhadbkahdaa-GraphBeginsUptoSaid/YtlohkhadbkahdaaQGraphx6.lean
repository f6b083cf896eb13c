-- Laid by wip/hook.py (this session's own program) out of the translation; with contracts that were written by hand.
import Derived.Test.YtlohkhadbkahdaaQGraphx0
namespace Go.Proofs.Ytlohkhadbkahdaa.QGraph
open Go.RowKit Go.Proofs.YtlohkhadbkahdaaW.PrintWords Go.Proofs.YtlohkhadbkahdaaW.PrintLast Go.Proofs.YtlohkhadbkahdaaW.PrintMore
attribute [local go_sem] max2_int min2_int max_two min_two max_three min_three max_four min_four   -- for this text's walks alone
set_option linter.unusedVariables false
set_option linter.unusedSimpArgs false

/-! ### shackleref16_Live: function 30 -/
mutual
def shackleref16_Live.j1 : Nat → List (List Int) → List Bool → Option (List Bool)
 | 0, _, _ => none
 | k + 1, x0, x5 => shackleref16_Live.l1 k x0 x5 true
def shackleref16_Live.l1 : Nat → List (List Int) → List Bool → Bool → Option (List Bool)
 | 0, _, _, _ => none
 | k + 1, x0, x5, x7 => if x7 = true then (shackleref16_Live.l2 k x0 x5 false 0) else (some x5)
def shackleref16_Live.l2 : Nat → List (List Int) → List Bool → Bool → Int → Option (List Bool)
 | 0, _, _, _, _ => none
 | k + 1, x0, x5, x7, x8 => if x8 < (x0.length : Int) then (shackleref16_Live.l3 k x0 x5 x7 x8 0) else (shackleref16_Live.l1 k x0 x5 x7)
def shackleref16_Live.l3 : Nat → List (List Int) → List Bool → Bool → Int → Int → Option (List Bool)
 | 0, _, _, _, _, _ => none
 | k + 1, x0, x5, x7, x8, x9 => if 0 ≤ x8 then (if x8 < (x0.length : Int) then (if x9 < ((rd_L1 x0 x8).length : Int) then (if 0 ≤ x9 then (if x8 < (x5.length : Int) then (if rdOf false x5 x8 = true then (if (rd (rd_L1 x0 x8) x9) ≥ 0 then (if (rd (rd_L1 x0 x8) x9) < (x0.length : Int) then (if 0 ≤ (rd (rd_L1 x0 x8) x9) then (if (rd (rd_L1 x0 x8) x9) < (x5.length : Int) then (if rdOf false x5 (rd (rd_L1 x0 x8) x9) = true then (shackleref16_Live.l3 k x0 x5 x7 x8 (wrap64 (x9 + 1))) else (shackleref16_Live.l3 k x0 (x5.set ((rd (rd_L1 x0 x8) x9) : Int).toNat true) true x8 (wrap64 (x9 + 1)))) else (none)) else (none)) else (shackleref16_Live.l3 k x0 x5 x7 x8 (wrap64 (x9 + 1)))) else (shackleref16_Live.l3 k x0 x5 x7 x8 (wrap64 (x9 + 1)))) else (shackleref16_Live.l3 k x0 x5 x7 x8 (wrap64 (x9 + 1)))) else (none)) else (none)) else (shackleref16_Live.l2 k x0 x5 x7 (wrap64 (x8 + 1)))) else (none)) else (none)
def shackleref16_Live.l0 : Nat → List (List Int) → List Int → List Bool → Int → Option (List Bool)
 | 0, _, _, _, _ => none
 | k + 1, x0, x1, x5, x6 => if x6 < (x0.length : Int) then (if x6 < (x1.length : Int) then (if 0 ≤ x6 then (if x6 < (x5.length : Int) then (shackleref16_Live.l0 k x0 x1 (x5.set (x6 : Int).toNat (decide ((rd x1 x6) > 0))) (wrap64 (x6 + 1))) else (none)) else (none)) else (shackleref16_Live.j1 k x0 x5)) else (shackleref16_Live.j1 k x0 x5)
end
def shackleref16_Live.f (k : Nat) (l0 : List (List Int)) (l1 : List Int) : Option (List Bool) := if 0 ≤ (l0.length : Int) then (if ((l0.length : Int) : Int).toNat ≤ 281474976710656 then (shackleref16_Live.l0 k l0 l1 (List.replicate ((l0.length : Int) : Int).toNat false) 0) else (none)) else (none)
theorem shackleref16_Live.mono_l : ∀ k, (∀ y0 y1, LeO (shackleref16_Live.j1 k y0 y1) (shackleref16_Live.j1 (k + 1) y0 y1)) ∧ (∀ y0 y1 y2, LeO (shackleref16_Live.l1 k y0 y1 y2) (shackleref16_Live.l1 (k + 1) y0 y1 y2)) ∧ (∀ y0 y1 y2 y3, LeO (shackleref16_Live.l2 k y0 y1 y2 y3) (shackleref16_Live.l2 (k + 1) y0 y1 y2 y3)) ∧ (∀ y0 y1 y2 y3 y4, LeO (shackleref16_Live.l3 k y0 y1 y2 y3 y4) (shackleref16_Live.l3 (k + 1) y0 y1 y2 y3 y4)) ∧ (∀ y0 y1 y2 y3, LeO (shackleref16_Live.l0 k y0 y1 y2 y3) (shackleref16_Live.l0 (k + 1) y0 y1 y2 y3))
 | 0 => ⟨fun _ _ r h => by simp [shackleref16_Live.j1] at h, fun _ _ _ r h => by simp [shackleref16_Live.l1] at h, fun _ _ _ _ r h => by simp [shackleref16_Live.l2] at h, fun _ _ _ _ _ r h => by simp [shackleref16_Live.l3] at h, fun _ _ _ _ r h => by simp [shackleref16_Live.l0] at h⟩
 | k + 1 => by
  obtain ⟨ih0, ih1, ih2, ih3, ih4⟩ := shackleref16_Live.mono_l k
  refine ⟨?_, ?_, ?_, ?_, ?_⟩
  ·intro y0 y1
   unfold shackleref16_Live.j1
   repeat' first
   | (with_reducible exact ih0 _ _)
   | (with_reducible exact ih1 _ _ _)
   | (with_reducible exact ih2 _ _ _ _)
   | (with_reducible exact ih3 _ _ _ _ _)
   | (with_reducible exact ih4 _ _ _ _)
   | (with_reducible exact LeO.refl _)
   | (with_reducible exact LeO.none _)
   | (with_reducible refine LeO.ite ?_ ?_)
   | (with_reducible refine LeO.bind ?_ (fun _ => ?_))
   | exact ih0 _ _
   | exact ih1 _ _ _
   | exact ih2 _ _ _ _
   | exact ih3 _ _ _ _ _
   | exact ih4 _ _ _ _
   | exact LeO.none _
   | refine LeO.ite ?_ ?_
   | refine LeO.bind ?_ (fun _ => ?_)
  ·intro y0 y1 y2
   unfold shackleref16_Live.l1
   repeat' first
   | (with_reducible exact ih0 _ _)
   | (with_reducible exact ih1 _ _ _)
   | (with_reducible exact ih2 _ _ _ _)
   | (with_reducible exact ih3 _ _ _ _ _)
   | (with_reducible exact ih4 _ _ _ _)
   | (with_reducible exact LeO.refl _)
   | (with_reducible exact LeO.none _)
   | (with_reducible refine LeO.ite ?_ ?_)
   | (with_reducible refine LeO.bind ?_ (fun _ => ?_))
   | exact ih0 _ _
   | exact ih1 _ _ _
   | exact ih2 _ _ _ _
   | exact ih3 _ _ _ _ _
   | exact ih4 _ _ _ _
   | exact LeO.none _
   | refine LeO.ite ?_ ?_
   | refine LeO.bind ?_ (fun _ => ?_)
  ·intro y0 y1 y2 y3
   unfold shackleref16_Live.l2
   repeat' first
   | (with_reducible exact ih0 _ _)
   | (with_reducible exact ih1 _ _ _)
   | (with_reducible exact ih2 _ _ _ _)
   | (with_reducible exact ih3 _ _ _ _ _)
   | (with_reducible exact ih4 _ _ _ _)
   | (with_reducible exact LeO.refl _)
   | (with_reducible exact LeO.none _)
   | (with_reducible refine LeO.ite ?_ ?_)
   | (with_reducible refine LeO.bind ?_ (fun _ => ?_))
   | exact ih0 _ _
   | exact ih1 _ _ _
   | exact ih2 _ _ _ _
   | exact ih3 _ _ _ _ _
   | exact ih4 _ _ _ _
   | exact LeO.none _
   | refine LeO.ite ?_ ?_
   | refine LeO.bind ?_ (fun _ => ?_)
  ·intro y0 y1 y2 y3 y4
   unfold shackleref16_Live.l3
   repeat' first
   | (with_reducible exact ih0 _ _)
   | (with_reducible exact ih1 _ _ _)
   | (with_reducible exact ih2 _ _ _ _)
   | (with_reducible exact ih3 _ _ _ _ _)
   | (with_reducible exact ih4 _ _ _ _)
   | (with_reducible exact LeO.refl _)
   | (with_reducible exact LeO.none _)
   | (with_reducible refine LeO.ite ?_ ?_)
   | (with_reducible refine LeO.bind ?_ (fun _ => ?_))
   | exact ih0 _ _
   | exact ih1 _ _ _
   | exact ih2 _ _ _ _
   | exact ih3 _ _ _ _ _
   | exact ih4 _ _ _ _
   | exact LeO.none _
   | refine LeO.ite ?_ ?_
   | refine LeO.bind ?_ (fun _ => ?_)
  ·intro y0 y1 y2 y3
   unfold shackleref16_Live.l0
   repeat' first
   | (with_reducible exact ih0 _ _)
   | (with_reducible exact ih1 _ _ _)
   | (with_reducible exact ih2 _ _ _ _)
   | (with_reducible exact ih3 _ _ _ _ _)
   | (with_reducible exact ih4 _ _ _ _)
   | (with_reducible exact LeO.refl _)
   | (with_reducible exact LeO.none _)
   | (with_reducible refine LeO.ite ?_ ?_)
   | (with_reducible refine LeO.bind ?_ (fun _ => ?_))
   | exact ih0 _ _
   | exact ih1 _ _ _
   | exact ih2 _ _ _ _
   | exact ih3 _ _ _ _ _
   | exact ih4 _ _ _ _
   | exact LeO.none _
   | refine LeO.ite ?_ ?_
   | refine LeO.bind ?_ (fun _ => ?_)
theorem shackleref16_Live.mono : ∀ a0 a1 k, LeO (shackleref16_Live.f k a0 a1) (shackleref16_Live.f (k + 1) a0 a1) := by
 intro a0 a1 k
 obtain ⟨ih0, ih1, ih2, ih3, ih4⟩ := shackleref16_Live.mono_l k
 unfold shackleref16_Live.f
 repeat' first
   | (with_reducible exact ih0 _ _)
   | (with_reducible exact ih1 _ _ _)
   | (with_reducible exact ih2 _ _ _ _)
   | (with_reducible exact ih3 _ _ _ _ _)
   | (with_reducible exact ih4 _ _ _ _)
   | (with_reducible exact LeO.refl _)
   | (with_reducible exact LeO.none _)
   | (with_reducible refine LeO.ite ?_ ?_)
   | (with_reducible refine LeO.bind ?_ (fun _ => ?_))
   | exact ih0 _ _
   | exact ih1 _ _ _
   | exact ih2 _ _ _ _
   | exact ih3 _ _ _ _ _
   | exact ih4 _ _ _ _
   | exact LeO.none _
   | refine LeO.ite ?_ ?_
   | refine LeO.bind ?_ (fun _ => ?_)
set_option maxHeartbeats 8000000 in
set_option maxRecDepth 100000 in
theorem shackleref16_Live.calls (k : Nat) (A0 : Option Addr) (c0 : Nat) (l0 : List (List Int)) (A1 : Option Addr) (c1 : Nat) (l1 : List Int) (r : List Bool) (w : World) (hr0 : Kd.C (Kd.slice 3 (Kd.int .i64)) w A0 l0.length l0) (hc0 : l0.length ≤ c0) (hr1 : Kd.C (Kd.int .i64) w A1 l1.length l1) (hc1 : l1.length ≤ c1) (h : shackleref16_Live.f k l0 l1 = some r) :
  Calls Try.prog 30 #[.slice A0 l0.length c0, .slice A1 l1.length c1] w fun e w' => ∃ v0_ : Value, e = .returned (v0_) ∧ Kd.R Kd.bool 4 w' w.heap.size (fun _ => True) v0_ r ∧ Below w.heap.size w w' := by
 have HR0 := Aside0.mk hr0
 have HC0 := Aside0.mk hc0
 clear hr0 hc0
 have HR1 := Aside0.mk hr1
 have HC1 := Aside0.mk hc1
 clear hr1 hc1
 have HB := Aside0.mk (Below.refl w.heap.size w)
 have H : (if 0 ≤ (l0.length : Int) then (if ((l0.length : Int) : Int).toNat ≤ 281474976710656 then (shackleref16_Live.l0 k l0 l1 (List.replicate ((l0.length : Int) : Int).toNat false) 0) else (none)) else (none)) = some r := h
 clear h
 by_cases c3 : 0 ≤ (l0.length : Int)
 ·rw [if_pos c3] at H
  have c3b0 := eq_true c3
  have c3b1 : decide (0 ≤ (l0.length : Int)) = true := decide_eq_true c3
  clear c3
  by_cases c4 : ((l0.length : Int) : Int).toNat ≤ 281474976710656
  ·rw [if_pos c4] at H
   have c4b0 := eq_true c4
   have c4b1 : decide (((l0.length : Int) : Int).toNat ≤ 281474976710656) = true := decide_eq_true c4
   clear c4
   obtain ⟨y272, hy272⟩ : ∃ y_ : List Bool, y_ = (List.replicate ((l0.length : Int) : Int).toNat false) := ⟨_, rfl⟩
   replace H : (shackleref16_Live.l0 k l0 l1 y272 0) = some r := by first | (rw [hy272]; with_reducible exact H) | (have H2_ := (Option.bind_some _ _).symm.trans H; rw [hy272]; with_reducible exact H2_) | (have H2_ := (Option.bind_some _ _).symm.trans H; with_reducible exact H2_) | with_reducible exact H | (rw [hy272]; exact H) | exact H
   have Ny272 := Aside0.mk hy272
   clear hy272
   have HC5 := Aside0.mk H
   clear H
   go_enter Try.func30, Try.ntmps30
   go_upto_block 0 with (first | ((with_reducible refine gate_dst (N := 13) rfl ?_); (try (refine gate_guard (by rfl) ?_; dsimp only)); refine Kd.R_make Kd.bool _ 4 rfl (N := 13) rfl 47 _ _ rfl (l0.length : Int) rfl rfl Try.underlying47 (.bool false) 1 info4 rfl (by decide) (by omega) false (ok := fun _ => True) (okp := fun _ => True) rfl (fun _ hk => hk) trivial (of_decide_eq_true (by assumption)) (Nat.le_trans (Nat.mul_le_mul_right _ (of_decide_eq_true (by assumption) : (l0.length : Int).toNat ≤ 281474976710656)) (by omega)) (Below.refl _ _) (Nat.le_refl _) ?_; intro v273 w6 ho7 hb hg_ hnew_; clear hg_ hnew_; (first | rw [← Ny272.out] at ho7 | (simp only [Int.reduceToNat] at ho7; rw [← Ny272.out] at ho7)); have n0_ := Aside0.mk (Kd.R_lower ho7 (below_size (by repeat (first | (with_reducible first | exact HB.out | apply below_alloc | apply pw_below_drewN | apply below_drew1) | exact HB.out)))); have n1_ := Aside0.mk (below_step (by repeat (first | (with_reducible first | exact HB.out | apply below_alloc | apply pw_below_drewN | apply below_drew1) | exact HB.out)) hb); clear HB; have HO274 := n0_; have HB := n1_; clear n0_ n1_; clear hb ho7))
   (try simp only [Act.put, List.setIfInBounds_toArray, List.set_cons_zero, List.set_cons_succ])
   go_cut [] (fun wc => ∃ (kq : Nat) (x5_4 : List Bool), Aside0 (shackleref16_Live.j1 kq l0 x5_4 = some r) ∧ Aside0 (kq ≤ k) ∧ Aside0 (Kd.R Kd.bool 4 wc w.heap.size (fun _ => True) v273 x5_4) ∧ Aside0 (Below w.heap.size w wc))
   case first =>
    have H := HC5.out
    clear HC5
    have H' := Aside0.mk H
    clear H
    go_wp2
    go_loopg [6] k (fun kq v6 w' => ∃ (x5_1 : List Bool) (x6_1 : Int), v6 = .int .i64 x6_1 ∧ Aside0 (shackleref16_Live.l0 kq l0 l1 x5_1 x6_1 = some r) ∧ Aside0 (kq ≤ k) ∧ Aside0 (Kd.R Kd.bool 4 w' w.heap.size (fun _ => True) v273 x5_1) ∧ Aside0 (Below w.heap.size w w'))
    case atStart => exact ⟨(y272), (0), (by first | rfl | (simp; done) | (simp [*]; done)), H', ⟨Nat.le_refl _⟩, ⟨by (with_reducible repeat (first | apply Kd.R_alloc | apply Kd.R_drewN | apply Kd.R_drew)); exact HO274.out⟩, ⟨by repeat (first | (with_reducible first | exact HB.out | apply below_alloc | apply pw_below_drewN | apply below_drew1) | exact HB.out)⟩⟩
    case round =>
     clear H'
     try clear c1
     try clear p2
     try clear c3
     try clear c3b0
     try clear c3b1
     try clear c4
     try clear c4b0
     try clear c4b1
     obtain ⟨x5_1, x6_1, rfl, HA, HK1, HO_5, HB⟩ := hrel
     cases gk with
     | zero => exact absurd HA.out (by simp [shackleref16_Live.l0])
     | succ k1 =>
      have H := HA.out
      clear HA
      simp only [shackleref16_Live.l0] at H
      by_cases c8 : x6_1 < (l0.length : Int)
      ·rw [if_pos c8] at H
       have c8b0 : decide (x6_1 < (l0.length : Int)) = true := decide_eq_true c8
       clear c8
       (first | rw [c8b0] | (simp only [i64_w, i32_w]; rw [c8b0]) | skip)
       by_cases c9 : x6_1 < (l1.length : Int)
       ·rw [if_pos c9] at H
        have c9b0 : decide (x6_1 < (l1.length : Int)) = true := decide_eq_true c9
        clear c9
        by_cases c10 : 0 ≤ x6_1
        ·rw [if_pos c10] at H
         have c10b0 : decide (0 ≤ x6_1) = true := decide_eq_true c10
         clear c10
         by_cases c11 : x6_1 < (x5_1.length : Int)
         ·rw [if_pos c11] at H
          have c11b0 : decide (x6_1 < (x5_1.length : Int)) = true := decide_eq_true c11
          clear c11
          obtain ⟨y276, hy276⟩ : ∃ y_ : List Bool, y_ = (x5_1.set (x6_1 : Int).toNat (decide ((rd l1 x6_1) > 0))) := ⟨_, rfl⟩
          replace H : (shackleref16_Live.l0 k1 l0 l1 y276 (wrap64 (x6_1 + 1))) = some r := by first | (rw [hy276]; with_reducible exact H) | (have H2_ := (Option.bind_some _ _).symm.trans H; rw [hy276]; with_reducible exact H2_) | (have H2_ := (Option.bind_some _ _).symm.trans H; with_reducible exact H2_) | with_reducible exact H | (rw [hy276]; exact H) | exact H
          have Ny276 := Aside0.mk hy276
          clear hy276
          have H' := Aside0.mk H
          clear H
          have p275 : 0 ≤ (x6_1 : Int) := of_decide_eq_true (by assumption)
          have q275 : x6_1 < (l1.length : Int) := of_decide_eq_true (by assumption)
          obtain ⟨ad275, e275, hx275_0⟩ := Kd.at_int HR1.out x6_1 p275 q275
          cases e275
          replace hx275_0 := (HB.out.cell (World.block_lt_of_cell? w _ hx275_0)).trans hx275_0
          replace p275 := eq_true p275
          replace q275 := eq_true q275
          have p12 : 0 ≤ (x6_1 : Int) := of_decide_eq_true (by assumption)
          have q12 : (x6_1 : Int) < ((x5_1.length : Int) : Int) := of_decide_eq_true (by assumption)
          obtain ⟨go12, co12, eo12, gb12, gl12, cl12, HG12⟩ := Kd.R_form HO_5.out (by omega)
          (first | cases eo12 | (injection eo12 with ea_ en_ ec_; (first | subst ea_ | (injection ea_ with ea_; subst ea_)); subst ec_; clear en_))
          have GB12 := Aside0.mk gb12
          have GG12 := Aside0.mk HG12
          clear gb12 gl12 HG12
          obtain ⟨hx12_0, hf12_0⟩ := Kd.R_celln false HO_5.out (x6_1 : Int) p12 q12
          replace p12 := eq_true p12
          replace q12 := eq_true q12
          have HP13 := Kd.R_putg HO_5.out (x6_1 : Int) (decide ((rd l1 x6_1) > 0))
          go_wp2_with (first | ((with_reducible refine gate_store (t := 4) (p := 33) rfl ?_); refine store_event (t := 4) (p := 33) (v := ?vo_w14) (w1 := (wr.setCell ⟨go12, (x6_1 : Int).toNat, none⟩ (.bool (decide ((rd l1 x6_1) > 0))))) ?hg ?ho ?hn ?hr ?_; (case ho => rfl); (case hg => rfl); (case hn => rfl); (case hr => first | (go_simp; done) | (go_simp; rfl)); intro w14 hw; have hg : wr.grownBy w14 (some go12) := (by rw [hw]; exact HP13.2); have hp_ : Kd.R Kd.bool 4 w14 w.heap.size (fun _ => True) (.slice (some ⟨go12, 0, none⟩) x5_1.length co12) y276 := (by rw [hw, Ny276.out]; exact HP13.1); clear HP13; have n0_ := Aside0.mk (hp_); have n1_ := Aside0.mk ((by rw [hw]; exact below_set (HB.out) GB12.out : Below w.heap.size w w14)); clear HO_5; clear HB; have HO_5 := n0_; have HB := n1_; clear n0_ n1_; clear hg hw hp_))
          go_roundg k1
          case measure => have := HK1.out; omega
          case rel => exact ⟨(y276), (wrap64 (x6_1 + 1)), (by first | rfl | (simp; done) | (simp [*]; done)), H', ⟨by have := HK1.out; omega⟩, ⟨by (with_reducible repeat (first | apply Kd.R_alloc | apply Kd.R_drewN | apply Kd.R_drew)); exact HO_5.out⟩, ⟨by repeat (first | (with_reducible first | exact HB.out | apply below_alloc | apply pw_below_drewN | apply below_drew1) | exact HB.out)⟩⟩
         ·rw [if_neg c11] at H
          exact absurd H (by simp)
        ·rw [if_neg c10] at H
         exact absurd H (by simp)
       ·rw [if_neg c9] at H
        have c9b0 : decide (x6_1 < (l1.length : Int)) = false := decide_eq_false c9
        clear c9
        have H' := Aside0.mk H
        clear H
        go_wp2
        go_meet
        case rel => exact ⟨_, (x5_1), H', ⟨by have := HK1.out; first | omega | exact Nat.le_refl _⟩, ⟨by (with_reducible repeat (first | apply Kd.R_alloc | apply Kd.R_drewN | apply Kd.R_drew)); exact HO_5.out⟩, ⟨by repeat (first | (with_reducible first | exact HB.out | apply below_alloc | apply pw_below_drewN | apply below_drew1) | exact HB.out)⟩⟩
      ·rw [if_neg c8] at H
       have c8b0 : decide (x6_1 < (l0.length : Int)) = false := decide_eq_false c8
       clear c8
       (first | rw [c8b0] | (simp only [i64_w, i32_w]; rw [c8b0]) | skip)
       have H' := Aside0.mk H
       clear H
       go_wp2
       go_meet
       case rel => exact ⟨_, (x5_1), H', ⟨by have := HK1.out; first | omega | exact Nat.le_refl _⟩, ⟨by (with_reducible repeat (first | apply Kd.R_alloc | apply Kd.R_drewN | apply Kd.R_drew)); exact HO_5.out⟩, ⟨by repeat (first | (with_reducible first | exact HB.out | apply below_alloc | apply pw_below_drewN | apply below_drew1) | exact HB.out)⟩⟩
   case rest =>
    clear HC5
    try clear c1
    try clear p1
    try clear q1
    try clear hx1
    try clear p2
    try clear q2
    try clear hx2
    try clear c3
    try clear c3b0
    try clear c3b1
    try clear c4
    try clear c4b0
    try clear c4b1
    try clear p6
    try clear c8
    try clear c8b0
    try clear c9
    try clear c9b0
    try clear c10
    try clear c10b0
    try clear c11
    try clear c11b0
    try clear p12
    try clear q12
    try clear hx12
    try clear hf12
    try clear hx12_0
    try clear hx275_0
    try clear p12
    try clear p2
    try clear p275
    try clear q12
    try clear q275
    obtain ⟨kq, x5_4, HA, HJ4, HO_5, HB⟩ := hcut
    cases kq with
    | zero => exact absurd HA.out (by simp [shackleref16_Live.j1])
    | succ kj4 =>
     have H := HA.out
     clear HA
     simp only [shackleref16_Live.j1] at H
     have H' := Aside0.mk H
     clear H
     go_wp2
     go_loopg [7] kj4 (fun kq v7 w' => ∃ (x5_2 : List Bool) (x7_2 : Bool), v7 = .bool x7_2 ∧ Aside0 (shackleref16_Live.l1 kq l0 x5_2 x7_2 = some r) ∧ Aside0 (kq ≤ kj4) ∧ Aside0 (Kd.R Kd.bool 4 w' w.heap.size (fun _ => True) v273 x5_2) ∧ Aside0 (Below w.heap.size w w'))
     case atStart => exact ⟨(x5_4), (true), (by first | rfl | (simp; done) | (simp [*]; done)), H', ⟨Nat.le_refl _⟩, ⟨by (with_reducible repeat (first | apply Kd.R_alloc | apply Kd.R_drewN | apply Kd.R_drew)); exact HO_5.out⟩, ⟨by repeat (first | (with_reducible first | exact HB.out | apply below_alloc | apply pw_below_drewN | apply below_drew1) | exact HB.out)⟩⟩
     case round =>
      clear H'
      try clear c1
      try clear p1
      try clear q1
      try clear hx1
      try clear p2
      try clear q2
      try clear hx2
      try clear c3
      try clear c3b0
      try clear c3b1
      try clear c4
      try clear c4b0
      try clear c4b1
      try clear p6
      try clear c8
      try clear c8b0
      try clear c9
      try clear c9b0
      try clear c10
      try clear c10b0
      try clear c11
      try clear c11b0
      try clear p12
      try clear q12
      try clear hx12
      try clear hf12
      try clear hx12_0
      try clear hx275_0
      try clear p1
      try clear p12
      try clear p2
      try clear p275
      try clear p6
      try clear q1
      try clear q12
      try clear q2
      try clear q275
      obtain ⟨x5_2, x7_2, rfl, HA, HK2, HO_5, HB⟩ := hrel
      cases gk with
      | zero => exact absurd HA.out (by simp [shackleref16_Live.l1])
      | succ k2 =>
       have H := HA.out
       clear HA
       simp only [shackleref16_Live.l1] at H
       by_cases c15 : x7_2 = true
       ·subst c15
        have H1 : (shackleref16_Live.l2 k2 l0 x5_2 false 0) = some r := by rw [if_pos rfl] at H; exact H
        clear H
        have H := H1
        clear H1
        have H' := Aside0.mk H
        clear H
        go_wp2
        go_loopg [7, 8] k2 (fun kq v7 v8 w' => ∃ (x5_3 : List Bool) (x7_3 : Bool) (x8_3 : Int), v7 = .bool x7_3 ∧ v8 = .int .i64 x8_3 ∧ Aside0 (shackleref16_Live.l2 kq l0 x5_3 x7_3 x8_3 = some r) ∧ Aside0 (kq ≤ k2) ∧ Aside0 (Kd.R Kd.bool 4 w' w.heap.size (fun _ => True) v273 x5_3) ∧ Aside0 (Below w.heap.size w w'))
        case atStart => exact ⟨(x5_2), (false), (0), (by first | rfl | (simp; done) | (simp [*]; done)), (by first | rfl | (simp; done) | (simp [*]; done)), H', ⟨Nat.le_refl _⟩, ⟨by (with_reducible repeat (first | apply Kd.R_alloc | apply Kd.R_drewN | apply Kd.R_drew)); exact HO_5.out⟩, ⟨by repeat (first | (with_reducible first | exact HB.out | apply below_alloc | apply pw_below_drewN | apply below_drew1) | exact HB.out)⟩⟩
        case round =>
         clear H'
         try clear c1
         try clear p1
         try clear q1
         try clear hx1
         try clear p2
         try clear q2
         try clear hx2
         try clear c3
         try clear c3b0
         try clear c3b1
         try clear c4
         try clear c4b0
         try clear c4b1
         try clear p6
         try clear c8
         try clear c8b0
         try clear c9
         try clear c9b0
         try clear c10
         try clear c10b0
         try clear c11
         try clear c11b0
         try clear p12
         try clear q12
         try clear hx12
         try clear hf12
         try clear c15
         try clear hx12_0
         try clear hx275_0
         try clear p1
         try clear p12
         try clear p2
         try clear p275
         try clear p6
         try clear q1
         try clear q12
         try clear q2
         try clear q275
         obtain ⟨x5_3, x7_3, x8_3, rfl, rfl, HA, HK3, HO_5, HB⟩ := hrel
         cases gk with
         | zero => exact absurd HA.out (by simp [shackleref16_Live.l2])
         | succ k3 =>
          have H := HA.out
          clear HA
          simp only [shackleref16_Live.l2] at H
          by_cases c16 : x8_3 < (l0.length : Int)
          ·rw [if_pos c16] at H
           have c16b0 : decide (x8_3 < (l0.length : Int)) = true := decide_eq_true c16
           clear c16
           have H' := Aside0.mk H
           clear H
           go_wp2
           go_loopg [7, 9] k3 (fun kq v7 v9 w' => ∃ (x5_4 : List Bool) (x7_4 : Bool) (x9_4 : Int), v7 = .bool x7_4 ∧ v9 = .int .i64 x9_4 ∧ Aside0 (shackleref16_Live.l3 kq l0 x5_4 x7_4 x8_3 x9_4 = some r) ∧ Aside0 (kq ≤ k3) ∧ Aside0 (Kd.R Kd.bool 4 w' w.heap.size (fun _ => True) v273 x5_4) ∧ Aside0 (Below w.heap.size w w'))
           case atStart => exact ⟨(x5_3), (x7_3), (0), (by first | rfl | (simp; done) | (simp [*]; done)), (by first | rfl | (simp; done) | (simp [*]; done)), H', ⟨Nat.le_refl _⟩, ⟨by (with_reducible repeat (first | apply Kd.R_alloc | apply Kd.R_drewN | apply Kd.R_drew)); exact HO_5.out⟩, ⟨by repeat (first | (with_reducible first | exact HB.out | apply below_alloc | apply pw_below_drewN | apply below_drew1) | exact HB.out)⟩⟩
           case round =>
            clear H'
            try clear c1
            try clear p1
            try clear q1
            try clear hx1
            try clear p2
            try clear q2
            try clear hx2
            try clear c3
            try clear c3b0
            try clear c3b1
            try clear c4
            try clear c4b0
            try clear c4b1
            try clear p6
            try clear c8
            try clear c8b0
            try clear c9
            try clear c9b0
            try clear c10
            try clear c10b0
            try clear c11
            try clear c11b0
            try clear p12
            try clear q12
            try clear hx12
            try clear hf12
            try clear c15
            try clear c16
            try clear c16b0
            try clear hx12_0
            try clear hx275_0
            try clear p1
            try clear p12
            try clear p2
            try clear p275
            try clear p6
            try clear q1
            try clear q12
            try clear q2
            try clear q275
            obtain ⟨x5_4, x7_4, x9_4, rfl, rfl, HA, HK4, HO_5, HB⟩ := hrel
            cases gk with
            | zero => exact absurd HA.out (by simp [shackleref16_Live.l3])
            | succ k4 =>
             have H := HA.out
             clear HA
             simp only [shackleref16_Live.l3] at H
             by_cases c17 : 0 ≤ x8_3
             ·rw [if_pos c17] at H
              have c17b0 : decide (0 ≤ x8_3) = true := decide_eq_true c17
              clear c17
              by_cases c18 : x8_3 < (l0.length : Int)
              ·rw [if_pos c18] at H
               have c18b0 : decide (x8_3 < (l0.length : Int)) = true := decide_eq_true c18
               clear c18
               by_cases c19 : x9_4 < ((rd_L1 l0 x8_3).length : Int)
               ·rw [if_pos c19] at H
                have c19b0 : decide (x9_4 < ((rd_L1 l0 x8_3).length : Int)) = true := decide_eq_true c19
                clear c19
                by_cases c20 : 0 ≤ x9_4
                ·rw [if_pos c20] at H
                 have c20b0 : decide (0 ≤ x9_4) = true := decide_eq_true c20
                 clear c20
                 by_cases c21 : x8_3 < (x5_4.length : Int)
                 ·rw [if_pos c21] at H
                  have c21b0 : decide (x8_3 < (x5_4.length : Int)) = true := decide_eq_true c21
                  clear c21
                  obtain ⟨bq22, hbq22⟩ : ∃ b_ : Bool, b_ = (rdOf false x5_4 x8_3) := ⟨_, rfl⟩
                  replace H : (if bq22 = true then (if (rd (rd_L1 l0 x8_3) x9_4) ≥ 0 then (if (rd (rd_L1 l0 x8_3) x9_4) < (l0.length : Int) then (if 0 ≤ (rd (rd_L1 l0 x8_3) x9_4) then (if (rd (rd_L1 l0 x8_3) x9_4) < (x5_4.length : Int) then (if rdOf false x5_4 (rd (rd_L1 l0 x8_3) x9_4) = true then (shackleref16_Live.l3 k4 l0 x5_4 x7_4 x8_3 (wrap64 (x9_4 + 1))) else (shackleref16_Live.l3 k4 l0 (x5_4.set ((rd (rd_L1 l0 x8_3) x9_4) : Int).toNat true) true x8_3 (wrap64 (x9_4 + 1)))) else (none)) else (none)) else (shackleref16_Live.l3 k4 l0 x5_4 x7_4 x8_3 (wrap64 (x9_4 + 1)))) else (shackleref16_Live.l3 k4 l0 x5_4 x7_4 x8_3 (wrap64 (x9_4 + 1)))) else (shackleref16_Live.l3 k4 l0 x5_4 x7_4 x8_3 (wrap64 (x9_4 + 1)))) = some r := by rw [← hbq22] at H; exact H
                  have Nbq22 := Aside0.mk hbq22
                  clear hbq22
                  by_cases c23 : bq22 = true
                  ·subst c23
                   have H1 : (if (rd (rd_L1 l0 x8_3) x9_4) ≥ 0 then (if (rd (rd_L1 l0 x8_3) x9_4) < (l0.length : Int) then (if 0 ≤ (rd (rd_L1 l0 x8_3) x9_4) then (if (rd (rd_L1 l0 x8_3) x9_4) < (x5_4.length : Int) then (if rdOf false x5_4 (rd (rd_L1 l0 x8_3) x9_4) = true then (shackleref16_Live.l3 k4 l0 x5_4 x7_4 x8_3 (wrap64 (x9_4 + 1))) else (shackleref16_Live.l3 k4 l0 (x5_4.set ((rd (rd_L1 l0 x8_3) x9_4) : Int).toNat true) true x8_3 (wrap64 (x9_4 + 1)))) else (none)) else (none)) else (shackleref16_Live.l3 k4 l0 x5_4 x7_4 x8_3 (wrap64 (x9_4 + 1)))) else (shackleref16_Live.l3 k4 l0 x5_4 x7_4 x8_3 (wrap64 (x9_4 + 1)))) = some r := by rw [if_pos rfl] at H; exact H
                   clear H
                   have H := H1
                   clear H1
                   by_cases c24 : (rd (rd_L1 l0 x8_3) x9_4) ≥ 0
                   ·rw [if_pos c24] at H
                    have c24b0 : decide (0 ≤ (rd (rd_L1 l0 x8_3) x9_4)) = true := decide_eq_true c24
                    clear c24
                    by_cases c25 : (rd (rd_L1 l0 x8_3) x9_4) < (l0.length : Int)
                    ·rw [if_pos c25] at H
                     have c25b0 : decide ((rd (rd_L1 l0 x8_3) x9_4) < (l0.length : Int)) = true := decide_eq_true c25
                     clear c25
                     by_cases c26 : 0 ≤ (rd (rd_L1 l0 x8_3) x9_4)
                     ·rw [if_pos c26] at H
                      have c26b0 : decide (0 ≤ (rd (rd_L1 l0 x8_3) x9_4)) = true := decide_eq_true c26
                      clear c26
                      by_cases c27 : (rd (rd_L1 l0 x8_3) x9_4) < (x5_4.length : Int)
                      ·rw [if_pos c27] at H
                       have c27b0 : decide ((rd (rd_L1 l0 x8_3) x9_4) < (x5_4.length : Int)) = true := decide_eq_true c27
                       clear c27
                       obtain ⟨bq28, hbq28⟩ : ∃ b_ : Bool, b_ = (rdOf false x5_4 (rd (rd_L1 l0 x8_3) x9_4)) := ⟨_, rfl⟩
                       replace H : (if bq28 = true then (shackleref16_Live.l3 k4 l0 x5_4 x7_4 x8_3 (wrap64 (x9_4 + 1))) else (shackleref16_Live.l3 k4 l0 (x5_4.set ((rd (rd_L1 l0 x8_3) x9_4) : Int).toNat true) true x8_3 (wrap64 (x9_4 + 1)))) = some r := by rw [← hbq28] at H; exact H
                       have Nbq28 := Aside0.mk hbq28
                       clear hbq28
                       by_cases c29 : bq28 = true
                       ·subst c29
                        have H1 : (shackleref16_Live.l3 k4 l0 x5_4 x7_4 x8_3 (wrap64 (x9_4 + 1))) = some r := by rw [if_pos rfl] at H; exact H
                        clear H
                        have H := H1
                        clear H1
                        have H' := Aside0.mk H
                        clear H
                        have p277 : 0 ≤ (x8_3 : Int) := of_decide_eq_true (by assumption)
                        have q277 : x8_3 < (l0.length : Int) := of_decide_eq_true (by assumption)
                        obtain ⟨ad277, A277_0, c277_0, e277, hx277_0, hl277_0, hi277_0⟩ := at_L1 HR0.out x8_3 p277 q277
                        cases e277
                        replace hx277_0 := (HB.out.cell (World.block_lt_of_cell? w _ hx277_0)).trans hx277_0
                        have HR277_0 := Aside0.mk hi277_0
                        have HC277_0 := Aside0.mk hl277_0
                        clear hi277_0 hl277_0
                        replace p277 := eq_true p277
                        replace q277 := eq_true q277
                        have p278 : 0 ≤ (x8_3 : Int) := of_decide_eq_true (by assumption)
                        have q278 : x8_3 < (l0.length : Int) := of_decide_eq_true (by assumption)
                        obtain ⟨ad278, A278_0, c278_0, e278, hx278_0, hl278_0, hi278_0⟩ := at_L1 HR0.out x8_3 p278 q278
                        obtain rfl : ad277 = ad278 := (by injection e278)
                        replace hx278_0 := (HB.out.cell (World.block_lt_of_cell? w _ hx278_0)).trans hx278_0
                        have HR278_0 := Aside0.mk hi278_0
                        have HC278_0 := Aside0.mk hl278_0
                        clear hi278_0 hl278_0
                        replace p278 := eq_true p278
                        replace q278 := eq_true q278
                        have ea_ := Option.some.inj (hx277_0.symm.trans hx278_0)
                        injection ea_ with ea_ en_ ec_
                        subst ea_
                        subst ec_
                        clear en_
                        have p279 : 0 ≤ (x9_4 : Int) := of_decide_eq_true (by assumption)
                        have q279 : x9_4 < ((rd_L1 l0 x8_3).length : Int) := of_decide_eq_true (by assumption)
                        obtain ⟨ad279, e279, hx279_0⟩ := Kd.at_int HR278_0.out x9_4 p279 q279
                        cases e279
                        replace hx279_0 := (HB.out.cell (World.block_lt_of_cell? w _ hx279_0)).trans hx279_0
                        replace p279 := eq_true p279
                        replace q279 := eq_true q279
                        obtain ⟨Ao30, co30, eo30⟩ := Kd.R_slice HO_5.out
                        subst eo30
                        have p280 : 0 ≤ (x8_3 : Int) := of_decide_eq_true (by assumption)
                        have q280 : x8_3 < (x5_4.length : Int) := of_decide_eq_true (by assumption)
                        obtain ⟨ad280, e280, hx280_0⟩ := Kd.at_bool (Kd.R_reads' HO_5.out).2.2 x8_3 p280 q280
                        (try rw [← Nbq22.out] at hx280_0)
                        (try rw [← Nbq28.out] at hx280_0)
                        cases e280
                        replace p280 := eq_true p280
                        replace q280 := eq_true q280
                        have p281 : 0 ≤ ((rd (rd_L1 l0 x8_3) x9_4) : Int) := of_decide_eq_true (by assumption)
                        have q281 : (rd (rd_L1 l0 x8_3) x9_4) < (x5_4.length : Int) := of_decide_eq_true (by assumption)
                        obtain ⟨ad281, e281, hx281_0⟩ := Kd.at_bool (Kd.R_reads' HO_5.out).2.2 (rd (rd_L1 l0 x8_3) x9_4) p281 q281
                        (try rw [← Nbq22.out] at hx281_0)
                        (try rw [← Nbq28.out] at hx281_0)
                        obtain rfl : ad280 = ad281 := (by injection e281)
                        replace p281 := eq_true p281
                        replace q281 := eq_true q281
                        go_wp2
                        go_roundg k4
                        case measure => have := HJ4.out; have := HK2.out; have := HK3.out; have := HK4.out; omega
                        case rel => exact ⟨(x5_4), (x7_4), (wrap64 (x9_4 + 1)), (by first | rfl | (simp; done) | (simp [*]; done)), (by first | rfl | (simp; done) | (simp [*]; done)), H', ⟨by have := HJ4.out; have := HK2.out; have := HK3.out; have := HK4.out; omega⟩, ⟨by (with_reducible repeat (first | apply Kd.R_alloc | apply Kd.R_drewN | apply Kd.R_drew)); exact HO_5.out⟩, ⟨by repeat (first | (with_reducible first | exact HB.out | apply below_alloc | apply pw_below_drewN | apply below_drew1) | exact HB.out)⟩⟩
                       ·replace c29 := Bool.eq_false_iff.mpr c29
                        subst c29
                        have H1 : (shackleref16_Live.l3 k4 l0 (x5_4.set ((rd (rd_L1 l0 x8_3) x9_4) : Int).toNat true) true x8_3 (wrap64 (x9_4 + 1))) = some r := by rw [if_neg (show ¬ (false = true) by decide)] at H; exact H
                        clear H
                        have H := H1
                        clear H1
                        obtain ⟨y282, hy282⟩ : ∃ y_ : List Bool, y_ = (x5_4.set ((rd (rd_L1 l0 x8_3) x9_4) : Int).toNat true) := ⟨_, rfl⟩
                        replace H : (shackleref16_Live.l3 k4 l0 y282 true x8_3 (wrap64 (x9_4 + 1))) = some r := by first | (rw [hy282]; with_reducible exact H) | (have H2_ := (Option.bind_some _ _).symm.trans H; rw [hy282]; with_reducible exact H2_) | (have H2_ := (Option.bind_some _ _).symm.trans H; with_reducible exact H2_) | with_reducible exact H | (rw [hy282]; exact H) | exact H
                        have Ny282 := Aside0.mk hy282
                        clear hy282
                        have H' := Aside0.mk H
                        clear H
                        have p277 : 0 ≤ (x8_3 : Int) := of_decide_eq_true (by assumption)
                        have q277 : x8_3 < (l0.length : Int) := of_decide_eq_true (by assumption)
                        obtain ⟨ad277, A277_0, c277_0, e277, hx277_0, hl277_0, hi277_0⟩ := at_L1 HR0.out x8_3 p277 q277
                        cases e277
                        replace hx277_0 := (HB.out.cell (World.block_lt_of_cell? w _ hx277_0)).trans hx277_0
                        have HR277_0 := Aside0.mk hi277_0
                        have HC277_0 := Aside0.mk hl277_0
                        clear hi277_0 hl277_0
                        replace p277 := eq_true p277
                        replace q277 := eq_true q277
                        have p278 : 0 ≤ (x8_3 : Int) := of_decide_eq_true (by assumption)
                        have q278 : x8_3 < (l0.length : Int) := of_decide_eq_true (by assumption)
                        obtain ⟨ad278, A278_0, c278_0, e278, hx278_0, hl278_0, hi278_0⟩ := at_L1 HR0.out x8_3 p278 q278
                        obtain rfl : ad277 = ad278 := (by injection e278)
                        replace hx278_0 := (HB.out.cell (World.block_lt_of_cell? w _ hx278_0)).trans hx278_0
                        have HR278_0 := Aside0.mk hi278_0
                        have HC278_0 := Aside0.mk hl278_0
                        clear hi278_0 hl278_0
                        replace p278 := eq_true p278
                        replace q278 := eq_true q278
                        have ea_ := Option.some.inj (hx277_0.symm.trans hx278_0)
                        injection ea_ with ea_ en_ ec_
                        subst ea_
                        subst ec_
                        clear en_
                        have p279 : 0 ≤ (x9_4 : Int) := of_decide_eq_true (by assumption)
                        have q279 : x9_4 < ((rd_L1 l0 x8_3).length : Int) := of_decide_eq_true (by assumption)
                        obtain ⟨ad279, e279, hx279_0⟩ := Kd.at_int HR278_0.out x9_4 p279 q279
                        cases e279
                        replace hx279_0 := (HB.out.cell (World.block_lt_of_cell? w _ hx279_0)).trans hx279_0
                        replace p279 := eq_true p279
                        replace q279 := eq_true q279
                        obtain ⟨Ao32, co32, eo32⟩ := Kd.R_slice HO_5.out
                        subst eo32
                        have p280 : 0 ≤ (x8_3 : Int) := of_decide_eq_true (by assumption)
                        have q280 : x8_3 < (x5_4.length : Int) := of_decide_eq_true (by assumption)
                        obtain ⟨ad280, e280, hx280_0⟩ := Kd.at_bool (Kd.R_reads' HO_5.out).2.2 x8_3 p280 q280
                        (try rw [← Nbq22.out] at hx280_0)
                        (try rw [← Nbq28.out] at hx280_0)
                        cases e280
                        replace p280 := eq_true p280
                        replace q280 := eq_true q280
                        have p281 : 0 ≤ ((rd (rd_L1 l0 x8_3) x9_4) : Int) := of_decide_eq_true (by assumption)
                        have q281 : (rd (rd_L1 l0 x8_3) x9_4) < (x5_4.length : Int) := of_decide_eq_true (by assumption)
                        obtain ⟨ad281, e281, hx281_0⟩ := Kd.at_bool (Kd.R_reads' HO_5.out).2.2 (rd (rd_L1 l0 x8_3) x9_4) p281 q281
                        (try rw [← Nbq22.out] at hx281_0)
                        (try rw [← Nbq28.out] at hx281_0)
                        obtain rfl : ad280 = ad281 := (by injection e281)
                        replace p281 := eq_true p281
                        replace q281 := eq_true q281
                        have p31 : 0 ≤ ((rd (rd_L1 l0 x8_3) x9_4) : Int) := of_decide_eq_true (by assumption)
                        have q31 : ((rd (rd_L1 l0 x8_3) x9_4) : Int) < ((x5_4.length : Int) : Int) := of_decide_eq_true (by assumption)
                        obtain ⟨go31, co31, eo31, gb31, gl31, cl31, HG31⟩ := Kd.R_form HO_5.out (by omega)
                        (first | cases eo31 | (injection eo31 with ea_ en_ ec_; (first | subst ea_ | (injection ea_ with ea_; subst ea_)); subst ec_; clear en_))
                        have GB31 := Aside0.mk gb31
                        have GG31 := Aside0.mk HG31
                        clear gb31 gl31 HG31
                        (first | simp only [add_plain] at hx280_0 | skip)
                        (first | simp only [add_plain] at hx281_0 | skip)
                        obtain ⟨hx31_0, hf31_0⟩ := Kd.R_celln false HO_5.out ((rd (rd_L1 l0 x8_3) x9_4) : Int) p31 q31
                        replace p31 := eq_true p31
                        replace q31 := eq_true q31
                        have HP33 := Kd.R_putg HO_5.out ((rd (rd_L1 l0 x8_3) x9_4) : Int) true
                        go_wp2_with (first | ((with_reducible refine gate_store (t := 4) (p := 80) rfl ?_); refine store_event (t := 4) (p := 80) (v := ?vo_w34) (w1 := (wr.setCell ⟨go31, ((rd (rd_L1 l0 x8_3) x9_4) : Int).toNat, none⟩ (.bool true))) ?hg ?ho ?hn ?hr ?_; (case ho => rfl); (case hg => rfl); (case hn => rfl); (case hr => first | (go_simp; done) | (go_simp; rfl)); intro w34 hw; have hg : wr.grownBy w34 (some go31) := (by rw [hw]; exact HP33.2); have hp_ : Kd.R Kd.bool 4 w34 w.heap.size (fun _ => True) (.slice (some ⟨go31, 0, none⟩) x5_4.length co32) y282 := (by rw [hw, Ny282.out]; exact HP33.1); clear HP33; have n0_ := Aside0.mk (hp_); have n1_ := Aside0.mk ((by rw [hw]; exact below_set (HB.out) GB31.out : Below w.heap.size w w34)); clear HO_5; clear HB; have HO_5 := n0_; have HB := n1_; clear n0_ n1_; clear hg hw hp_))
                        go_roundg k4
                        case measure => have := HJ4.out; have := HK2.out; have := HK3.out; have := HK4.out; omega
                        case rel => exact ⟨(y282), (true), (wrap64 (x9_4 + 1)), (by first | rfl | (simp; done) | (simp [*]; done)), (by first | rfl | (simp; done) | (simp [*]; done)), H', ⟨by have := HJ4.out; have := HK2.out; have := HK3.out; have := HK4.out; omega⟩, ⟨by (with_reducible repeat (first | apply Kd.R_alloc | apply Kd.R_drewN | apply Kd.R_drew)); exact HO_5.out⟩, ⟨by repeat (first | (with_reducible first | exact HB.out | apply below_alloc | apply pw_below_drewN | apply below_drew1) | exact HB.out)⟩⟩
                      ·rw [if_neg c27] at H
                       exact absurd H (by simp)
                     ·rw [if_neg c26] at H
                      exact absurd H (by simp)
                    ·rw [if_neg c25] at H
                     have c25b0 : decide ((rd (rd_L1 l0 x8_3) x9_4) < (l0.length : Int)) = false := decide_eq_false c25
                     clear c25
                     have H' := Aside0.mk H
                     clear H
                     have p277 : 0 ≤ (x8_3 : Int) := of_decide_eq_true (by assumption)
                     have q277 : x8_3 < (l0.length : Int) := of_decide_eq_true (by assumption)
                     obtain ⟨ad277, A277_0, c277_0, e277, hx277_0, hl277_0, hi277_0⟩ := at_L1 HR0.out x8_3 p277 q277
                     cases e277
                     replace hx277_0 := (HB.out.cell (World.block_lt_of_cell? w _ hx277_0)).trans hx277_0
                     have HR277_0 := Aside0.mk hi277_0
                     have HC277_0 := Aside0.mk hl277_0
                     clear hi277_0 hl277_0
                     replace p277 := eq_true p277
                     replace q277 := eq_true q277
                     have p278 : 0 ≤ (x8_3 : Int) := of_decide_eq_true (by assumption)
                     have q278 : x8_3 < (l0.length : Int) := of_decide_eq_true (by assumption)
                     obtain ⟨ad278, A278_0, c278_0, e278, hx278_0, hl278_0, hi278_0⟩ := at_L1 HR0.out x8_3 p278 q278
                     obtain rfl : ad277 = ad278 := (by injection e278)
                     replace hx278_0 := (HB.out.cell (World.block_lt_of_cell? w _ hx278_0)).trans hx278_0
                     have HR278_0 := Aside0.mk hi278_0
                     have HC278_0 := Aside0.mk hl278_0
                     clear hi278_0 hl278_0
                     replace p278 := eq_true p278
                     replace q278 := eq_true q278
                     have ea_ := Option.some.inj (hx277_0.symm.trans hx278_0)
                     injection ea_ with ea_ en_ ec_
                     subst ea_
                     subst ec_
                     clear en_
                     have p279 : 0 ≤ (x9_4 : Int) := of_decide_eq_true (by assumption)
                     have q279 : x9_4 < ((rd_L1 l0 x8_3).length : Int) := of_decide_eq_true (by assumption)
                     obtain ⟨ad279, e279, hx279_0⟩ := Kd.at_int HR278_0.out x9_4 p279 q279
                     cases e279
                     replace hx279_0 := (HB.out.cell (World.block_lt_of_cell? w _ hx279_0)).trans hx279_0
                     replace p279 := eq_true p279
                     replace q279 := eq_true q279
                     obtain ⟨Ao35, co35, eo35⟩ := Kd.R_slice HO_5.out
                     subst eo35
                     have p280 : 0 ≤ (x8_3 : Int) := of_decide_eq_true (by assumption)
                     have q280 : x8_3 < (x5_4.length : Int) := of_decide_eq_true (by assumption)
                     obtain ⟨ad280, e280, hx280_0⟩ := Kd.at_bool (Kd.R_reads' HO_5.out).2.2 x8_3 p280 q280
                     (try rw [← Nbq22.out] at hx280_0)
                     cases e280
                     replace p280 := eq_true p280
                     replace q280 := eq_true q280
                     go_wp2
                     go_roundg k4
                     case measure => have := HJ4.out; have := HK2.out; have := HK3.out; have := HK4.out; omega
                     case rel => exact ⟨(x5_4), (x7_4), (wrap64 (x9_4 + 1)), (by first | rfl | (simp; done) | (simp [*]; done)), (by first | rfl | (simp; done) | (simp [*]; done)), H', ⟨by have := HJ4.out; have := HK2.out; have := HK3.out; have := HK4.out; omega⟩, ⟨by (with_reducible repeat (first | apply Kd.R_alloc | apply Kd.R_drewN | apply Kd.R_drew)); exact HO_5.out⟩, ⟨by repeat (first | (with_reducible first | exact HB.out | apply below_alloc | apply pw_below_drewN | apply below_drew1) | exact HB.out)⟩⟩
                   ·rw [if_neg c24] at H
                    have c24b0 : decide (0 ≤ (rd (rd_L1 l0 x8_3) x9_4)) = false := decide_eq_false c24
                    clear c24
                    have H' := Aside0.mk H
                    clear H
                    have p277 : 0 ≤ (x8_3 : Int) := of_decide_eq_true (by assumption)
                    have q277 : x8_3 < (l0.length : Int) := of_decide_eq_true (by assumption)
                    obtain ⟨ad277, A277_0, c277_0, e277, hx277_0, hl277_0, hi277_0⟩ := at_L1 HR0.out x8_3 p277 q277
                    cases e277
                    replace hx277_0 := (HB.out.cell (World.block_lt_of_cell? w _ hx277_0)).trans hx277_0
                    have HR277_0 := Aside0.mk hi277_0
                    have HC277_0 := Aside0.mk hl277_0
                    clear hi277_0 hl277_0
                    replace p277 := eq_true p277
                    replace q277 := eq_true q277
                    have p278 : 0 ≤ (x8_3 : Int) := of_decide_eq_true (by assumption)
                    have q278 : x8_3 < (l0.length : Int) := of_decide_eq_true (by assumption)
                    obtain ⟨ad278, A278_0, c278_0, e278, hx278_0, hl278_0, hi278_0⟩ := at_L1 HR0.out x8_3 p278 q278
                    obtain rfl : ad277 = ad278 := (by injection e278)
                    replace hx278_0 := (HB.out.cell (World.block_lt_of_cell? w _ hx278_0)).trans hx278_0
                    have HR278_0 := Aside0.mk hi278_0
                    have HC278_0 := Aside0.mk hl278_0
                    clear hi278_0 hl278_0
                    replace p278 := eq_true p278
                    replace q278 := eq_true q278
                    have ea_ := Option.some.inj (hx277_0.symm.trans hx278_0)
                    injection ea_ with ea_ en_ ec_
                    subst ea_
                    subst ec_
                    clear en_
                    have p279 : 0 ≤ (x9_4 : Int) := of_decide_eq_true (by assumption)
                    have q279 : x9_4 < ((rd_L1 l0 x8_3).length : Int) := of_decide_eq_true (by assumption)
                    obtain ⟨ad279, e279, hx279_0⟩ := Kd.at_int HR278_0.out x9_4 p279 q279
                    cases e279
                    replace hx279_0 := (HB.out.cell (World.block_lt_of_cell? w _ hx279_0)).trans hx279_0
                    replace p279 := eq_true p279
                    replace q279 := eq_true q279
                    obtain ⟨Ao36, co36, eo36⟩ := Kd.R_slice HO_5.out
                    subst eo36
                    have p280 : 0 ≤ (x8_3 : Int) := of_decide_eq_true (by assumption)
                    have q280 : x8_3 < (x5_4.length : Int) := of_decide_eq_true (by assumption)
                    obtain ⟨ad280, e280, hx280_0⟩ := Kd.at_bool (Kd.R_reads' HO_5.out).2.2 x8_3 p280 q280
                    (try rw [← Nbq22.out] at hx280_0)
                    cases e280
                    replace p280 := eq_true p280
                    replace q280 := eq_true q280
                    go_wp2
                    go_roundg k4
                    case measure => have := HJ4.out; have := HK2.out; have := HK3.out; have := HK4.out; omega
                    case rel => exact ⟨(x5_4), (x7_4), (wrap64 (x9_4 + 1)), (by first | rfl | (simp; done) | (simp [*]; done)), (by first | rfl | (simp; done) | (simp [*]; done)), H', ⟨by have := HJ4.out; have := HK2.out; have := HK3.out; have := HK4.out; omega⟩, ⟨by (with_reducible repeat (first | apply Kd.R_alloc | apply Kd.R_drewN | apply Kd.R_drew)); exact HO_5.out⟩, ⟨by repeat (first | (with_reducible first | exact HB.out | apply below_alloc | apply pw_below_drewN | apply below_drew1) | exact HB.out)⟩⟩
                  ·replace c23 := Bool.eq_false_iff.mpr c23
                   subst c23
                   have H1 : (shackleref16_Live.l3 k4 l0 x5_4 x7_4 x8_3 (wrap64 (x9_4 + 1))) = some r := by rw [if_neg (show ¬ (false = true) by decide)] at H; exact H
                   clear H
                   have H := H1
                   clear H1
                   have H' := Aside0.mk H
                   clear H
                   have p277 : 0 ≤ (x8_3 : Int) := of_decide_eq_true (by assumption)
                   have q277 : x8_3 < (l0.length : Int) := of_decide_eq_true (by assumption)
                   obtain ⟨ad277, A277_0, c277_0, e277, hx277_0, hl277_0, hi277_0⟩ := at_L1 HR0.out x8_3 p277 q277
                   cases e277
                   replace hx277_0 := (HB.out.cell (World.block_lt_of_cell? w _ hx277_0)).trans hx277_0
                   have HR277_0 := Aside0.mk hi277_0
                   have HC277_0 := Aside0.mk hl277_0
                   clear hi277_0 hl277_0
                   replace p277 := eq_true p277
                   replace q277 := eq_true q277
                   have p278 : 0 ≤ (x8_3 : Int) := of_decide_eq_true (by assumption)
                   have q278 : x8_3 < (l0.length : Int) := of_decide_eq_true (by assumption)
                   obtain ⟨ad278, A278_0, c278_0, e278, hx278_0, hl278_0, hi278_0⟩ := at_L1 HR0.out x8_3 p278 q278
                   obtain rfl : ad277 = ad278 := (by injection e278)
                   replace hx278_0 := (HB.out.cell (World.block_lt_of_cell? w _ hx278_0)).trans hx278_0
                   have HR278_0 := Aside0.mk hi278_0
                   have HC278_0 := Aside0.mk hl278_0
                   clear hi278_0 hl278_0
                   replace p278 := eq_true p278
                   replace q278 := eq_true q278
                   have ea_ := Option.some.inj (hx277_0.symm.trans hx278_0)
                   injection ea_ with ea_ en_ ec_
                   subst ea_
                   subst ec_
                   clear en_
                   have p279 : 0 ≤ (x9_4 : Int) := of_decide_eq_true (by assumption)
                   have q279 : x9_4 < ((rd_L1 l0 x8_3).length : Int) := of_decide_eq_true (by assumption)
                   obtain ⟨ad279, e279, hx279_0⟩ := Kd.at_int HR278_0.out x9_4 p279 q279
                   cases e279
                   replace hx279_0 := (HB.out.cell (World.block_lt_of_cell? w _ hx279_0)).trans hx279_0
                   replace p279 := eq_true p279
                   replace q279 := eq_true q279
                   obtain ⟨Ao37, co37, eo37⟩ := Kd.R_slice HO_5.out
                   subst eo37
                   have p280 : 0 ≤ (x8_3 : Int) := of_decide_eq_true (by assumption)
                   have q280 : x8_3 < (x5_4.length : Int) := of_decide_eq_true (by assumption)
                   obtain ⟨ad280, e280, hx280_0⟩ := Kd.at_bool (Kd.R_reads' HO_5.out).2.2 x8_3 p280 q280
                   (try rw [← Nbq22.out] at hx280_0)
                   cases e280
                   replace p280 := eq_true p280
                   replace q280 := eq_true q280
                   go_wp2
                   go_roundg k4
                   case measure => have := HJ4.out; have := HK2.out; have := HK3.out; have := HK4.out; omega
                   case rel => exact ⟨(x5_4), (x7_4), (wrap64 (x9_4 + 1)), (by first | rfl | (simp; done) | (simp [*]; done)), (by first | rfl | (simp; done) | (simp [*]; done)), H', ⟨by have := HJ4.out; have := HK2.out; have := HK3.out; have := HK4.out; omega⟩, ⟨by (with_reducible repeat (first | apply Kd.R_alloc | apply Kd.R_drewN | apply Kd.R_drew)); exact HO_5.out⟩, ⟨by repeat (first | (with_reducible first | exact HB.out | apply below_alloc | apply pw_below_drewN | apply below_drew1) | exact HB.out)⟩⟩
                 ·rw [if_neg c21] at H
                  exact absurd H (by simp)
                ·rw [if_neg c20] at H
                 exact absurd H (by simp)
               ·rw [if_neg c19] at H
                have c19b0 : decide (x9_4 < ((rd_L1 l0 x8_3).length : Int)) = false := decide_eq_false c19
                clear c19
                have H' := Aside0.mk H
                clear H
                have p277 : 0 ≤ (x8_3 : Int) := of_decide_eq_true (by assumption)
                have q277 : x8_3 < (l0.length : Int) := of_decide_eq_true (by assumption)
                obtain ⟨ad277, A277_0, c277_0, e277, hx277_0, hl277_0, hi277_0⟩ := at_L1 HR0.out x8_3 p277 q277
                cases e277
                replace hx277_0 := (HB.out.cell (World.block_lt_of_cell? w _ hx277_0)).trans hx277_0
                have HR277_0 := Aside0.mk hi277_0
                have HC277_0 := Aside0.mk hl277_0
                clear hi277_0 hl277_0
                replace p277 := eq_true p277
                replace q277 := eq_true q277
                go_wp2
                go_roundg k4
                case measure => have := HJ4.out; have := HK2.out; have := HK3.out; have := HK4.out; omega
                case rel => exact ⟨(x5_4), (x7_4), (wrap64 (x8_3 + 1)), (by first | rfl | (simp; done) | (simp [*]; done)), (by first | rfl | (simp; done) | (simp [*]; done)), H', ⟨by have := HJ4.out; have := HK2.out; have := HK3.out; have := HK4.out; omega⟩, ⟨by (with_reducible repeat (first | apply Kd.R_alloc | apply Kd.R_drewN | apply Kd.R_drew)); exact HO_5.out⟩, ⟨by repeat (first | (with_reducible first | exact HB.out | apply below_alloc | apply pw_below_drewN | apply below_drew1) | exact HB.out)⟩⟩
              ·rw [if_neg c18] at H
               exact absurd H (by simp)
             ·rw [if_neg c17] at H
              exact absurd H (by simp)
          ·rw [if_neg c16] at H
           have c16b0 : decide (x8_3 < (l0.length : Int)) = false := decide_eq_false c16
           clear c16
           have H' := Aside0.mk H
           clear H
           go_wp2
           go_roundg k3
           case measure => have := HJ4.out; have := HK2.out; have := HK3.out; omega
           case rel => exact ⟨(x5_3), (x7_3), (by first | rfl | (simp; done) | (simp [*]; done)), H', ⟨by have := HJ4.out; have := HK2.out; have := HK3.out; omega⟩, ⟨by (with_reducible repeat (first | apply Kd.R_alloc | apply Kd.R_drewN | apply Kd.R_drew)); exact HO_5.out⟩, ⟨by repeat (first | (with_reducible first | exact HB.out | apply below_alloc | apply pw_below_drewN | apply below_drew1) | exact HB.out)⟩⟩
       ·replace c15 := Bool.eq_false_iff.mpr c15
        subst c15
        have H1 : (some x5_2) = some r := by rw [if_neg (show ¬ (false = true) by decide)] at H; exact H
        clear H
        have H := H1
        clear H1
        obtain rfl := Option.some.inj H
        go_wp2
        go_ret
        exact ⟨_, by first | rfl | (simp [errW_none, errW_some] <;> rfl) | (simp [*, errW_none, errW_some] <;> rfl), by (with_reducible repeat (first | apply Kd.R_alloc | apply Kd.R_drewN | apply Kd.R_drew)); exact HO_5.out, by repeat (first | (with_reducible first | exact HB.out | apply below_alloc | apply pw_below_drewN | apply below_drew1) | exact HB.out)⟩
  ·rw [if_neg c4] at H
   exact absurd H (by simp)
 ·rw [if_neg c3] at H
  exact absurd H (by simp)

end Go.Proofs.Ytlohkhadbkahdaa.QGraph
