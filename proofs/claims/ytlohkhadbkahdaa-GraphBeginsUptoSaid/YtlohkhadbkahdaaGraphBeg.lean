/- The reference's Begin, walked: over its walk's contract. Condition: no more objects than fit into memory. -/
import Derived.Test.YtlohkhadbkahdaaGraphWalkC
namespace Go.Proofs.Ytlohkhadbkahdaa.GraphS
open Go Go.RowKit Go.Proofs.YtlohkhadbkahdaaW.PrintWords Go.Proofs.YtlohkhadbkahdaaW.PrintLast Go.Proofs.YtlohkhadbkahdaaW.PrintMore
set_option linter.unusedVariables false
set_option linter.unusedSimpArgs false
/-- The order in which objects are begun, by definition: none, if a depth of one more than there are objects does not do (it always does). -/
def beginO (deps : List (List Int)) (roots : List Int) : Option (List Int) := if deps.length ≤ 2199023255552 then (walkL (walkO deps (deps.length + 1)) roots (List.replicate deps.length false, [])).map Prod.snd else none
theorem PartsW.mk0 {w w2 w3 : World} {b : Nat} {vd vh : Value} {n : Nat}
    (r2 : Kd.R Kd.bool 4 w2 w.heap.size (fun _ => True) vh (List.replicate n false)) (b2 : Below w.heap.size w w2)
    (hb : w3.heap[b]? = some (.cells #[vd, vh, .slice none 0 0] 80 (0, 0))) (e3 : b = w2.heap.size) (b3 : Below w2.heap.size w2 w3) :
    PartsW w b vd vh (.slice none 0 0) (List.replicate n false) [] w3 :=
  ⟨below_step b2 b3, hb, Kd.R_below r2 b3, Kd.R_nil _ _ _ _ _, by have := b2.size; omega⟩
set_option maxHeartbeats 8000000 in
set_option maxRecDepth 100000 in
theorem begin_calls (A0 : Option Addr) (c0 : Nat) (l0 : List (List Int)) (A1 : Option Addr) (c1 : Nat) (l1 : List Int) (r : List Int) (w : World) (hr0 : Kd.C (Kd.slice 3 (Kd.int .i64)) w A0 l0.length l0) (hr1 : Kd.C (Kd.int .i64) w A1 l1.length l1) (h : beginO l0 l1 = some r) :
    Calls Try.prog 28 #[.slice A0 l0.length c0, .slice A1 l1.length c1] w fun e w' => ∃ v0_ : Value, e = .returned (v0_) ∧ Kd.R (Kd.int .i64) 3 w' w.heap.size (fun _ => True) v0_ r ∧ Below w.heap.size w w' := by
  unfold beginO at h
  by_cases hN : l0.length ≤ 2199023255552
  · rw [if_pos hN] at h
    obtain ⟨u, hu, h2⟩ := Option.map_eq_some_iff.1 h
    clear h
    obtain ⟨had3, out3⟩ := u
    have h3 : out3 = r := h2
    clear h2
    subst h3
    have HU := Aside0.mk hu
    have WC := Aside0.mk (fun b vh k => walk_calls w b A0 c0 l0 vh hr0 hN k)
    unfold WalkSays at WC
    have HR1 := Aside0.mk hr1
    have hln := hr1.2.1
    have HNN := Aside0.mk hN
    clear hr0 hr1 hN hu
    go_enter Try.func28, Try.ntmps28
    go_wp2_with (first
      | ((with_reducible refine gate_dst (N := 10) rfl ?_); refine Kd.R_make Kd.bool _ 4 rfl (N := 10) rfl 47 _ _ rfl (l0.length : Int) rfl rfl Try.underlying47 (.bool false) 1 info4 rfl (by decide) (by omega) false (ok := fun _ => True) (okp := fun _ => True) rfl (fun _ hk => hk) trivial (by omega) (by have := HNN.out; omega) (Below.refl _ _) (Nat.le_refl _) ?_; intro v11 w2 ho6 hb hg_ hnew_; clear hg_ hnew_; rw [Int.toNat_natCast] at ho6; obtain ⟨A11, c11, e11⟩ := Kd.R_slice ho6; subst e11; rw [List.length_replicate] at ho6; have HM := Aside0.mk (And.intro ho6 hb); clear ho6 hb)
      | ((with_reducible refine gate_dst (N := 12) rfl ?_); refine box_event ?hg (N := 12) ?hd (cs := #[.slice A0 l0.length c0, .slice A11 l0.length c11, .slice none 0 0]) (t := 80) ?hr ?_; (case hd => rfl); (case hg => rfl); (case hr => first | (go_simp; done) | (go_simp; rfl)); intro b ebh w3 hb3 hw3; have HP := Aside0.mk (PartsW.mk0 HM.out.1 HM.out.2 hb3 ebh hw3); clear hb3 ebh hw3 HM))
    go_loopg [6] l1.length (fun kq v6 w' => ∃ (i : Int) (had1 : List Bool) (out1 : List Int) (vo1 : Value), v6 = .int .i64 i ∧ Aside0 (0 ≤ i ∧ i ≤ l1.length ∧ kq = l1.length - i.toNat) ∧ Aside0 (walkL (walkO l0 (l0.length + 1)) (l1.drop i.toNat) (had1, out1) = some (had3, out3)) ∧ Aside0 (had1.length = l0.length ∧ out1.length ≤ had1.count true) ∧ Aside0 (PartsW w b (.slice A0 l0.length c0) (.slice A11 l0.length c11) vo1 had1 out1 w'))
    case atStart => exact ⟨0, _, _, _, rfl, ⟨by simp⟩, HU, ⟨by simp⟩, HP⟩
    case round =>
      clear HP HU
      obtain ⟨i, had1, out1, vo1, rfl, HI, HU, HC, HP⟩ := hrel
      obtain ⟨cD, cH, cO, fO⟩ := HP.out.cells
      have p1 := HI.out.1
      by_cases c4 : i < (l1.length : Int)
      · have q1 := c4
        have hw : wrap64 (i + 1) = i + 1 := by unfold wrap64; have := HI.out.1; omega
        have HW := Aside0.mk hw
        clear hw
        have c4b0 : decide (i < (l1.length : Int)) = true := decide_eq_true c4
        have HI2 : Aside0 (0 ≤ i + 1 ∧ i + 1 ≤ l1.length ∧ l1.length - (i + 1).toNat = l1.length - i.toNat - 1 ∧ l1.length - i.toNat - 1 < gk) := ⟨by have := HI.out; omega⟩
        have hu := HU.out
        rw [drop_rd p1 q1] at hu
        obtain ⟨u, hu1, hu2⟩ := Option.bind_eq_some_iff.1 hu
        obtain ⟨had4, out4⟩ := u
        obtain ⟨ad, e153, hx⟩ := Kd.at_int (Kd.C_below HR1.out HP.out.hB) i p1 q1
        subst e153
        obtain ⟨y, hy⟩ : ∃ y, y = rd l1 i := ⟨_, rfl⟩
        rw [← hy] at hx hu1
        have HE4 := Aside0.mk (walkO_even _ _ _ _ _ hu1 HC.out.1)
        have HU1 := Aside0.mk hu1
        have HU2 := Aside0.mk hu2
        have HC4 := Aside0.mk (show had4.length = l0.length ∧ out4.length ≤ had4.count true by have h1 := HE4.out; have h2 := HC.out; simp only at h1; exact ⟨h1.1, by omega⟩)
        clear hu hu1 hu2 hy c4 HU HE4
        replace p1 := eq_true p1
        replace q1 := eq_true q1
        go_wp2_with (go_at_call 44; (with_reducible refine (WC.out b (.slice A11 l0.length c11) (l0.length + 1) y had1 had4 out1 out4 vo1 _ HP.out HC.out.1 HC.out.2 HU1.out).mono ?_); rintro e w' ⟨rfl, vo5, hp5⟩; have HP5 := Aside0.mk hp5; clear hp5 HP)
        go_roundg (l1.length - i.toNat - 1)
        case measure => have := HI2.out; omega
        case rel => exact ⟨_, _, _, vo5, rfl, ⟨by rw [HW.out]; have := HI2.out; omega⟩, ⟨by rw [HW.out]; exact HU2.out⟩, HC4, HP5⟩
      · have c4b0 : decide (i < (l1.length : Int)) = false := decide_eq_false c4
        have hi : l1.drop i.toNat = [] := List.drop_eq_nil_of_le (by have := HI.out; omega)
        have hu := HU.out
        rw [hi] at hu
        have hu2 := Option.some.inj hu
        injection hu2 with e1 e2
        subst e1
        subst e2
        obtain ⟨Ao, co, eo⟩ := Kd.R_slice HP.out.ro
        subst eo
        clear c4 hi hu HU
        go_wp2
        go_ret
        exact ⟨_, rfl, HP.out.ro, HP.out.hB⟩
  · rw [if_neg hN] at h
    cases h
end Go.Proofs.Ytlohkhadbkahdaa.GraphS
