import Derived.Test.YthopdoamajjojaaQBindFx0
namespace Go.Proofs.Ythopdoamajjojaa.QBindF
open Go.RowKit Go.Proofs.YthopdoamajjojaaW.PrintWords Go.Proofs.YthopdoamajjojaaW.PrintLast Go.Proofs.YthopdoamajjojaaW.PrintMore
attribute [local go_sem] max2_int min2_int max_two min_two max_three min_three max_four min_four
set_option linter.unusedVariables false
set_option linter.unusedSimpArgs false
attribute [local go_sem] eqErr_ii neErr_ii eqErr_ni neErr_ni
def shacklelaw00_further.f (a0 : Option Int) : Option (Int) := if a0.isNone = true then (some (-1)) else (if (a0.getD 0) = 16 then (some 16) else (if (a0.getD 0) = 17 then (some 17) else (if (a0.getD 0) = 18 then (some 18) else (if (a0.getD 0) = 19 then (some 19) else (if (a0.getD 0) = 20 then (some 20) else (if (a0.getD 0) = 21 then (some 21) else (if (a0.getD 0) = 22 then (some 22) else (if (a0.getD 0) = 23 then (some 23) else (if (a0.getD 0) = 24 then (some 24) else (if (a0.getD 0) = 25 then (some 25) else (if (a0.getD 0) = 26 then (some 26) else (if (a0.getD 0) = 27 then (some 27) else (if (a0.getD 0) = 28 then (some 28) else (if (a0.getD 0) = 29 then (some 29) else (if (a0.getD 0) = 30 then (some 30) else (some (-1)))))))))))))))))
set_option maxHeartbeats 8000000 in
set_option maxRecDepth 100000 in
theorem shacklelaw00_further.calls (a0 : Option Int) (r : Int) (w : World) (h : shacklelaw00_further.f a0 = some r) :
  Calls Try.prog 47 #[errW a0] w fun e w' => e = .returned (.int .i64 r) ∧ Drawn0 w w' := by
 have hu41 := Try.underlying41
 have hu97 := Try.underlying97
 have H : (if a0.isNone = true then (some (-1)) else (if (a0.getD 0) = 16 then (some 16) else (if (a0.getD 0) = 17 then (some 17) else (if (a0.getD 0) = 18 then (some 18) else (if (a0.getD 0) = 19 then (some 19) else (if (a0.getD 0) = 20 then (some 20) else (if (a0.getD 0) = 21 then (some 21) else (if (a0.getD 0) = 22 then (some 22) else (if (a0.getD 0) = 23 then (some 23) else (if (a0.getD 0) = 24 then (some 24) else (if (a0.getD 0) = 25 then (some 25) else (if (a0.getD 0) = 26 then (some 26) else (if (a0.getD 0) = 27 then (some 27) else (if (a0.getD 0) = 28 then (some 28) else (if (a0.getD 0) = 29 then (some 29) else (if (a0.getD 0) = 30 then (some 30) else (some (-1)))))))))))))))))) = some r := h
 clear h
 rcases a0 with _ | q101
 ·have H1 : (some (-1)) = some r := by rw [if_pos (show (none : Option Int).isNone = true by rfl)] at H; exact H
  clear H
  have H := H1
  clear H1
  simp only [errW_none, errW_some]
  obtain rfl := Option.some.inj H
  go_enter Try.func47, Try.ntmps47
  go_wp2
  go_ret
  exact ⟨by first | rfl | (simp; done) | (simp [*]; done), by repeat (first | exact Drawn0.refl _ | apply Drawn0.step)⟩
 ·have H1 : (if q101 = 16 then (some 16) else (if q101 = 17 then (some 17) else (if q101 = 18 then (some 18) else (if q101 = 19 then (some 19) else (if q101 = 20 then (some 20) else (if q101 = 21 then (some 21) else (if q101 = 22 then (some 22) else (if q101 = 23 then (some 23) else (if q101 = 24 then (some 24) else (if q101 = 25 then (some 25) else (if q101 = 26 then (some 26) else (if q101 = 27 then (some 27) else (if q101 = 28 then (some 28) else (if q101 = 29 then (some 29) else (if q101 = 30 then (some 30) else (some (-1))))))))))))))))) = some r := by rw [if_neg (show ¬ (some q101).isNone = true by simp)] at H; exact H
  clear H
  have H := H1
  clear H1
  simp only [errW_none, errW_some]
  by_cases c2 : q101 = 16
  ·rw [if_pos c2] at H
   have c2b0 : (q101 == 16) = true := beq_iff_eq.mpr c2
   have c2b1 : (q101 != 16) = false := bne_eq_false_iff_eq.mpr c2
   clear c2
   obtain rfl := Option.some.inj H
   go_enter Try.func47, Try.ntmps47
   go_wp2
   go_ret
   exact ⟨by first | rfl | (simp; done) | (simp [*]; done), by repeat (first | exact Drawn0.refl _ | apply Drawn0.step)⟩
  ·rw [if_neg c2] at H
   have c2b0 : (q101 == 16) = false := beq_eq_false_iff_ne.mpr c2
   have c2b1 : (q101 != 16) = true := bne_iff_ne.mpr c2
   by_cases c3 : q101 = 17
   ·rw [if_pos c3] at H
    have c3b0 : (q101 == 17) = true := beq_iff_eq.mpr c3
    have c3b1 : (q101 != 17) = false := bne_eq_false_iff_eq.mpr c3
    clear c3
    obtain rfl := Option.some.inj H
    go_enter Try.func47, Try.ntmps47
    go_wp2
    go_ret
    exact ⟨by first | rfl | (simp; done) | (simp [*]; done), by repeat (first | exact Drawn0.refl _ | apply Drawn0.step)⟩
   ·rw [if_neg c3] at H
    have c3b0 : (q101 == 17) = false := beq_eq_false_iff_ne.mpr c3
    have c3b1 : (q101 != 17) = true := bne_iff_ne.mpr c3
    by_cases c4 : q101 = 18
    ·rw [if_pos c4] at H
     have c4b0 : (q101 == 18) = true := beq_iff_eq.mpr c4
     have c4b1 : (q101 != 18) = false := bne_eq_false_iff_eq.mpr c4
     clear c4
     obtain rfl := Option.some.inj H
     go_enter Try.func47, Try.ntmps47
     go_wp2
     go_ret
     exact ⟨by first | rfl | (simp; done) | (simp [*]; done), by repeat (first | exact Drawn0.refl _ | apply Drawn0.step)⟩
    ·rw [if_neg c4] at H
     have c4b0 : (q101 == 18) = false := beq_eq_false_iff_ne.mpr c4
     have c4b1 : (q101 != 18) = true := bne_iff_ne.mpr c4
     by_cases c5 : q101 = 19
     ·rw [if_pos c5] at H
      have c5b0 : (q101 == 19) = true := beq_iff_eq.mpr c5
      have c5b1 : (q101 != 19) = false := bne_eq_false_iff_eq.mpr c5
      clear c5
      obtain rfl := Option.some.inj H
      go_enter Try.func47, Try.ntmps47
      go_wp2
      go_ret
      exact ⟨by first | rfl | (simp; done) | (simp [*]; done), by repeat (first | exact Drawn0.refl _ | apply Drawn0.step)⟩
     ·rw [if_neg c5] at H
      have c5b0 : (q101 == 19) = false := beq_eq_false_iff_ne.mpr c5
      have c5b1 : (q101 != 19) = true := bne_iff_ne.mpr c5
      by_cases c6 : q101 = 20
      ·rw [if_pos c6] at H
       have c6b0 : (q101 == 20) = true := beq_iff_eq.mpr c6
       have c6b1 : (q101 != 20) = false := bne_eq_false_iff_eq.mpr c6
       clear c6
       obtain rfl := Option.some.inj H
       go_enter Try.func47, Try.ntmps47
       go_wp2
       go_ret
       exact ⟨by first | rfl | (simp; done) | (simp [*]; done), by repeat (first | exact Drawn0.refl _ | apply Drawn0.step)⟩
      ·rw [if_neg c6] at H
       have c6b0 : (q101 == 20) = false := beq_eq_false_iff_ne.mpr c6
       have c6b1 : (q101 != 20) = true := bne_iff_ne.mpr c6
       by_cases c7 : q101 = 21
       ·rw [if_pos c7] at H
        have c7b0 : (q101 == 21) = true := beq_iff_eq.mpr c7
        have c7b1 : (q101 != 21) = false := bne_eq_false_iff_eq.mpr c7
        clear c7
        obtain rfl := Option.some.inj H
        go_enter Try.func47, Try.ntmps47
        go_wp2
        go_ret
        exact ⟨by first | rfl | (simp; done) | (simp [*]; done), by repeat (first | exact Drawn0.refl _ | apply Drawn0.step)⟩
       ·rw [if_neg c7] at H
        have c7b0 : (q101 == 21) = false := beq_eq_false_iff_ne.mpr c7
        have c7b1 : (q101 != 21) = true := bne_iff_ne.mpr c7
        by_cases c8 : q101 = 22
        ·rw [if_pos c8] at H
         have c8b0 : (q101 == 22) = true := beq_iff_eq.mpr c8
         have c8b1 : (q101 != 22) = false := bne_eq_false_iff_eq.mpr c8
         clear c8
         obtain rfl := Option.some.inj H
         go_enter Try.func47, Try.ntmps47
         go_wp2
         go_ret
         exact ⟨by first | rfl | (simp; done) | (simp [*]; done), by repeat (first | exact Drawn0.refl _ | apply Drawn0.step)⟩
        ·rw [if_neg c8] at H
         have c8b0 : (q101 == 22) = false := beq_eq_false_iff_ne.mpr c8
         have c8b1 : (q101 != 22) = true := bne_iff_ne.mpr c8
         by_cases c9 : q101 = 23
         ·rw [if_pos c9] at H
          have c9b0 : (q101 == 23) = true := beq_iff_eq.mpr c9
          have c9b1 : (q101 != 23) = false := bne_eq_false_iff_eq.mpr c9
          clear c9
          obtain rfl := Option.some.inj H
          go_enter Try.func47, Try.ntmps47
          go_wp2
          go_ret
          exact ⟨by first | rfl | (simp; done) | (simp [*]; done), by repeat (first | exact Drawn0.refl _ | apply Drawn0.step)⟩
         ·rw [if_neg c9] at H
          have c9b0 : (q101 == 23) = false := beq_eq_false_iff_ne.mpr c9
          have c9b1 : (q101 != 23) = true := bne_iff_ne.mpr c9
          by_cases c10 : q101 = 24
          ·rw [if_pos c10] at H
           have c10b0 : (q101 == 24) = true := beq_iff_eq.mpr c10
           have c10b1 : (q101 != 24) = false := bne_eq_false_iff_eq.mpr c10
           clear c10
           obtain rfl := Option.some.inj H
           go_enter Try.func47, Try.ntmps47
           go_wp2
           go_ret
           exact ⟨by first | rfl | (simp; done) | (simp [*]; done), by repeat (first | exact Drawn0.refl _ | apply Drawn0.step)⟩
          ·rw [if_neg c10] at H
           have c10b0 : (q101 == 24) = false := beq_eq_false_iff_ne.mpr c10
           have c10b1 : (q101 != 24) = true := bne_iff_ne.mpr c10
           by_cases c11 : q101 = 25
           ·rw [if_pos c11] at H
            have c11b0 : (q101 == 25) = true := beq_iff_eq.mpr c11
            have c11b1 : (q101 != 25) = false := bne_eq_false_iff_eq.mpr c11
            clear c11
            obtain rfl := Option.some.inj H
            go_enter Try.func47, Try.ntmps47
            go_wp2
            go_ret
            exact ⟨by first | rfl | (simp; done) | (simp [*]; done), by repeat (first | exact Drawn0.refl _ | apply Drawn0.step)⟩
           ·rw [if_neg c11] at H
            have c11b0 : (q101 == 25) = false := beq_eq_false_iff_ne.mpr c11
            have c11b1 : (q101 != 25) = true := bne_iff_ne.mpr c11
            by_cases c12 : q101 = 26
            ·rw [if_pos c12] at H
             have c12b0 : (q101 == 26) = true := beq_iff_eq.mpr c12
             have c12b1 : (q101 != 26) = false := bne_eq_false_iff_eq.mpr c12
             clear c12
             obtain rfl := Option.some.inj H
             go_enter Try.func47, Try.ntmps47
             go_wp2
             go_ret
             exact ⟨by first | rfl | (simp; done) | (simp [*]; done), by repeat (first | exact Drawn0.refl _ | apply Drawn0.step)⟩
            ·rw [if_neg c12] at H
             have c12b0 : (q101 == 26) = false := beq_eq_false_iff_ne.mpr c12
             have c12b1 : (q101 != 26) = true := bne_iff_ne.mpr c12
             by_cases c13 : q101 = 27
             ·rw [if_pos c13] at H
              have c13b0 : (q101 == 27) = true := beq_iff_eq.mpr c13
              have c13b1 : (q101 != 27) = false := bne_eq_false_iff_eq.mpr c13
              clear c13
              obtain rfl := Option.some.inj H
              go_enter Try.func47, Try.ntmps47
              go_wp2
              go_ret
              exact ⟨by first | rfl | (simp; done) | (simp [*]; done), by repeat (first | exact Drawn0.refl _ | apply Drawn0.step)⟩
             ·rw [if_neg c13] at H
              have c13b0 : (q101 == 27) = false := beq_eq_false_iff_ne.mpr c13
              have c13b1 : (q101 != 27) = true := bne_iff_ne.mpr c13
              by_cases c14 : q101 = 28
              ·rw [if_pos c14] at H
               have c14b0 : (q101 == 28) = true := beq_iff_eq.mpr c14
               have c14b1 : (q101 != 28) = false := bne_eq_false_iff_eq.mpr c14
               clear c14
               obtain rfl := Option.some.inj H
               go_enter Try.func47, Try.ntmps47
               go_wp2
               go_ret
               exact ⟨by first | rfl | (simp; done) | (simp [*]; done), by repeat (first | exact Drawn0.refl _ | apply Drawn0.step)⟩
              ·rw [if_neg c14] at H
               have c14b0 : (q101 == 28) = false := beq_eq_false_iff_ne.mpr c14
               have c14b1 : (q101 != 28) = true := bne_iff_ne.mpr c14
               by_cases c15 : q101 = 29
               ·rw [if_pos c15] at H
                have c15b0 : (q101 == 29) = true := beq_iff_eq.mpr c15
                have c15b1 : (q101 != 29) = false := bne_eq_false_iff_eq.mpr c15
                clear c15
                obtain rfl := Option.some.inj H
                go_enter Try.func47, Try.ntmps47
                go_wp2
                go_ret
                exact ⟨by first | rfl | (simp; done) | (simp [*]; done), by repeat (first | exact Drawn0.refl _ | apply Drawn0.step)⟩
               ·rw [if_neg c15] at H
                have c15b0 : (q101 == 29) = false := beq_eq_false_iff_ne.mpr c15
                have c15b1 : (q101 != 29) = true := bne_iff_ne.mpr c15
                by_cases c16 : q101 = 30
                ·rw [if_pos c16] at H
                 have c16b0 : (q101 == 30) = true := beq_iff_eq.mpr c16
                 have c16b1 : (q101 != 30) = false := bne_eq_false_iff_eq.mpr c16
                 clear c16
                 obtain rfl := Option.some.inj H
                 go_enter Try.func47, Try.ntmps47
                 go_wp2
                 go_ret
                 exact ⟨by first | rfl | (simp; done) | (simp [*]; done), by repeat (first | exact Drawn0.refl _ | apply Drawn0.step)⟩
                ·rw [if_neg c16] at H
                 have c16b0 : (q101 == 30) = false := beq_eq_false_iff_ne.mpr c16
                 have c16b1 : (q101 != 30) = true := bne_iff_ne.mpr c16
                 obtain rfl := Option.some.inj H
                 go_enter Try.func47, Try.ntmps47
                 go_wp2
                 go_ret
                 exact ⟨by first | rfl | (simp; done) | (simp [*]; done), by repeat (first | exact Drawn0.refl _ | apply Drawn0.step)⟩
def shacklelaw00_Code.f (a0 : Option Int) : Option (Int) := if a0.isNone = true then (some 0) else (if (a0.getD 0) = 1 then (some 1) else (if (a0.getD 0) = 2 then (some 2) else (if (a0.getD 0) = 3 then (some 3) else (if (a0.getD 0) = 4 then (some 4) else (if (a0.getD 0) = 5 then (some 5) else (if (a0.getD 0) = 6 then (some 6) else (if (a0.getD 0) = 7 then (some 7) else (if (a0.getD 0) = 8 then (some 8) else (if (a0.getD 0) = 9 then (some 9) else (if (a0.getD 0) = 10 then (some 10) else (if (a0.getD 0) = 11 then (some 11) else (if (a0.getD 0) = 12 then (some 12) else (if (a0.getD 0) = 13 then (some 13) else (if (a0.getD 0) = 14 then (some 14) else (if (a0.getD 0) = 15 then (some 15) else ((shacklelaw00_further.f (some (a0.getD 0))).bind fun t103 => (some t103)))))))))))))))))
set_option maxHeartbeats 8000000 in
set_option maxRecDepth 100000 in
theorem shacklelaw00_Code.calls (a0 : Option Int) (r : Int) (w : World) (h : shacklelaw00_Code.f a0 = some r) :
  Calls Try.prog 21 #[errW a0] w fun e w' => e = .returned (.int .i64 r) ∧ Drawn0 w w' := by
 have hu41 := Try.underlying41
 have hu97 := Try.underlying97
 have H : (if a0.isNone = true then (some 0) else (if (a0.getD 0) = 1 then (some 1) else (if (a0.getD 0) = 2 then (some 2) else (if (a0.getD 0) = 3 then (some 3) else (if (a0.getD 0) = 4 then (some 4) else (if (a0.getD 0) = 5 then (some 5) else (if (a0.getD 0) = 6 then (some 6) else (if (a0.getD 0) = 7 then (some 7) else (if (a0.getD 0) = 8 then (some 8) else (if (a0.getD 0) = 9 then (some 9) else (if (a0.getD 0) = 10 then (some 10) else (if (a0.getD 0) = 11 then (some 11) else (if (a0.getD 0) = 12 then (some 12) else (if (a0.getD 0) = 13 then (some 13) else (if (a0.getD 0) = 14 then (some 14) else (if (a0.getD 0) = 15 then (some 15) else ((shacklelaw00_further.f (some (a0.getD 0))).bind fun t103 => (some t103)))))))))))))))))) = some r := h
 clear h
 rcases a0 with _ | q102
 ·have H1 : (some 0) = some r := by rw [if_pos (show (none : Option Int).isNone = true by rfl)] at H; exact H
  clear H
  have H := H1
  clear H1
  simp only [errW_none, errW_some]
  obtain rfl := Option.some.inj H
  go_enter Try.func21, Try.ntmps21
  go_wp2
  go_ret
  exact ⟨by first | rfl | (simp; done) | (simp [*]; done), by repeat (first | exact Drawn0.refl _ | apply Drawn0.step)⟩
 ·have H1 : (if q102 = 1 then (some 1) else (if q102 = 2 then (some 2) else (if q102 = 3 then (some 3) else (if q102 = 4 then (some 4) else (if q102 = 5 then (some 5) else (if q102 = 6 then (some 6) else (if q102 = 7 then (some 7) else (if q102 = 8 then (some 8) else (if q102 = 9 then (some 9) else (if q102 = 10 then (some 10) else (if q102 = 11 then (some 11) else (if q102 = 12 then (some 12) else (if q102 = 13 then (some 13) else (if q102 = 14 then (some 14) else (if q102 = 15 then (some 15) else ((shacklelaw00_further.f (some q102)).bind fun t103 => (some t103))))))))))))))))) = some r := by rw [if_neg (show ¬ (some q102).isNone = true by simp)] at H; exact H
  clear H
  have H := H1
  clear H1
  simp only [errW_none, errW_some]
  by_cases c2 : q102 = 1
  ·rw [if_pos c2] at H
   have c2b0 : (q102 == 1) = true := beq_iff_eq.mpr c2
   have c2b1 : (q102 != 1) = false := bne_eq_false_iff_eq.mpr c2
   clear c2
   obtain rfl := Option.some.inj H
   go_enter Try.func21, Try.ntmps21
   go_wp2
   go_ret
   exact ⟨by first | rfl | (simp; done) | (simp [*]; done), by repeat (first | exact Drawn0.refl _ | apply Drawn0.step)⟩
  ·rw [if_neg c2] at H
   have c2b0 : (q102 == 1) = false := beq_eq_false_iff_ne.mpr c2
   have c2b1 : (q102 != 1) = true := bne_iff_ne.mpr c2
   by_cases c3 : q102 = 2
   ·rw [if_pos c3] at H
    have c3b0 : (q102 == 2) = true := beq_iff_eq.mpr c3
    have c3b1 : (q102 != 2) = false := bne_eq_false_iff_eq.mpr c3
    clear c3
    obtain rfl := Option.some.inj H
    go_enter Try.func21, Try.ntmps21
    go_wp2
    go_ret
    exact ⟨by first | rfl | (simp; done) | (simp [*]; done), by repeat (first | exact Drawn0.refl _ | apply Drawn0.step)⟩
   ·rw [if_neg c3] at H
    have c3b0 : (q102 == 2) = false := beq_eq_false_iff_ne.mpr c3
    have c3b1 : (q102 != 2) = true := bne_iff_ne.mpr c3
    by_cases c4 : q102 = 3
    ·rw [if_pos c4] at H
     have c4b0 : (q102 == 3) = true := beq_iff_eq.mpr c4
     have c4b1 : (q102 != 3) = false := bne_eq_false_iff_eq.mpr c4
     clear c4
     obtain rfl := Option.some.inj H
     go_enter Try.func21, Try.ntmps21
     go_wp2
     go_ret
     exact ⟨by first | rfl | (simp; done) | (simp [*]; done), by repeat (first | exact Drawn0.refl _ | apply Drawn0.step)⟩
    ·rw [if_neg c4] at H
     have c4b0 : (q102 == 3) = false := beq_eq_false_iff_ne.mpr c4
     have c4b1 : (q102 != 3) = true := bne_iff_ne.mpr c4
     by_cases c5 : q102 = 4
     ·rw [if_pos c5] at H
      have c5b0 : (q102 == 4) = true := beq_iff_eq.mpr c5
      have c5b1 : (q102 != 4) = false := bne_eq_false_iff_eq.mpr c5
      clear c5
      obtain rfl := Option.some.inj H
      go_enter Try.func21, Try.ntmps21
      go_wp2
      go_ret
      exact ⟨by first | rfl | (simp; done) | (simp [*]; done), by repeat (first | exact Drawn0.refl _ | apply Drawn0.step)⟩
     ·rw [if_neg c5] at H
      have c5b0 : (q102 == 4) = false := beq_eq_false_iff_ne.mpr c5
      have c5b1 : (q102 != 4) = true := bne_iff_ne.mpr c5
      by_cases c6 : q102 = 5
      ·rw [if_pos c6] at H
       have c6b0 : (q102 == 5) = true := beq_iff_eq.mpr c6
       have c6b1 : (q102 != 5) = false := bne_eq_false_iff_eq.mpr c6
       clear c6
       obtain rfl := Option.some.inj H
       go_enter Try.func21, Try.ntmps21
       go_wp2
       go_ret
       exact ⟨by first | rfl | (simp; done) | (simp [*]; done), by repeat (first | exact Drawn0.refl _ | apply Drawn0.step)⟩
      ·rw [if_neg c6] at H
       have c6b0 : (q102 == 5) = false := beq_eq_false_iff_ne.mpr c6
       have c6b1 : (q102 != 5) = true := bne_iff_ne.mpr c6
       by_cases c7 : q102 = 6
       ·rw [if_pos c7] at H
        have c7b0 : (q102 == 6) = true := beq_iff_eq.mpr c7
        have c7b1 : (q102 != 6) = false := bne_eq_false_iff_eq.mpr c7
        clear c7
        obtain rfl := Option.some.inj H
        go_enter Try.func21, Try.ntmps21
        go_wp2
        go_ret
        exact ⟨by first | rfl | (simp; done) | (simp [*]; done), by repeat (first | exact Drawn0.refl _ | apply Drawn0.step)⟩
       ·rw [if_neg c7] at H
        have c7b0 : (q102 == 6) = false := beq_eq_false_iff_ne.mpr c7
        have c7b1 : (q102 != 6) = true := bne_iff_ne.mpr c7
        by_cases c8 : q102 = 7
        ·rw [if_pos c8] at H
         have c8b0 : (q102 == 7) = true := beq_iff_eq.mpr c8
         have c8b1 : (q102 != 7) = false := bne_eq_false_iff_eq.mpr c8
         clear c8
         obtain rfl := Option.some.inj H
         go_enter Try.func21, Try.ntmps21
         go_wp2
         go_ret
         exact ⟨by first | rfl | (simp; done) | (simp [*]; done), by repeat (first | exact Drawn0.refl _ | apply Drawn0.step)⟩
        ·rw [if_neg c8] at H
         have c8b0 : (q102 == 7) = false := beq_eq_false_iff_ne.mpr c8
         have c8b1 : (q102 != 7) = true := bne_iff_ne.mpr c8
         by_cases c9 : q102 = 8
         ·rw [if_pos c9] at H
          have c9b0 : (q102 == 8) = true := beq_iff_eq.mpr c9
          have c9b1 : (q102 != 8) = false := bne_eq_false_iff_eq.mpr c9
          clear c9
          obtain rfl := Option.some.inj H
          go_enter Try.func21, Try.ntmps21
          go_wp2
          go_ret
          exact ⟨by first | rfl | (simp; done) | (simp [*]; done), by repeat (first | exact Drawn0.refl _ | apply Drawn0.step)⟩
         ·rw [if_neg c9] at H
          have c9b0 : (q102 == 8) = false := beq_eq_false_iff_ne.mpr c9
          have c9b1 : (q102 != 8) = true := bne_iff_ne.mpr c9
          by_cases c10 : q102 = 9
          ·rw [if_pos c10] at H
           have c10b0 : (q102 == 9) = true := beq_iff_eq.mpr c10
           have c10b1 : (q102 != 9) = false := bne_eq_false_iff_eq.mpr c10
           clear c10
           obtain rfl := Option.some.inj H
           go_enter Try.func21, Try.ntmps21
           go_wp2
           go_ret
           exact ⟨by first | rfl | (simp; done) | (simp [*]; done), by repeat (first | exact Drawn0.refl _ | apply Drawn0.step)⟩
          ·rw [if_neg c10] at H
           have c10b0 : (q102 == 9) = false := beq_eq_false_iff_ne.mpr c10
           have c10b1 : (q102 != 9) = true := bne_iff_ne.mpr c10
           by_cases c11 : q102 = 10
           ·rw [if_pos c11] at H
            have c11b0 : (q102 == 10) = true := beq_iff_eq.mpr c11
            have c11b1 : (q102 != 10) = false := bne_eq_false_iff_eq.mpr c11
            clear c11
            obtain rfl := Option.some.inj H
            go_enter Try.func21, Try.ntmps21
            go_wp2
            go_ret
            exact ⟨by first | rfl | (simp; done) | (simp [*]; done), by repeat (first | exact Drawn0.refl _ | apply Drawn0.step)⟩
           ·rw [if_neg c11] at H
            have c11b0 : (q102 == 10) = false := beq_eq_false_iff_ne.mpr c11
            have c11b1 : (q102 != 10) = true := bne_iff_ne.mpr c11
            by_cases c12 : q102 = 11
            ·rw [if_pos c12] at H
             have c12b0 : (q102 == 11) = true := beq_iff_eq.mpr c12
             have c12b1 : (q102 != 11) = false := bne_eq_false_iff_eq.mpr c12
             clear c12
             obtain rfl := Option.some.inj H
             go_enter Try.func21, Try.ntmps21
             go_wp2
             go_ret
             exact ⟨by first | rfl | (simp; done) | (simp [*]; done), by repeat (first | exact Drawn0.refl _ | apply Drawn0.step)⟩
            ·rw [if_neg c12] at H
             have c12b0 : (q102 == 11) = false := beq_eq_false_iff_ne.mpr c12
             have c12b1 : (q102 != 11) = true := bne_iff_ne.mpr c12
             by_cases c13 : q102 = 12
             ·rw [if_pos c13] at H
              have c13b0 : (q102 == 12) = true := beq_iff_eq.mpr c13
              have c13b1 : (q102 != 12) = false := bne_eq_false_iff_eq.mpr c13
              clear c13
              obtain rfl := Option.some.inj H
              go_enter Try.func21, Try.ntmps21
              go_wp2
              go_ret
              exact ⟨by first | rfl | (simp; done) | (simp [*]; done), by repeat (first | exact Drawn0.refl _ | apply Drawn0.step)⟩
             ·rw [if_neg c13] at H
              have c13b0 : (q102 == 12) = false := beq_eq_false_iff_ne.mpr c13
              have c13b1 : (q102 != 12) = true := bne_iff_ne.mpr c13
              by_cases c14 : q102 = 13
              ·rw [if_pos c14] at H
               have c14b0 : (q102 == 13) = true := beq_iff_eq.mpr c14
               have c14b1 : (q102 != 13) = false := bne_eq_false_iff_eq.mpr c14
               clear c14
               obtain rfl := Option.some.inj H
               go_enter Try.func21, Try.ntmps21
               go_wp2
               go_ret
               exact ⟨by first | rfl | (simp; done) | (simp [*]; done), by repeat (first | exact Drawn0.refl _ | apply Drawn0.step)⟩
              ·rw [if_neg c14] at H
               have c14b0 : (q102 == 13) = false := beq_eq_false_iff_ne.mpr c14
               have c14b1 : (q102 != 13) = true := bne_iff_ne.mpr c14
               by_cases c15 : q102 = 14
               ·rw [if_pos c15] at H
                have c15b0 : (q102 == 14) = true := beq_iff_eq.mpr c15
                have c15b1 : (q102 != 14) = false := bne_eq_false_iff_eq.mpr c15
                clear c15
                obtain rfl := Option.some.inj H
                go_enter Try.func21, Try.ntmps21
                go_wp2
                go_ret
                exact ⟨by first | rfl | (simp; done) | (simp [*]; done), by repeat (first | exact Drawn0.refl _ | apply Drawn0.step)⟩
               ·rw [if_neg c15] at H
                have c15b0 : (q102 == 14) = false := beq_eq_false_iff_ne.mpr c15
                have c15b1 : (q102 != 14) = true := bne_iff_ne.mpr c15
                by_cases c16 : q102 = 15
                ·rw [if_pos c16] at H
                 have c16b0 : (q102 == 15) = true := beq_iff_eq.mpr c16
                 have c16b1 : (q102 != 15) = false := bne_eq_false_iff_eq.mpr c16
                 clear c16
                 obtain rfl := Option.some.inj H
                 go_enter Try.func21, Try.ntmps21
                 go_wp2
                 go_ret
                 exact ⟨by first | rfl | (simp; done) | (simp [*]; done), by repeat (first | exact Drawn0.refl _ | apply Drawn0.step)⟩
                ·rw [if_neg c16] at H
                 have c16b0 : (q102 == 15) = false := beq_eq_false_iff_ne.mpr c16
                 have c16b1 : (q102 != 15) = true := bne_iff_ne.mpr c16
                 replace H := Option.bind_eq_some_iff.mp H
                 obtain ⟨t103, A170, H⟩ := H
                 replace H : (some t103) = some r := H
                 have A17 := Aside0.mk A170
                 clear A170
                 obtain rfl := Option.some.inj H
                 have CA17 := fun W => shacklelaw00_further.calls (some q102) t103 W A17.out
                 try simp only [errW_none, errW_some] at CA17
                 go_enter Try.func21, Try.ntmps21
                 go_wp2_with (first | (go_at_call 47; (with_reducible refine (CA17 _).mono ?_); rintro e w' ⟨rfl, ⟨nd, rfl⟩⟩))
                 go_ret
                 exact ⟨by first | rfl | (simp; done) | (simp [*]; done), by repeat (first | exact Drawn0.refl _ | apply Drawn0.step)⟩
end Go.Proofs.Ythopdoamajjojaa.QBindF
