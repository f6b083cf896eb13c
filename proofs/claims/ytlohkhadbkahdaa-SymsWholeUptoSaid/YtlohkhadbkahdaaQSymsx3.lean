-- Laid by wip/hook.py (this session's own program) out of the translation; with contracts that were written by hand.
import Derived.Test.YtlohkhadbkahdaaQSymsx0
import Derived.Test.YtlohkhadbkahdaaQSymsx2
namespace Go.Proofs.Ytlohkhadbkahdaa.QSyms
open Go.RowKit Go.Proofs.YtlohkhadbkahdaaW.PrintWords Go.Proofs.YtlohkhadbkahdaaW.PrintLast Go.Proofs.YtlohkhadbkahdaaW.PrintMore
attribute [local go_sem] max2_int min2_int max_two min_two max_three min_three max_four min_four   -- for this text's walks alone
set_option linter.unusedVariables false
set_option linter.unusedSimpArgs false

attribute [local go_sem] eqErr_ii neErr_ii eqErr_ni neErr_ni
/-! ### shacklelaw00_Code: function 16 -/
def shacklelaw00_Code.f (a0 : Option Int) : Option (Int) := if a0.isNone = true then (some 0) else (if (a0.getD 0) = 1 then (some 1) else (if (a0.getD 0) = 2 then (some 2) else (if (a0.getD 0) = 3 then (some 3) else (if (a0.getD 0) = 4 then (some 4) else (if (a0.getD 0) = 5 then (some 5) else (if (a0.getD 0) = 6 then (some 6) else (if (a0.getD 0) = 7 then (some 7) else (if (a0.getD 0) = 8 then (some 8) else (if (a0.getD 0) = 9 then (some 9) else (if (a0.getD 0) = 10 then (some 10) else (if (a0.getD 0) = 11 then (some 11) else (if (a0.getD 0) = 12 then (some 12) else (if (a0.getD 0) = 13 then (some 13) else (if (a0.getD 0) = 14 then (some 14) else (if (a0.getD 0) = 15 then (some 15) else ((shacklelaw00_further.f (some (a0.getD 0))).bind fun t108 => (some t108)))))))))))))))))
set_option maxHeartbeats 8000000 in
set_option maxRecDepth 100000 in
theorem shacklelaw00_Code.calls (a0 : Option Int) (r : Int) (w : World) (h : shacklelaw00_Code.f a0 = some r) :
    Calls Try.prog 16 #[errW a0] w fun e w' => e = .returned (.int .i64 r) ∧ Drawn0 w w' := by
  have hu26 := Try.underlying26
  have hu35 := Try.underlying35
  have H : (if a0.isNone = true then (some 0) else (if (a0.getD 0) = 1 then (some 1) else (if (a0.getD 0) = 2 then (some 2) else (if (a0.getD 0) = 3 then (some 3) else (if (a0.getD 0) = 4 then (some 4) else (if (a0.getD 0) = 5 then (some 5) else (if (a0.getD 0) = 6 then (some 6) else (if (a0.getD 0) = 7 then (some 7) else (if (a0.getD 0) = 8 then (some 8) else (if (a0.getD 0) = 9 then (some 9) else (if (a0.getD 0) = 10 then (some 10) else (if (a0.getD 0) = 11 then (some 11) else (if (a0.getD 0) = 12 then (some 12) else (if (a0.getD 0) = 13 then (some 13) else (if (a0.getD 0) = 14 then (some 14) else (if (a0.getD 0) = 15 then (some 15) else ((shacklelaw00_further.f (some (a0.getD 0))).bind fun t108 => (some t108)))))))))))))))))) = some r := h
  clear h
  rcases a0 with _ | q107
  · have H1 : (some 0) = some r := by rw [if_pos (show (none : Option Int).isNone = true by rfl)] at H; exact H
    clear H
    have H := H1
    clear H1
    simp only [errW_none, errW_some]
    obtain rfl := Option.some.inj H
    go_enter Try.func16, Try.ntmps16
    go_wp2
    go_ret
    exact ⟨by first | rfl | (simp; done) | (simp [*]; done), by repeat (first | exact Drawn0.refl _ | apply Drawn0.step)⟩
  · have H1 : (if q107 = 1 then (some 1) else (if q107 = 2 then (some 2) else (if q107 = 3 then (some 3) else (if q107 = 4 then (some 4) else (if q107 = 5 then (some 5) else (if q107 = 6 then (some 6) else (if q107 = 7 then (some 7) else (if q107 = 8 then (some 8) else (if q107 = 9 then (some 9) else (if q107 = 10 then (some 10) else (if q107 = 11 then (some 11) else (if q107 = 12 then (some 12) else (if q107 = 13 then (some 13) else (if q107 = 14 then (some 14) else (if q107 = 15 then (some 15) else ((shacklelaw00_further.f (some q107)).bind fun t108 => (some t108))))))))))))))))) = some r := by rw [if_neg (show ¬ (some q107).isNone = true by simp)] at H; exact H
    clear H
    have H := H1
    clear H1
    simp only [errW_none, errW_some]
    by_cases c2 : q107 = 1
    · rw [if_pos c2] at H
      have c2b0 : (q107 == 1) = true := beq_iff_eq.mpr c2
      have c2b1 : (q107 != 1) = false := bne_eq_false_iff_eq.mpr c2
      clear c2
      obtain rfl := Option.some.inj H
      go_enter Try.func16, Try.ntmps16
      go_wp2
      go_ret
      exact ⟨by first | rfl | (simp; done) | (simp [*]; done), by repeat (first | exact Drawn0.refl _ | apply Drawn0.step)⟩
    · rw [if_neg c2] at H
      have c2b0 : (q107 == 1) = false := beq_eq_false_iff_ne.mpr c2
      have c2b1 : (q107 != 1) = true := bne_iff_ne.mpr c2
      by_cases c3 : q107 = 2
      · rw [if_pos c3] at H
        have c3b0 : (q107 == 2) = true := beq_iff_eq.mpr c3
        have c3b1 : (q107 != 2) = false := bne_eq_false_iff_eq.mpr c3
        clear c3
        obtain rfl := Option.some.inj H
        go_enter Try.func16, Try.ntmps16
        go_wp2
        go_ret
        exact ⟨by first | rfl | (simp; done) | (simp [*]; done), by repeat (first | exact Drawn0.refl _ | apply Drawn0.step)⟩
      · rw [if_neg c3] at H
        have c3b0 : (q107 == 2) = false := beq_eq_false_iff_ne.mpr c3
        have c3b1 : (q107 != 2) = true := bne_iff_ne.mpr c3
        by_cases c4 : q107 = 3
        · rw [if_pos c4] at H
          have c4b0 : (q107 == 3) = true := beq_iff_eq.mpr c4
          have c4b1 : (q107 != 3) = false := bne_eq_false_iff_eq.mpr c4
          clear c4
          obtain rfl := Option.some.inj H
          go_enter Try.func16, Try.ntmps16
          go_wp2
          go_ret
          exact ⟨by first | rfl | (simp; done) | (simp [*]; done), by repeat (first | exact Drawn0.refl _ | apply Drawn0.step)⟩
        · rw [if_neg c4] at H
          have c4b0 : (q107 == 3) = false := beq_eq_false_iff_ne.mpr c4
          have c4b1 : (q107 != 3) = true := bne_iff_ne.mpr c4
          by_cases c5 : q107 = 4
          · rw [if_pos c5] at H
            have c5b0 : (q107 == 4) = true := beq_iff_eq.mpr c5
            have c5b1 : (q107 != 4) = false := bne_eq_false_iff_eq.mpr c5
            clear c5
            obtain rfl := Option.some.inj H
            go_enter Try.func16, Try.ntmps16
            go_wp2
            go_ret
            exact ⟨by first | rfl | (simp; done) | (simp [*]; done), by repeat (first | exact Drawn0.refl _ | apply Drawn0.step)⟩
          · rw [if_neg c5] at H
            have c5b0 : (q107 == 4) = false := beq_eq_false_iff_ne.mpr c5
            have c5b1 : (q107 != 4) = true := bne_iff_ne.mpr c5
            by_cases c6 : q107 = 5
            · rw [if_pos c6] at H
              have c6b0 : (q107 == 5) = true := beq_iff_eq.mpr c6
              have c6b1 : (q107 != 5) = false := bne_eq_false_iff_eq.mpr c6
              clear c6
              obtain rfl := Option.some.inj H
              go_enter Try.func16, Try.ntmps16
              go_wp2
              go_ret
              exact ⟨by first | rfl | (simp; done) | (simp [*]; done), by repeat (first | exact Drawn0.refl _ | apply Drawn0.step)⟩
            · rw [if_neg c6] at H
              have c6b0 : (q107 == 5) = false := beq_eq_false_iff_ne.mpr c6
              have c6b1 : (q107 != 5) = true := bne_iff_ne.mpr c6
              by_cases c7 : q107 = 6
              · rw [if_pos c7] at H
                have c7b0 : (q107 == 6) = true := beq_iff_eq.mpr c7
                have c7b1 : (q107 != 6) = false := bne_eq_false_iff_eq.mpr c7
                clear c7
                obtain rfl := Option.some.inj H
                go_enter Try.func16, Try.ntmps16
                go_wp2
                go_ret
                exact ⟨by first | rfl | (simp; done) | (simp [*]; done), by repeat (first | exact Drawn0.refl _ | apply Drawn0.step)⟩
              · rw [if_neg c7] at H
                have c7b0 : (q107 == 6) = false := beq_eq_false_iff_ne.mpr c7
                have c7b1 : (q107 != 6) = true := bne_iff_ne.mpr c7
                by_cases c8 : q107 = 7
                · rw [if_pos c8] at H
                  have c8b0 : (q107 == 7) = true := beq_iff_eq.mpr c8
                  have c8b1 : (q107 != 7) = false := bne_eq_false_iff_eq.mpr c8
                  clear c8
                  obtain rfl := Option.some.inj H
                  go_enter Try.func16, Try.ntmps16
                  go_wp2
                  go_ret
                  exact ⟨by first | rfl | (simp; done) | (simp [*]; done), by repeat (first | exact Drawn0.refl _ | apply Drawn0.step)⟩
                · rw [if_neg c8] at H
                  have c8b0 : (q107 == 7) = false := beq_eq_false_iff_ne.mpr c8
                  have c8b1 : (q107 != 7) = true := bne_iff_ne.mpr c8
                  by_cases c9 : q107 = 8
                  · rw [if_pos c9] at H
                    have c9b0 : (q107 == 8) = true := beq_iff_eq.mpr c9
                    have c9b1 : (q107 != 8) = false := bne_eq_false_iff_eq.mpr c9
                    clear c9
                    obtain rfl := Option.some.inj H
                    go_enter Try.func16, Try.ntmps16
                    go_wp2
                    go_ret
                    exact ⟨by first | rfl | (simp; done) | (simp [*]; done), by repeat (first | exact Drawn0.refl _ | apply Drawn0.step)⟩
                  · rw [if_neg c9] at H
                    have c9b0 : (q107 == 8) = false := beq_eq_false_iff_ne.mpr c9
                    have c9b1 : (q107 != 8) = true := bne_iff_ne.mpr c9
                    by_cases c10 : q107 = 9
                    · rw [if_pos c10] at H
                      have c10b0 : (q107 == 9) = true := beq_iff_eq.mpr c10
                      have c10b1 : (q107 != 9) = false := bne_eq_false_iff_eq.mpr c10
                      clear c10
                      obtain rfl := Option.some.inj H
                      go_enter Try.func16, Try.ntmps16
                      go_wp2
                      go_ret
                      exact ⟨by first | rfl | (simp; done) | (simp [*]; done), by repeat (first | exact Drawn0.refl _ | apply Drawn0.step)⟩
                    · rw [if_neg c10] at H
                      have c10b0 : (q107 == 9) = false := beq_eq_false_iff_ne.mpr c10
                      have c10b1 : (q107 != 9) = true := bne_iff_ne.mpr c10
                      by_cases c11 : q107 = 10
                      · rw [if_pos c11] at H
                        have c11b0 : (q107 == 10) = true := beq_iff_eq.mpr c11
                        have c11b1 : (q107 != 10) = false := bne_eq_false_iff_eq.mpr c11
                        clear c11
                        obtain rfl := Option.some.inj H
                        go_enter Try.func16, Try.ntmps16
                        go_wp2
                        go_ret
                        exact ⟨by first | rfl | (simp; done) | (simp [*]; done), by repeat (first | exact Drawn0.refl _ | apply Drawn0.step)⟩
                      · rw [if_neg c11] at H
                        have c11b0 : (q107 == 10) = false := beq_eq_false_iff_ne.mpr c11
                        have c11b1 : (q107 != 10) = true := bne_iff_ne.mpr c11
                        by_cases c12 : q107 = 11
                        · rw [if_pos c12] at H
                          have c12b0 : (q107 == 11) = true := beq_iff_eq.mpr c12
                          have c12b1 : (q107 != 11) = false := bne_eq_false_iff_eq.mpr c12
                          clear c12
                          obtain rfl := Option.some.inj H
                          go_enter Try.func16, Try.ntmps16
                          go_wp2
                          go_ret
                          exact ⟨by first | rfl | (simp; done) | (simp [*]; done), by repeat (first | exact Drawn0.refl _ | apply Drawn0.step)⟩
                        · rw [if_neg c12] at H
                          have c12b0 : (q107 == 11) = false := beq_eq_false_iff_ne.mpr c12
                          have c12b1 : (q107 != 11) = true := bne_iff_ne.mpr c12
                          by_cases c13 : q107 = 12
                          · rw [if_pos c13] at H
                            have c13b0 : (q107 == 12) = true := beq_iff_eq.mpr c13
                            have c13b1 : (q107 != 12) = false := bne_eq_false_iff_eq.mpr c13
                            clear c13
                            obtain rfl := Option.some.inj H
                            go_enter Try.func16, Try.ntmps16
                            go_wp2
                            go_ret
                            exact ⟨by first | rfl | (simp; done) | (simp [*]; done), by repeat (first | exact Drawn0.refl _ | apply Drawn0.step)⟩
                          · rw [if_neg c13] at H
                            have c13b0 : (q107 == 12) = false := beq_eq_false_iff_ne.mpr c13
                            have c13b1 : (q107 != 12) = true := bne_iff_ne.mpr c13
                            by_cases c14 : q107 = 13
                            · rw [if_pos c14] at H
                              have c14b0 : (q107 == 13) = true := beq_iff_eq.mpr c14
                              have c14b1 : (q107 != 13) = false := bne_eq_false_iff_eq.mpr c14
                              clear c14
                              obtain rfl := Option.some.inj H
                              go_enter Try.func16, Try.ntmps16
                              go_wp2
                              go_ret
                              exact ⟨by first | rfl | (simp; done) | (simp [*]; done), by repeat (first | exact Drawn0.refl _ | apply Drawn0.step)⟩
                            · rw [if_neg c14] at H
                              have c14b0 : (q107 == 13) = false := beq_eq_false_iff_ne.mpr c14
                              have c14b1 : (q107 != 13) = true := bne_iff_ne.mpr c14
                              by_cases c15 : q107 = 14
                              · rw [if_pos c15] at H
                                have c15b0 : (q107 == 14) = true := beq_iff_eq.mpr c15
                                have c15b1 : (q107 != 14) = false := bne_eq_false_iff_eq.mpr c15
                                clear c15
                                obtain rfl := Option.some.inj H
                                go_enter Try.func16, Try.ntmps16
                                go_wp2
                                go_ret
                                exact ⟨by first | rfl | (simp; done) | (simp [*]; done), by repeat (first | exact Drawn0.refl _ | apply Drawn0.step)⟩
                              · rw [if_neg c15] at H
                                have c15b0 : (q107 == 14) = false := beq_eq_false_iff_ne.mpr c15
                                have c15b1 : (q107 != 14) = true := bne_iff_ne.mpr c15
                                by_cases c16 : q107 = 15
                                · rw [if_pos c16] at H
                                  have c16b0 : (q107 == 15) = true := beq_iff_eq.mpr c16
                                  have c16b1 : (q107 != 15) = false := bne_eq_false_iff_eq.mpr c16
                                  clear c16
                                  obtain rfl := Option.some.inj H
                                  go_enter Try.func16, Try.ntmps16
                                  go_wp2
                                  go_ret
                                  exact ⟨by first | rfl | (simp; done) | (simp [*]; done), by repeat (first | exact Drawn0.refl _ | apply Drawn0.step)⟩
                                · rw [if_neg c16] at H
                                  have c16b0 : (q107 == 15) = false := beq_eq_false_iff_ne.mpr c16
                                  have c16b1 : (q107 != 15) = true := bne_iff_ne.mpr c16
                                  replace H := Option.bind_eq_some_iff.mp H
                                  obtain ⟨t108, A170, H⟩ := H
                                  replace H : (some t108) = some r := H
                                  have A17 := Aside0.mk A170
                                  clear A170
                                  obtain rfl := Option.some.inj H
                                  have CA17 := fun W => shacklelaw00_further.calls (some q107) t108 W A17.out
                                  try simp only [errW_none, errW_some] at CA17
                                  go_enter Try.func16, Try.ntmps16
                                  go_wp2_with (first | (go_at_call 40; (with_reducible refine (CA17 _).mono ?_); rintro e w' ⟨rfl, ⟨nd, rfl⟩⟩))
                                  go_ret
                                  exact ⟨by first | rfl | (simp; done) | (simp [*]; done), by repeat (first | exact Drawn0.refl _ | apply Drawn0.step)⟩

/-! ### shacklelaw06_SymsTexts: function 3 -/
def shacklelaw06_SymsTexts.f (k : Nat) (l0 : List Int) (a1 : Int) : Option (Bool) := (shacklelaw06_up.f).bind fun t109 => ((syms_Text.f l0 a1).bind fun bt110 => ((shackleref06_Text.f k l0 a1).bind fun bt112 => (if t109 = true then (if bt110.1.toList = bt112.1.toList then ((shacklelaw00_Code.f bt110.2).bind fun t114 => (some (t114 == bt112.2))) else (some false)) else (some false))))
theorem shacklelaw06_SymsTexts.mono : ∀ a0 a1 k, LeO (shacklelaw06_SymsTexts.f k a0 a1) (shacklelaw06_SymsTexts.f (k + 1) a0 a1) := by
  intro a0 a1 k
  unfold shacklelaw06_SymsTexts.f
  repeat' first
      | (with_reducible exact shackleref06_Text.mono _ _ _)
      | (with_reducible exact LeO.refl _)
      | (with_reducible exact LeO.none _)
      | (with_reducible refine LeO.ite ?_ ?_)
      | (with_reducible refine LeO.bind ?_ (fun _ => ?_))
      | exact shackleref06_Text.mono _ _ _
      | exact LeO.none _
      | refine LeO.ite ?_ ?_
      | refine LeO.bind ?_ (fun _ => ?_)
set_option maxHeartbeats 8000000 in
set_option maxRecDepth 100000 in
theorem shacklelaw06_SymsTexts.calls (k : Nat) (A0 : Option Addr) (c0 : Nat) (l0 : List Int) (a1 : Int) (r : Bool) (w : World) (hr0 : Kd.C (Kd.int .u8) w A0 l0.length l0) (hc0 : l0.length ≤ c0) (h : shacklelaw06_SymsTexts.f k l0 a1 = some r) :
    Calls Try.prog 3 #[.slice A0 l0.length c0, .int .u64 a1] w fun e w' => e = .returned (.bool r) ∧ Below w.heap.size w w' := by
  have HR0 := Aside0.mk hr0
  have HC0 := Aside0.mk hc0
  clear hr0 hc0
  have HB := Aside0.mk (Below.refl w.heap.size w)
  have H : ((shacklelaw06_up.f).bind fun t109 => ((syms_Text.f l0 a1).bind fun bt110 => ((shackleref06_Text.f k l0 a1).bind fun bt112 => (if t109 = true then (if bt110.1.toList = bt112.1.toList then ((shacklelaw00_Code.f bt110.2).bind fun t114 => (some (t114 == bt112.2))) else (some false)) else (some false))))) = some r := h
  clear h
  replace H := Option.bind_eq_some_iff.mp H
  obtain ⟨t109, A30, H⟩ := H
  replace H : ((syms_Text.f l0 a1).bind fun bt110 => ((shackleref06_Text.f k l0 a1).bind fun bt112 => (if t109 = true then (if bt110.1.toList = bt112.1.toList then ((shacklelaw00_Code.f bt110.2).bind fun t114 => (some (t114 == bt112.2))) else (some false)) else (some false)))) = some r := H
  have A3 := Aside0.mk A30
  clear A30
  replace H := Option.bind_eq_some_iff.mp H
  obtain ⟨⟨t110, t111⟩, A40, H⟩ := H
  replace H : ((shackleref06_Text.f k l0 a1).bind fun bt112 => (if t109 = true then (if t110.toList = bt112.1.toList then ((shacklelaw00_Code.f t111).bind fun t114 => (some (t114 == bt112.2))) else (some false)) else (some false))) = some r := H
  have A4 := Aside0.mk A40
  clear A40
  replace H := Option.bind_eq_some_iff.mp H
  obtain ⟨⟨t112, t113⟩, A50, H⟩ := H
  replace H : (if t109 = true then (if t110.toList = t112.toList then ((shacklelaw00_Code.f t111).bind fun t114 => (some (t114 == t113))) else (some false)) else (some false)) = some r := H
  have A5 := Aside0.mk A50
  clear A50
  by_cases c6 : t109 = true
  · subst c6
    have H1 : (if t110.toList = t112.toList then ((shacklelaw00_Code.f t111).bind fun t114 => (some (t114 == t113))) else (some false)) = some r := by rw [if_pos rfl] at H; exact H
    clear H
    have H := H1
    clear H1
    by_cases c7 : t110.toList = t112.toList
    · rw [if_pos c7] at H
      have c7b0 : (t110.toList == t112.toList) = true := beq_iff_eq.mpr c7
      have c7b1 : (t110.toList != t112.toList) = false := bne_eq_false_iff_eq.mpr c7
      clear c7
      replace H := Option.bind_eq_some_iff.mp H
      obtain ⟨t114, A80, H⟩ := H
      replace H : (some (t114 == t113)) = some r := H
      have A8 := Aside0.mk A80
      clear A80
      obtain rfl := Option.some.inj H
      go_enter Try.func3, Try.ntmps3
      go_wp2_with (first | ((with_reducible refine gate_callee (f := 13) rfl ?_); refine goesL_ (some 10) rfl rfl Try.func13 (by kernel_rfl) rfl #[] rfl (by (try simp only [List.map_toArray, List.map_cons, List.map_nil]); first | done | rfl | (simp only [List.length_drop, List.length_take]; rfl)) ?_; (with_reducible refine (shacklelaw06_up.calls  true _ A3.out).mono ?_); rintro e w9 ⟨rfl, hb⟩; refine ⟨_, rfl, ?_⟩; have n0_ := Aside0.mk (below_step (by repeat (first | (with_reducible first | exact HB.out | apply below_alloc | apply pw_below_drewN | apply below_drew1) | exact HB.out)) hb); clear HB; have HB := n0_; clear n0_; (try clear hb); (try clear hb2); (try clear hk); (try clear hi)) | ((with_reducible refine gate_callee (f := 14) rfl ?_); refine goesL_ (some 14) rfl rfl Try.func14 (by kernel_rfl) rfl #[.slice A0 l0.length c0, .int .u64 a1] rfl (by (try simp only [List.map_toArray, List.map_cons, List.map_nil]); first | done | rfl | (simp only [List.length_drop, List.length_take]; rfl)) ?_; (with_reducible refine (syms_Text.calls _ _ l0 a1 t110 t111 _ ?side1 ?side2 A4.out).mono ?_); (case side1 => repeat (first | exact (Kd.C_below HR0.out HB.out) | (with_reducible refine Kd.C_alloc ?_ _) | (with_reducible refine Kd.C_drewN ?_ _) | (with_reducible refine Kd.C_drew ?_))); (case side2 => exact HC0.out); rintro e w' ⟨rfl, ⟨nd, rfl⟩⟩; refine ⟨_, rfl, ?_⟩; (try simp only [errW_none, errW_some])) | ((with_reducible refine gate_callee (f := 15) rfl ?_); refine goesL_ (some 20) rfl rfl Try.func15 (by kernel_rfl) rfl #[.slice A0 l0.length c0, .int .u64 a1] rfl (by (try simp only [List.map_toArray, List.map_cons, List.map_nil]); first | done | rfl | (simp only [List.length_drop, List.length_take]; rfl)) ?_; (with_reducible refine (shackleref06_Text.calls k _ _ l0 a1 t112 t113 _ ?side1 ?side2 A5.out).mono ?_); (case side1 => repeat (first | exact (Kd.C_below HR0.out (by repeat (first | (with_reducible first | exact HB.out | apply below_alloc | apply pw_below_drewN | apply below_drew1) | exact HB.out))) | (with_reducible refine Kd.C_alloc ?_ _) | (with_reducible refine Kd.C_drewN ?_ _) | (with_reducible refine Kd.C_drew ?_))); (case side2 => exact HC0.out); rintro e w' ⟨rfl, ⟨nd, rfl⟩⟩; refine ⟨_, rfl, ?_⟩; have CA8 := fun W => shacklelaw00_Code.calls t111 t114 W A8.out; try simp only [errW_none, errW_some] at CA8) | (go_at_call 16; (with_reducible refine (CA8 _).mono ?_); rintro e w' ⟨rfl, ⟨nd, rfl⟩⟩))
      go_ret
      exact ⟨by first | rfl | (simp [errW_none, errW_some] <;> rfl) | (simp [*, errW_none, errW_some] <;> rfl), by repeat (first | (with_reducible first | exact HB.out | apply below_alloc | apply pw_below_drewN | apply below_drew1) | exact HB.out)⟩
    · rw [if_neg c7] at H
      have c7b0 : (t110.toList == t112.toList) = false := beq_eq_false_iff_ne.mpr c7
      have c7b1 : (t110.toList != t112.toList) = true := bne_iff_ne.mpr c7
      obtain rfl := Option.some.inj H
      go_enter Try.func3, Try.ntmps3
      go_wp2_with (first | ((with_reducible refine gate_callee (f := 13) rfl ?_); refine goesL_ (some 10) rfl rfl Try.func13 (by kernel_rfl) rfl #[] rfl (by (try simp only [List.map_toArray, List.map_cons, List.map_nil]); first | done | rfl | (simp only [List.length_drop, List.length_take]; rfl)) ?_; (with_reducible refine (shacklelaw06_up.calls  true _ A3.out).mono ?_); rintro e w10 ⟨rfl, hb⟩; refine ⟨_, rfl, ?_⟩; have n0_ := Aside0.mk (below_step (by repeat (first | (with_reducible first | exact HB.out | apply below_alloc | apply pw_below_drewN | apply below_drew1) | exact HB.out)) hb); clear HB; have HB := n0_; clear n0_; (try clear hb); (try clear hb2); (try clear hk); (try clear hi)) | ((with_reducible refine gate_callee (f := 14) rfl ?_); refine goesL_ (some 14) rfl rfl Try.func14 (by kernel_rfl) rfl #[.slice A0 l0.length c0, .int .u64 a1] rfl (by (try simp only [List.map_toArray, List.map_cons, List.map_nil]); first | done | rfl | (simp only [List.length_drop, List.length_take]; rfl)) ?_; (with_reducible refine (syms_Text.calls _ _ l0 a1 t110 t111 _ ?side1 ?side2 A4.out).mono ?_); (case side1 => repeat (first | exact (Kd.C_below HR0.out HB.out) | (with_reducible refine Kd.C_alloc ?_ _) | (with_reducible refine Kd.C_drewN ?_ _) | (with_reducible refine Kd.C_drew ?_))); (case side2 => exact HC0.out); rintro e w' ⟨rfl, ⟨nd, rfl⟩⟩; refine ⟨_, rfl, ?_⟩; (try simp only [errW_none, errW_some])) | ((with_reducible refine gate_callee (f := 15) rfl ?_); refine goesL_ (some 20) rfl rfl Try.func15 (by kernel_rfl) rfl #[.slice A0 l0.length c0, .int .u64 a1] rfl (by (try simp only [List.map_toArray, List.map_cons, List.map_nil]); first | done | rfl | (simp only [List.length_drop, List.length_take]; rfl)) ?_; (with_reducible refine (shackleref06_Text.calls k _ _ l0 a1 t112 t113 _ ?side1 ?side2 A5.out).mono ?_); (case side1 => repeat (first | exact (Kd.C_below HR0.out (by repeat (first | (with_reducible first | exact HB.out | apply below_alloc | apply pw_below_drewN | apply below_drew1) | exact HB.out))) | (with_reducible refine Kd.C_alloc ?_ _) | (with_reducible refine Kd.C_drewN ?_ _) | (with_reducible refine Kd.C_drew ?_))); (case side2 => exact HC0.out); rintro e w' ⟨rfl, ⟨nd, rfl⟩⟩; refine ⟨_, rfl, ?_⟩))
      go_ret
      exact ⟨by first | rfl | (simp [errW_none, errW_some] <;> rfl) | (simp [*, errW_none, errW_some] <;> rfl), by repeat (first | (with_reducible first | exact HB.out | apply below_alloc | apply pw_below_drewN | apply below_drew1) | exact HB.out)⟩
  · replace c6 := Bool.eq_false_iff.mpr c6
    subst c6
    have H1 : (some false) = some r := by rw [if_neg (show ¬ (false = true) by decide)] at H; exact H
    clear H
    have H := H1
    clear H1
    obtain rfl := Option.some.inj H
    go_enter Try.func3, Try.ntmps3
    go_wp2_with (first | ((with_reducible refine gate_callee (f := 13) rfl ?_); refine goesL_ (some 10) rfl rfl Try.func13 (by kernel_rfl) rfl #[] rfl (by (try simp only [List.map_toArray, List.map_cons, List.map_nil]); first | done | rfl | (simp only [List.length_drop, List.length_take]; rfl)) ?_; (with_reducible refine (shacklelaw06_up.calls  false _ A3.out).mono ?_); rintro e w11 ⟨rfl, hb⟩; refine ⟨_, rfl, ?_⟩; have n0_ := Aside0.mk (below_step (by repeat (first | (with_reducible first | exact HB.out | apply below_alloc | apply pw_below_drewN | apply below_drew1) | exact HB.out)) hb); clear HB; have HB := n0_; clear n0_; (try clear hb); (try clear hb2); (try clear hk); (try clear hi)) | ((with_reducible refine gate_callee (f := 14) rfl ?_); refine goesL_ (some 14) rfl rfl Try.func14 (by kernel_rfl) rfl #[.slice A0 l0.length c0, .int .u64 a1] rfl (by (try simp only [List.map_toArray, List.map_cons, List.map_nil]); first | done | rfl | (simp only [List.length_drop, List.length_take]; rfl)) ?_; (with_reducible refine (syms_Text.calls _ _ l0 a1 t110 t111 _ ?side1 ?side2 A4.out).mono ?_); (case side1 => repeat (first | exact (Kd.C_below HR0.out HB.out) | (with_reducible refine Kd.C_alloc ?_ _) | (with_reducible refine Kd.C_drewN ?_ _) | (with_reducible refine Kd.C_drew ?_))); (case side2 => exact HC0.out); rintro e w' ⟨rfl, ⟨nd, rfl⟩⟩; refine ⟨_, rfl, ?_⟩; (try simp only [errW_none, errW_some])) | ((with_reducible refine gate_callee (f := 15) rfl ?_); refine goesL_ (some 20) rfl rfl Try.func15 (by kernel_rfl) rfl #[.slice A0 l0.length c0, .int .u64 a1] rfl (by (try simp only [List.map_toArray, List.map_cons, List.map_nil]); first | done | rfl | (simp only [List.length_drop, List.length_take]; rfl)) ?_; (with_reducible refine (shackleref06_Text.calls k _ _ l0 a1 t112 t113 _ ?side1 ?side2 A5.out).mono ?_); (case side1 => repeat (first | exact (Kd.C_below HR0.out (by repeat (first | (with_reducible first | exact HB.out | apply below_alloc | apply pw_below_drewN | apply below_drew1) | exact HB.out))) | (with_reducible refine Kd.C_alloc ?_ _) | (with_reducible refine Kd.C_drewN ?_ _) | (with_reducible refine Kd.C_drew ?_))); (case side2 => exact HC0.out); rintro e w' ⟨rfl, ⟨nd, rfl⟩⟩; refine ⟨_, rfl, ?_⟩))
    go_ret
    exact ⟨by first | rfl | (simp [errW_none, errW_some] <;> rfl) | (simp [*, errW_none, errW_some] <;> rfl), by repeat (first | (with_reducible first | exact HB.out | apply below_alloc | apply pw_below_drewN | apply below_drew1) | exact HB.out)⟩

/-- THE ONE PURE STATEMENT of shacklelaw06_SymsTexts: yours. -/
def shacklelaw06_SymsTexts.Pure : Prop := ∀ (l0 : List Int) (a1 : Int), l0.length ≤ maxLen → l0.length * 1 ≤ 140737488351232 → (∀ x ∈ l0, (Lit.int .u8 x).wf = true) → (Lit.int .u64 a1).wf = true → ∃ k, shacklelaw06_SymsTexts.f k l0 a1 = some true
theorem shacklelaw06_SymsTexts.walk (P : shacklelaw06_SymsTexts.Pure) (a0 : Option Addr) (len0 cap0 : Nat) (z0 : List Int) (a1 : Int) (w : World) (w0 : (a0 = none ∧ len0 = 0 ∧ cap0 = 0 ∧ z0 = []) ∨ ∃ x, a0 = some x ∧ len0 ≤ cap0 ∧ cap0 ≤ maxLen ∧ z0.length = cap0 ∧ (∀ i, i < z0.length → w.cell? (x.add i) = some (.int .u8 (z0.getD i 0))) ∧ ∀ n ∈ z0, (Lit.int .u8 n).wf = true) (y0 : len0 * 1 ≤ 140737488351232) (w1 : (Lit.int .u64 a1).wf = true) :
    Calls Try.prog 3 #[.slice a0 len0 cap0, .int .u64 a1] w fun e w' => e = .returned (.bool true) ∧ Below w.heap.size w w' := by
  obtain ⟨l0, rfl, hr0, hm0, hw0, hc0⟩ := ReadsInt.ofRowC w0
  obtain ⟨k, h⟩ := P l0 a1 hm0 y0 hw0 w1
  refine (shacklelaw06_SymsTexts.calls k _ _ l0 a1 true w (Kd.C_of_reads (d := (0 : Int)) (h1 := fun _ => rfl) hr0) hc0 h).mono ?_
  rintro e w' ⟨rfl, hd⟩
  exact ⟨rfl, hd⟩

end Go.Proofs.Ytlohkhadbkahdaa.QSyms
