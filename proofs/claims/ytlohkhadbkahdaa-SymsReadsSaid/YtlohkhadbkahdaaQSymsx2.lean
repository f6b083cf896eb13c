-- Laid by wip/hook.py (this session's own program) out of the translation; with contracts that were written by hand.
import Derived.Test.YtlohkhadbkahdaaQSymsx0
namespace Go.Proofs.Ytlohkhadbkahdaa.QSyms
open Go.RowKit Go.Proofs.YtlohkhadbkahdaaW.PrintWords Go.Proofs.YtlohkhadbkahdaaW.PrintLast Go.Proofs.YtlohkhadbkahdaaW.PrintMore
attribute [local go_sem] max2_int min2_int max_two min_two max_three min_three max_four min_four   -- for this text's walks alone
set_option linter.unusedVariables false
set_option linter.unusedSimpArgs false

attribute [local go_sem] eqErr_ii neErr_ii eqErr_ni neErr_ni
-- NOT PRINTED: function 51 (bytealg_IndexByte)

/-! ### bytes_IndexByte: function 39 -/
def bytes_IndexByte.f (l0 : List Int) (a1 : Int) : Option (Int) := some (Lib.indexByte (Lib.bytesOf l0) a1.toNat.toUInt8)
set_option maxHeartbeats 2000000 in
set_option maxRecDepth 100000 in
theorem bytes_IndexByte.calls (A0 : Option Addr) (c0 : Nat) (l0 : List Int) (a1 : Int) (r : Int) (w : World) (hr0 : Kd.C (Kd.int .u8) w A0 l0.length l0) (hc0 : l0.length ≤ c0) (h : bytes_IndexByte.f l0 a1 = some r) :
  Calls Try.prog 39 #[.slice A0 l0.length c0, .int .u8 a1] w fun e w' => e = .returned (.int .i64 r) ∧ Drawn0 w w' := by
 unfold bytes_IndexByte.f at h
 obtain rfl := Option.some.inj h
 clear h
 rcases A0 with _ | ad
 ·have hl : l0 = [] := by
   rcases Nat.eq_zero_or_pos l0.length with h0 | h0
   ·exact List.eq_nil_of_length_eq_zero h0
   ·obtain ⟨_, _, e, _⟩ := Kd.C_get hr0 0 0 (by omega) (by omega)
    cases e
  subst hl
  clear hr0 hc0
  go_enter Try.func39, Try.ntmps39
  go_wp2
  rw [run_callFunc_extern Try.func51 (by kernel_rfl) (by kernel_rfl) (by kernel_rfl) (e := Extern.BytealgIndexByte.indexByte) (by kernel_rfl), Lib.run_indexByteNil]
  simp only [Result.andThen]
  rw [Oper.upon_value]
  go_wp2
  go_ret
  exact ⟨rfl, Drawn0.refl _⟩
 ·have hc : ∀ i, i < l0.length → w.cell? (ad.add i) = some (.int .u8 (l0.getD i 0)) := by
   intro i hi
   obtain ⟨ad', c, e, hl, hk, hcell⟩ := Kd.C_get hr0 0 (i : Int) (by omega) (by omega)
   injection e with e
   subst e
   obtain rfl : c = [.int .u8 (l0.getD (i : Int).toNat 0)] := hk
   have hz := hcell 0 _ rfl
   simp only [show (Kd.int .u8).sz = 1 from rfl, Nat.mul_one, Nat.add_zero, Int.toNat_natCast] at hz
   exact hz
  have H := Lib.hid (Lib.run_indexByteAt (P := Try.prog) w ad l0.length c0 l0 rfl hc a1)
  clear hr0 hc0 hc
  go_enter Try.func39, Try.ntmps39
  go_wp2
  rw [run_callFunc_extern Try.func51 (by kernel_rfl) (by kernel_rfl) (by kernel_rfl) (e := Extern.BytealgIndexByte.indexByte) (by kernel_rfl), H.out]
  simp only [Result.andThen]
  rw [Oper.upon_value]
  go_wp2
  go_ret
  exact ⟨rfl, Drawn0.refl _⟩

/-! ### syms_Text: function 14 -/
def syms_Text.f (l0 : List Int) (a1 : Int) : Option (ByteArray × Option Int) := if a1 ≥ (IntKind.u64.wrap ((l0.length : Int))) then (some ((⟨#[]⟩ : ByteArray), some 4)) else (if 0 ≤ a1 then (if a1 ≤ (l0.length : Int) then ((bytes_IndexByte.f (l0.drop (a1 : Int).toNat) 0).bind fun t102 => (if t102 < 0 then (some ((⟨#[]⟩ : ByteArray), some 4)) else (if t102 > 255 then (some ((⟨#[]⟩ : ByteArray), some 2)) else (if a1 ≤ (IntKind.u64.wrap (a1 + (IntKind.u64.wrap (t102)))) then (if (IntKind.u64.wrap (a1 + (IntKind.u64.wrap (t102)))) ≤ (l0.length : Int) then (some (strOfNums ((l0.take ((IntKind.u64.wrap (a1 + (IntKind.u64.wrap (t102)))) : Int).toNat).drop (a1 : Int).toNat), none)) else (none)) else (none))))) else (none)) else (none))
set_option maxHeartbeats 8000000 in
set_option maxRecDepth 100000 in
theorem syms_Text.calls (A0 : Option Addr) (c0 : Nat) (l0 : List Int) (a1 : Int) (r1 : ByteArray) (r2 : Option Int) (w : World) (hr0 : Kd.C (Kd.int .u8) w A0 l0.length l0) (hc0 : l0.length ≤ c0) (h : syms_Text.f l0 a1 = some (r1, r2)) :
  Calls Try.prog 14 #[.slice A0 l0.length c0, .int .u64 a1] w fun e w' => e = .returned (.tuple #[.string r1, errW r2]) ∧ Drawn0 w w' := by
 have hu26 := Try.underlying26
 have hu35 := Try.underlying35
 have HR0 := Aside0.mk hr0
 have HC0 := Aside0.mk hc0
 clear hr0 hc0
 have H : (if a1 ≥ (IntKind.u64.wrap ((l0.length : Int))) then (some ((⟨#[]⟩ : ByteArray), some 4)) else (if 0 ≤ a1 then (if a1 ≤ (l0.length : Int) then ((bytes_IndexByte.f (l0.drop (a1 : Int).toNat) 0).bind fun t102 => (if t102 < 0 then (some ((⟨#[]⟩ : ByteArray), some 4)) else (if t102 > 255 then (some ((⟨#[]⟩ : ByteArray), some 2)) else (if a1 ≤ (IntKind.u64.wrap (a1 + (IntKind.u64.wrap (t102)))) then (if (IntKind.u64.wrap (a1 + (IntKind.u64.wrap (t102)))) ≤ (l0.length : Int) then (some (strOfNums ((l0.take ((IntKind.u64.wrap (a1 + (IntKind.u64.wrap (t102)))) : Int).toNat).drop (a1 : Int).toNat), none)) else (none)) else (none))))) else (none)) else (none))) = some (r1, r2) := h
 clear h
 by_cases c3 : a1 ≥ (IntKind.u64.wrap ((l0.length : Int)))
 ·rw [if_pos c3] at H
  have c3b0 : decide ((IntKind.u64.wrap ((l0.length : Int))) ≤ a1) = true := decide_eq_true c3
  clear c3
  simp only [Option.some.injEq, Prod.mk.injEq] at H
  obtain ⟨rfl, rfl⟩ := H
  go_enter Try.func14, Try.ntmps14
  go_wp2
  go_ret2
  exact ⟨by first | rfl | (simp; done) | (simp [*]; done), by repeat (first | exact Drawn0.refl _ | apply Drawn0.step)⟩
 ·rw [if_neg c3] at H
  have c3b0 : decide ((IntKind.u64.wrap ((l0.length : Int))) ≤ a1) = false := decide_eq_false c3
  clear c3
  by_cases c4 : 0 ≤ a1
  ·rw [if_pos c4] at H
   have c4b0 := eq_true c4
   have c4b1 : decide (0 ≤ a1) = true := decide_eq_true c4
   clear c4
   by_cases c5 : a1 ≤ (l0.length : Int)
   ·rw [if_pos c5] at H
    have c5b0 := eq_true c5
    have c5b1 : decide (a1 ≤ (l0.length : Int)) = true := decide_eq_true c5
    clear c5
    replace H := Option.bind_eq_some_iff.mp H
    obtain ⟨t102, A60, H⟩ := H
    replace H : (if t102 < 0 then (some ((⟨#[]⟩ : ByteArray), some 4)) else (if t102 > 255 then (some ((⟨#[]⟩ : ByteArray), some 2)) else (if a1 ≤ (IntKind.u64.wrap (a1 + (IntKind.u64.wrap (t102)))) then (if (IntKind.u64.wrap (a1 + (IntKind.u64.wrap (t102)))) ≤ (l0.length : Int) then (some (strOfNums ((l0.take ((IntKind.u64.wrap (a1 + (IntKind.u64.wrap (t102)))) : Int).toNat).drop (a1 : Int).toNat), none)) else (none)) else (none)))) = some (r1, r2) := H
    have A6 := Aside0.mk A60
    clear A60
    by_cases c7 : t102 < 0
    ·rw [if_pos c7] at H
     have c7b0 : decide (t102 < 0) = true := decide_eq_true c7
     clear c7
     simp only [Option.some.injEq, Prod.mk.injEq] at H
     obtain ⟨rfl, rfl⟩ := H
     obtain ⟨i08, hi08, _, hsz8, _⟩ := info_parts info5
     obtain ⟨A8, hcut8, hA8, hC8⟩ := print_drop_of (P := Try.prog) (Value.int .u8) 0 22 5 .u64 Try.underlying22 hi08 hsz8 A0 c0 l0 a1 (of_decide_eq_true (by assumption)) (of_decide_eq_true (by assumption)) HC0.out
     have HR101 := Aside0.mk (Kd.C_of_reads (h1 := fun _ => rfl) (hA8 _ (Kd.reads_of_C HR0.out)))
     have HC101 := Aside0.mk hC8
     clear hA8 hC8 hi08 hsz8
     go_enter Try.func14, Try.ntmps14
     go_wp2_with (first | ((with_reducible refine gate_callee (f := 39) rfl ?_); refine goesL_ (some 16) rfl rfl Try.func39 (by kernel_rfl) rfl #[.slice A8 (l0.drop (a1 : Int).toNat).length (c0 - a1.toNat), .int .u8 0] rfl (by (try simp only [List.map_toArray, List.map_cons, List.map_nil]); first | done | (rw [show (l0.drop (a1 : Int).toNat).length = (l0.length - a1.toNat) from List.length_drop] <;> rfl) | rfl | (simp only [List.length_drop, List.length_take]; rfl)) ?_; (with_reducible refine (bytes_IndexByte.calls _ _ (l0.drop (a1 : Int).toNat) 0 t102 _ ?side1 ?side2 A6.out).mono ?_); (case side1 => repeat (first | exact HR101.out | (with_reducible refine Kd.C_alloc ?_ _) | (with_reducible refine Kd.C_drewN ?_ _) | (with_reducible refine Kd.C_drew ?_))); (case side2 => exact HC101.out); rintro e w' ⟨rfl, ⟨nd, rfl⟩⟩; refine ⟨_, rfl, ?_⟩))
     go_ret2
     exact ⟨by first | rfl | (simp; done) | (simp [*]; done), by repeat (first | exact Drawn0.refl _ | apply Drawn0.step)⟩
    ·rw [if_neg c7] at H
     have c7b0 : decide (t102 < 0) = false := decide_eq_false c7
     clear c7
     by_cases c9 : t102 > 255
     ·rw [if_pos c9] at H
      have c9b0 : decide (255 < t102) = true := decide_eq_true c9
      clear c9
      simp only [Option.some.injEq, Prod.mk.injEq] at H
      obtain ⟨rfl, rfl⟩ := H
      obtain ⟨i010, hi010, _, hsz10, _⟩ := info_parts info5
      obtain ⟨A10, hcut10, hA10, hC10⟩ := print_drop_of (P := Try.prog) (Value.int .u8) 0 22 5 .u64 Try.underlying22 hi010 hsz10 A0 c0 l0 a1 (of_decide_eq_true (by assumption)) (of_decide_eq_true (by assumption)) HC0.out
      have HR101 := Aside0.mk (Kd.C_of_reads (h1 := fun _ => rfl) (hA10 _ (Kd.reads_of_C HR0.out)))
      have HC101 := Aside0.mk hC10
      clear hA10 hC10 hi010 hsz10
      go_enter Try.func14, Try.ntmps14
      go_wp2_with (first | ((with_reducible refine gate_callee (f := 39) rfl ?_); refine goesL_ (some 16) rfl rfl Try.func39 (by kernel_rfl) rfl #[.slice A10 (l0.drop (a1 : Int).toNat).length (c0 - a1.toNat), .int .u8 0] rfl (by (try simp only [List.map_toArray, List.map_cons, List.map_nil]); first | done | (rw [show (l0.drop (a1 : Int).toNat).length = (l0.length - a1.toNat) from List.length_drop] <;> rfl) | rfl | (simp only [List.length_drop, List.length_take]; rfl)) ?_; (with_reducible refine (bytes_IndexByte.calls _ _ (l0.drop (a1 : Int).toNat) 0 t102 _ ?side1 ?side2 A6.out).mono ?_); (case side1 => repeat (first | exact HR101.out | (with_reducible refine Kd.C_alloc ?_ _) | (with_reducible refine Kd.C_drewN ?_ _) | (with_reducible refine Kd.C_drew ?_))); (case side2 => exact HC101.out); rintro e w' ⟨rfl, ⟨nd, rfl⟩⟩; refine ⟨_, rfl, ?_⟩))
      go_ret2
      exact ⟨by first | rfl | (simp; done) | (simp [*]; done), by repeat (first | exact Drawn0.refl _ | apply Drawn0.step)⟩
     ·rw [if_neg c9] at H
      have c9b0 : decide (255 < t102) = false := decide_eq_false c9
      clear c9
      have c11b0 := eq_true (of_decide_eq_true (by assumption) : 0 ≤ a1)
      by_cases c12 : a1 ≤ (IntKind.u64.wrap (a1 + (IntKind.u64.wrap (t102))))
      ·rw [if_pos c12] at H
       have c12b0 := eq_true c12
       have c12b1 : decide (a1 ≤ (IntKind.u64.wrap (a1 + (IntKind.u64.wrap (t102))))) = true := decide_eq_true c12
       by_cases c13 : (IntKind.u64.wrap (a1 + (IntKind.u64.wrap (t102)))) ≤ (l0.length : Int)
       ·rw [if_pos c13] at H
        have c13b0 := eq_true c13
        have c13b1 : decide ((IntKind.u64.wrap (a1 + (IntKind.u64.wrap (t102)))) ≤ (l0.length : Int)) = true := decide_eq_true c13
        simp only [Option.some.injEq, Prod.mk.injEq] at H
        obtain ⟨rfl, rfl⟩ := H
        obtain ⟨i014, hi014, _, hsz14, _⟩ := info_parts info5
        obtain ⟨A14, hcut14, hA14, hC14⟩ := print_drop_of (P := Try.prog) (Value.int .u8) 0 22 5 .u64 Try.underlying22 hi014 hsz14 A0 c0 l0 a1 (of_decide_eq_true (by assumption)) (of_decide_eq_true (by assumption)) HC0.out
        have HR101 := Aside0.mk (Kd.C_of_reads (h1 := fun _ => rfl) (hA14 _ (Kd.reads_of_C HR0.out)))
        have HC101 := Aside0.mk hC14
        clear hA14 hC14 hi014 hsz14
        go_enter Try.func14, Try.ntmps14
        go_wp2_with (first | ((with_reducible refine gate_callee (f := 39) rfl ?_); refine goesL_ (some 16) rfl rfl Try.func39 (by kernel_rfl) rfl #[.slice A14 (l0.drop (a1 : Int).toNat).length (c0 - a1.toNat), .int .u8 0] rfl (by (try simp only [List.map_toArray, List.map_cons, List.map_nil]); first | done | (rw [show (l0.drop (a1 : Int).toNat).length = (l0.length - a1.toNat) from List.length_drop] <;> rfl) | rfl | (simp only [List.length_drop, List.length_take]; rfl)) ?_; (with_reducible refine (bytes_IndexByte.calls _ _ (l0.drop (a1 : Int).toNat) 0 t102 _ ?side1 ?side2 A6.out).mono ?_); (case side1 => repeat (first | exact HR101.out | (with_reducible refine Kd.C_alloc ?_ _) | (with_reducible refine Kd.C_drewN ?_ _) | (with_reducible refine Kd.C_drew ?_))); (case side2 => exact HC101.out); rintro e w' ⟨rfl, ⟨nd, rfl⟩⟩; refine ⟨_, rfl, ?_⟩; obtain ⟨i015, hi015, _, hsz15, _⟩ := info_parts info5; obtain ⟨A15, hcut15, hA15, hC15⟩ := print_mid_of (P := Try.prog) (Value.int .u8) 0 22 5 .u64 .u64 Try.underlying22 hi015 hsz15 A0 c0 l0 a1 (IntKind.u64.wrap (a1 + (IntKind.u64.wrap (t102)))) (of_decide_eq_true (by assumption)) (by first | omega | exact of_decide_eq_true (by assumption)) (of_decide_eq_true (by assumption)) HC0.out; have HR103 := Aside0.mk (Kd.C_of_reads (h1 := fun _ => rfl) (hA15 _ (Kd.reads_of_C HR0.out))); have HC103 := Aside0.mk hC15; clear hA15 hC15 hi015 hsz15; have hcv16 := Kd.C_string (P := Try.prog) (A := A15) (c := (c0 - a1.toNat)) Try.underlying22 Try.underlying5 Try.underlying9 HR103.out; have hcm17 := fun m_ : Nat => Kd.C_string (P := Try.prog) (A := A15) (c := (c0 - a1.toNat)) Try.underlying22 Try.underlying5 Try.underlying9 (Kd.C_drewN HR103.out m_); (try rw [show ((l0.take ((IntKind.u64.wrap (a1 + (IntKind.u64.wrap (t102)))) : Int).toNat).drop (a1 : Int).toNat).length = ((IntKind.u64.wrap (a1 + (IntKind.u64.wrap (t102)))).toNat - a1.toNat) from (by rw [List.length_drop, List.length_take]; have h_ : ((IntKind.u64.wrap (a1 + (IntKind.u64.wrap (t102)))) : Int) ≤ (l0.length : Int) := of_decide_eq_true (by assumption); omega)] at hcv16); (try rw [show ((l0.take ((IntKind.u64.wrap (a1 + (IntKind.u64.wrap (t102)))) : Int).toNat).drop (a1 : Int).toNat).length = ((IntKind.u64.wrap (a1 + (IntKind.u64.wrap (t102)))).toNat - a1.toNat) from (by rw [List.length_drop, List.length_take]; have h_ : ((IntKind.u64.wrap (a1 + (IntKind.u64.wrap (t102)))) : Int) ≤ (l0.length : Int) := of_decide_eq_true (by assumption); omega)] at hcm17)))
        go_ret2
        exact ⟨by first | rfl | (simp; done) | (simp [*]; done), by repeat (first | exact Drawn0.refl _ | apply Drawn0.step)⟩
       ·rw [if_neg c13] at H
        exact absurd H (by simp)
      ·rw [if_neg c12] at H
       exact absurd H (by simp)
   ·rw [if_neg c5] at H
    exact absurd H (by simp)
  ·rw [if_neg c4] at H
   exact absurd H (by simp)

/-! ### shacklelaw06_up: function 13 -/
theorem ab_cells (W : World) : Kd.C (Kd.int .u8) (W.alloc (.cells #[.int .u8 97, .int .u8 98] 5 (2, 3))) (some ⟨W.heap.size, 0, none⟩) 2 [97, 98] := by
 have hn := heap_alloc_new W (.cells #[.int .u8 97, .int .u8 98] 5 (2, 3))
 have c0 : (W.alloc (.cells #[.int .u8 97, .int .u8 98] 5 (2, 3))).cell? ⟨W.heap.size, 0, none⟩ = some (.int .u8 97) := by
  simp only [World.cell?, hn]; rfl
 have c1 : (W.alloc (.cells #[.int .u8 97, .int .u8 98] 5 (2, 3))).cell? ⟨W.heap.size, 1, none⟩ = some (.int .u8 98) := by
  simp only [World.cell?, hn]; rfl
 refine ⟨rfl, by omega, fun _ => ⟨_, rfl, fun j p hj => ⟨[.int .u8 p], rfl, rfl, fun i u hu => ?_⟩⟩⟩
 have hi : i = 0 := by
  have := (List.getElem?_eq_some_iff.1 hu).1
  simpa using this
 subst hi
 obtain rfl : Value.int .u8 p = u := by simpa using hu
 have hjl := (List.getElem?_eq_some_iff.1 hj).1
 simp at hjl
 have e : j = 0 ∨ j = 1 := by omega
 rcases e with rfl | rfl
 ·obtain rfl : (97 : Int) = p := by simpa using hj
  exact c0
 ·obtain rfl : (98 : Int) = p := by simpa using hj
  exact c1
theorem text_ab (W : World) (m : Nat) : Calls Try.prog 14 #[.slice (some ⟨W.heap.size, 0, none⟩) 2 2, .int .u64 0] ((W.drewN m).alloc (.cells #[.int .u8 97, .int .u8 98] 5 (2, 3))) fun e w' => e = .returned (.tuple #[.string ⟨#[]⟩, errW (some 4)]) ∧ Drawn0 ((W.drewN m).alloc (.cells #[.int .u8 97, .int .u8 98] 5 (2, 3))) w' :=
 syms_Text.calls (some ⟨W.heap.size, 0, none⟩) 2 [97, 98] 0 _ _ ((W.drewN m).alloc (.cells #[.int .u8 97, .int .u8 98] 5 (2, 3))) (ab_cells (W.drewN m)) (Nat.le_refl 2) (by decide +kernel)
def shacklelaw06_up.f  : Option (Bool) := some true
set_option maxHeartbeats 8000000 in
set_option maxRecDepth 100000 in
theorem shacklelaw06_up.calls  (r : Bool) (w : World) (h : shacklelaw06_up.f  = some r) :
  Calls Try.prog 13 #[] w fun e w' => e = .returned (.bool r) ∧ Below w.heap.size w w' := by
 unfold shacklelaw06_up.f at h
 obtain rfl := Option.some.inj h
 clear h
 have hu26 := Try.underlying26
 have hu35 := Try.underlying35
 have A1 : Aside0 (syms_Text.f [0, 97, 98, 0] 1 = some ((⟨#[97, 98]⟩ : ByteArray), none)) := ⟨by decide +kernel⟩
 have A2 : Aside0 (syms_Text.f [0, 97, 98, 0] 3 = some ((⟨#[]⟩ : ByteArray), none)) := ⟨by decide +kernel⟩
 have A3 : Aside0 (syms_Text.f [0, 97, 98, 0] 4 = some ((⟨#[]⟩ : ByteArray), some 4)) := ⟨by decide +kernel⟩
 have HB := Aside0.mk (Below.refl w.heap.size w)
 obtain ⟨y104, hy104⟩ : ∃ y : List Int, y = [0, 97, 98, 0] := ⟨_, rfl⟩
 have Ny104 := Aside0.mk hy104
 rw [← hy104] at A1 A2 A3
 clear hy104
 have kc : ∀ (W : World) (m : Nat), (convert 22 22 (.slice (some ⟨W.heap.size, 0, none⟩) 2 2)).run Try.prog ((W.drewN m).alloc (.cells #[.int .u8 97, .int .u8 98] 5)) = .ok (.slice (some ⟨W.heap.size, 0, none⟩) 2 2) ((W.drewN m).alloc (.cells #[.int .u8 97, .int .u8 98] 5 (2, 3))) :=
  fun W m => Lib.run_convert_bytes_const (P := Try.prog) (W.drewN m) 22 5 #[.int .u8 97, .int .u8 98] 2 2 Try.underlying22 Try.underlying5
 go_enter Try.func13, Try.ntmps13
 go_wp2_with (first | ((with_reducible refine gate_dst (N := 10) rfl ?_); refine Kd.R_lit (Kd.int .u8) _ 5 ?hg (N := 10) ?hd (xs := ([0, 97, 98, 0] : List Int)) (inner := [.int .u8 0, .int .u8 97, .int .u8 98, .int .u8 0]) (ok := fun _ => True) (okp := fun _ => True) ?hr ?hp (fun _ hk => hk) trivial (Below.refl _ _) (Nat.le_refl _) (by simp) ?_; (case hd => rfl); (case hg => rfl); (case hr => first | (go_simp; done) | (go_simp; rfl)); (case hp => exact (Reps.one (show Kd.M (Kd.int .u8) _ _ _ 0 [.int .u8 0] from rfl) (Reps.one (show Kd.M (Kd.int .u8) _ _ _ 97 [.int .u8 97] from rfl) (Reps.one (show Kd.M (Kd.int .u8) _ _ _ 98 [.int .u8 98] from rfl) (Reps.one (show Kd.M (Kd.int .u8) _ _ _ 0 [.int .u8 0] from rfl) (Reps.none _ _)))))); intro v105 w7 ho8 hb hg_ hnew_; clear hg_ hnew_; (first | rw [← Ny104.out] at ho8 | (simp only [Int.reduceToNat] at ho8; rw [← Ny104.out] at ho8)); have n0_ := Aside0.mk (Kd.R_lower ho8 (below_size (by repeat (first | (with_reducible first | exact HB.out | apply below_alloc | apply pw_below_drewN | apply below_drew1) | exact HB.out)))); have n1_ := Aside0.mk (below_step (by repeat (first | (with_reducible first | exact HB.out | apply below_alloc | apply pw_below_drewN | apply below_drew1) | exact HB.out)) hb); clear HB; have HO106 := n0_; have HB := n1_; clear n0_ n1_; clear hb ho8; obtain ⟨Ao9, co9, eo9⟩ := Kd.R_slice HO106.out; subst eo9) | ((with_reducible refine gate_callee (f := 14) rfl ?_); refine goesL_ (some 13) rfl rfl Try.func14 (by kernel_rfl) rfl #[.slice Ao9 y104.length co9, .int .u64 1] rfl (by (try simp only [List.map_toArray, List.map_cons, List.map_nil]); first | done | rfl | (simp only [List.length_drop, List.length_take]; rfl)) ?_; (with_reducible refine (syms_Text.calls _ _ y104 1 (⟨#[97, 98]⟩ : ByteArray) none _ ?side1 ?side2 A1.out).mono ?_); (case side1 => repeat (first | exact (Kd.R_reads' HO106.out).2.2 | (with_reducible refine Kd.C_alloc ?_ _) | (with_reducible refine Kd.C_drewN ?_ _) | (with_reducible refine Kd.C_drew ?_))); (case side2 => exact (Kd.R_reads' HO106.out).2.1); rintro e w' ⟨rfl, ⟨nd, rfl⟩⟩; refine ⟨_, rfl, ?_⟩; (try simp only [errW_none, errW_some])) | ((with_reducible refine gate_callee (f := 14) rfl ?_); refine goesL_ (some 18) rfl rfl Try.func14 (by kernel_rfl) rfl #[.slice Ao9 y104.length co9, .int .u64 3] rfl (by (try simp only [List.map_toArray, List.map_cons, List.map_nil]); first | done | rfl | (simp only [List.length_drop, List.length_take]; rfl)) ?_; (with_reducible refine (syms_Text.calls _ _ y104 3 (⟨#[]⟩ : ByteArray) none _ ?side1 ?side2 A2.out).mono ?_); (case side1 => repeat (first | exact (Kd.R_reads' HO106.out).2.2 | (with_reducible refine Kd.C_alloc ?_ _) | (with_reducible refine Kd.C_drewN ?_ _) | (with_reducible refine Kd.C_drew ?_))); (case side2 => exact (Kd.R_reads' HO106.out).2.1); rintro e w' ⟨rfl, ⟨nd, rfl⟩⟩; refine ⟨_, rfl, ?_⟩; (try simp only [errW_none, errW_some])) | ((with_reducible refine gate_callee (f := 14) rfl ?_); refine goesL_ (some 23) rfl rfl Try.func14 (by kernel_rfl) rfl #[.slice Ao9 y104.length co9, .int .u64 4] rfl (by (try simp only [List.map_toArray, List.map_cons, List.map_nil]); first | done | rfl | (simp only [List.length_drop, List.length_take]; rfl)) ?_; (with_reducible refine (syms_Text.calls _ _ y104 4 (⟨#[]⟩ : ByteArray) (some 4) _ ?side1 ?side2 A3.out).mono ?_); (case side1 => repeat (first | exact (Kd.R_reads' HO106.out).2.2 | (with_reducible refine Kd.C_alloc ?_ _) | (with_reducible refine Kd.C_drewN ?_ _) | (with_reducible refine Kd.C_drew ?_))); (case side2 => exact (Kd.R_reads' HO106.out).2.1); rintro e w' ⟨rfl, ⟨nd, rfl⟩⟩; refine ⟨_, rfl, ?_⟩; (try simp only [errW_none, errW_some])) | ((with_reducible refine gate_callee (f := 14) rfl ?_); refine goesL_ (some 29) rfl rfl Try.func14 (by kernel_rfl) rfl #[.slice (some ⟨w7.heap.size, 0, none⟩) 2 2, .int .u64 0] rfl (by (try simp only [List.map_toArray, List.map_cons, List.map_nil]); first | done | rfl | (simp only [List.length_drop, List.length_take]; rfl)) ?_; (with_reducible refine (text_ab _ _).mono ?_); rintro e w' ⟨rfl, ⟨nd, rfl⟩⟩; refine ⟨_, rfl, ?_⟩; (try simp only [errW_none, errW_some])))
 go_ret
 exact ⟨rfl, by repeat (first | (with_reducible first | exact HB.out | apply below_alloc | apply pw_below_drewN | apply below_drew1) | exact HB.out)⟩

/-! ### shacklelaw00_further: function 40 -/
def shacklelaw00_further.f (a0 : Option Int) : Option (Int) := if a0.isNone = true then (some (-1)) else (if (a0.getD 0) = 16 then (some 16) else (if (a0.getD 0) = 17 then (some 17) else (if (a0.getD 0) = 18 then (some 18) else (if (a0.getD 0) = 19 then (some 19) else (if (a0.getD 0) = 20 then (some 20) else (if (a0.getD 0) = 21 then (some 21) else (if (a0.getD 0) = 22 then (some 22) else (if (a0.getD 0) = 23 then (some 23) else (if (a0.getD 0) = 24 then (some 24) else (if (a0.getD 0) = 25 then (some 25) else (if (a0.getD 0) = 26 then (some 26) else (if (a0.getD 0) = 27 then (some 27) else (if (a0.getD 0) = 28 then (some 28) else (if (a0.getD 0) = 29 then (some 29) else (if (a0.getD 0) = 30 then (some 30) else (some (-1)))))))))))))))))
set_option maxHeartbeats 8000000 in
set_option maxRecDepth 100000 in
theorem shacklelaw00_further.calls (a0 : Option Int) (r : Int) (w : World) (h : shacklelaw00_further.f a0 = some r) :
  Calls Try.prog 40 #[errW a0] w fun e w' => e = .returned (.int .i64 r) ∧ Drawn0 w w' := by
 have hu26 := Try.underlying26
 have hu35 := Try.underlying35
 have H : (if a0.isNone = true then (some (-1)) else (if (a0.getD 0) = 16 then (some 16) else (if (a0.getD 0) = 17 then (some 17) else (if (a0.getD 0) = 18 then (some 18) else (if (a0.getD 0) = 19 then (some 19) else (if (a0.getD 0) = 20 then (some 20) else (if (a0.getD 0) = 21 then (some 21) else (if (a0.getD 0) = 22 then (some 22) else (if (a0.getD 0) = 23 then (some 23) else (if (a0.getD 0) = 24 then (some 24) else (if (a0.getD 0) = 25 then (some 25) else (if (a0.getD 0) = 26 then (some 26) else (if (a0.getD 0) = 27 then (some 27) else (if (a0.getD 0) = 28 then (some 28) else (if (a0.getD 0) = 29 then (some 29) else (if (a0.getD 0) = 30 then (some 30) else (some (-1)))))))))))))))))) = some r := h
 clear h
 rcases a0 with _ | q104
 ·have H1 : (some (-1)) = some r := by rw [if_pos (show (none : Option Int).isNone = true by rfl)] at H; exact H
  clear H
  have H := H1
  clear H1
  simp only [errW_none, errW_some]
  obtain rfl := Option.some.inj H
  go_enter Try.func40, Try.ntmps40
  go_wp2
  go_ret
  exact ⟨by first | rfl | (simp; done) | (simp [*]; done), by repeat (first | exact Drawn0.refl _ | apply Drawn0.step)⟩
 ·have H1 : (if q104 = 16 then (some 16) else (if q104 = 17 then (some 17) else (if q104 = 18 then (some 18) else (if q104 = 19 then (some 19) else (if q104 = 20 then (some 20) else (if q104 = 21 then (some 21) else (if q104 = 22 then (some 22) else (if q104 = 23 then (some 23) else (if q104 = 24 then (some 24) else (if q104 = 25 then (some 25) else (if q104 = 26 then (some 26) else (if q104 = 27 then (some 27) else (if q104 = 28 then (some 28) else (if q104 = 29 then (some 29) else (if q104 = 30 then (some 30) else (some (-1))))))))))))))))) = some r := by rw [if_neg (show ¬ (some q104).isNone = true by simp)] at H; exact H
  clear H
  have H := H1
  clear H1
  simp only [errW_none, errW_some]
  by_cases c2 : q104 = 16
  ·rw [if_pos c2] at H
   have c2b0 : (q104 == 16) = true := beq_iff_eq.mpr c2
   have c2b1 : (q104 != 16) = false := bne_eq_false_iff_eq.mpr c2
   clear c2
   obtain rfl := Option.some.inj H
   go_enter Try.func40, Try.ntmps40
   go_wp2
   go_ret
   exact ⟨by first | rfl | (simp; done) | (simp [*]; done), by repeat (first | exact Drawn0.refl _ | apply Drawn0.step)⟩
  ·rw [if_neg c2] at H
   have c2b0 : (q104 == 16) = false := beq_eq_false_iff_ne.mpr c2
   have c2b1 : (q104 != 16) = true := bne_iff_ne.mpr c2
   by_cases c3 : q104 = 17
   ·rw [if_pos c3] at H
    have c3b0 : (q104 == 17) = true := beq_iff_eq.mpr c3
    have c3b1 : (q104 != 17) = false := bne_eq_false_iff_eq.mpr c3
    clear c3
    obtain rfl := Option.some.inj H
    go_enter Try.func40, Try.ntmps40
    go_wp2
    go_ret
    exact ⟨by first | rfl | (simp; done) | (simp [*]; done), by repeat (first | exact Drawn0.refl _ | apply Drawn0.step)⟩
   ·rw [if_neg c3] at H
    have c3b0 : (q104 == 17) = false := beq_eq_false_iff_ne.mpr c3
    have c3b1 : (q104 != 17) = true := bne_iff_ne.mpr c3
    by_cases c4 : q104 = 18
    ·rw [if_pos c4] at H
     have c4b0 : (q104 == 18) = true := beq_iff_eq.mpr c4
     have c4b1 : (q104 != 18) = false := bne_eq_false_iff_eq.mpr c4
     clear c4
     obtain rfl := Option.some.inj H
     go_enter Try.func40, Try.ntmps40
     go_wp2
     go_ret
     exact ⟨by first | rfl | (simp; done) | (simp [*]; done), by repeat (first | exact Drawn0.refl _ | apply Drawn0.step)⟩
    ·rw [if_neg c4] at H
     have c4b0 : (q104 == 18) = false := beq_eq_false_iff_ne.mpr c4
     have c4b1 : (q104 != 18) = true := bne_iff_ne.mpr c4
     by_cases c5 : q104 = 19
     ·rw [if_pos c5] at H
      have c5b0 : (q104 == 19) = true := beq_iff_eq.mpr c5
      have c5b1 : (q104 != 19) = false := bne_eq_false_iff_eq.mpr c5
      clear c5
      obtain rfl := Option.some.inj H
      go_enter Try.func40, Try.ntmps40
      go_wp2
      go_ret
      exact ⟨by first | rfl | (simp; done) | (simp [*]; done), by repeat (first | exact Drawn0.refl _ | apply Drawn0.step)⟩
     ·rw [if_neg c5] at H
      have c5b0 : (q104 == 19) = false := beq_eq_false_iff_ne.mpr c5
      have c5b1 : (q104 != 19) = true := bne_iff_ne.mpr c5
      by_cases c6 : q104 = 20
      ·rw [if_pos c6] at H
       have c6b0 : (q104 == 20) = true := beq_iff_eq.mpr c6
       have c6b1 : (q104 != 20) = false := bne_eq_false_iff_eq.mpr c6
       clear c6
       obtain rfl := Option.some.inj H
       go_enter Try.func40, Try.ntmps40
       go_wp2
       go_ret
       exact ⟨by first | rfl | (simp; done) | (simp [*]; done), by repeat (first | exact Drawn0.refl _ | apply Drawn0.step)⟩
      ·rw [if_neg c6] at H
       have c6b0 : (q104 == 20) = false := beq_eq_false_iff_ne.mpr c6
       have c6b1 : (q104 != 20) = true := bne_iff_ne.mpr c6
       by_cases c7 : q104 = 21
       ·rw [if_pos c7] at H
        have c7b0 : (q104 == 21) = true := beq_iff_eq.mpr c7
        have c7b1 : (q104 != 21) = false := bne_eq_false_iff_eq.mpr c7
        clear c7
        obtain rfl := Option.some.inj H
        go_enter Try.func40, Try.ntmps40
        go_wp2
        go_ret
        exact ⟨by first | rfl | (simp; done) | (simp [*]; done), by repeat (first | exact Drawn0.refl _ | apply Drawn0.step)⟩
       ·rw [if_neg c7] at H
        have c7b0 : (q104 == 21) = false := beq_eq_false_iff_ne.mpr c7
        have c7b1 : (q104 != 21) = true := bne_iff_ne.mpr c7
        by_cases c8 : q104 = 22
        ·rw [if_pos c8] at H
         have c8b0 : (q104 == 22) = true := beq_iff_eq.mpr c8
         have c8b1 : (q104 != 22) = false := bne_eq_false_iff_eq.mpr c8
         clear c8
         obtain rfl := Option.some.inj H
         go_enter Try.func40, Try.ntmps40
         go_wp2
         go_ret
         exact ⟨by first | rfl | (simp; done) | (simp [*]; done), by repeat (first | exact Drawn0.refl _ | apply Drawn0.step)⟩
        ·rw [if_neg c8] at H
         have c8b0 : (q104 == 22) = false := beq_eq_false_iff_ne.mpr c8
         have c8b1 : (q104 != 22) = true := bne_iff_ne.mpr c8
         by_cases c9 : q104 = 23
         ·rw [if_pos c9] at H
          have c9b0 : (q104 == 23) = true := beq_iff_eq.mpr c9
          have c9b1 : (q104 != 23) = false := bne_eq_false_iff_eq.mpr c9
          clear c9
          obtain rfl := Option.some.inj H
          go_enter Try.func40, Try.ntmps40
          go_wp2
          go_ret
          exact ⟨by first | rfl | (simp; done) | (simp [*]; done), by repeat (first | exact Drawn0.refl _ | apply Drawn0.step)⟩
         ·rw [if_neg c9] at H
          have c9b0 : (q104 == 23) = false := beq_eq_false_iff_ne.mpr c9
          have c9b1 : (q104 != 23) = true := bne_iff_ne.mpr c9
          by_cases c10 : q104 = 24
          ·rw [if_pos c10] at H
           have c10b0 : (q104 == 24) = true := beq_iff_eq.mpr c10
           have c10b1 : (q104 != 24) = false := bne_eq_false_iff_eq.mpr c10
           clear c10
           obtain rfl := Option.some.inj H
           go_enter Try.func40, Try.ntmps40
           go_wp2
           go_ret
           exact ⟨by first | rfl | (simp; done) | (simp [*]; done), by repeat (first | exact Drawn0.refl _ | apply Drawn0.step)⟩
          ·rw [if_neg c10] at H
           have c10b0 : (q104 == 24) = false := beq_eq_false_iff_ne.mpr c10
           have c10b1 : (q104 != 24) = true := bne_iff_ne.mpr c10
           by_cases c11 : q104 = 25
           ·rw [if_pos c11] at H
            have c11b0 : (q104 == 25) = true := beq_iff_eq.mpr c11
            have c11b1 : (q104 != 25) = false := bne_eq_false_iff_eq.mpr c11
            clear c11
            obtain rfl := Option.some.inj H
            go_enter Try.func40, Try.ntmps40
            go_wp2
            go_ret
            exact ⟨by first | rfl | (simp; done) | (simp [*]; done), by repeat (first | exact Drawn0.refl _ | apply Drawn0.step)⟩
           ·rw [if_neg c11] at H
            have c11b0 : (q104 == 25) = false := beq_eq_false_iff_ne.mpr c11
            have c11b1 : (q104 != 25) = true := bne_iff_ne.mpr c11
            by_cases c12 : q104 = 26
            ·rw [if_pos c12] at H
             have c12b0 : (q104 == 26) = true := beq_iff_eq.mpr c12
             have c12b1 : (q104 != 26) = false := bne_eq_false_iff_eq.mpr c12
             clear c12
             obtain rfl := Option.some.inj H
             go_enter Try.func40, Try.ntmps40
             go_wp2
             go_ret
             exact ⟨by first | rfl | (simp; done) | (simp [*]; done), by repeat (first | exact Drawn0.refl _ | apply Drawn0.step)⟩
            ·rw [if_neg c12] at H
             have c12b0 : (q104 == 26) = false := beq_eq_false_iff_ne.mpr c12
             have c12b1 : (q104 != 26) = true := bne_iff_ne.mpr c12
             by_cases c13 : q104 = 27
             ·rw [if_pos c13] at H
              have c13b0 : (q104 == 27) = true := beq_iff_eq.mpr c13
              have c13b1 : (q104 != 27) = false := bne_eq_false_iff_eq.mpr c13
              clear c13
              obtain rfl := Option.some.inj H
              go_enter Try.func40, Try.ntmps40
              go_wp2
              go_ret
              exact ⟨by first | rfl | (simp; done) | (simp [*]; done), by repeat (first | exact Drawn0.refl _ | apply Drawn0.step)⟩
             ·rw [if_neg c13] at H
              have c13b0 : (q104 == 27) = false := beq_eq_false_iff_ne.mpr c13
              have c13b1 : (q104 != 27) = true := bne_iff_ne.mpr c13
              by_cases c14 : q104 = 28
              ·rw [if_pos c14] at H
               have c14b0 : (q104 == 28) = true := beq_iff_eq.mpr c14
               have c14b1 : (q104 != 28) = false := bne_eq_false_iff_eq.mpr c14
               clear c14
               obtain rfl := Option.some.inj H
               go_enter Try.func40, Try.ntmps40
               go_wp2
               go_ret
               exact ⟨by first | rfl | (simp; done) | (simp [*]; done), by repeat (first | exact Drawn0.refl _ | apply Drawn0.step)⟩
              ·rw [if_neg c14] at H
               have c14b0 : (q104 == 28) = false := beq_eq_false_iff_ne.mpr c14
               have c14b1 : (q104 != 28) = true := bne_iff_ne.mpr c14
               by_cases c15 : q104 = 29
               ·rw [if_pos c15] at H
                have c15b0 : (q104 == 29) = true := beq_iff_eq.mpr c15
                have c15b1 : (q104 != 29) = false := bne_eq_false_iff_eq.mpr c15
                clear c15
                obtain rfl := Option.some.inj H
                go_enter Try.func40, Try.ntmps40
                go_wp2
                go_ret
                exact ⟨by first | rfl | (simp; done) | (simp [*]; done), by repeat (first | exact Drawn0.refl _ | apply Drawn0.step)⟩
               ·rw [if_neg c15] at H
                have c15b0 : (q104 == 29) = false := beq_eq_false_iff_ne.mpr c15
                have c15b1 : (q104 != 29) = true := bne_iff_ne.mpr c15
                by_cases c16 : q104 = 30
                ·rw [if_pos c16] at H
                 have c16b0 : (q104 == 30) = true := beq_iff_eq.mpr c16
                 have c16b1 : (q104 != 30) = false := bne_eq_false_iff_eq.mpr c16
                 clear c16
                 obtain rfl := Option.some.inj H
                 go_enter Try.func40, Try.ntmps40
                 go_wp2
                 go_ret
                 exact ⟨by first | rfl | (simp; done) | (simp [*]; done), by repeat (first | exact Drawn0.refl _ | apply Drawn0.step)⟩
                ·rw [if_neg c16] at H
                 have c16b0 : (q104 == 30) = false := beq_eq_false_iff_ne.mpr c16
                 have c16b1 : (q104 != 30) = true := bne_iff_ne.mpr c16
                 obtain rfl := Option.some.inj H
                 go_enter Try.func40, Try.ntmps40
                 go_wp2
                 go_ret
                 exact ⟨by first | rfl | (simp; done) | (simp [*]; done), by repeat (first | exact Drawn0.refl _ | apply Drawn0.step)⟩

/-! ### shacklelaw00_Code: function 16 -/
def shacklelaw00_Code.f (a0 : Option Int) : Option (Int) := if a0.isNone = true then (some 0) else (if (a0.getD 0) = 1 then (some 1) else (if (a0.getD 0) = 2 then (some 2) else (if (a0.getD 0) = 3 then (some 3) else (if (a0.getD 0) = 4 then (some 4) else (if (a0.getD 0) = 5 then (some 5) else (if (a0.getD 0) = 6 then (some 6) else (if (a0.getD 0) = 7 then (some 7) else (if (a0.getD 0) = 8 then (some 8) else (if (a0.getD 0) = 9 then (some 9) else (if (a0.getD 0) = 10 then (some 10) else (if (a0.getD 0) = 11 then (some 11) else (if (a0.getD 0) = 12 then (some 12) else (if (a0.getD 0) = 13 then (some 13) else (if (a0.getD 0) = 14 then (some 14) else (if (a0.getD 0) = 15 then (some 15) else ((shacklelaw00_further.f (some (a0.getD 0))).bind fun t106 => (some t106)))))))))))))))))
set_option maxHeartbeats 8000000 in
set_option maxRecDepth 100000 in
theorem shacklelaw00_Code.calls (a0 : Option Int) (r : Int) (w : World) (h : shacklelaw00_Code.f a0 = some r) :
  Calls Try.prog 16 #[errW a0] w fun e w' => e = .returned (.int .i64 r) ∧ Drawn0 w w' := by
 have hu26 := Try.underlying26
 have hu35 := Try.underlying35
 have H : (if a0.isNone = true then (some 0) else (if (a0.getD 0) = 1 then (some 1) else (if (a0.getD 0) = 2 then (some 2) else (if (a0.getD 0) = 3 then (some 3) else (if (a0.getD 0) = 4 then (some 4) else (if (a0.getD 0) = 5 then (some 5) else (if (a0.getD 0) = 6 then (some 6) else (if (a0.getD 0) = 7 then (some 7) else (if (a0.getD 0) = 8 then (some 8) else (if (a0.getD 0) = 9 then (some 9) else (if (a0.getD 0) = 10 then (some 10) else (if (a0.getD 0) = 11 then (some 11) else (if (a0.getD 0) = 12 then (some 12) else (if (a0.getD 0) = 13 then (some 13) else (if (a0.getD 0) = 14 then (some 14) else (if (a0.getD 0) = 15 then (some 15) else ((shacklelaw00_further.f (some (a0.getD 0))).bind fun t106 => (some t106)))))))))))))))))) = some r := h
 clear h
 rcases a0 with _ | q105
 ·have H1 : (some 0) = some r := by rw [if_pos (show (none : Option Int).isNone = true by rfl)] at H; exact H
  clear H
  have H := H1
  clear H1
  simp only [errW_none, errW_some]
  obtain rfl := Option.some.inj H
  go_enter Try.func16, Try.ntmps16
  go_wp2
  go_ret
  exact ⟨by first | rfl | (simp; done) | (simp [*]; done), by repeat (first | exact Drawn0.refl _ | apply Drawn0.step)⟩
 ·have H1 : (if q105 = 1 then (some 1) else (if q105 = 2 then (some 2) else (if q105 = 3 then (some 3) else (if q105 = 4 then (some 4) else (if q105 = 5 then (some 5) else (if q105 = 6 then (some 6) else (if q105 = 7 then (some 7) else (if q105 = 8 then (some 8) else (if q105 = 9 then (some 9) else (if q105 = 10 then (some 10) else (if q105 = 11 then (some 11) else (if q105 = 12 then (some 12) else (if q105 = 13 then (some 13) else (if q105 = 14 then (some 14) else (if q105 = 15 then (some 15) else ((shacklelaw00_further.f (some q105)).bind fun t106 => (some t106))))))))))))))))) = some r := by rw [if_neg (show ¬ (some q105).isNone = true by simp)] at H; exact H
  clear H
  have H := H1
  clear H1
  simp only [errW_none, errW_some]
  by_cases c2 : q105 = 1
  ·rw [if_pos c2] at H
   have c2b0 : (q105 == 1) = true := beq_iff_eq.mpr c2
   have c2b1 : (q105 != 1) = false := bne_eq_false_iff_eq.mpr c2
   clear c2
   obtain rfl := Option.some.inj H
   go_enter Try.func16, Try.ntmps16
   go_wp2
   go_ret
   exact ⟨by first | rfl | (simp; done) | (simp [*]; done), by repeat (first | exact Drawn0.refl _ | apply Drawn0.step)⟩
  ·rw [if_neg c2] at H
   have c2b0 : (q105 == 1) = false := beq_eq_false_iff_ne.mpr c2
   have c2b1 : (q105 != 1) = true := bne_iff_ne.mpr c2
   by_cases c3 : q105 = 2
   ·rw [if_pos c3] at H
    have c3b0 : (q105 == 2) = true := beq_iff_eq.mpr c3
    have c3b1 : (q105 != 2) = false := bne_eq_false_iff_eq.mpr c3
    clear c3
    obtain rfl := Option.some.inj H
    go_enter Try.func16, Try.ntmps16
    go_wp2
    go_ret
    exact ⟨by first | rfl | (simp; done) | (simp [*]; done), by repeat (first | exact Drawn0.refl _ | apply Drawn0.step)⟩
   ·rw [if_neg c3] at H
    have c3b0 : (q105 == 2) = false := beq_eq_false_iff_ne.mpr c3
    have c3b1 : (q105 != 2) = true := bne_iff_ne.mpr c3
    by_cases c4 : q105 = 3
    ·rw [if_pos c4] at H
     have c4b0 : (q105 == 3) = true := beq_iff_eq.mpr c4
     have c4b1 : (q105 != 3) = false := bne_eq_false_iff_eq.mpr c4
     clear c4
     obtain rfl := Option.some.inj H
     go_enter Try.func16, Try.ntmps16
     go_wp2
     go_ret
     exact ⟨by first | rfl | (simp; done) | (simp [*]; done), by repeat (first | exact Drawn0.refl _ | apply Drawn0.step)⟩
    ·rw [if_neg c4] at H
     have c4b0 : (q105 == 3) = false := beq_eq_false_iff_ne.mpr c4
     have c4b1 : (q105 != 3) = true := bne_iff_ne.mpr c4
     by_cases c5 : q105 = 4
     ·rw [if_pos c5] at H
      have c5b0 : (q105 == 4) = true := beq_iff_eq.mpr c5
      have c5b1 : (q105 != 4) = false := bne_eq_false_iff_eq.mpr c5
      clear c5
      obtain rfl := Option.some.inj H
      go_enter Try.func16, Try.ntmps16
      go_wp2
      go_ret
      exact ⟨by first | rfl | (simp; done) | (simp [*]; done), by repeat (first | exact Drawn0.refl _ | apply Drawn0.step)⟩
     ·rw [if_neg c5] at H
      have c5b0 : (q105 == 4) = false := beq_eq_false_iff_ne.mpr c5
      have c5b1 : (q105 != 4) = true := bne_iff_ne.mpr c5
      by_cases c6 : q105 = 5
      ·rw [if_pos c6] at H
       have c6b0 : (q105 == 5) = true := beq_iff_eq.mpr c6
       have c6b1 : (q105 != 5) = false := bne_eq_false_iff_eq.mpr c6
       clear c6
       obtain rfl := Option.some.inj H
       go_enter Try.func16, Try.ntmps16
       go_wp2
       go_ret
       exact ⟨by first | rfl | (simp; done) | (simp [*]; done), by repeat (first | exact Drawn0.refl _ | apply Drawn0.step)⟩
      ·rw [if_neg c6] at H
       have c6b0 : (q105 == 5) = false := beq_eq_false_iff_ne.mpr c6
       have c6b1 : (q105 != 5) = true := bne_iff_ne.mpr c6
       by_cases c7 : q105 = 6
       ·rw [if_pos c7] at H
        have c7b0 : (q105 == 6) = true := beq_iff_eq.mpr c7
        have c7b1 : (q105 != 6) = false := bne_eq_false_iff_eq.mpr c7
        clear c7
        obtain rfl := Option.some.inj H
        go_enter Try.func16, Try.ntmps16
        go_wp2
        go_ret
        exact ⟨by first | rfl | (simp; done) | (simp [*]; done), by repeat (first | exact Drawn0.refl _ | apply Drawn0.step)⟩
       ·rw [if_neg c7] at H
        have c7b0 : (q105 == 6) = false := beq_eq_false_iff_ne.mpr c7
        have c7b1 : (q105 != 6) = true := bne_iff_ne.mpr c7
        by_cases c8 : q105 = 7
        ·rw [if_pos c8] at H
         have c8b0 : (q105 == 7) = true := beq_iff_eq.mpr c8
         have c8b1 : (q105 != 7) = false := bne_eq_false_iff_eq.mpr c8
         clear c8
         obtain rfl := Option.some.inj H
         go_enter Try.func16, Try.ntmps16
         go_wp2
         go_ret
         exact ⟨by first | rfl | (simp; done) | (simp [*]; done), by repeat (first | exact Drawn0.refl _ | apply Drawn0.step)⟩
        ·rw [if_neg c8] at H
         have c8b0 : (q105 == 7) = false := beq_eq_false_iff_ne.mpr c8
         have c8b1 : (q105 != 7) = true := bne_iff_ne.mpr c8
         by_cases c9 : q105 = 8
         ·rw [if_pos c9] at H
          have c9b0 : (q105 == 8) = true := beq_iff_eq.mpr c9
          have c9b1 : (q105 != 8) = false := bne_eq_false_iff_eq.mpr c9
          clear c9
          obtain rfl := Option.some.inj H
          go_enter Try.func16, Try.ntmps16
          go_wp2
          go_ret
          exact ⟨by first | rfl | (simp; done) | (simp [*]; done), by repeat (first | exact Drawn0.refl _ | apply Drawn0.step)⟩
         ·rw [if_neg c9] at H
          have c9b0 : (q105 == 8) = false := beq_eq_false_iff_ne.mpr c9
          have c9b1 : (q105 != 8) = true := bne_iff_ne.mpr c9
          by_cases c10 : q105 = 9
          ·rw [if_pos c10] at H
           have c10b0 : (q105 == 9) = true := beq_iff_eq.mpr c10
           have c10b1 : (q105 != 9) = false := bne_eq_false_iff_eq.mpr c10
           clear c10
           obtain rfl := Option.some.inj H
           go_enter Try.func16, Try.ntmps16
           go_wp2
           go_ret
           exact ⟨by first | rfl | (simp; done) | (simp [*]; done), by repeat (first | exact Drawn0.refl _ | apply Drawn0.step)⟩
          ·rw [if_neg c10] at H
           have c10b0 : (q105 == 9) = false := beq_eq_false_iff_ne.mpr c10
           have c10b1 : (q105 != 9) = true := bne_iff_ne.mpr c10
           by_cases c11 : q105 = 10
           ·rw [if_pos c11] at H
            have c11b0 : (q105 == 10) = true := beq_iff_eq.mpr c11
            have c11b1 : (q105 != 10) = false := bne_eq_false_iff_eq.mpr c11
            clear c11
            obtain rfl := Option.some.inj H
            go_enter Try.func16, Try.ntmps16
            go_wp2
            go_ret
            exact ⟨by first | rfl | (simp; done) | (simp [*]; done), by repeat (first | exact Drawn0.refl _ | apply Drawn0.step)⟩
           ·rw [if_neg c11] at H
            have c11b0 : (q105 == 10) = false := beq_eq_false_iff_ne.mpr c11
            have c11b1 : (q105 != 10) = true := bne_iff_ne.mpr c11
            by_cases c12 : q105 = 11
            ·rw [if_pos c12] at H
             have c12b0 : (q105 == 11) = true := beq_iff_eq.mpr c12
             have c12b1 : (q105 != 11) = false := bne_eq_false_iff_eq.mpr c12
             clear c12
             obtain rfl := Option.some.inj H
             go_enter Try.func16, Try.ntmps16
             go_wp2
             go_ret
             exact ⟨by first | rfl | (simp; done) | (simp [*]; done), by repeat (first | exact Drawn0.refl _ | apply Drawn0.step)⟩
            ·rw [if_neg c12] at H
             have c12b0 : (q105 == 11) = false := beq_eq_false_iff_ne.mpr c12
             have c12b1 : (q105 != 11) = true := bne_iff_ne.mpr c12
             by_cases c13 : q105 = 12
             ·rw [if_pos c13] at H
              have c13b0 : (q105 == 12) = true := beq_iff_eq.mpr c13
              have c13b1 : (q105 != 12) = false := bne_eq_false_iff_eq.mpr c13
              clear c13
              obtain rfl := Option.some.inj H
              go_enter Try.func16, Try.ntmps16
              go_wp2
              go_ret
              exact ⟨by first | rfl | (simp; done) | (simp [*]; done), by repeat (first | exact Drawn0.refl _ | apply Drawn0.step)⟩
             ·rw [if_neg c13] at H
              have c13b0 : (q105 == 12) = false := beq_eq_false_iff_ne.mpr c13
              have c13b1 : (q105 != 12) = true := bne_iff_ne.mpr c13
              by_cases c14 : q105 = 13
              ·rw [if_pos c14] at H
               have c14b0 : (q105 == 13) = true := beq_iff_eq.mpr c14
               have c14b1 : (q105 != 13) = false := bne_eq_false_iff_eq.mpr c14
               clear c14
               obtain rfl := Option.some.inj H
               go_enter Try.func16, Try.ntmps16
               go_wp2
               go_ret
               exact ⟨by first | rfl | (simp; done) | (simp [*]; done), by repeat (first | exact Drawn0.refl _ | apply Drawn0.step)⟩
              ·rw [if_neg c14] at H
               have c14b0 : (q105 == 13) = false := beq_eq_false_iff_ne.mpr c14
               have c14b1 : (q105 != 13) = true := bne_iff_ne.mpr c14
               by_cases c15 : q105 = 14
               ·rw [if_pos c15] at H
                have c15b0 : (q105 == 14) = true := beq_iff_eq.mpr c15
                have c15b1 : (q105 != 14) = false := bne_eq_false_iff_eq.mpr c15
                clear c15
                obtain rfl := Option.some.inj H
                go_enter Try.func16, Try.ntmps16
                go_wp2
                go_ret
                exact ⟨by first | rfl | (simp; done) | (simp [*]; done), by repeat (first | exact Drawn0.refl _ | apply Drawn0.step)⟩
               ·rw [if_neg c15] at H
                have c15b0 : (q105 == 14) = false := beq_eq_false_iff_ne.mpr c15
                have c15b1 : (q105 != 14) = true := bne_iff_ne.mpr c15
                by_cases c16 : q105 = 15
                ·rw [if_pos c16] at H
                 have c16b0 : (q105 == 15) = true := beq_iff_eq.mpr c16
                 have c16b1 : (q105 != 15) = false := bne_eq_false_iff_eq.mpr c16
                 clear c16
                 obtain rfl := Option.some.inj H
                 go_enter Try.func16, Try.ntmps16
                 go_wp2
                 go_ret
                 exact ⟨by first | rfl | (simp; done) | (simp [*]; done), by repeat (first | exact Drawn0.refl _ | apply Drawn0.step)⟩
                ·rw [if_neg c16] at H
                 have c16b0 : (q105 == 15) = false := beq_eq_false_iff_ne.mpr c16
                 have c16b1 : (q105 != 15) = true := bne_iff_ne.mpr c16
                 replace H := Option.bind_eq_some_iff.mp H
                 obtain ⟨t106, A170, H⟩ := H
                 replace H : (some t106) = some r := H
                 have A17 := Aside0.mk A170
                 clear A170
                 obtain rfl := Option.some.inj H
                 have CA17 := fun W => shacklelaw00_further.calls (some q105) t106 W A17.out
                 try simp only [errW_none, errW_some] at CA17
                 go_enter Try.func16, Try.ntmps16
                 go_wp2_with (first | (go_at_call 40; (with_reducible refine (CA17 _).mono ?_); rintro e w' ⟨rfl, ⟨nd, rfl⟩⟩))
                 go_ret
                 exact ⟨by first | rfl | (simp; done) | (simp [*]; done), by repeat (first | exact Drawn0.refl _ | apply Drawn0.step)⟩

end Go.Proofs.Ytlohkhadbkahdaa.QSyms
