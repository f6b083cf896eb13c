/- The closure of graph.Scope, walked. -/
import Derived.Test.YtlohkhadbkahdaaGraphLay
namespace Go.Proofs.Ytlohkhadbkahdaa.GraphS
open Go Go.RowKit Go.Proofs.YtlohkhadbkahdaaW.PrintWords Go.Proofs.YtlohkhadbkahdaaW.PrintLast Go.Proofs.YtlohkhadbkahdaaW.PrintMore
set_option linter.unusedVariables false
set_option linter.unusedSimpArgs false

set_option maxHeartbeats 8000000 in
set_option maxRecDepth 100000 in
theorem lay_calls (w0 w : World) (bd bh bo : Nat) (A0 : Option Addr) (c0 N : Nat) (vh vo : Value) (had : List Bool) (out : List Int) (A1 : Option Addr) (c1 : Nat) (l : List Int)
    (hP : Parts w0 bd bh bo (.slice A0 N c0) vh vo had out w) (hr1 : Kd.C (Kd.int .i64) w0 A1 l.length l) (hn : had.length = N) (hN : N ≤ 2199023255552) (hc : out.length = had.count true) :
    Calls Try.prog 41 #[.slice A1 l.length c1, .pointer (some ⟨bd, 0, none⟩), .pointer (some ⟨bh, 0, none⟩), .pointer (some ⟨bo, 0, none⟩)] w fun e w' =>
      e = .returned (.tuple #[]) ∧ ∃ vo', Parts w0 bd bh bo (.slice A0 N c0) vh vo' (layF N l had out).1 (layF N l had out).2 w' := by
  have hln := hr1.2.1
  have HR := Aside0.mk hr1
  have HP := Aside0.mk hP
  have HN := Aside0.mk hn
  have HC := Aside0.mk hc
  have HNN := Aside0.mk hN
  clear hr1 hP hn hc hN
  go_enter Try.func41, Try.ntmps41
  go_wp2
  go_loopg [9] l.length (fun kq v9 w' => ∃ (i : Int) (had' : List Bool) (out' : List Int) (vo' : Value), v9 = .int .i64 i ∧ Aside0 (0 ≤ i ∧ i ≤ l.length ∧ kq = l.length - i.toNat) ∧ Aside0 (layF N (l.drop i.toNat) had' out' = layF N l had out) ∧ Aside0 (had'.length = N ∧ out'.length = had'.count true) ∧ Aside0 (Parts w0 bd bh bo (.slice A0 N c0) vh vo' had' out' w'))
  case atStart => exact ⟨0, had, out, vo, (by first | rfl | (simp; done)), ⟨by omega, by omega, by simp⟩, ⟨rfl⟩, ⟨HN.out, HC.out⟩, HP⟩
  case round =>
    clear HP HN HC
    obtain ⟨i, had', out', vo', rfl, HI, HL, HC, HP⟩ := hrel
    have p1 := HI.out.1
    by_cases c4 : i < (l.length : Int)
    · have q1 := c4
      have hw : wrap64 (i + 1) = i + 1 := by unfold wrap64; have := HI.out.1; omega
      have HW := Aside0.mk hw
      clear hw
      have HI2 : Aside0 (0 ≤ i + 1 ∧ i + 1 ≤ l.length ∧ l.length - (i + 1).toNat = l.length - i.toNat - 1 ∧ l.length - i.toNat - 1 < gk) := ⟨by have := HI.out; omega⟩
      have c4b0 : decide (i < (l.length : Int)) = true := decide_eq_true c4
      obtain ⟨ad, e153, hx⟩ := Kd.at_int (Kd.C_below HR.out HP.out.hB) i p1 q1
      cases e153
      have HH := Aside0.mk (layF_hit (n := N) (had := had') (out := out') p1 q1)
      have HM := Aside0.mk (layF_miss (n := N) (had := had') (out := out') p1 q1)
      obtain ⟨x, hxx⟩ : ∃ x, x = rd l i := ⟨_, rfl⟩
      rw [← hxx] at hx HH HM
      clear hxx c4
      replace p1 := eq_true p1
      replace q1 := eq_true q1
      have cd := cell_of_one HP.out.d
      have ch := cell_of_one HP.out.h
      have co := cell_of_one HP.out.o
      by_cases hin : 0 ≤ x ∧ x < (N : Int)
      · obtain ⟨px, qx⟩ := hin
        have IN := Aside0.mk (fun W => in_yes x N W px qx)
        have qh : x < (had'.length : Int) := by rw [HC.out.1]; exact qx
        obtain ⟨go, cap, eo, gb, gl, hG⟩ := Kd.R_form HP.out.rh (by omega)
        subst eo
        have GB := Aside0.mk gb
        have GG := Aside0.mk hG
        clear gb gl hG
        obtain ⟨hx0, hf0⟩ := Kd.R_celln false HP.out.rh x px qh
        by_cases hv : rdOf false had' x = false
        · have HH2 := Aside0.mk (HH.out px qx hv)
          have HC2 := Aside0.mk (And.intro (show (had'.set x.toNat true).length = N by rw [List.length_set]; exact HC.out.1) (show (out' ++ [x]).length = (had'.set x.toNat true).count true by rw [count_set px qh hv, List.length_append, HC.out.2]; rfl))
          have HO := Aside0.mk (show (out'.length + 1) * 8 ≤ 140737488355328 by have h1 := HC.out; have h2 := HNN.out; have h3 : had'.count true ≤ had'.length := List.count_le_length; omega)
          rw [hv] at hx0
          clear HH HM hv
          have qhb : decide (x < (had'.length : Int)) = true := decide_eq_true qh
          have pxb : decide (0 ≤ x) = true := decide_eq_true px
          replace px := eq_true px
          replace qx := eq_true qx
          replace qh := eq_true qh
          go_wp2_with (first
            | (go_at_call 42; (with_reducible refine (IN.out _).mono ?_); rintro e w' ⟨rfl, rfl⟩)
            | ((with_reducible refine gate_store (t := 4) (p := 26) rfl ?_); refine store_event (t := 4) (p := 26) (v := ?vo_w21) (w1 := (w'.setCell ⟨go, x.toNat, none⟩ (.bool true))) ?hg ?ho ?hn ?hr ?_; (case ho => rfl); (case hg => rfl); (case hn => rfl); (case hr => first | (go_simp; done) | (go_simp; rfl)); intro w21 hw; have HP2 := Aside0.mk (Parts.put (x := x) HP.out GB.out GG.out); rw [← hw] at HP2; have cd := cell_of_one HP2.out.d; have ch := cell_of_one HP2.out.h; have co := cell_of_one HP2.out.o; clear hw HP)
            | ((with_reducible refine gate_builtin (b := .append) (xs := #[.tmp 27, .tmp 29]) rfl ?_); at_builtin; refine Kd.R_append (Kd.int .i64) (w0 := w0) w0.heap.size rfl (.tmp 27) (.tmp 29) 42 3 (.int .i64 0) 8 rfl Try.underlying42 info3 rfl (by decide) (by omega) vo' out' x [.int .i64 x] (fun _ => True) (fun _ => False) rfl rfl ?aP (fun _ hk => hk.elim) ?aF ?aO ?aB ?aS ?aL ?_; (case aP => exact rfl); (case aB => exact HP2.out.hB); (case aF => exact (fun _ _ => trivial)); (case aO => exact HP2.out.ro); (case aS => exact below_size HP2.out.hB); (case aL => have := HO.out; omega); intro v115 w35 ho hb hg hat; obtain ⟨A115, c115, e115⟩ := Kd.R_slice ho; subst e115; have HA := Parts.app HP2.out hb ho hg; have co := cell_of_one HA.1; have fo := free_of_one HA.1; have HP3 := Aside0.mk HA.2; rw [show (out' ++ [x]).length = out'.length + 1 from by simp] at HP3; clear HA ho hb hg hat HP2))
          go_roundg (l.length - i.toNat - 1)
          case measure => have := HI2.out; omega
          case rel => exact ⟨_, _, _, _, rfl, ⟨by rw [HW.out]; have := HI2.out; omega⟩, ⟨by rw [HW.out, ← HH2.out]; exact HL.out⟩, HC2, HP3⟩
        · have hv2 : rdOf false had' x = true := by simpa using hv
          have HM2 := Aside0.mk (HM.out (fun h => hv h.2.2))
          rw [hv2] at hx0
          clear HH HM hv hv2
          have qhb : decide (x < (had'.length : Int)) = true := decide_eq_true qh
          have pxb : decide (0 ≤ x) = true := decide_eq_true px
          replace px := eq_true px
          replace qx := eq_true qx
          replace qh := eq_true qh
          go_wp2_with (go_at_call 42; (with_reducible refine (IN.out _).mono ?_); rintro e w' ⟨rfl, rfl⟩)
          go_roundg (l.length - i.toNat - 1)
          case measure => have := HI2.out; omega
          case rel => exact ⟨_, had', out', vo', rfl, ⟨by rw [HW.out]; have := HI2.out; omega⟩, ⟨by rw [HW.out, ← HM2.out]; exact HL.out⟩, HC, HP⟩
      · have IN := Aside0.mk (fun W => in_no x N W hin)
        have HM2 := Aside0.mk (HM.out (fun h => hin ⟨h.1, h.2.1⟩))
        clear hin HH HM
        go_wp2_with (go_at_call 42; (with_reducible refine (IN.out _).mono ?_); rintro e w' ⟨rfl, rfl⟩)
        go_roundg (l.length - i.toNat - 1)
        case measure => have := HI2.out; omega
        case rel => exact ⟨_, had', out', vo', rfl, ⟨by rw [HW.out]; have := HI2.out; omega⟩, ⟨by rw [HW.out, ← HM2.out]; exact HL.out⟩, HC, HP⟩
    · have c4b0 : decide (i < (l.length : Int)) = false := decide_eq_false c4
      have hi : l.drop i.toNat = [] := List.drop_eq_nil_of_le (by have := HI.out; omega)
      have HL2 := Aside0.mk (by have h := HL.out; rw [hi] at h; exact h : (had', out') = layF N l had out)
      clear c4 hi HL
      have cd := cell_of_one HP.out.d
      go_wp2
      go_end0
      exact ⟨rfl, vo', by rw [← HL2.out]; exact HP.out⟩
end Go.Proofs.Ytlohkhadbkahdaa.GraphS
