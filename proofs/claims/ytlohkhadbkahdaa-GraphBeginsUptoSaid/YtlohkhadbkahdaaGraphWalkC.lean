/- The reference's walk, walked: by induction on its depth. -/
import Derived.Test.YtlohkhadbkahdaaGraphWalk
namespace Go.Proofs.Ytlohkhadbkahdaa.GraphS
open Go Go.RowKit Go.Proofs.YtlohkhadbkahdaaW.PrintWords Go.Proofs.YtlohkhadbkahdaaW.PrintLast Go.Proofs.YtlohkhadbkahdaaW.PrintMore
set_option linter.unusedVariables false
set_option linter.unusedSimpArgs false
def WalkSays (w0 : World) (b : Nat) (A0 : Option Addr) (c0 : Nat) (deps : List (List Int)) (vh : Value) (k : Nat) : Prop :=
  ∀ (x : Int) (had had2 : List Bool) (out out2 : List Int) (vo : Value) (w : World), PartsW w0 b (.slice A0 deps.length c0) vh vo had out w → had.length = deps.length → out.length ≤ had.count true → walkO deps k x (had, out) = some (had2, out2) →
    Calls Try.prog 44 #[.pointer (some ⟨b, 0, none⟩), .int .i64 x] w fun e w' => e = .returned (.tuple #[]) ∧ ∃ vo', PartsW w0 b (.slice A0 deps.length c0) vh vo' had2 out2 w'
set_option maxHeartbeats 8000000 in
set_option maxRecDepth 100000 in
theorem walk_calls (w0 : World) (b : Nat) (A0 : Option Addr) (c0 : Nat) (deps : List (List Int)) (vh : Value) (hr0 : Kd.C (Kd.slice 3 (Kd.int .i64)) w0 A0 deps.length deps) (hN : deps.length ≤ 2199023255552) : ∀ k, WalkSays w0 b A0 c0 deps vh k := by
  intro k
  induction k with
  | zero => intro x had had2 out out2 vo w _ _ _ h; cases h
  | succ k ih =>
  unfold WalkSays at ih
  have IH := Aside0.mk ih
  clear ih
  have HR0 := Aside0.mk hr0
  have HNN := Aside0.mk hN
  clear hr0 hN
  intro x had had2 out out2 vo w hP hl hc h
  have HE := Aside0.mk (walkO_even _ _ _ _ _ h hl)
  have HL := Aside0.mk hl
  have HC := Aside0.mk hc
  have HP := Aside0.mk hP
  clear hl hc hP
  unfold walkO at h
  obtain ⟨cD, cH, cO, fO⟩ := HP.out.cells
  by_cases hin : 0 ≤ x ∧ x < (deps.length : Int)
  · obtain ⟨px, qx⟩ := hin
    have qh : x < (had.length : Int) := by rw [HL.out]; exact qx
    obtain ⟨go, cap, eo, gb, gl, hG⟩ := Kd.R_form HP.out.rh (by omega)
    subst eo
    have GB := Aside0.mk gb
    have GG := Aside0.mk hG
    clear gb gl hG
    obtain ⟨hx0, hf0⟩ := Kd.R_celln false HP.out.rh x px qh
    have t1 : decide (x < 0) = false := decide_eq_false (by omega)
    have t2 : decide ((deps.length : Int) ≤ x) = false := decide_eq_false (by omega)
    by_cases hv : rdOf false had x = false
    · rw [if_pos ⟨px, qx, hv⟩] at h
      obtain ⟨u, hu, h2⟩ := Option.bind_eq_some_iff.1 h
      obtain ⟨had3, out3⟩ := u
      have he := Option.some.inj h2
      clear h2
      have HU := Aside0.mk hu
      have HF := Aside0.mk he
      have HCS := Aside0.mk (count_set px qh hv)
      clear h hu he
      rw [hv] at hx0
      have qhb : decide (x < (had.length : Int)) = true := decide_eq_true qh
      have pxb : decide (0 ≤ x) = true := decide_eq_true px
      have HPX := Aside0.mk (And.intro px qx)
      clear hv
      obtain ⟨ad2, A2, c2, e2, hx2, hle2, hC2⟩ := at_row HR0.out x px qx
      subst e2
      have HX2 := Aside0.mk hx2
      obtain ⟨row, hrow⟩ : ∃ row, row = deps.getD x.toNat [] := ⟨_, rfl⟩
      rw [← hrow] at hC2 HX2 HU
      clear hrow hx2
      have HC2 := Aside0.mk hC2
      have hrl := hC2.2.1
      clear hC2 hle2
      replace px := eq_true px
      replace qx := eq_true qx
      replace qh := eq_true qh
      go_enter Try.func44, Try.ntmps44
      go_wp2_with (first
        | ((with_reducible refine gate_store (t := 4) (p := 30) rfl ?_); refine store_event (t := 4) (p := 30) (v := ?vo_w21) (w1 := (w.setCell ⟨go, x.toNat, none⟩ (.bool true))) ?hg ?ho ?hn ?hr ?_; (case ho => rfl); (case hg => rfl); (case hn => rfl); (case hr => first | (go_simp; done) | (go_simp; rfl)); intro w21 hw; have HP2 := Aside0.mk (PartsW.put (x := x) HP.out GB.out GG.out); rw [← hw] at HP2; clear hw HP cD cH cO fO hx0 hf0))
      go_loopg [4] row.length (fun kq v4 w' => ∃ (i : Int) (had1 : List Bool) (out1 : List Int) (vo1 : Value), v4 = .int .i64 i ∧ Aside0 (0 ≤ i ∧ i ≤ row.length ∧ kq = row.length - i.toNat) ∧ Aside0 (walkL (walkO deps k) (row.drop i.toNat) (had1, out1) = some (had3, out3)) ∧ Aside0 (had1.length = deps.length ∧ out1.length + 1 ≤ had1.count true) ∧ Aside0 (PartsW w0 b (.slice (some ad2) deps.length c0) (.slice (some ⟨go, 0, none⟩) had.length cap) vo1 had1 out1 w'))
      case atStart => exact ⟨0, _, _, vo, rfl, ⟨by simp⟩, HU, ⟨by rw [List.length_set]; exact HL.out, by have := HCS.out; have := HC.out; omega⟩, HP2⟩
      case round =>
        clear HP2 HU HCS HL HC
        obtain ⟨i, had1, out1, vo1, rfl, HI, HU, HC, HP⟩ := hrel
        obtain ⟨cD, cH, cO, fO⟩ := HP.out.cells
        have cx := HP.out.hB.cell (World.block_lt_of_cell? w0 _ HX2.out)
        rw [HX2.out] at cx
        have p1 := HI.out.1
        by_cases c4 : i < (row.length : Int)
        · have q1 := c4
          have hw : wrap64 (i + 1) = i + 1 := by unfold wrap64; have := HI.out.1; omega
          have HW := Aside0.mk hw
          clear hw
          have c4b0 : decide (i < (row.length : Int)) = true := decide_eq_true c4
          have HI2 : Aside0 (0 ≤ i + 1 ∧ i + 1 ≤ row.length ∧ row.length - (i + 1).toNat = row.length - i.toNat - 1 ∧ row.length - i.toNat - 1 < gk) := ⟨by have := HI.out; omega⟩
          have hu := HU.out
          rw [drop_rd p1 q1] at hu
          obtain ⟨u, hu1, hu2⟩ := Option.bind_eq_some_iff.1 hu
          obtain ⟨had4, out4⟩ := u
          obtain ⟨ad, e153, hx⟩ := Kd.at_int (Kd.C_below HC2.out HP.out.hB) i p1 q1
          subst e153
          obtain ⟨y, hy⟩ : ∃ y, y = rd row i := ⟨_, rfl⟩
          rw [← hy] at hx hu1
          have HE4 := Aside0.mk (walkO_even _ _ _ _ _ hu1 HC.out.1)
          have HU1 := Aside0.mk hu1
          have HU2 := Aside0.mk hu2
          have HC4 := Aside0.mk (show had4.length = deps.length ∧ out4.length + 1 ≤ had4.count true by have h1 := HE4.out; have h2 := HC.out; simp only at h1; exact ⟨h1.1, by omega⟩)
          clear hu hu1 hu2 hy c4 HU HE4
          replace p1 := eq_true p1
          replace q1 := eq_true q1
          go_wp2_with (go_at_call 44; (with_reducible refine (IH.out y had1 had4 out1 out4 vo1 _ HP.out HC.out.1 (by have := HC.out.2; omega) HU1.out).mono ?_); rintro e w' ⟨rfl, vo5, hp5⟩; have HP5 := Aside0.mk hp5; clear hp5 HP)
          go_roundg (row.length - i.toNat - 1)
          case measure => have := HI2.out; omega
          case rel => exact ⟨_, _, _, vo5, rfl, ⟨by rw [HW.out]; have := HI2.out; omega⟩, ⟨by rw [HW.out]; exact HU2.out⟩, HC4, HP5⟩
        · have c4b0 : decide (i < (row.length : Int)) = false := decide_eq_false c4
          have hi : row.drop i.toNat = [] := List.drop_eq_nil_of_le (by have := HI.out; omega)
          have hu := HU.out
          rw [hi] at hu
          have hu2 := Option.some.inj hu
          injection hu2 with e1 e2
          subst e1
          subst e2
          have HFF := HF.out
          injection HFF with f1 f2
          have HF1 := Aside0.mk f1
          have HF2 := Aside0.mk f2
          have HO := Aside0.mk (show (out1.length + 1) * 8 ≤ 140737488355328 by have h1 := HC.out; have h2 := HNN.out; have h3 : had1.count true ≤ had1.length := List.count_le_length; omega)
          clear c4 hi hu HU HF f1 f2
          go_wp2_with (first
            | ((with_reducible refine gate_builtin (b := .append) (xs := #[.tmp 59, .tmp 61]) rfl ?_); at_builtin; refine Kd.R_append (Kd.int .i64) (w0 := w0) w0.heap.size rfl (.tmp 59) (.tmp 61) 42 3 (.int .i64 0) 8 rfl Try.underlying42 info3 rfl (by decide) (by omega) vo1 out1 x [.int .i64 x] (fun _ => True) (fun _ => False) rfl rfl ?aP (fun _ hk => hk.elim) ?aF ?aO ?aB ?aS ?aL ?_; (case aP => exact rfl); (case aB => exact HP.out.hB); (case aF => exact (fun _ _ => trivial)); (case aO => exact HP.out.ro); (case aS => exact below_size HP.out.hB); (case aL => have := HO.out; omega); intro v115 w35 ho hb hg hat; obtain ⟨A115, c115, e115⟩ := Kd.R_slice ho; subst e115; have HA := PartsW.app HP.out hb ho hg; have co := HA.1.1; have fo := HA.1.2; have HP3 := Aside0.mk HA.2; rw [show (out1 ++ [x]).length = out1.length + 1 from by simp] at HP3; clear HA ho hb hg hat HP cD cH cO fO cx))
          go_end0
          exact ⟨rfl, _, by rw [← HF1.out, ← HF2.out]; exact HP3.out⟩
    · have hv2 : rdOf false had x = true := by simpa using hv
      rw [if_neg (fun hh => hv hh.2.2)] at h
      have he := Option.some.inj h
      injection he with e1 e2
      subst e1
      subst e2
      rw [hv2] at hx0
      clear h hv hv2
      have qhb : decide (x < (had.length : Int)) = true := decide_eq_true qh
      have pxb : decide (0 ≤ x) = true := decide_eq_true px
      replace px := eq_true px
      replace qx := eq_true qx
      replace qh := eq_true qh
      go_enter Try.func44, Try.ntmps44
      go_wp2
      ((try simp only [Exit.inBlock, Exit.then]); refine bodyPost_ret (results_none rfl _ _ _) rfl ?_)
      exact ⟨rfl, _, HP.out⟩
  · rw [if_neg (fun hh => hin ⟨hh.1, hh.2.1⟩)] at h
    have he := Option.some.inj h
    injection he with e1 e2
    subst e1
    subst e2
    clear h
    by_cases px : x < 0
    · have t1 : decide (x < 0) = true := decide_eq_true px
      clear hin
      go_enter Try.func44, Try.ntmps44
      go_wp2
      ((try simp only [Exit.inBlock, Exit.then]); refine bodyPost_ret (results_none rfl _ _ _) rfl ?_)
      exact ⟨rfl, _, HP.out⟩
    · have t1 : decide (x < 0) = false := decide_eq_false px
      have t2 : decide ((deps.length : Int) ≤ x) = true := decide_eq_true (by omega)
      clear hin px
      go_enter Try.func44, Try.ntmps44
      go_wp2
      ((try simp only [Exit.inBlock, Exit.then]); refine bodyPost_ret (results_none rfl _ _ _) rfl ?_)
      exact ⟨rfl, _, HP.out⟩
end Go.Proofs.Ytlohkhadbkahdaa.GraphS
