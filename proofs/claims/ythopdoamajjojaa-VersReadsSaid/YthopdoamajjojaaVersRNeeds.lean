import Derived.Test.YthopdoamajjojaaVersRVersions
namespace Go.Proofs.Ythopdoamajjojaa.VersR
open Go Go.RowKit Go.Proofs.Ythopdoamajjojaa.QVers Go.Proofs.Ythopdoamajjojaa.VersSpec Go.Proofs.Ythopdoamajjojaa.VersS Go.Proofs.YthopdoamajjojaaW.PrintWords Go.Proofs.YthopdoamajjojaaW.PrintLast Go.Proofs.YthopdoamajjojaaW.PrintMore
open TextFacts (textS u64_in)
set_option linter.unusedSimpArgs false
set_option linter.unusedVariables false
section
variable {b : List Int} {ps : List S29} {ss : List Int}
theorem versionsS_ne : ∀ (n : Nat) (a y : Int) (T : List Int) (acc : List Ax) (c : Int), versionsS b ps ss n a y T acc = .error c → c ≠ 0
  | 0, _, _, T, acc, c, h => by
    simp only [versionsS] at h
    cases h
  | n + 1, a, y, T, acc, c, h => by
    simp only [versionsS] at h
    split at h
    · injection h with h; omega
    · split at h
      · rename_i h2
        injection h with h; rw [← h]; exact h2
      · split at h
        · injection h with h; omega
        · split at h
          · injection h with h; omega
          · split at h
            · injection h with h; omega
            · exact versionsS_ne n _ _ _ _ c h
theorem needsS_ne : ∀ (n : Nat) (a y : Int) (T : List Int) (acc : List Nd) (c : Int), needsS b ps ss n a y T acc = .error c → c ≠ 0
  | 0, _, _, T, acc, c, h => by
    simp only [needsS] at h
    cases h
  | n + 1, a, y, T, acc, c, h => by
    simp only [needsS] at h
    split at h
    · injection h with h; omega
    · split at h
      · injection h with h; omega
      · split at h
        · injection h with h; omega
        · split at h
          · rename_i h2
            injection h with h; rw [← h]; exact h2
          · split at h
            · rename_i h2
              injection h with h; rw [← h]; exact versionsS_ne _ _ _ _ _ _ h2
            · split at h
              · injection h with h; omega
              · exact needsS_ne n _ _ _ _ c h
theorem needsT_ne {n a : Int} {T : List Int} {c : Int} (h : needsT b ps ss n a T = .error c) : c ≠ 0 := by
  unfold needsT at h
  split at h
  · injection h with h; omega
  · exact needsS_ne _ _ _ _ _ c h
end
theorem rversions_err {w0 w : World} {r : Rc} {vT : Value} {T : List Int} (h : Ref w0 r w vT T) (G : Gd r) (addr by_ n : Int) (ha : 0 ≤ addr ∧ addr ≤ 18446744073709551615) (hb : 0 ≤ by_ ∧ by_ ≤ 18446744073709551615) (hn : 0 ≤ n ∧ n ≤ 64) (hT : T.length ≤ 100000) {c : Int} (hq : versionsS r.b r.ps r.ss n.toNat addr by_ T [] = .error c) :
    Calls Try.prog 67 #[.pointer (some ⟨r.p, 0, none⟩), .int .u64 addr, .int .u64 by_, .int .i64 n] w fun e w' => e = .returned (.tuple #[.slice none 0 0, .int .i64 c]) ∧ Below w0.heap.size w0 w' := by
  have h := rversions_calls h G addr by_ n ha hb hn hT
  rw [hq] at h
  exact h
theorem rversions_ok {w0 w : World} {r : Rc} {vT : Value} {T : List Int} (h : Ref w0 r w vT T) (G : Gd r) (addr by_ n : Int) (ha : 0 ≤ addr ∧ addr ≤ 18446744073709551615) (hb : 0 ≤ by_ ∧ by_ ≤ 18446744073709551615) (hn : 0 ≤ n ∧ n ≤ 64) (hT : T.length ≤ 100000) {l : List Ax × List Int} (hq : versionsS r.b r.ps r.ss n.toNat addr by_ T [] = .ok l) :
    Calls Try.prog 67 #[.pointer (some ⟨r.p, 0, none⟩), .int .u64 addr, .int .u64 by_, .int .i64 n] w fun e w' => ∃ v v', e = .returned (.tuple #[v, .int .i64 0]) ∧ Kd.R kAx 68 w' w.heap.size (okR r.p v') v l.1 ∧ Ref w0 r w' v' l.2 ∧ St w r.p vT w' v' := by
  have h := rversions_calls h G addr by_ n ha hb hn hT
  rw [hq] at h
  exact h
def okN (w : World) (p : Nat) (v : Value) : Nat → Prop := fun k => okR p v k ∧ w.heap.size ≤ k
theorem N_stN {α : Type} {d : Kd α} {e base p : Nat} {w w1 w2 : World} {v v2 u : Value} {xs : List α} (h : Kd.N d e w1 base (okN w p v) u xs) (st : St w1 p v w2 v2) : Kd.N d e w2 base (okN w p v2) u xs :=
  Kd.N_mono (Kd.N_step (Kd.N_bound h) (fun k hk hlt => st.keep k hlt hk.1.1.1 hk.1.1.2)) (fun k hk => ⟨⟨hk.1.1.1, fun e => by
    rcases st.own with e2 | ⟨b, e2, hb⟩
    · rw [e2] at e; exact hk.1.1.2 e
    · rw [e2] at e; injection e with e; have := hk.2; omega⟩, hk.1.2⟩)
theorem R_okN {α : Type} {d : Kd α} {e p : Nat} {w w1 : World} {v u : Value} {xs : List α} (h : Kd.R d e w1 w.heap.size (okR p v) u xs) : Kd.N d e w1 w.heap.size (okN w p v) u xs :=
  Kd.R_N (Kd.R_mono (Kd.R_bound h) (fun k hk => ⟨hk.1, hk.2.1⟩))
def RowsR {α : Type} (d : Kd α) (e0 : Nat) (w0 : World) (r : Rc) (w : World) (vT : Value) (res : Except Int (List α × List Int)) (e : Ending) (w' : World) : Prop :=
  match res with
  | .error c => e = .returned (.tuple #[.slice none 0 0, .int .i64 c]) ∧ Below w0.heap.size w0 w'
  | .ok l => ∃ v v', e = .returned (.tuple #[v, .int .i64 0]) ∧ Kd.N d e0 w' w.heap.size (okN w r.p v') v l.1 ∧ Ref w0 r w' v' l.2 ∧ St w r.p vT w' v'
theorem RowsR.err {α : Type} {d : Kd α} {e0 : Nat} {w0 w w' : World} {r : Rc} {vT : Value} {c : Int} {e : Ending} (he : e = .returned (.tuple #[.slice none 0 0, .int .i64 c])) (hb : Below w0.heap.size w0 w') : RowsR d e0 w0 r w vT (.error c) e w' := ⟨he, hb⟩
theorem RowsR.ok {α : Type} {d : Kd α} {e0 : Nat} {w0 w w' : World} {r : Rc} {vT v v' : Value} {l : List α × List Int} {e : Ending} (he : e = .returned (.tuple #[v, .int .i64 0])) (hr : Kd.N d e0 w' w.heap.size (okN w r.p v') v l.1) (hR : Ref w0 r w' v' l.2) (hs : St w r.p vT w' v') : RowsR d e0 w0 r w vT (.ok l) e w' := ⟨v, v', he, hr, hR, hs⟩
set_option maxHeartbeats 16000000 in
set_option maxRecDepth 100000 in
theorem rneeds_calls {w0 w : World} {r : Rc} {vT : Value} {T : List Int} (h : Ref w0 r w vT T) (G : Gd r) (addr n : Int) (ha : 0 ≤ addr ∧ addr ≤ 18446744073709551615) (hn : 0 ≤ n ∧ n ≤ 18446744073709551615) (hT : T.length ≤ 10000) :
    Calls Try.prog 43 #[.pointer (some ⟨r.p, 0, none⟩), .int .u64 addr, .int .u64 n] w (RowsR kNd 66 w0 r w vT (needsT r.b r.ps r.ss n addr T)) := by
  refine calls_aside fun Post HP => ?_
  obtain ⟨res, hres⟩ : ∃ res, needsT r.b r.ps r.ss n addr T = res := ⟨_, rfl⟩
  rw [hres] at HP
  have HH := Aside0.mk h
  have HG := Aside0.mk G
  have HA := Aside0.mk ha
  have HTL := Aside0.mk hT
  clear h G ha hT
  have hu24 := Try.underlying24
  have hu66 := Try.underlying66
  have hu115 := Try.underlying115
  by_cases cn : n > 64
  · have cn0 : decide (64 < n) = true := decide_eq_true cn
    rw [needsT, if_pos cn] at hres
    have HE := Aside0.mk hres
    clear hres cn hn
    go_enter Try.func43, Try.ntmps43
    go_wp2
    refine HP.out _ _ ?_
    rw [← HE.out]
    exact RowsR.err rfl HH.out.hw
  have cn0 : decide (64 < n) = false := decide_eq_false cn
  rw [needsT, if_neg cn] at hres
  have HR := Aside0.mk hres
  have HN := Aside0.mk (show 0 ≤ n ∧ n ≤ 64 by omega)
  clear hres cn hn
  go_enter Try.func43, Try.ntmps43
  go_wp2
  go_loopg [1, 8, 9, 10] n.toNat (fun kq v1 v8 v9 v10 w' => ∃ (i : Int) (ad bb : Int) (vT1 : Value) (T1 : List Int) (acc : List Nd), v1 = .int .u64 ad ∧ v9 = .int .u64 bb ∧ v10 = .int .u64 i ∧ Aside0 (0 ≤ i ∧ i ≤ n ∧ kq = (n - i).toNat) ∧ Aside0 ((0 ≤ ad ∧ ad ≤ 18446744073709551615) ∧ 0 ≤ bb ∧ bb ≤ 18446744073709551615) ∧ Aside0 (needsS r.b r.ps r.ss (n - i).toNat ad bb T1 acc = res) ∧ Aside0 (Kd.R kNd 66 w' w.heap.size (okR r.p vT1) v8 acc ∧ Ref w0 r w' vT1 T1 ∧ St w r.p vT w' vT1 ∧ acc.length ≤ i.toNat ∧ T1.length ≤ T.length + 64 * i.toNat))
  case atStart => exact ⟨0, addr, 0, vT, T, [], rfl, rfl, rfl, ⟨by have := HN.out; omega⟩, ⟨HA.out, by omega⟩, ⟨by rw [Int.sub_zero]; exact HR.out⟩, ⟨Kd.R_nil _ _ _ _ _, HH.out, St.refl _ _ _, by simp, by simp⟩⟩
  case round =>
    obtain ⟨i, ad, bb, vT1, T1, acc, rfl, rfl, rfl, HI, HAB, HX, HW⟩ := hrel
    have HTM := Aside0.mk (show T1.length ≤ 100000 by have := HW.out.2.2.2.2; have := HTL.out; have := HI.out; have := HN.out; omega)
    by_cases c4 : i < n
    · have c4b0 : decide (i < n) = true := decide_eq_true c4
      obtain ⟨k, hk⟩ : ∃ k, (n - i).toNat = k + 1 := ⟨(n - i).toNat - 1, by omega⟩
      have hx := HX.out
      rw [hk, needsS] at hx
      have HK := Aside0.mk hk
      have HC4 := Aside0.mk c4
      clear hk c4 HX
      cases hq : atS r.b r.ps ad bb 16 with
      | none =>
        rw [hq] at hx
        have HE := Aside0.mk (show (Except.error 4 : Except Int (List Nd × List Int)) = res from hx)
        have HQ := Aside0.mk hq
        clear hx hq
        go_wp2_with (go_at_call 63; (with_reducible refine (entry_none HW.out.2.1 HG.out ad bb 16 HAB.out.1 HAB.out.2 (by omega) HQ.out).mono ?_); rintro e w2 ⟨a, v, rfl, hw⟩; have HW2 := Aside0.mk (HW.out.2.1.low hw); clear hw)
        refine HP.out _ _ ?_
        rw [← HE.out]
        exact RowsR.err rfl HW2.out
      | some xs =>
        obtain ⟨x, s⟩ := xs
        rw [hq] at hx
        simp only at hx
        have hin := atS_in HG.out HAB.out.1 HAB.out.2.1 (by omega) hq
        have hsl : s.length = 16 := by omega
        obtain ⟨N0, hN0⟩ : ∃ y, num (s.take 2) = y := ⟨_, rfl⟩
        obtain ⟨NC, hNC⟩ : ∃ y, num ((s.take 4).drop 2) = y := ⟨_, rfl⟩
        obtain ⟨NT, hNT⟩ : ∃ y, num ((s.take 8).drop 4) = y := ⟨_, rfl⟩
        obtain ⟨NB, hNB⟩ : ∃ y, num ((s.take 12).drop 8) = y := ⟨_, rfl⟩
        obtain ⟨NX, hNX⟩ : ∃ y, num (s.drop 12) = y := ⟨_, rfl⟩
        have hC2 := num_2 hin.2.2 2 (by omega) hNC
        have hTT := num_in8 hin.2.2 (fun y hy => List.mem_of_mem_take (List.mem_of_mem_drop hy)) (show ((s.take 8).drop 4).length ≤ 8 by simp; omega)
        have hBB := num_in8 hin.2.2 (fun y hy => List.mem_of_mem_take (List.mem_of_mem_drop hy)) (show ((s.take 12).drop 8).length ≤ 8 by simp; omega)
        have hXX := num_in8 hin.2.2 (fun y hy => List.mem_of_mem_drop hy) (show (s.drop 12).length ≤ 8 by simp; omega)
        rw [hN0] at hx
        rw [hNC] at hx
        rw [hNT] at hx hTT
        rw [hNB] at hx hBB
        rw [hNX] at hx hXX
        have HWC := Aside0.mk (show wrap64 NC = NC from VersSpec.w64 _ (by omega) (by omega))
        have HS := Aside0.mk (And.intro hsl hin.2.2)
        have HC2 := Aside0.mk hC2
        have HTT := Aside0.mk hTT
        have HBB := Aside0.mk hBB
        have HXX := Aside0.mk hXX
        have HN0 := Aside0.mk (show num ((s.take 2).drop 0) = N0 from hN0)
        have HNC := Aside0.mk hNC
        have HNT := Aside0.mk hNT
        have HNB := Aside0.mk hNB
        have HNX := Aside0.mk (show num ((s.take 16).drop 12) = NX by rw [List.take_of_length_le (by omega)]; exact hNX)
        have HXI := Aside0.mk hin.1
        have HQ := Aside0.mk hq
        obtain ⟨t, hT⟩ : ∃ t, textS r.ss NT = t := ⟨_, rfl⟩
        rw [hT] at hx
        have HT := Aside0.mk hT
        have HX2 := Aside0.mk hx
        clear hin hsl hN0 hNC hNT hNB hNX hC2 hTT hBB hXX hq hx hT
        by_cases c0 : N0 = 1
        · have c00 : (N0 != 1) = false := ne_f c0
          have HC0 := Aside0.mk c0
          clear c0
          by_cases cc : NC = 0
          · have cc0 : (wrap64 NC == 0) = true := by rw [HWC.out]; exact beq_t cc
            have hx := HX2.out
            rw [if_pos (.inr cc)] at hx
            have HX3 := Aside0.mk hx
            clear hx HX2 cc
            go_wp2_with (first
              | (go_at_call 63; (with_reducible refine (entry_some HW.out.2.1 HG.out ad bb 16 HAB.out.1 HAB.out.2 (by omega) x s HQ.out 16 rfl).mono ?_); rintro e w2 ⟨A, c, rfl, hc, hF, hw⟩; have HCC := Aside0.mk hc; have HF2 := Aside0.mk hF; have HL2 := Aside0.mk hw; clear hc hF hw)
              | (go_at_call 44; (with_reducible refine (rnum_at HS.out.1 HS.out.2 HCC.out (Kd.F_now HF2.out) 2 4 2 4 rfl rfl (by decide) (by decide) (by decide)).mono ?_); rintro e w3 ⟨rfl, hd⟩; have hw3 := below_drawn hd; have HF3 := Aside0.mk (Kd.F_below HF2.out hw3); have HL3 := Aside0.mk (below_step HL2.out hw3); clear hd hw3; rw [HNC.out])
              | (go_at_call 44; (with_reducible refine (rnum_at HS.out.1 HS.out.2 HCC.out (Kd.F_now HF3.out) 0 2 0 2 rfl rfl (by decide) (by decide) (by decide)).mono ?_); rintro e w4 ⟨rfl, hd⟩; have hw4 := below_drawn hd; have HF4 := Aside0.mk (Kd.F_below HF3.out hw4); have HL4 := Aside0.mk (below_step HL3.out hw4); clear hd hw4; rw [HN0.out]))
            refine HP.out _ _ ?_
            rw [← HX3.out]
            exact RowsR.err rfl (HW.out.2.1.low HL4.out)
          · have cc0 : (wrap64 NC == 0) = false := by rw [HWC.out]; exact beq_f cc
            have hx := HX2.out
            rw [if_neg (fun h => h.elim (fun h => h HC0.out) cc)] at hx
            have HX3 := Aside0.mk hx
            clear hx HX2 cc
            by_cases cg : NC > 64
            · have cg0 : decide (64 < wrap64 NC) = true := by rw [HWC.out]; exact decide_eq_true cg
              have hx := HX3.out
              rw [if_pos cg] at hx
              have HX4 := Aside0.mk hx
              clear hx HX3 cg
              go_wp2_with (first
                | (go_at_call 63; (with_reducible refine (entry_some HW.out.2.1 HG.out ad bb 16 HAB.out.1 HAB.out.2 (by omega) x s HQ.out 16 rfl).mono ?_); rintro e w2 ⟨A, c, rfl, hc, hF, hw⟩; have HCC := Aside0.mk hc; have HF2 := Aside0.mk hF; have HL2 := Aside0.mk hw; clear hc hF hw)
                | (go_at_call 44; (with_reducible refine (rnum_at HS.out.1 HS.out.2 HCC.out (Kd.F_now HF2.out) 2 4 2 4 rfl rfl (by decide) (by decide) (by decide)).mono ?_); rintro e w3 ⟨rfl, hd⟩; have hw3 := below_drawn hd; have HF3 := Aside0.mk (Kd.F_below HF2.out hw3); have HL3 := Aside0.mk (below_step HL2.out hw3); clear hd hw3; rw [HNC.out])
                | (go_at_call 44; (with_reducible refine (rnum_at HS.out.1 HS.out.2 HCC.out (Kd.F_now HF3.out) 0 2 0 2 rfl rfl (by decide) (by decide) (by decide)).mono ?_); rintro e w4 ⟨rfl, hd⟩; have hw4 := below_drawn hd; have HF4 := Aside0.mk (Kd.F_below HF3.out hw4); have HL4 := Aside0.mk (below_step HL3.out hw4); clear hd hw4; rw [HN0.out]))
              refine HP.out _ _ ?_
              rw [← HX4.out]
              exact RowsR.err rfl (HW.out.2.1.low HL4.out)
            · have cg0 : decide (64 < wrap64 NC) = false := by rw [HWC.out]; exact decide_eq_false cg
              have hx := HX3.out
              rw [if_neg cg] at hx
              have HX4 := Aside0.mk hx
              have HCG := Aside0.mk (show NC ≤ 64 by omega)
              clear hx HX3 cg
              go_wp2_with (first
                | (go_at_call 63; (with_reducible refine (entry_some HW.out.2.1 HG.out ad bb 16 HAB.out.1 HAB.out.2 (by omega) x s HQ.out 16 rfl).mono ?_); rintro e w2 ⟨A, c, rfl, hc, hF, hw⟩; have HCC := Aside0.mk hc; have HF2 := Aside0.mk hF; have HL2 := Aside0.mk hw; clear hc hF hw)
                | (go_at_call 44; (with_reducible refine (rnum_at HS.out.1 HS.out.2 HCC.out (Kd.F_now HF2.out) 2 4 2 4 rfl rfl (by decide) (by decide) (by decide)).mono ?_); rintro e w3 ⟨rfl, hd⟩; have hw3 := below_drawn hd; have HF3 := Aside0.mk (Kd.F_below HF2.out hw3); have HL3 := Aside0.mk (below_step HL2.out hw3); clear hd hw3; rw [HNC.out])
                | (go_at_call 44; (with_reducible refine (rnum_at HS.out.1 HS.out.2 HCC.out (Kd.F_now HF3.out) 0 2 0 2 rfl rfl (by decide) (by decide) (by decide)).mono ?_); rintro e w4 ⟨rfl, hd⟩; have hw4 := below_drawn hd; have HF4 := Aside0.mk (Kd.F_below HF3.out hw4); have HL4 := Aside0.mk (below_step HL3.out hw4); clear hd hw4; rw [HN0.out]))
              have hR := HW.out.2.1.up HL4.out
              have k4 := hR.c4
              have HTX := Aside0.mk (fun n : Nat => Calls.quiet_of (rtext_calls r.As r.cs r.ss NT (World.drewN w4 n) (Kd.C_drewN hR.C_s _) hR.ls HG.out.sl HTT.out.1))
              have HNQ := Aside0.mk (fun n : Nat => Calls.quiet_of (rnum_at HS.out.1 HS.out.2 HCC.out (Kd.C_drewN (Kd.F_now HF4.out) n) 4 8 4 8 rfl rfl (by decide) (by decide) (by decide)))
              rw [HT.out] at HTX
              rw [HNT.out] at HNQ
              clear hR
              by_cases ht : t.2 = 0
              · have ht0 : (t.2 != 0) = false := ne_f ht
                have ht1 : (t.2 == 0) = true := beq_t ht
                have hx := HX4.out
                rw [if_neg (by omega)] at hx
                have HX5 := Aside0.mk hx
                clear hx HX4 ht
                go_quiet (first | exact HNQ.out _ | exact HTX.out _)
                have HL5 := Aside0.mk (pw_below_drewN HL4.out nq)
                have HF5 := Aside0.mk (Kd.F_below HF4.out (pw_below_drewN (Below.refl w4.heap.size w4) nq))
                have HV := Aside0.mk (u64_in (i + 1) (by have := HI.out; omega) (by have := HI.out; have := HN.out; omega))
                clear k4 HTX HNQ
                generalize World.drewN w4 nq = w5 at HL5 HF5 ⊢
                clear HL4 HF4
                have hx := HX5.out
                cases hqv : versionsS r.b r.ps r.ss NC.toNat x NB T1 [] with
                | error c =>
                  rw [hqv] at hx
                  have HQV := Aside0.mk hqv
                  have hce : (c != 0) = true := ne_t (versionsS_ne _ _ _ _ _ _ hqv)
                  have HX6 := Aside0.mk hx
                  clear hx HX5 hqv
                  go_wp2_with (first
                    | (go_at_call 44; (with_reducible refine (rnum_at HS.out.1 HS.out.2 HCC.out (Kd.F_now HF5.out) 8 12 8 12 rfl rfl (by decide) (by decide) (by decide)).mono ?_); rintro e w6 ⟨rfl, hd⟩; have hw6 := below_drawn hd; have HF6 := Aside0.mk (Kd.F_below HF5.out hw6); have HL6 := Aside0.mk (below_step HL5.out hw6); clear hd hw6; rw [HNB.out])
                    | (go_at_call 67; (try rw [HWC.out]); (with_reducible refine (rversions_err (HW.out.2.1.up HL6.out) HG.out x NB NC HXI.out HBB.out ⟨HC2.out.1, HCG.out⟩ HTM.out HQV.out).mono ?_); rintro e w7 ⟨rfl, hw⟩; have HW7 := Aside0.mk hw; clear hw))
                  refine HP.out _ _ ?_
                  rw [← HX6.out]
                  exact RowsR.err rfl HW7.out
                | ok l =>
                  rw [hqv] at hx
                  simp only at hx
                  have HQV := Aside0.mk hqv
                  have HX6 := Aside0.mk hx
                  clear hx HX5 hqv
                  by_cases cz : NX = 0
                  · have cz0 : (NX == 0) = true := beq_iff_eq.2 cz
                    by_cases ck : k = 0
                    · have ci : decide (IntKind.u64.wrap (i + 1) < n) = false := decide_eq_false (by rw [HV.out]; have := HK.out; have := HI.out; omega)
                      have hx := HX6.out
                      rw [if_neg (fun h => h.2 ck)] at hx
                      have HX7 := Aside0.mk hx
                      clear hx HX6 cz ck
                      have HLN := Aside0.mk (versionsS_len _ _ _ _ _ _ HQV.out)
                      go_wp2_with (first
                        | (go_at_call 44; (with_reducible refine (rnum_at HS.out.1 HS.out.2 HCC.out (Kd.F_now HF5.out) 8 12 8 12 rfl rfl (by decide) (by decide) (by decide)).mono ?_); rintro e w6 ⟨rfl, hd⟩; have hw6 := below_drawn hd; have HF6 := Aside0.mk (Kd.F_below HF5.out hw6); have HL6 := Aside0.mk (below_step HL5.out hw6); clear hd hw6; rw [HNB.out])
                        | (go_at_call 67; (try rw [HWC.out]); (with_reducible refine (rversions_ok (HW.out.2.1.up HL6.out) HG.out x NB NC HXI.out HBB.out ⟨HC2.out.1, HCG.out⟩ HTM.out HQV.out).mono ?_); rintro e w7 ⟨vL, vT7, rfl, hr, hR, hs⟩; obtain ⟨A7, c7, rfl⟩ := Kd.R_slice hr; have HR7 := Aside0.mk hR; have HS7 := Aside0.mk ((HW.out.2.2.1.below HL6.out).trans hs); have HO7 := Aside0.mk (R_st (Kd.R_below HW.out.1 HL6.out) hs); have HV7 := Aside0.mk hr; have HF7 := Aside0.mk (F_tell HW.out.2.1 HF6.out HL6.out hs); have HZ7 := Aside0.mk hs.size; clear hr hR hs)
                        | (go_at_call 44; (with_reducible refine (rnum_at HS.out.1 HS.out.2 HCC.out (Kd.F_now HF7.out) 12 16 12 16 rfl rfl (by decide) (by decide) (by decide)).mono ?_); rintro e w8 ⟨rfl, hd⟩; have hw8 := below_drawn hd; have HR8 := Aside0.mk (HR7.out.up hw8); have HS8 := Aside0.mk (HS7.out.below hw8); have HO8 := Aside0.mk (Kd.R_below HO7.out hw8); have HV8 := Aside0.mk (Kd.R_below HV7.out hw8); have HZ8 := Aside0.mk (Nat.le_trans HZ7.out hw8.size); clear hd hw8; rw [HNX.out])
                        | ((with_reducible refine gate_builtin (b := .append) (xs := #[.tmp 86, .tmp 90]) rfl ?_); at_builtin; refine Kd.R_append kNd (w0 := w8) w.heap.size rfl (.tmp 86) (.tmp 90) 52 66 (.agg #[.string ⟨#[]⟩, .slice none 0 0]) 40 rfl Try.underlying52 info66 rfl (by decide) (by omega) u8 acc (t.1, l.1) [.string t.1, .slice A7 l.1.length c7] (okR r.p vT7) (fun k => okR r.p vT7 k ∧ w6.heap.size ≤ k) rfl (by first | (go_simp; done) | (go_simp; rfl)) ?aP ?aK ?aF ?aO ?aB ?aS ?aL ?_; (case aP => exact kNd_mkM _ _ _ (t.1, l.1) (Kd.R_lower (Kd.R_mono (Kd.R_bound HV8.out) (fun k hk => ⟨hk.1, hk.2.1⟩)) (Nat.le_trans HW.out.2.2.1.size HL6.out.size))); (case aK => exact fun k hk => ⟨hk.1, fun e => by have := own_lt (Kd.R_own HW.out.1).choose_spec k e.symm; have := HL6.out.size; have := hk.2; omega⟩); (case aF => exact fun k hk => ⟨fun e => by have := HR8.out.plt; omega, fun e => by have := HR8.out.lt k e.symm; omega⟩); (case aO => exact HO8.out); (case aB => exact Below.refl _ _); (case aS => exact HS8.out.size); (case aL => have := HW.out.2.2.2.1; have := HI.out; have := HN.out; omega); intro v9 w9 ho hb hg hat; have hw0 := HH.out.hw.size; have HO9 := Aside0.mk (show Kd.R kNd 66 w9 w.heap.size (okR r.p vT7) v9 (acc ++ [(t.1, l.1)]) from ho); have hbs := own_base (Kd.R_own HO8.out).choose_spec; have HR9 := Aside0.mk (HR8.out.row hg (fun k e => ⟨Nat.le_trans hw0 (hbs k e), (HO8.out.1 k e).1, (HO8.out.1 k e).2⟩)); have HS9 := Aside0.mk (HS8.out.row hg hbs); clear ho hb hg hat hw0 hbs))
                      go_roundg (n - (i + 1)).toNat
                      case measure => have := HI.out; have := HC4.out; omega
                      case rel => exact ⟨i + 1, x, NX, vT7, l.2, acc ++ [(t.1, l.1)], rfl, rfl, by rw [HV.out], ⟨by have := HI.out; have := HC4.out; omega⟩, ⟨HXI.out, HXX.out⟩, ⟨by rw [show (n - (i + 1)).toNat = k by have := HK.out; omega]; exact HX7.out⟩, ⟨HO9.out, HR9.out, HS9.out, by have := HW.out.2.2.2.1; have := HI.out; simp; omega, by have := HW.out.2.2.2.2; have := HI.out; have := HLN.out; have := HC2.out; have := HCG.out; omega⟩⟩
                    · have ci : decide (IntKind.u64.wrap (i + 1) < n) = true := decide_eq_true (by rw [HV.out]; have := HK.out; have := HI.out; omega)
                      have hx := HX6.out
                      rw [if_pos ⟨cz, ck⟩] at hx
                      have HX7 := Aside0.mk hx
                      clear hx HX6 cz ck
                      go_wp2_with (first
                        | (go_at_call 44; (with_reducible refine (rnum_at HS.out.1 HS.out.2 HCC.out (Kd.F_now HF5.out) 8 12 8 12 rfl rfl (by decide) (by decide) (by decide)).mono ?_); rintro e w6 ⟨rfl, hd⟩; have hw6 := below_drawn hd; have HF6 := Aside0.mk (Kd.F_below HF5.out hw6); have HL6 := Aside0.mk (below_step HL5.out hw6); clear hd hw6; rw [HNB.out])
                        | (go_at_call 67; (try rw [HWC.out]); (with_reducible refine (rversions_ok (HW.out.2.1.up HL6.out) HG.out x NB NC HXI.out HBB.out ⟨HC2.out.1, HCG.out⟩ HTM.out HQV.out).mono ?_); rintro e w7 ⟨vL, vT7, rfl, hr, hR, hs⟩; obtain ⟨A7, c7, rfl⟩ := Kd.R_slice hr; have HR7 := Aside0.mk hR; have HS7 := Aside0.mk ((HW.out.2.2.1.below HL6.out).trans hs); have HO7 := Aside0.mk (R_st (Kd.R_below HW.out.1 HL6.out) hs); have HV7 := Aside0.mk hr; have HF7 := Aside0.mk (F_tell HW.out.2.1 HF6.out HL6.out hs); have HZ7 := Aside0.mk hs.size; clear hr hR hs)
                        | (go_at_call 44; (with_reducible refine (rnum_at HS.out.1 HS.out.2 HCC.out (Kd.F_now HF7.out) 12 16 12 16 rfl rfl (by decide) (by decide) (by decide)).mono ?_); rintro e w8 ⟨rfl, hd⟩; have hw8 := below_drawn hd; have HR8 := Aside0.mk (HR7.out.up hw8); have HS8 := Aside0.mk (HS7.out.below hw8); have HO8 := Aside0.mk (Kd.R_below HO7.out hw8); have HV8 := Aside0.mk (Kd.R_below HV7.out hw8); have HZ8 := Aside0.mk (Nat.le_trans HZ7.out hw8.size); clear hd hw8; rw [HNX.out]))
                      refine HP.out _ _ ?_
                      rw [← HX7.out]
                      exact RowsR.err rfl HR8.out.hw
                  · have cz0 : (NX == 0) = false := beq_eq_false_iff_ne.2 cz
                    have hx := HX6.out
                    rw [if_neg (fun h => cz h.1)] at hx
                    have HX7 := Aside0.mk hx
                    clear hx HX6 cz
                    have HLN := Aside0.mk (versionsS_len _ _ _ _ _ _ HQV.out)
                    go_wp2_with (first
                      | (go_at_call 44; (with_reducible refine (rnum_at HS.out.1 HS.out.2 HCC.out (Kd.F_now HF5.out) 8 12 8 12 rfl rfl (by decide) (by decide) (by decide)).mono ?_); rintro e w6 ⟨rfl, hd⟩; have hw6 := below_drawn hd; have HF6 := Aside0.mk (Kd.F_below HF5.out hw6); have HL6 := Aside0.mk (below_step HL5.out hw6); clear hd hw6; rw [HNB.out])
                      | (go_at_call 67; (try rw [HWC.out]); (with_reducible refine (rversions_ok (HW.out.2.1.up HL6.out) HG.out x NB NC HXI.out HBB.out ⟨HC2.out.1, HCG.out⟩ HTM.out HQV.out).mono ?_); rintro e w7 ⟨vL, vT7, rfl, hr, hR, hs⟩; obtain ⟨A7, c7, rfl⟩ := Kd.R_slice hr; have HR7 := Aside0.mk hR; have HS7 := Aside0.mk ((HW.out.2.2.1.below HL6.out).trans hs); have HO7 := Aside0.mk (R_st (Kd.R_below HW.out.1 HL6.out) hs); have HV7 := Aside0.mk hr; have HF7 := Aside0.mk (F_tell HW.out.2.1 HF6.out HL6.out hs); have HZ7 := Aside0.mk hs.size; clear hr hR hs)
                      | (go_at_call 44; (with_reducible refine (rnum_at HS.out.1 HS.out.2 HCC.out (Kd.F_now HF7.out) 12 16 12 16 rfl rfl (by decide) (by decide) (by decide)).mono ?_); rintro e w8 ⟨rfl, hd⟩; have hw8 := below_drawn hd; have HR8 := Aside0.mk (HR7.out.up hw8); have HS8 := Aside0.mk (HS7.out.below hw8); have HO8 := Aside0.mk (Kd.R_below HO7.out hw8); have HV8 := Aside0.mk (Kd.R_below HV7.out hw8); have HZ8 := Aside0.mk (Nat.le_trans HZ7.out hw8.size); clear hd hw8; rw [HNX.out])
                      | ((with_reducible refine gate_builtin (b := .append) (xs := #[.tmp 86, .tmp 90]) rfl ?_); at_builtin; refine Kd.R_append kNd (w0 := w8) w.heap.size rfl (.tmp 86) (.tmp 90) 52 66 (.agg #[.string ⟨#[]⟩, .slice none 0 0]) 40 rfl Try.underlying52 info66 rfl (by decide) (by omega) u8 acc (t.1, l.1) [.string t.1, .slice A7 l.1.length c7] (okR r.p vT7) (fun k => okR r.p vT7 k ∧ w6.heap.size ≤ k) rfl (by first | (go_simp; done) | (go_simp; rfl)) ?aP ?aK ?aF ?aO ?aB ?aS ?aL ?_; (case aP => exact kNd_mkM _ _ _ (t.1, l.1) (Kd.R_lower (Kd.R_mono (Kd.R_bound HV8.out) (fun k hk => ⟨hk.1, hk.2.1⟩)) (Nat.le_trans HW.out.2.2.1.size HL6.out.size))); (case aK => exact fun k hk => ⟨hk.1, fun e => by have := own_lt (Kd.R_own HW.out.1).choose_spec k e.symm; have := HL6.out.size; have := hk.2; omega⟩); (case aF => exact fun k hk => ⟨fun e => by have := HR8.out.plt; omega, fun e => by have := HR8.out.lt k e.symm; omega⟩); (case aO => exact HO8.out); (case aB => exact Below.refl _ _); (case aS => exact HS8.out.size); (case aL => have := HW.out.2.2.2.1; have := HI.out; have := HN.out; omega); intro v9 w9 ho hb hg hat; have hw0 := HH.out.hw.size; have HO9 := Aside0.mk (show Kd.R kNd 66 w9 w.heap.size (okR r.p vT7) v9 (acc ++ [(t.1, l.1)]) from ho); have hbs := own_base (Kd.R_own HO8.out).choose_spec; have HR9 := Aside0.mk (HR8.out.row hg (fun k e => ⟨Nat.le_trans hw0 (hbs k e), (HO8.out.1 k e).1, (HO8.out.1 k e).2⟩)); have HS9 := Aside0.mk (HS8.out.row hg hbs); clear ho hb hg hat hw0 hbs))
                    go_roundg (n - (i + 1)).toNat
                    case measure => have := HI.out; have := HC4.out; omega
                    case rel => exact ⟨i + 1, x, NX, vT7, l.2, acc ++ [(t.1, l.1)], rfl, rfl, by rw [HV.out], ⟨by have := HI.out; have := HC4.out; omega⟩, ⟨HXI.out, HXX.out⟩, ⟨by rw [show (n - (i + 1)).toNat = k by have := HK.out; omega]; exact HX7.out⟩, ⟨HO9.out, HR9.out, HS9.out, by have := HW.out.2.2.2.1; have := HI.out; simp; omega, by have := HW.out.2.2.2.2; have := HI.out; have := HLN.out; have := HC2.out; have := HCG.out; omega⟩⟩
              · have ht0 : (t.2 != 0) = true := ne_t ht
                have ht1 : (t.2 == 0) = false := beq_f ht
                have hx := HX4.out
                rw [if_pos ht] at hx
                have HX5 := Aside0.mk hx
                clear hx HX4
                go_quiet (first | exact HNQ.out _ | exact HTX.out _)
                go_wp2
                refine HP.out _ _ ?_
                rw [← HX5.out]
                exact RowsR.err rfl (HW.out.2.1.low (pw_below_drewN HL4.out nq))
        · have c00 : (N0 != 1) = true := ne_t c0
          have hx := HX2.out
          rw [if_pos (.inl c0)] at hx
          have HX3 := Aside0.mk hx
          clear hx HX2 c0
          go_wp2_with (first
            | (go_at_call 63; (with_reducible refine (entry_some HW.out.2.1 HG.out ad bb 16 HAB.out.1 HAB.out.2 (by omega) x s HQ.out 16 rfl).mono ?_); rintro e w2 ⟨A, c, rfl, hc, hF, hw⟩; have HCC := Aside0.mk hc; have HF2 := Aside0.mk hF; have HL2 := Aside0.mk hw; clear hc hF hw)
            | (go_at_call 44; (with_reducible refine (rnum_at HS.out.1 HS.out.2 HCC.out (Kd.F_now HF2.out) 2 4 2 4 rfl rfl (by decide) (by decide) (by decide)).mono ?_); rintro e w3 ⟨rfl, hd⟩; have hw3 := below_drawn hd; have HF3 := Aside0.mk (Kd.F_below HF2.out hw3); have HL3 := Aside0.mk (below_step HL2.out hw3); clear hd hw3; rw [HNC.out])
            | (go_at_call 44; (with_reducible refine (rnum_at HS.out.1 HS.out.2 HCC.out (Kd.F_now HF3.out) 0 2 0 2 rfl rfl (by decide) (by decide) (by decide)).mono ?_); rintro e w4 ⟨rfl, hd⟩; have hw4 := below_drawn hd; have HF4 := Aside0.mk (Kd.F_below HF3.out hw4); have HL4 := Aside0.mk (below_step HL3.out hw4); clear hd hw4; rw [HN0.out]))
          refine HP.out _ _ ?_
          rw [← HX3.out]
          exact RowsR.err rfl (HW.out.2.1.low HL4.out)
    · have c4b0 : decide (i < n) = false := decide_eq_false c4
      have hi : (n - i).toNat = 0 := by omega
      have hx := HX.out
      rw [hi, needsS] at hx
      have HX2 := Aside0.mk hx
      clear hx hi c4 HX
      go_wp2
      refine HP.out _ _ ?_
      rw [← HX2.out]
      exact RowsR.ok rfl (R_okN HW.out.1) HW.out.2.1 HW.out.2.2.1
end Go.Proofs.Ythopdoamajjojaa.VersR
