import Derived.Test.YthopdoamajjojaaVersRNeeds
namespace Go.Proofs.Ythopdoamajjojaa.VersR
open Go Go.RowKit Go.Proofs.Ythopdoamajjojaa.QVers Go.Proofs.Ythopdoamajjojaa.VersSpec Go.Proofs.Ythopdoamajjojaa.VersS Go.Proofs.YthopdoamajjojaaW.PrintWords Go.Proofs.YthopdoamajjojaaW.PrintLast Go.Proofs.YthopdoamajjojaaW.PrintMore
open TextFacts (textS u64_in)
set_option linter.unusedSimpArgs false
set_option linter.unusedVariables false
section
variable {b : List Int} {ps : List S29} {ss : List Int}
theorem namesS_ne : ∀ (n : Nat) (a y : Int) (acc : List ByteArray) (c : Int), namesS b ps ss n a y acc = .error c → c ≠ 0
  | 0, _, _, acc, c, h => by
    simp only [namesS] at h
    cases h
  | n + 1, a, y, acc, c, h => by
    simp only [namesS] at h
    split at h
    · injection h with h; omega
    · split at h
      · rename_i h2
        injection h with h; rw [← h]; exact h2
      · split at h
        · injection h with h; omega
        · exact namesS_ne n _ _ _ c h
theorem defsS_ne : ∀ (n : Nat) (a y : Int) (T : List Int) (acc : List Df) (c : Int), defsS b ps ss n a y T acc = .error c → c ≠ 0
  | 0, _, _, T, acc, c, h => by
    simp only [defsS] at h
    cases h
  | n + 1, a, y, T, acc, c, h => by
    simp only [defsS] at h
    split at h
    · injection h with h; omega
    · split at h
      · injection h with h; omega
      · split at h
        · injection h with h; omega
        · split at h
          · injection h with h; omega
          · split at h
            · rename_i h2
              injection h with h; rw [← h]; exact namesS_ne _ _ _ _ _ h2
            · split at h
              · injection h with h; omega
              · split at h
                · injection h with h; omega
                · exact defsS_ne n _ _ _ _ c h
theorem defsT_ne {n a : Int} {T : List Int} {c : Int} (h : defsT b ps ss n a T = .error c) : c ≠ 0 := by
  unfold defsT at h
  split at h
  · injection h with h; omega
  · exact defsS_ne _ _ _ _ _ _ h
end
theorem rnames_err {w0 w : World} {r : Rc} {vT : Value} {T : List Int} (h : Ref w0 r w vT T) (G : Gd r) (addr by_ n : Int) (ha : 0 ≤ addr ∧ addr ≤ 18446744073709551615) (hb : 0 ≤ by_ ∧ by_ ≤ 18446744073709551615) (hn : 0 ≤ n ∧ n ≤ 64) {c : Int} (hq : namesS r.b r.ps r.ss n.toNat addr by_ [] = .error c) :
    Calls Try.prog 64 #[.pointer (some ⟨r.p, 0, none⟩), .int .u64 addr, .int .u64 by_, .int .i64 n] w fun e w' => ∃ v, e = .returned (.tuple #[v, .int .i64 c]) ∧ Below w.heap.size w w' := by
  have h := rnames_calls h G addr by_ n ha hb hn
  rw [hq] at h
  exact h
theorem rnames_ok {w0 w : World} {r : Rc} {vT : Value} {T : List Int} (h : Ref w0 r w vT T) (G : Gd r) (addr by_ n : Int) (ha : 0 ≤ addr ∧ addr ≤ 18446744073709551615) (hb : 0 ≤ by_ ∧ by_ ≤ 18446744073709551615) (hn : 0 ≤ n ∧ n ≤ 64) {l : List ByteArray} (hq : namesS r.b r.ps r.ss n.toNat addr by_ [] = .ok l) :
    Calls Try.prog 64 #[.pointer (some ⟨r.p, 0, none⟩), .int .u64 addr, .int .u64 by_, .int .i64 n] w fun e w' => ∃ v, e = .returned (.tuple #[v, .int .i64 0]) ∧ Kd.R Kd.string 9 w' w.heap.size (fun _ => True) v l ∧ Below w.heap.size w w' := by
  have h := rnames_calls h G addr by_ n ha hb hn
  rw [hq] at h
  exact h
theorem kDf_mkF (W : World) (ok : Nat → Prop) (x : Df) {A : Option Addr} {c : Nat} (hl : x.2.2.2.length ≤ c) (hf : Kd.F Kd.string W ok A x.2.2.2.length x.2.2.2) : Kd.FK kDf W ok x [.int .i64 x.1, .bool x.2.1, .string x.2.2.1, .slice A x.2.2.2.length c] :=
  fun W' hW => ⟨[.int .i64 x.1], [.bool x.2.1, .string x.2.2.1, .slice A x.2.2.2.length c], rfl, rfl, ⟨[.bool x.2.1], [.string x.2.2.1, .slice A x.2.2.2.length c], rfl, rfl, ⟨[.string x.2.2.1], [.slice A x.2.2.2.length c], rfl, rfl, ⟨A, c, rfl, hl, hf W' hW⟩⟩⟩⟩
theorem rest_cut2 (adT : Addr) (cT : Nat) (nm : ByteArray) (rest : List ByteArray) (hl : (nm :: rest).length ≤ cT) : ∃ AR cR, (∀ W : World, (Instr.slice 22 (.slice (some adT) (rest.length + 1) cT) (some (.int .i64 1)) none none).run Try.prog W = .ok (.slice AR rest.length cR) W) ∧ rest.length ≤ cR ∧
    ∀ w', Kd.string.C w' (some adT) (nm :: rest).length (nm :: rest) → Kd.string.C w' AR rest.length rest := by
  obtain ⟨i0, hi0, _, hsz, _⟩ := info_parts info9
  have hcut := cut_from (P := Try.prog) 22 9 .i64 Try.underlying22 hi0 1 hsz (some adT) (rest.length + 1) cT 1 (by omega) (by omega)
  refine ⟨_, _, hcut, ?_, fun w' hC => ?_⟩
  · simp at hl ⊢; omega
  · have h := Kd.C_drop (m := 1) (c := cT) hC (by simp) hl
    exact h
theorem base_r {s : List Int} (h8 : ∀ x ∈ s, 0 ≤ x ∧ x ≤ 255) (hl : 4 ≤ s.length) {N X : Int} (hN : num ((s.take 4).drop 2) = N) (hX : rd s 2 = X) : ((Int.tmod N 2) == 1) = baseS X := by
  obtain _ | ⟨a0, _ | ⟨a1, _ | ⟨a2, _ | ⟨a3, s⟩⟩⟩⟩ := s
  all_goals try (exfalso; simp at hl; done)
  have e : num [a2, a3] = N := hN
  have e2 : a2 = X := hX
  have h2 := h8 a2 (by simp)
  have h3 := h8 a3 (by simp)
  simp only [num] at e
  subst e e2
  unfold baseS
  rw [Int.tmod_eq_emod_of_nonneg (by omega)]
  rw [Bool.eq_iff_iff, beq_iff_eq, decide_eq_true_eq]
  omega
set_option maxHeartbeats 16000000 in
set_option maxRecDepth 100000 in
theorem rdefs_calls {w0 w : World} {r : Rc} {vT : Value} {T : List Int} (h : Ref w0 r w vT T) (G : Gd r) (addr n : Int) (ha : 0 ≤ addr ∧ addr ≤ 18446744073709551615) (hn : 0 ≤ n ∧ n ≤ 18446744073709551615) (hT : T.length ≤ 10000) :
    Calls Try.prog 42 #[.pointer (some ⟨r.p, 0, none⟩), .int .u64 addr, .int .u64 n] w (RowsR kDf 63 w0 r w vT (defsT r.b r.ps r.ss n addr T)) := by
  refine calls_aside fun Post HP => ?_
  obtain ⟨res, hres⟩ : ∃ res, defsT r.b r.ps r.ss n addr T = res := ⟨_, rfl⟩
  rw [hres] at HP
  have HH := Aside0.mk h
  have HG := Aside0.mk G
  have HA := Aside0.mk ha
  have HTL := Aside0.mk hT
  clear h G ha hT
  have hu9 := Try.underlying9
  have hu22 := Try.underlying22
  have hu24 := Try.underlying24
  have hu37 := Try.underlying37
  have hu63 := Try.underlying63
  have hu115 := Try.underlying115
  by_cases cn : n > 64
  · have cn0 : decide (64 < n) = true := decide_eq_true cn
    rw [defsT, if_pos cn] at hres
    have HE := Aside0.mk hres
    clear hres cn hn
    go_enter Try.func42, Try.ntmps42
    go_wp2
    refine HP.out _ _ ?_
    rw [← HE.out]
    exact RowsR.err rfl HH.out.hw
  have cn0 : decide (64 < n) = false := decide_eq_false cn
  rw [defsT, if_neg cn] at hres
  have HR := Aside0.mk hres
  have HN := Aside0.mk (show 0 ≤ n ∧ n ≤ 64 by omega)
  clear hres cn hn
  go_enter Try.func42, Try.ntmps42
  go_wp2
  go_loopg [1, 8, 9, 10] n.toNat (fun kq v1 v8 v9 v10 w' => ∃ (i : Int) (ad bb : Int) (vT1 : Value) (T1 : List Int) (acc : List Df), v1 = .int .u64 ad ∧ v9 = .int .u64 bb ∧ v10 = .int .u64 i ∧ Aside0 (0 ≤ i ∧ i ≤ n ∧ kq = (n - i).toNat) ∧ Aside0 ((0 ≤ ad ∧ ad ≤ 18446744073709551615) ∧ 0 ≤ bb ∧ bb ≤ 18446744073709551615) ∧ Aside0 (defsS r.b r.ps r.ss (n - i).toNat ad bb T1 acc = res) ∧ Aside0 (Kd.N kDf 63 w' w.heap.size (okN w r.p vT1) v8 acc ∧ Ref w0 r w' vT1 T1 ∧ St w r.p vT w' vT1 ∧ acc.length ≤ i.toNat ∧ T1.length ≤ T.length + i.toNat))
  case atStart => exact ⟨0, addr, 0, vT, T, [], rfl, rfl, rfl, ⟨by have := HN.out; omega⟩, ⟨HA.out, by omega⟩, ⟨by rw [Int.sub_zero]; exact HR.out⟩, ⟨Kd.N_nil _ _ _ _ _, HH.out, St.refl _ _ _, by simp, by simp⟩⟩
  case round =>
    obtain ⟨i, ad, bb, vT1, T1, acc, rfl, rfl, rfl, HI, HAB, HX, HW⟩ := hrel
    obtain ⟨AT, cT, eT⟩ := Kd.R_slice HW.out.2.1.told
    rw [List.length_reverse] at eT
    subst eT
    by_cases c4 : i < n
    · have c4b0 : decide (i < n) = true := decide_eq_true c4
      obtain ⟨k, hk⟩ : ∃ k, (n - i).toNat = k + 1 := ⟨(n - i).toNat - 1, by omega⟩
      have hx := HX.out
      rw [hk, defsS] at hx
      have HK := Aside0.mk hk
      have HC4 := Aside0.mk c4
      clear hk c4 HX
      cases hq : atS r.b r.ps ad bb 20 with
      | none =>
        rw [hq] at hx
        have HE := Aside0.mk (show (Except.error 4 : Except Int (List Df × List Int)) = res from hx)
        have HQ := Aside0.mk hq
        clear hx hq
        go_wp2_with (go_at_call 63; (with_reducible refine (entry_none HW.out.2.1 HG.out ad bb 20 HAB.out.1 HAB.out.2 (by omega) HQ.out).mono ?_); rintro e w2 ⟨a, v, rfl, hw⟩; have HW2 := Aside0.mk (HW.out.2.1.low hw); clear hw)
        refine HP.out _ _ ?_
        rw [← HE.out]
        exact RowsR.err rfl HW2.out
      | some xs =>
        obtain ⟨x, s⟩ := xs
        rw [hq] at hx
        simp only at hx
        have hin := atS_in HG.out HAB.out.1 HAB.out.2.1 (by omega) hq
        have hsl : s.length = 20 := by omega
        obtain ⟨N0, hN0⟩ : ∃ y, num (s.take 2) = y := ⟨_, rfl⟩
        obtain ⟨N2, hN2⟩ : ∃ y, num ((s.take 4).drop 2) = y := ⟨_, rfl⟩
        obtain ⟨NI, hNI⟩ : ∃ y, num ((s.take 6).drop 4) = y := ⟨_, rfl⟩
        obtain ⟨NC, hNC⟩ : ∃ y, num ((s.take 8).drop 6) = y := ⟨_, rfl⟩
        obtain ⟨NH, hNH⟩ : ∃ y, num ((s.take 12).drop 8) = y := ⟨_, rfl⟩
        obtain ⟨ND, hND⟩ : ∃ y, num ((s.take 16).drop 12) = y := ⟨_, rfl⟩
        obtain ⟨NX, hNX⟩ : ∃ y, num (s.drop 16) = y := ⟨_, rfl⟩
        obtain ⟨X2, hX2⟩ : ∃ y, rd s 2 = y := ⟨_, rfl⟩
        have hI2 := num_2 hin.2.2 4 (by omega) hNI
        have hC2 := num_2 hin.2.2 6 (by omega) hNC
        have hb2 := base_r hin.2.2 (by omega) hN2 hX2
        have hDD := num_in8 hin.2.2 (fun y hy => List.mem_of_mem_take (List.mem_of_mem_drop hy)) (show ((s.take 16).drop 12).length ≤ 8 by simp; omega)
        have hXX := num_in8 hin.2.2 (fun y hy => List.mem_of_mem_drop hy) (show (s.drop 16).length ≤ 8 by simp; omega)
        rw [hN0] at hx
        rw [hNI] at hx
        rw [hNC] at hx
        rw [hNH] at hx
        rw [hND] at hx hDD
        rw [hNX] at hx hXX
        rw [hX2, ← hb2] at hx
        obtain ⟨IX, hidx⟩ : ∃ y, Int.tmod (wrap64 NI) 32768 = y := ⟨_, rfl⟩
        have hix := idx_r (by omega) hI2.2 (N := NI)
        rw [hidx] at hix
        rw [← hix] at hx
        have HWC := Aside0.mk (show wrap64 NC = NC from VersSpec.w64 _ (by omega) (by omega))
        have HS := Aside0.mk (And.intro hsl hin.2.2)
        have HC2 := Aside0.mk hC2
        have HDD := Aside0.mk hDD
        have HXX := Aside0.mk hXX
        have HN0 := Aside0.mk (show num ((s.take 2).drop 0) = N0 from hN0)
        have HN2 := Aside0.mk hN2
        have HNI := Aside0.mk hNI
        have HNC := Aside0.mk hNC
        have HNH := Aside0.mk hNH
        have HND := Aside0.mk hND
        have HNX := Aside0.mk (show num ((s.take 20).drop 16) = NX by rw [List.take_of_length_le (by omega)]; exact hNX)
        have HXI := Aside0.mk hin.1
        have HQ := Aside0.mk hq
        have HX2 := Aside0.mk hx
        clear hin hsl hN0 hN2 hNI hNC hNH hND hNX hX2 hI2 hC2 hb2 hDD hXX hq hx hix
        by_cases c0 : N0 = 1
        · have c00 : (N0 != 1) = false := ne_f c0
          have HC0 := Aside0.mk c0
          clear c0
          by_cases cj : IX = 0
          · have cj0 : (IX == 0) = true := beq_t cj
            have hx := HX2.out
            rw [if_pos (.inr (.inl cj))] at hx
            have HX3 := Aside0.mk hx
            clear hx HX2 cj
            go_wp2_with (first
              | (go_at_call 63; (with_reducible refine (entry_some HW.out.2.1 HG.out ad bb 20 HAB.out.1 HAB.out.2 (by omega) x s HQ.out 20 rfl).mono ?_); rintro e w2 ⟨A, c, rfl, hc, hF, hw⟩; have HCC := Aside0.mk hc; have HF2 := Aside0.mk hF; have HL2 := Aside0.mk hw; clear hc hF hw)
              | (go_at_call 44; (with_reducible refine (rnum_at HS.out.1 HS.out.2 HCC.out (Kd.F_now HF2.out) 4 6 4 6 rfl rfl (by decide) (by decide) (by decide)).mono ?_); rintro e w3 ⟨rfl, hd⟩; have hw_ := below_drawn hd; have HF3 := Aside0.mk (Kd.F_below HF2.out hw_); have HL3 := Aside0.mk (below_step HL2.out hw_); clear hd hw_; rw [HNI.out])
              | (go_at_call 44; (with_reducible refine (rnum_at HS.out.1 HS.out.2 HCC.out (Kd.F_now HF3.out) 6 8 6 8 rfl rfl (by decide) (by decide) (by decide)).mono ?_); rintro e w4 ⟨rfl, hd⟩; have hw_ := below_drawn hd; have HF4 := Aside0.mk (Kd.F_below HF3.out hw_); have HL4 := Aside0.mk (below_step HL3.out hw_); clear hd hw_; rw [HNC.out])
              | (go_at_call 45; (try rw [hidx]); (with_reducible refine (had_calls (HW.out.2.1.up HL4.out) IX (by have := HW.out.2.2.2.2; have := HTL.out; have := HI.out; have := HN.out; omega)).mono ?_); rintro e w5 ⟨rfl, hd⟩; have hw_ := below_drawn hd; have HF5 := Aside0.mk (Kd.F_below HF4.out hw_); have HL5 := Aside0.mk (below_step HL4.out hw_); clear hd hw_)
              | (go_at_call 44; (with_reducible refine (rnum_at HS.out.1 HS.out.2 HCC.out (Kd.F_now HF5.out) 0 2 0 2 rfl rfl (by decide) (by decide) (by decide)).mono ?_); rintro e w6 ⟨rfl, hd⟩; have hw_ := below_drawn hd; have HF6 := Aside0.mk (Kd.F_below HF5.out hw_); have HL6 := Aside0.mk (below_step HL5.out hw_); have k5 := (HW.out.2.1.up HL6.out).c5; clear hd hw_; rw [HN0.out]))
            refine HP.out _ _ ?_
            rw [← HX3.out]
            exact RowsR.err rfl (HW.out.2.1.low HL6.out)
          · have cj0 : (IX == 0) = false := beq_f cj
            have HCJ := Aside0.mk cj
            clear cj
            by_cases cc : NC = 0
            · have cc0 : (wrap64 NC == 0) = true := by rw [HWC.out]; exact beq_t cc
              have hx := HX2.out
              rw [if_pos (.inr (.inr cc))] at hx
              have HX3 := Aside0.mk hx
              clear hx HX2 cc
              go_wp2_with (first
                | (go_at_call 63; (with_reducible refine (entry_some HW.out.2.1 HG.out ad bb 20 HAB.out.1 HAB.out.2 (by omega) x s HQ.out 20 rfl).mono ?_); rintro e w2 ⟨A, c, rfl, hc, hF, hw⟩; have HCC := Aside0.mk hc; have HF2 := Aside0.mk hF; have HL2 := Aside0.mk hw; clear hc hF hw)
                | (go_at_call 44; (with_reducible refine (rnum_at HS.out.1 HS.out.2 HCC.out (Kd.F_now HF2.out) 4 6 4 6 rfl rfl (by decide) (by decide) (by decide)).mono ?_); rintro e w3 ⟨rfl, hd⟩; have hw_ := below_drawn hd; have HF3 := Aside0.mk (Kd.F_below HF2.out hw_); have HL3 := Aside0.mk (below_step HL2.out hw_); clear hd hw_; rw [HNI.out])
                | (go_at_call 44; (with_reducible refine (rnum_at HS.out.1 HS.out.2 HCC.out (Kd.F_now HF3.out) 6 8 6 8 rfl rfl (by decide) (by decide) (by decide)).mono ?_); rintro e w4 ⟨rfl, hd⟩; have hw_ := below_drawn hd; have HF4 := Aside0.mk (Kd.F_below HF3.out hw_); have HL4 := Aside0.mk (below_step HL3.out hw_); clear hd hw_; rw [HNC.out])
                | (go_at_call 45; (try rw [hidx]); (with_reducible refine (had_calls (HW.out.2.1.up HL4.out) IX (by have := HW.out.2.2.2.2; have := HTL.out; have := HI.out; have := HN.out; omega)).mono ?_); rintro e w5 ⟨rfl, hd⟩; have hw_ := below_drawn hd; have HF5 := Aside0.mk (Kd.F_below HF4.out hw_); have HL5 := Aside0.mk (below_step HL4.out hw_); clear hd hw_)
                | (go_at_call 44; (with_reducible refine (rnum_at HS.out.1 HS.out.2 HCC.out (Kd.F_now HF5.out) 0 2 0 2 rfl rfl (by decide) (by decide) (by decide)).mono ?_); rintro e w6 ⟨rfl, hd⟩; have hw_ := below_drawn hd; have HF6 := Aside0.mk (Kd.F_below HF5.out hw_); have HL6 := Aside0.mk (below_step HL5.out hw_); have k5 := (HW.out.2.1.up HL6.out).c5; clear hd hw_; rw [HN0.out]))
              refine HP.out _ _ ?_
              rw [← HX3.out]
              exact RowsR.err rfl (HW.out.2.1.low HL6.out)
            · have cc0 : (wrap64 NC == 0) = false := by rw [HWC.out]; exact beq_f cc
              have hx := HX2.out
              rw [if_neg (fun h => h.elim (fun h => h HC0.out) (fun h => h.elim HCJ.out cc))] at hx
              have HX3 := Aside0.mk hx
              have HCC0 := Aside0.mk cc
              clear hx HX2 cc
              by_cases cm : IX ∈ T1
              · have cm0 : decide (IX ∈ T1) = true := decide_eq_true cm
                have hx := HX3.out
                rw [if_pos cm] at hx
                have HX4 := Aside0.mk hx
                clear hx HX3 cm
                go_wp2_with (first
                  | (go_at_call 63; (with_reducible refine (entry_some HW.out.2.1 HG.out ad bb 20 HAB.out.1 HAB.out.2 (by omega) x s HQ.out 20 rfl).mono ?_); rintro e w2 ⟨A, c, rfl, hc, hF, hw⟩; have HCC := Aside0.mk hc; have HF2 := Aside0.mk hF; have HL2 := Aside0.mk hw; clear hc hF hw)
                  | (go_at_call 44; (with_reducible refine (rnum_at HS.out.1 HS.out.2 HCC.out (Kd.F_now HF2.out) 4 6 4 6 rfl rfl (by decide) (by decide) (by decide)).mono ?_); rintro e w3 ⟨rfl, hd⟩; have hw_ := below_drawn hd; have HF3 := Aside0.mk (Kd.F_below HF2.out hw_); have HL3 := Aside0.mk (below_step HL2.out hw_); clear hd hw_; rw [HNI.out])
                  | (go_at_call 44; (with_reducible refine (rnum_at HS.out.1 HS.out.2 HCC.out (Kd.F_now HF3.out) 6 8 6 8 rfl rfl (by decide) (by decide) (by decide)).mono ?_); rintro e w4 ⟨rfl, hd⟩; have hw_ := below_drawn hd; have HF4 := Aside0.mk (Kd.F_below HF3.out hw_); have HL4 := Aside0.mk (below_step HL3.out hw_); clear hd hw_; rw [HNC.out])
                  | (go_at_call 45; (try rw [hidx]); (with_reducible refine (had_calls (HW.out.2.1.up HL4.out) IX (by have := HW.out.2.2.2.2; have := HTL.out; have := HI.out; have := HN.out; omega)).mono ?_); rintro e w5 ⟨rfl, hd⟩; have hw_ := below_drawn hd; have HF5 := Aside0.mk (Kd.F_below HF4.out hw_); have HL5 := Aside0.mk (below_step HL4.out hw_); clear hd hw_)
                  | (go_at_call 44; (with_reducible refine (rnum_at HS.out.1 HS.out.2 HCC.out (Kd.F_now HF5.out) 0 2 0 2 rfl rfl (by decide) (by decide) (by decide)).mono ?_); rintro e w6 ⟨rfl, hd⟩; have hw_ := below_drawn hd; have HF6 := Aside0.mk (Kd.F_below HF5.out hw_); have HL6 := Aside0.mk (below_step HL5.out hw_); have k5 := (HW.out.2.1.up HL6.out).c5; clear hd hw_; rw [HN0.out]))
                refine HP.out _ _ ?_
                rw [← HX4.out]
                exact RowsR.err rfl (HW.out.2.1.low HL6.out)
              · have cm0 : decide (IX ∈ T1) = false := decide_eq_false cm
                have hx := HX3.out
                rw [if_neg cm] at hx
                have HX4 := Aside0.mk hx
                clear hx HX3 cm
                by_cases cg : NC > 64
                · have cg0 : decide (64 < wrap64 NC) = true := by rw [HWC.out]; exact decide_eq_true cg
                  have hx := HX4.out
                  rw [if_pos cg] at hx
                  have HX5 := Aside0.mk hx
                  clear hx HX4 cg
                  go_wp2_with (first
                    | (go_at_call 63; (with_reducible refine (entry_some HW.out.2.1 HG.out ad bb 20 HAB.out.1 HAB.out.2 (by omega) x s HQ.out 20 rfl).mono ?_); rintro e w2 ⟨A, c, rfl, hc, hF, hw⟩; have HCC := Aside0.mk hc; have HF2 := Aside0.mk hF; have HL2 := Aside0.mk hw; clear hc hF hw)
                    | (go_at_call 44; (with_reducible refine (rnum_at HS.out.1 HS.out.2 HCC.out (Kd.F_now HF2.out) 4 6 4 6 rfl rfl (by decide) (by decide) (by decide)).mono ?_); rintro e w3 ⟨rfl, hd⟩; have hw_ := below_drawn hd; have HF3 := Aside0.mk (Kd.F_below HF2.out hw_); have HL3 := Aside0.mk (below_step HL2.out hw_); clear hd hw_; rw [HNI.out])
                    | (go_at_call 44; (with_reducible refine (rnum_at HS.out.1 HS.out.2 HCC.out (Kd.F_now HF3.out) 6 8 6 8 rfl rfl (by decide) (by decide) (by decide)).mono ?_); rintro e w4 ⟨rfl, hd⟩; have hw_ := below_drawn hd; have HF4 := Aside0.mk (Kd.F_below HF3.out hw_); have HL4 := Aside0.mk (below_step HL3.out hw_); clear hd hw_; rw [HNC.out])
                    | (go_at_call 45; (try rw [hidx]); (with_reducible refine (had_calls (HW.out.2.1.up HL4.out) IX (by have := HW.out.2.2.2.2; have := HTL.out; have := HI.out; have := HN.out; omega)).mono ?_); rintro e w5 ⟨rfl, hd⟩; have hw_ := below_drawn hd; have HF5 := Aside0.mk (Kd.F_below HF4.out hw_); have HL5 := Aside0.mk (below_step HL4.out hw_); clear hd hw_)
                    | (go_at_call 44; (with_reducible refine (rnum_at HS.out.1 HS.out.2 HCC.out (Kd.F_now HF5.out) 0 2 0 2 rfl rfl (by decide) (by decide) (by decide)).mono ?_); rintro e w6 ⟨rfl, hd⟩; have hw_ := below_drawn hd; have HF6 := Aside0.mk (Kd.F_below HF5.out hw_); have HL6 := Aside0.mk (below_step HL5.out hw_); have k5 := (HW.out.2.1.up HL6.out).c5; clear hd hw_; rw [HN0.out]))
                  refine HP.out _ _ ?_
                  rw [← HX5.out]
                  exact RowsR.err rfl (HW.out.2.1.low HL6.out)
                · have cg0 : decide (64 < wrap64 NC) = false := by rw [HWC.out]; exact decide_eq_false cg
                  have hx := HX4.out
                  rw [if_neg cg] at hx
                  have HCG := Aside0.mk (show 0 ≤ NC ∧ NC ≤ 64 from ⟨HC2.out.1, by omega⟩)
                  have HV := Aside0.mk (u64_in (i + 1) (by have := HI.out; omega) (by have := HI.out; have := HN.out; omega))
                  clear HX4 cg
                  cases hqv : namesS r.b r.ps r.ss NC.toNat x ND [] with
                  | error c =>
                    rw [hqv] at hx
                    have HQV := Aside0.mk hqv
                    have hce : (c != 0) = true := ne_t (namesS_ne _ _ _ _ _ hqv)
                    have HX6 := Aside0.mk hx
                    clear hx hqv
                    go_wp2_with (first
                      | (go_at_call 63; (with_reducible refine (entry_some HW.out.2.1 HG.out ad bb 20 HAB.out.1 HAB.out.2 (by omega) x s HQ.out 20 rfl).mono ?_); rintro e w2 ⟨A, c, rfl, hc, hF, hw⟩; have HCC := Aside0.mk hc; have HF2 := Aside0.mk hF; have HL2 := Aside0.mk hw; clear hc hF hw)
                      | (go_at_call 44; (with_reducible refine (rnum_at HS.out.1 HS.out.2 HCC.out (Kd.F_now HF2.out) 4 6 4 6 rfl rfl (by decide) (by decide) (by decide)).mono ?_); rintro e w3 ⟨rfl, hd⟩; have hw_ := below_drawn hd; have HF3 := Aside0.mk (Kd.F_below HF2.out hw_); have HL3 := Aside0.mk (below_step HL2.out hw_); clear hd hw_; rw [HNI.out])
                      | (go_at_call 44; (with_reducible refine (rnum_at HS.out.1 HS.out.2 HCC.out (Kd.F_now HF3.out) 6 8 6 8 rfl rfl (by decide) (by decide) (by decide)).mono ?_); rintro e w4 ⟨rfl, hd⟩; have hw_ := below_drawn hd; have HF4 := Aside0.mk (Kd.F_below HF3.out hw_); have HL4 := Aside0.mk (below_step HL3.out hw_); clear hd hw_; rw [HNC.out])
                      | (go_at_call 45; (try rw [hidx]); (with_reducible refine (had_calls (HW.out.2.1.up HL4.out) IX (by have := HW.out.2.2.2.2; have := HTL.out; have := HI.out; have := HN.out; omega)).mono ?_); rintro e w5 ⟨rfl, hd⟩; have hw_ := below_drawn hd; have HF5 := Aside0.mk (Kd.F_below HF4.out hw_); have HL5 := Aside0.mk (below_step HL4.out hw_); clear hd hw_)
                      | (go_at_call 44; (with_reducible refine (rnum_at HS.out.1 HS.out.2 HCC.out (Kd.F_now HF5.out) 0 2 0 2 rfl rfl (by decide) (by decide) (by decide)).mono ?_); rintro e w6 ⟨rfl, hd⟩; have hw_ := below_drawn hd; have HF6 := Aside0.mk (Kd.F_below HF5.out hw_); have HL6 := Aside0.mk (below_step HL5.out hw_); have k5 := (HW.out.2.1.up HL6.out).c5; clear hd hw_; rw [HN0.out])
                      | ((with_reducible refine gate_builtin (b := .append) (xs := #[.tmp 68, .tmp 70]) rfl ?_); at_builtin; refine Kd.R_append (Kd.int .i64) (w0 := w0) w0.heap.size rfl (.tmp 68) (.tmp 70) 37 3 (.int .i64 0) 8 rfl Try.underlying37 info3 rfl (by decide) (by omega) (.slice AT T1.length cT) T1.reverse IX [.int .i64 IX] (fun k => k ≠ r.p) (fun _ => False) rfl (by first | (go_simp; done) | (go_simp; rfl)) ?tP (fun _ hk => hk.elim) ?tF ?tO ?tB ?tS ?tL ?_; (case tP => exact rfl); (case tF => exact fun k hk e => by have := (HW.out.2.1.up HL6.out).plt; omega); (case tO => exact (HW.out.2.1.up HL6.out).told); (case tB => exact (HW.out.2.1.up HL6.out).hw); (case tS => exact (HW.out.2.1.up HL6.out).hw.size); (case tL => have := HW.out.2.2.2.2; have := HTL.out; have := HI.out; have := HN.out; simp; omega); intro v7 w7 ho hb hg hat; obtain ⟨A7, c7, e7⟩ := Kd.R_slice ho; replace e7 : v7 = .slice A7 (T1.length + 1) c7 := (by simpa using e7); subst e7; have HT7 := Aside0.mk ((HW.out.2.1.up HL6.out).tell ho hg hat); have hbx := (hg.block _ (HW.out.2.1.up HL6.out).plt (fun e => (HW.out.2.1.up HL6.out).told.1 _ e.symm rfl)).trans (HW.out.2.1.up HL6.out).box; have hcg : w7.cell? ⟨r.p, 5, none⟩ = some (.slice AT T1.length cT) := (cell_of_row w7 r.p 5 _ _ _ hbx).trans rfl; have hfg := blk_frozen hbx 5; clear ho hb hg hat hbx)
                      | ((with_reducible refine gate_store (t := 37) (p := 73) rfl ?_); refine store_event (t := 37) (p := 73) (v := ?vo1) (w1 := (w7.setCell ⟨r.p, 5, none⟩ (.slice A7 (T1.length + 1) c7))) ?hg1 ?ho1 ?hn1 ?hr1 ?_; (case ho1 => rfl); (case hg1 => rfl); (case hn1 => rfl); (case hr1 => first | (go_simp; done) | (go_simp; rfl)); intro w8 hw8; have HR8 := Aside0.mk (show Ref w0 r w8 (.slice A7 (T1.length + 1) c7) (IX :: T1) by rw [hw8]; exact HT7.out.1); have hs8 := (show St w6 r.p (.slice AT T1.length cT) w8 (.slice A7 (T1.length + 1) c7) by rw [hw8]; exact HT7.out.2); have HF8 := Aside0.mk (F_tell HW.out.2.1 HF6.out HL6.out hs8); have HO8 := Aside0.mk (N_stN (Kd.N_below HW.out.1 HL6.out) hs8); have HS8 := Aside0.mk ((HW.out.2.2.1.below HL6.out).trans hs8); clear hw8 hcg hfg k5 hs8)
                      | (go_at_call 44; (with_reducible refine (rnum_at HS.out.1 HS.out.2 HCC.out (Kd.F_now HF8.out) 12 16 12 16 rfl rfl (by decide) (by decide) (by decide)).mono ?_); rintro e w9 ⟨rfl, hd⟩; have hw_ := below_drawn hd; have HF9 := Aside0.mk (Kd.F_below HF8.out hw_); have HR9 := Aside0.mk (HR8.out.up hw_); have HS9 := Aside0.mk (HS8.out.below hw_); have HO9 := Aside0.mk (Kd.N_below HO8.out hw_); clear hd hw_; rw [HND.out])
                      | (go_at_call 64; (try rw [HWC.out]); (with_reducible refine (rnames_err HR9.out HG.out x ND NC HXI.out HDD.out HCG.out HQV.out).mono ?_); rintro e w10 ⟨v, rfl, hw⟩; have HW10 := Aside0.mk (HR9.out.low hw); clear hw))
                    refine HP.out _ _ ?_
                    rw [← HX6.out]
                    exact RowsR.err rfl HW10.out
                  | ok l =>
                    rw [hqv] at hx
                    simp only at hx
                    have hln := namesS_len _ _ _ _ _ hqv
                    obtain ⟨nm, rest, rfl⟩ : ∃ nm rest, l = nm :: rest := by
                      cases l with
                      | nil => have := HCC0.out; have := HCG.out; simp at hln; omega
                      | cons a b => exact ⟨a, b, rfl⟩
                    have hns : nm.size ≤ 255 := by
                      have := namesS_size _ _ _ _ _ hqv nm (by simp)
                      simpa using this
                    have HNS := Aside0.mk hns
                    have HQV := Aside0.mk hqv
                    simp only [List.headD_cons, List.tail_cons] at hx
                    obtain ⟨SY, hSY⟩ : ∃ y, sysv nm = y := ⟨_, rfl⟩
                    have hsy := sysv_in nm
                    have HSY := Aside0.mk hSY
                    rw [hSY] at hsy
                    simp only [hSY] at hx
                    have HSU := Aside0.mk (u64_in SY hsy.1 (by omega))
                    have HX6 := Aside0.mk hx
                    clear hx hqv hSY hsy hns hln
                    by_cases cs : SY = NH
                    · have cs0 : (IntKind.u64.wrap SY != NH) = false := by rw [HSU.out]; exact ne_f cs
                      have hx := HX6.out
                      rw [if_neg (fun h => h cs)] at hx
                      have HX7 := Aside0.mk hx
                      clear hx HX6 cs
                      by_cases cz : NX = 0
                      · have cz0 : (NX == 0) = true := beq_iff_eq.2 cz
                        by_cases ck : k = 0
                        · have ci : decide (IntKind.u64.wrap (i + 1) < n) = false := decide_eq_false (by rw [HV.out]; have := HK.out; have := HI.out; omega)
                          have hx := HX7.out
                          rw [if_neg (fun h => h.2 ck)] at hx
                          have HX8 := Aside0.mk hx
                          clear hx HX7 cz ck
                          go_wp2_with (first
                            | (go_at_call 63; (with_reducible refine (entry_some HW.out.2.1 HG.out ad bb 20 HAB.out.1 HAB.out.2 (by omega) x s HQ.out 20 rfl).mono ?_); rintro e w2 ⟨A, c, rfl, hc, hF, hw⟩; have HCC := Aside0.mk hc; have HF2 := Aside0.mk hF; have HL2 := Aside0.mk hw; clear hc hF hw)
                            | (go_at_call 44; (with_reducible refine (rnum_at HS.out.1 HS.out.2 HCC.out (Kd.F_now HF2.out) 4 6 4 6 rfl rfl (by decide) (by decide) (by decide)).mono ?_); rintro e w3 ⟨rfl, hd⟩; have hw_ := below_drawn hd; have HF3 := Aside0.mk (Kd.F_below HF2.out hw_); have HL3 := Aside0.mk (below_step HL2.out hw_); clear hd hw_; rw [HNI.out])
                            | (go_at_call 44; (with_reducible refine (rnum_at HS.out.1 HS.out.2 HCC.out (Kd.F_now HF3.out) 6 8 6 8 rfl rfl (by decide) (by decide) (by decide)).mono ?_); rintro e w4 ⟨rfl, hd⟩; have hw_ := below_drawn hd; have HF4 := Aside0.mk (Kd.F_below HF3.out hw_); have HL4 := Aside0.mk (below_step HL3.out hw_); clear hd hw_; rw [HNC.out])
                            | (go_at_call 45; (try rw [hidx]); (with_reducible refine (had_calls (HW.out.2.1.up HL4.out) IX (by have := HW.out.2.2.2.2; have := HTL.out; have := HI.out; have := HN.out; omega)).mono ?_); rintro e w5 ⟨rfl, hd⟩; have hw_ := below_drawn hd; have HF5 := Aside0.mk (Kd.F_below HF4.out hw_); have HL5 := Aside0.mk (below_step HL4.out hw_); clear hd hw_)
                            | (go_at_call 44; (with_reducible refine (rnum_at HS.out.1 HS.out.2 HCC.out (Kd.F_now HF5.out) 0 2 0 2 rfl rfl (by decide) (by decide) (by decide)).mono ?_); rintro e w6 ⟨rfl, hd⟩; have hw_ := below_drawn hd; have HF6 := Aside0.mk (Kd.F_below HF5.out hw_); have HL6 := Aside0.mk (below_step HL5.out hw_); have k5 := (HW.out.2.1.up HL6.out).c5; clear hd hw_; rw [HN0.out])
                            | ((with_reducible refine gate_builtin (b := .append) (xs := #[.tmp 68, .tmp 70]) rfl ?_); at_builtin; refine Kd.R_append (Kd.int .i64) (w0 := w0) w0.heap.size rfl (.tmp 68) (.tmp 70) 37 3 (.int .i64 0) 8 rfl Try.underlying37 info3 rfl (by decide) (by omega) (.slice AT T1.length cT) T1.reverse IX [.int .i64 IX] (fun k => k ≠ r.p) (fun _ => False) rfl (by first | (go_simp; done) | (go_simp; rfl)) ?tP (fun _ hk => hk.elim) ?tF ?tO ?tB ?tS ?tL ?_; (case tP => exact rfl); (case tF => exact fun k hk e => by have := (HW.out.2.1.up HL6.out).plt; omega); (case tO => exact (HW.out.2.1.up HL6.out).told); (case tB => exact (HW.out.2.1.up HL6.out).hw); (case tS => exact (HW.out.2.1.up HL6.out).hw.size); (case tL => have := HW.out.2.2.2.2; have := HTL.out; have := HI.out; have := HN.out; simp; omega); intro v7 w7 ho hb hg hat; obtain ⟨A7, c7, e7⟩ := Kd.R_slice ho; replace e7 : v7 = .slice A7 (T1.length + 1) c7 := (by simpa using e7); subst e7; have HT7 := Aside0.mk ((HW.out.2.1.up HL6.out).tell ho hg hat); have hbx := (hg.block _ (HW.out.2.1.up HL6.out).plt (fun e => (HW.out.2.1.up HL6.out).told.1 _ e.symm rfl)).trans (HW.out.2.1.up HL6.out).box; have hcg : w7.cell? ⟨r.p, 5, none⟩ = some (.slice AT T1.length cT) := (cell_of_row w7 r.p 5 _ _ _ hbx).trans rfl; have hfg := blk_frozen hbx 5; clear ho hb hg hat hbx)
                            | ((with_reducible refine gate_store (t := 37) (p := 73) rfl ?_); refine store_event (t := 37) (p := 73) (v := ?vo2) (w1 := (w7.setCell ⟨r.p, 5, none⟩ (.slice A7 (T1.length + 1) c7))) ?hg2 ?ho2 ?hn2 ?hr2 ?_; (case ho2 => rfl); (case hg2 => rfl); (case hn2 => rfl); (case hr2 => first | (go_simp; done) | (go_simp; rfl)); intro w8 hw8; have HR8 := Aside0.mk (show Ref w0 r w8 (.slice A7 (T1.length + 1) c7) (IX :: T1) by rw [hw8]; exact HT7.out.1); have hs8 := (show St w6 r.p (.slice AT T1.length cT) w8 (.slice A7 (T1.length + 1) c7) by rw [hw8]; exact HT7.out.2); have HF8 := Aside0.mk (F_tell HW.out.2.1 HF6.out HL6.out hs8); have HO8 := Aside0.mk (N_stN (Kd.N_below HW.out.1 HL6.out) hs8); have HS8 := Aside0.mk ((HW.out.2.2.1.below HL6.out).trans hs8); clear hw8 hcg hfg k5 hs8)
                            | (go_at_call 44; (with_reducible refine (rnum_at HS.out.1 HS.out.2 HCC.out (Kd.F_now HF8.out) 12 16 12 16 rfl rfl (by decide) (by decide) (by decide)).mono ?_); rintro e w9 ⟨rfl, hd⟩; have hw_ := below_drawn hd; have HF9 := Aside0.mk (Kd.F_below HF8.out hw_); have HR9 := Aside0.mk (HR8.out.up hw_); have HS9 := Aside0.mk (HS8.out.below hw_); have HO9 := Aside0.mk (Kd.N_below HO8.out hw_); clear hd hw_; rw [HND.out])
                            | (go_at_call 64; (try rw [HWC.out]); (with_reducible refine (rnames_ok HR9.out HG.out x ND NC HXI.out HDD.out HCG.out HQV.out).mono ?_); rintro e w10 ⟨vN, rfl, hr, hw⟩; obtain ⟨AN, cN, eN, hlN, hCN⟩ := Kd.R_reads hr; subst eN; obtain ⟨adN, eA, hn10⟩ := Kd.at_string hCN 0 (by omega) (by simp); subst eA; replace hn10 : w10.cell? adN = some (.string nm) := (by rw [show adN.add (0 : Int).toNat = adN from Addr.add_zero' _] at hn10; exact hn10); have HT10 := Aside0.mk (Kd.R_F (Kd.R_mono (Kd.R_bound hr) (fun k hk => hk.2.1))); have HCN := Aside0.mk hlN; have HR10 := Aside0.mk (HR9.out.up hw); have HS10 := Aside0.mk (HS9.out.below hw); have HO10 := Aside0.mk (Kd.N_below HO9.out hw); have HF10 := Aside0.mk (Kd.F_below HF9.out hw); have HZ10 := Aside0.mk hw.size; clear hr hw hlN hCN)
                            | (go_at_call 65; (with_reducible refine (rsysv_calls nm w10 (by have := HNS.out; omega)).mono ?_); rintro e w11 ⟨rfl, hd⟩; have hw_ := below_drawn hd; have HF11 := Aside0.mk (Kd.F_below HF10.out hw_); have HR11 := Aside0.mk (HR10.out.up hw_); have HS11 := Aside0.mk (HS10.out.below hw_); have HO11 := Aside0.mk (Kd.N_below HO10.out hw_); have HT11 := Aside0.mk (Kd.F_below HT10.out hw_); have hn11 := cell_up hw_ hn10; clear hd hw_; rw [HSY.out])
                            | (go_at_call 44; (with_reducible refine (rnum_at HS.out.1 HS.out.2 HCC.out (Kd.F_now HF11.out) 8 12 8 12 rfl rfl (by decide) (by decide) (by decide)).mono ?_); rintro e w12 ⟨rfl, hd⟩; have hw_ := below_drawn hd; have HF12 := Aside0.mk (Kd.F_below HF11.out hw_); have HR12 := Aside0.mk (HR11.out.up hw_); have HS12 := Aside0.mk (HS11.out.below hw_); have HO12 := Aside0.mk (Kd.N_below HO11.out hw_); have HT12 := Aside0.mk (Kd.F_below HT11.out hw_); have hn12 := cell_up hw_ hn11; clear hd hw_; rw [HNH.out])
                            | (go_at_call 44; (with_reducible refine (rnum_at HS.out.1 HS.out.2 HCC.out (Kd.F_now HF12.out) 16 20 16 20 rfl rfl (by decide) (by decide) (by decide)).mono ?_); rintro e w13 ⟨rfl, hd⟩; have hw_ := below_drawn hd; have HF13 := Aside0.mk (Kd.F_below HF12.out hw_); have HR13 := Aside0.mk (HR12.out.up hw_); have HS13 := Aside0.mk (HS12.out.below hw_); have HO13 := Aside0.mk (Kd.N_below HO12.out hw_); have HT13 := Aside0.mk (Kd.F_below HT12.out hw_); have hn13 := cell_up hw_ hn12; clear hd hw_; rw [HNX.out]))
                          obtain ⟨AR, cR, hcutR, hcapR, hRC⟩ := rest_cut2 adN cN nm rest HCN.out
                          have HRC := Aside0.mk hRC
                          clear hRC
                          refine start_ (n := 15) (S := fun w' => w'.cell? adN = some (.string nm)) (ds := [12, 13]) #[false, false, false, false, false, false, false, false, false, false, false, false, false, false, false] (by kernel_rfl) rfl rfl ((cell_up (below_drew1 (Below.refl w13.heap.size w13)) hn13)) (fun hHeld => ?_)
                          refine pure_ (i := 0) (N := some 104) (v := ?_) (a' := ?_) #[true, false, false, false, false, false, false, false, false, false, false, false, false, false, false] rfl rfl (by kernel_rfl) (fun _ _ _ h => h) (Or.inl ⟨by rfl, ?_⟩) ?_ ?_
                          rotate_left
                          · intro w'
                            go_simp
                            with_reducible rfl
                          rotate_left
                          · simp only [Act.put, List.setIfInBounds_toArray, List.set_cons_zero, List.set_cons_succ, i64_w, i32_w]
                            rfl
                          refine pure_ (i := 1) (N := some 105) (v := ?_) (a' := ?_) #[true, true, false, false, false, false, false, false, false, false, false, false, false, false, false] rfl rfl (by kernel_rfl) (fun _ _ _ h => h) (Or.inl ⟨by rfl, ?_⟩) ?_ ?_
                          rotate_left
                          · intro w'
                            go_simp
                            with_reducible rfl
                          rotate_left
                          · simp only [Act.put, List.setIfInBounds_toArray, List.set_cons_zero, List.set_cons_succ, i64_w, i32_w]
                            rfl
                          refine pure_ (i := 2) (N := some 106) (v := ?_) (a' := ?_) #[true, true, true, false, false, false, false, false, false, false, false, false, false, false, false] rfl rfl (by kernel_rfl) (fun _ _ _ h => h) (Or.inl ⟨by rfl, ?_⟩) ?_ ?_
                          rotate_left
                          · intro w'
                            go_simp
                            with_reducible rfl
                          rotate_left
                          · simp only [Act.put, List.setIfInBounds_toArray, List.set_cons_zero, List.set_cons_succ, i64_w, i32_w]
                            rfl
                          refine pure_ (i := 6) (N := some 110) (v := ?_) (a' := ?_) #[true, true, true, false, false, false, true, false, false, false, false, false, false, false, false] rfl rfl (by kernel_rfl) (fun _ _ _ h => h) (Or.inl ⟨by rfl, ?_⟩) ?_ ?_
                          rotate_left
                          · intro w'
                            go_simp
                            with_reducible rfl
                          rotate_left
                          · simp only [Act.put, List.setIfInBounds_toArray, List.set_cons_zero, List.set_cons_succ, i64_w, i32_w]
                            rfl
                          refine pure_ (i := 7) (N := some 111) (v := ?_) (a' := ?_) #[true, true, true, false, false, false, true, true, false, false, false, false, false, false, false] rfl rfl (by kernel_rfl) (fun _ _ _ h => h) (Or.inl ⟨by rfl, ?_⟩) ?_ ?_
                          rotate_left
                          · intro w'
                            go_simp
                            with_reducible rfl
                          rotate_left
                          · simp only [Act.put, List.setIfInBounds_toArray, List.set_cons_zero, List.set_cons_succ, i64_w, i32_w]
                            rfl
                          refine pure_ (i := 9) (N := some 113) (v := ?_) (a' := ?_) #[true, true, true, false, false, false, true, true, false, true, false, false, false, false, false] rfl rfl (by kernel_rfl) (fun _ _ _ h => h) (Or.inl ⟨by rfl, ?_⟩) ?_ ?_
                          rotate_left
                          · intro w'
                            go_simp
                            with_reducible rfl
                          rotate_left
                          · simp only [Act.put, List.setIfInBounds_toArray, List.set_cons_zero, List.set_cons_succ, i64_w, i32_w]
                            rfl
                          refine pure_ (i := 10) (N := some 114) (v := ?_) (a' := ?_) #[true, true, true, false, false, false, true, true, false, true, true, false, false, false, false] rfl rfl (by kernel_rfl) (fun _ _ _ h => h) (Or.inl ⟨by rfl, ?_⟩) ?_ ?_
                          rotate_left
                          · intro w'
                            go_simp
                            with_reducible rfl
                          rotate_left
                          · simp only [Act.put, List.setIfInBounds_toArray, List.set_cons_zero, List.set_cons_succ, i64_w, i32_w]
                            rfl
                          refine take_ (i := 8) (N := some 112) (v := ?_) (a' := ?_) #[true, true, true, false, false, false, true, true, true, true, true, false, false, false, false] rfl rfl (by kernel_rfl) (fun _ _ _ h => h) (Or.inl ⟨by rfl, ?_⟩) hHeld ?_ ?_
                          rotate_left
                          · intro w' s0
                            go_simp
                            with_reducible rfl
                          rotate_left
                          · simp only [Act.put, List.setIfInBounds_toArray, List.set_cons_zero, List.set_cons_succ, i64_w, i32_w]
                            rfl
                          refine one_ (i := 3) (N := some 107) #[true, true, true, true, false, false, true, true, true, true, true, false, false, false, false] rfl rfl (by kernel_rfl) (by decide) (fun K hK => ?_)
                          refine goes_ Try.func44 (by kernel_rfl) rfl #[.slice A 20 c, .int .i64 2, .int .i64 4] (by rfl) rfl rfl (by simp only [List.map_toArray, List.map_cons, List.map_nil]; rfl) ?_
                          with_reducible refine (rnum_at HS.out.1 HS.out.2 HCC.out (Kd.C_below (Kd.F_now HF13.out) (below_drew1 (Below.refl _ _))) 2 4 2 4 rfl rfl (by decide) (by decide) (by decide)).mono ?_
                          rintro e w14 ⟨rfl, hd⟩
                          refine ⟨_, rfl, ?_⟩
                          have hw_ := below_step (below_drew1 (Below.refl w13.heap.size w13)) (below_drawn hd)
                          have hk14 := cell_up hw_ hn13
                          have HR14 := Aside0.mk (HR13.out.up hw_)
                          have HS14 := Aside0.mk (HS13.out.below hw_)
                          have HO14 := Aside0.mk (Kd.N_below HO13.out hw_)
                          have HT14 := Aside0.mk (Kd.F_below HT13.out hw_)
                          clear hd hw_
                          rw [HN2.out]
                          refine hK.out _ _ (hk14) (fun hHeld => ?_)
                          clear hK K
                          refine norm_ (a' := ?_) ?_ ?_
                          rotate_left
                          · show Act.put _ (some 107) _ = _
                            simp only [Act.put, List.setIfInBounds_toArray, List.set_cons_zero, List.set_cons_succ, i64_w, i32_w]
                            rfl
                          refine pure_ (i := 4) (N := some 108) (v := ?_) (a' := ?_) #[true, true, true, true, true, false, true, true, true, true, true, false, false, false, false] rfl rfl (by kernel_rfl) (fun _ _ _ h => h) (Or.inl ⟨by rfl, ?_⟩) ?_ ?_
                          rotate_left
                          · intro w'
                            go_simp
                            with_reducible rfl
                          rotate_left
                          · simp only [Act.put, List.setIfInBounds_toArray, List.set_cons_zero, List.set_cons_succ, i64_w, i32_w]
                            rfl
                          refine pure_ (i := 5) (N := some 109) (v := ?_) (a' := ?_) #[true, true, true, true, true, true, true, true, true, true, true, false, false, false, false] rfl rfl (by kernel_rfl) (fun _ _ _ h => h) (Or.inl ⟨by rfl, ?_⟩) ?_ ?_
                          rotate_left
                          · intro w'
                            go_simp
                            with_reducible rfl
                          rotate_left
                          · simp only [Act.put, List.setIfInBounds_toArray, List.set_cons_zero, List.set_cons_succ, i64_w, i32_w]
                            rfl
                          refine pure_ (i := 11) (N := some 115) (v := ?_) (a' := ?_) #[true, true, true, true, true, true, true, true, true, true, true, true, false, false, false] rfl rfl (by kernel_rfl) (fun _ _ _ h => h) (Or.inl ⟨by rfl, ?_⟩) ?_ ?_
                          rotate_left
                          · intro w'
                            go_simp
                            with_reducible rfl
                          rotate_left
                          · simp only [Act.put, List.setIfInBounds_toArray, List.set_cons_zero, List.set_cons_succ, i64_w, i32_w]
                            rfl
                          refine last_ (i := 12) (N := some 116) #[true, true, true, true, true, true, true, true, true, true, true, true, true, false, false] rfl rfl (by kernel_rfl) (by decide) (fun K hK => ?_)
                          refine value_ (w1 := ?_) (v := ?_) (by rfl) rfl ?_ ?_
                          rotate_left 2
                          · go_simp
                            constructor
                            · rfl
                            · rfl
                          refine hK.out _ _ ?_
                          clear hK K
                          refine norm_ (a' := ?_) ?_ ?_
                          rotate_left
                          · show Act.put _ (some 116) _ = _
                            simp only [Act.put, List.setIfInBounds_toArray, List.set_cons_zero, List.set_cons_succ, i64_w, i32_w]
                            rfl
                          refine last_ (i := 13) (N := some 117) #[true, true, true, true, true, true, true, true, true, true, true, true, true, true, false] rfl rfl (by kernel_rfl) (by decide) (fun K hK => ?_)
                          refine Kd.N_append_step kDf (w0 := w14) w.heap.size (by rfl) (.tmp 104) (.tmp 116) 51 63 (.agg #[.int .i64 0, .bool false, .string ⟨#[]⟩, .slice none 0 0]) 56 rfl Try.underlying51 info63 rfl (by decide) (by omega) u8 acc (IX, ((Int.tmod N2 2) == 1), nm, rest) [.int .i64 IX, .bool ((Int.tmod N2 2) == 1), .string nm, .slice AR rest.length cR] (okN w r.p (.slice A7 (T1.length + 1) c7)) (fun k => w9.heap.size ≤ k ∧ k < w14.heap.size) rfl (by first | (go_simp; done) | (go_simp; rfl)) ?aP ?aK ?aF ?aO ?aB ?aS ?aL ?_
                          case aP => exact kDf_mkF _ _ (IX, ((Int.tmod N2 2) == 1), nm, rest) hcapR (Kd.F_bound (Kd.F_imp HT14.out (fun W2 hC => HRC.out W2 hC)))
                          case aK => exact fun k hk => ⟨⟨⟨fun e => by have := HR9.out.plt; have := hk.1; omega, fun e => by have := HR9.out.lt k e.symm; have := hk.1; omega⟩, Nat.le_trans HS9.out.size hk.1⟩, fun e => by have := Kd.N_lt HO9.out k e.symm; have := hk.1; omega⟩
                          case aF => exact fun k hk => ⟨⟨fun e => by have := HR14.out.plt; omega, fun e => by have := HR14.out.lt k e.symm; omega⟩, Nat.le_trans HS14.out.size hk⟩
                          case aO => exact HO14.out
                          case aB => exact Below.refl _ _
                          case aS => exact HS14.out.size
                          case aL => have := HW.out.2.2.2.1; have := HI.out; have := HN.out; omega
                          intro v15 w15 ho hb hg hat
                          have hw0 := HH.out.hw.size
                          have HO15 := Aside0.mk (show Kd.N kDf 63 w15 w.heap.size (okN w r.p (.slice A7 (T1.length + 1) c7)) v15 (acc ++ [(IX, ((Int.tmod N2 2) == 1), nm, rest)]) from ho)
                          have HR15 := Aside0.mk (HR14.out.row hg (fun k e => ⟨Nat.le_trans hw0 (Kd.N_base HO14.out k e), (HO14.out.1 k e).1.1, (HO14.out.1 k e).1.2⟩))
                          have HS15 := Aside0.mk (HS14.out.row hg (Kd.N_base HO14.out))
                          clear ho hb hg hat hw0
                          refine hK.out _ _ ?_
                          clear hK K
                          refine norm_ (a' := ?_) ?_ ?_
                          rotate_left
                          · show Act.put _ (some 117) _ = _
                            simp only [Act.put, List.setIfInBounds_toArray, List.set_cons_zero, List.set_cons_succ, i64_w, i32_w]
                            rfl
                          refine pure_ (i := 14) (N := some 8) (v := ?_) (a' := ?_) #[true, true, true, true, true, true, true, true, true, true, true, true, true, true, true] rfl rfl (by kernel_rfl) (fun _ _ _ h => h) (Or.inl ⟨by rfl, ?_⟩) ?_ ?_
                          rotate_left
                          · intro w'
                            go_simp
                            with_reducible rfl
                          rotate_left
                          · simp only [Act.put, List.setIfInBounds_toArray, List.set_cons_zero, List.set_cons_succ, i64_w, i32_w]
                            rfl
                          refine done_ (by kernel_rfl) ?_
                          try go_wp2
                          go_roundg (n - (i + 1)).toNat
                          case measure => have := HI.out; have := HC4.out; omega
                          case rel => exact ⟨i + 1, x, NX, .slice A7 (T1.length + 1) c7, IX :: T1, acc ++ [(IX, ((Int.tmod N2 2) == 1), nm, rest)], rfl, rfl, by rw [HV.out], ⟨by have := HI.out; have := HC4.out; omega⟩, ⟨HXI.out, HXX.out⟩, ⟨by rw [show (n - (i + 1)).toNat = k by have := HK.out; omega]; exact HX8.out⟩, ⟨HO15.out, HR15.out, HS15.out, by have := HW.out.2.2.2.1; have := HI.out; simp; omega, by have := HW.out.2.2.2.2; have := HI.out; simp; omega⟩⟩
                        · have ci : decide (IntKind.u64.wrap (i + 1) < n) = true := decide_eq_true (by rw [HV.out]; have := HK.out; have := HI.out; omega)
                          have hx := HX7.out
                          rw [if_pos ⟨cz, ck⟩] at hx
                          have HX8 := Aside0.mk hx
                          clear hx HX7 cz ck
                          go_wp2_with (first
                            | (go_at_call 63; (with_reducible refine (entry_some HW.out.2.1 HG.out ad bb 20 HAB.out.1 HAB.out.2 (by omega) x s HQ.out 20 rfl).mono ?_); rintro e w2 ⟨A, c, rfl, hc, hF, hw⟩; have HCC := Aside0.mk hc; have HF2 := Aside0.mk hF; have HL2 := Aside0.mk hw; clear hc hF hw)
                            | (go_at_call 44; (with_reducible refine (rnum_at HS.out.1 HS.out.2 HCC.out (Kd.F_now HF2.out) 4 6 4 6 rfl rfl (by decide) (by decide) (by decide)).mono ?_); rintro e w3 ⟨rfl, hd⟩; have hw_ := below_drawn hd; have HF3 := Aside0.mk (Kd.F_below HF2.out hw_); have HL3 := Aside0.mk (below_step HL2.out hw_); clear hd hw_; rw [HNI.out])
                            | (go_at_call 44; (with_reducible refine (rnum_at HS.out.1 HS.out.2 HCC.out (Kd.F_now HF3.out) 6 8 6 8 rfl rfl (by decide) (by decide) (by decide)).mono ?_); rintro e w4 ⟨rfl, hd⟩; have hw_ := below_drawn hd; have HF4 := Aside0.mk (Kd.F_below HF3.out hw_); have HL4 := Aside0.mk (below_step HL3.out hw_); clear hd hw_; rw [HNC.out])
                            | (go_at_call 45; (try rw [hidx]); (with_reducible refine (had_calls (HW.out.2.1.up HL4.out) IX (by have := HW.out.2.2.2.2; have := HTL.out; have := HI.out; have := HN.out; omega)).mono ?_); rintro e w5 ⟨rfl, hd⟩; have hw_ := below_drawn hd; have HF5 := Aside0.mk (Kd.F_below HF4.out hw_); have HL5 := Aside0.mk (below_step HL4.out hw_); clear hd hw_)
                            | (go_at_call 44; (with_reducible refine (rnum_at HS.out.1 HS.out.2 HCC.out (Kd.F_now HF5.out) 0 2 0 2 rfl rfl (by decide) (by decide) (by decide)).mono ?_); rintro e w6 ⟨rfl, hd⟩; have hw_ := below_drawn hd; have HF6 := Aside0.mk (Kd.F_below HF5.out hw_); have HL6 := Aside0.mk (below_step HL5.out hw_); have k5 := (HW.out.2.1.up HL6.out).c5; clear hd hw_; rw [HN0.out])
                            | ((with_reducible refine gate_builtin (b := .append) (xs := #[.tmp 68, .tmp 70]) rfl ?_); at_builtin; refine Kd.R_append (Kd.int .i64) (w0 := w0) w0.heap.size rfl (.tmp 68) (.tmp 70) 37 3 (.int .i64 0) 8 rfl Try.underlying37 info3 rfl (by decide) (by omega) (.slice AT T1.length cT) T1.reverse IX [.int .i64 IX] (fun k => k ≠ r.p) (fun _ => False) rfl (by first | (go_simp; done) | (go_simp; rfl)) ?tP (fun _ hk => hk.elim) ?tF ?tO ?tB ?tS ?tL ?_; (case tP => exact rfl); (case tF => exact fun k hk e => by have := (HW.out.2.1.up HL6.out).plt; omega); (case tO => exact (HW.out.2.1.up HL6.out).told); (case tB => exact (HW.out.2.1.up HL6.out).hw); (case tS => exact (HW.out.2.1.up HL6.out).hw.size); (case tL => have := HW.out.2.2.2.2; have := HTL.out; have := HI.out; have := HN.out; simp; omega); intro v7 w7 ho hb hg hat; obtain ⟨A7, c7, e7⟩ := Kd.R_slice ho; replace e7 : v7 = .slice A7 (T1.length + 1) c7 := (by simpa using e7); subst e7; have HT7 := Aside0.mk ((HW.out.2.1.up HL6.out).tell ho hg hat); have hbx := (hg.block _ (HW.out.2.1.up HL6.out).plt (fun e => (HW.out.2.1.up HL6.out).told.1 _ e.symm rfl)).trans (HW.out.2.1.up HL6.out).box; have hcg : w7.cell? ⟨r.p, 5, none⟩ = some (.slice AT T1.length cT) := (cell_of_row w7 r.p 5 _ _ _ hbx).trans rfl; have hfg := blk_frozen hbx 5; clear ho hb hg hat hbx)
                            | ((with_reducible refine gate_store (t := 37) (p := 73) rfl ?_); refine store_event (t := 37) (p := 73) (v := ?vo4) (w1 := (w7.setCell ⟨r.p, 5, none⟩ (.slice A7 (T1.length + 1) c7))) ?hg4 ?ho4 ?hn4 ?hr4 ?_; (case ho4 => rfl); (case hg4 => rfl); (case hn4 => rfl); (case hr4 => first | (go_simp; done) | (go_simp; rfl)); intro w8 hw8; have HR8 := Aside0.mk (show Ref w0 r w8 (.slice A7 (T1.length + 1) c7) (IX :: T1) by rw [hw8]; exact HT7.out.1); have hs8 := (show St w6 r.p (.slice AT T1.length cT) w8 (.slice A7 (T1.length + 1) c7) by rw [hw8]; exact HT7.out.2); have HF8 := Aside0.mk (F_tell HW.out.2.1 HF6.out HL6.out hs8); have HO8 := Aside0.mk (N_stN (Kd.N_below HW.out.1 HL6.out) hs8); have HS8 := Aside0.mk ((HW.out.2.2.1.below HL6.out).trans hs8); clear hw8 hcg hfg k5 hs8)
                            | (go_at_call 44; (with_reducible refine (rnum_at HS.out.1 HS.out.2 HCC.out (Kd.F_now HF8.out) 12 16 12 16 rfl rfl (by decide) (by decide) (by decide)).mono ?_); rintro e w9 ⟨rfl, hd⟩; have hw_ := below_drawn hd; have HF9 := Aside0.mk (Kd.F_below HF8.out hw_); have HR9 := Aside0.mk (HR8.out.up hw_); have HS9 := Aside0.mk (HS8.out.below hw_); have HO9 := Aside0.mk (Kd.N_below HO8.out hw_); clear hd hw_; rw [HND.out])
                            | (go_at_call 64; (try rw [HWC.out]); (with_reducible refine (rnames_ok HR9.out HG.out x ND NC HXI.out HDD.out HCG.out HQV.out).mono ?_); rintro e w10 ⟨vN, rfl, hr, hw⟩; obtain ⟨AN, cN, eN, hlN, hCN⟩ := Kd.R_reads hr; subst eN; obtain ⟨adN, eA, hn10⟩ := Kd.at_string hCN 0 (by omega) (by simp); subst eA; replace hn10 : w10.cell? adN = some (.string nm) := (by rw [show adN.add (0 : Int).toNat = adN from Addr.add_zero' _] at hn10; exact hn10); have HT10 := Aside0.mk (Kd.R_F (Kd.R_mono (Kd.R_bound hr) (fun k hk => hk.2.1))); have HCN := Aside0.mk hlN; have HR10 := Aside0.mk (HR9.out.up hw); have HS10 := Aside0.mk (HS9.out.below hw); have HO10 := Aside0.mk (Kd.N_below HO9.out hw); have HF10 := Aside0.mk (Kd.F_below HF9.out hw); have HZ10 := Aside0.mk hw.size; clear hr hw hlN hCN)
                            | (go_at_call 65; (with_reducible refine (rsysv_calls nm w10 (by have := HNS.out; omega)).mono ?_); rintro e w11 ⟨rfl, hd⟩; have hw_ := below_drawn hd; have HF11 := Aside0.mk (Kd.F_below HF10.out hw_); have HR11 := Aside0.mk (HR10.out.up hw_); have HS11 := Aside0.mk (HS10.out.below hw_); have HO11 := Aside0.mk (Kd.N_below HO10.out hw_); have HT11 := Aside0.mk (Kd.F_below HT10.out hw_); have hn11 := cell_up hw_ hn10; clear hd hw_; rw [HSY.out])
                            | (go_at_call 44; (with_reducible refine (rnum_at HS.out.1 HS.out.2 HCC.out (Kd.F_now HF11.out) 8 12 8 12 rfl rfl (by decide) (by decide) (by decide)).mono ?_); rintro e w12 ⟨rfl, hd⟩; have hw_ := below_drawn hd; have HF12 := Aside0.mk (Kd.F_below HF11.out hw_); have HR12 := Aside0.mk (HR11.out.up hw_); have HS12 := Aside0.mk (HS11.out.below hw_); have HO12 := Aside0.mk (Kd.N_below HO11.out hw_); have HT12 := Aside0.mk (Kd.F_below HT11.out hw_); have hn12 := cell_up hw_ hn11; clear hd hw_; rw [HNH.out])
                            | (go_at_call 44; (with_reducible refine (rnum_at HS.out.1 HS.out.2 HCC.out (Kd.F_now HF12.out) 16 20 16 20 rfl rfl (by decide) (by decide) (by decide)).mono ?_); rintro e w13 ⟨rfl, hd⟩; have hw_ := below_drawn hd; have HF13 := Aside0.mk (Kd.F_below HF12.out hw_); have HR13 := Aside0.mk (HR12.out.up hw_); have HS13 := Aside0.mk (HS12.out.below hw_); have HO13 := Aside0.mk (Kd.N_below HO12.out hw_); have HT13 := Aside0.mk (Kd.F_below HT12.out hw_); have hn13 := cell_up hw_ hn12; clear hd hw_; rw [HNX.out]))
                          refine HP.out _ _ ?_
                          rw [← HX8.out]
                          exact RowsR.err rfl HR13.out.hw
                      · have cz0 : (NX == 0) = false := beq_eq_false_iff_ne.2 cz
                        have hx := HX7.out
                        rw [if_neg (fun h => cz h.1)] at hx
                        have HX8 := Aside0.mk hx
                        clear hx HX7 cz
                        go_wp2_with (first
                          | (go_at_call 63; (with_reducible refine (entry_some HW.out.2.1 HG.out ad bb 20 HAB.out.1 HAB.out.2 (by omega) x s HQ.out 20 rfl).mono ?_); rintro e w2 ⟨A, c, rfl, hc, hF, hw⟩; have HCC := Aside0.mk hc; have HF2 := Aside0.mk hF; have HL2 := Aside0.mk hw; clear hc hF hw)
                          | (go_at_call 44; (with_reducible refine (rnum_at HS.out.1 HS.out.2 HCC.out (Kd.F_now HF2.out) 4 6 4 6 rfl rfl (by decide) (by decide) (by decide)).mono ?_); rintro e w3 ⟨rfl, hd⟩; have hw_ := below_drawn hd; have HF3 := Aside0.mk (Kd.F_below HF2.out hw_); have HL3 := Aside0.mk (below_step HL2.out hw_); clear hd hw_; rw [HNI.out])
                          | (go_at_call 44; (with_reducible refine (rnum_at HS.out.1 HS.out.2 HCC.out (Kd.F_now HF3.out) 6 8 6 8 rfl rfl (by decide) (by decide) (by decide)).mono ?_); rintro e w4 ⟨rfl, hd⟩; have hw_ := below_drawn hd; have HF4 := Aside0.mk (Kd.F_below HF3.out hw_); have HL4 := Aside0.mk (below_step HL3.out hw_); clear hd hw_; rw [HNC.out])
                          | (go_at_call 45; (try rw [hidx]); (with_reducible refine (had_calls (HW.out.2.1.up HL4.out) IX (by have := HW.out.2.2.2.2; have := HTL.out; have := HI.out; have := HN.out; omega)).mono ?_); rintro e w5 ⟨rfl, hd⟩; have hw_ := below_drawn hd; have HF5 := Aside0.mk (Kd.F_below HF4.out hw_); have HL5 := Aside0.mk (below_step HL4.out hw_); clear hd hw_)
                          | (go_at_call 44; (with_reducible refine (rnum_at HS.out.1 HS.out.2 HCC.out (Kd.F_now HF5.out) 0 2 0 2 rfl rfl (by decide) (by decide) (by decide)).mono ?_); rintro e w6 ⟨rfl, hd⟩; have hw_ := below_drawn hd; have HF6 := Aside0.mk (Kd.F_below HF5.out hw_); have HL6 := Aside0.mk (below_step HL5.out hw_); have k5 := (HW.out.2.1.up HL6.out).c5; clear hd hw_; rw [HN0.out])
                          | ((with_reducible refine gate_builtin (b := .append) (xs := #[.tmp 68, .tmp 70]) rfl ?_); at_builtin; refine Kd.R_append (Kd.int .i64) (w0 := w0) w0.heap.size rfl (.tmp 68) (.tmp 70) 37 3 (.int .i64 0) 8 rfl Try.underlying37 info3 rfl (by decide) (by omega) (.slice AT T1.length cT) T1.reverse IX [.int .i64 IX] (fun k => k ≠ r.p) (fun _ => False) rfl (by first | (go_simp; done) | (go_simp; rfl)) ?tP (fun _ hk => hk.elim) ?tF ?tO ?tB ?tS ?tL ?_; (case tP => exact rfl); (case tF => exact fun k hk e => by have := (HW.out.2.1.up HL6.out).plt; omega); (case tO => exact (HW.out.2.1.up HL6.out).told); (case tB => exact (HW.out.2.1.up HL6.out).hw); (case tS => exact (HW.out.2.1.up HL6.out).hw.size); (case tL => have := HW.out.2.2.2.2; have := HTL.out; have := HI.out; have := HN.out; simp; omega); intro v7 w7 ho hb hg hat; obtain ⟨A7, c7, e7⟩ := Kd.R_slice ho; replace e7 : v7 = .slice A7 (T1.length + 1) c7 := (by simpa using e7); subst e7; have HT7 := Aside0.mk ((HW.out.2.1.up HL6.out).tell ho hg hat); have hbx := (hg.block _ (HW.out.2.1.up HL6.out).plt (fun e => (HW.out.2.1.up HL6.out).told.1 _ e.symm rfl)).trans (HW.out.2.1.up HL6.out).box; have hcg : w7.cell? ⟨r.p, 5, none⟩ = some (.slice AT T1.length cT) := (cell_of_row w7 r.p 5 _ _ _ hbx).trans rfl; have hfg := blk_frozen hbx 5; clear ho hb hg hat hbx)
                          | ((with_reducible refine gate_store (t := 37) (p := 73) rfl ?_); refine store_event (t := 37) (p := 73) (v := ?vo3) (w1 := (w7.setCell ⟨r.p, 5, none⟩ (.slice A7 (T1.length + 1) c7))) ?hg3 ?ho3 ?hn3 ?hr3 ?_; (case ho3 => rfl); (case hg3 => rfl); (case hn3 => rfl); (case hr3 => first | (go_simp; done) | (go_simp; rfl)); intro w8 hw8; have HR8 := Aside0.mk (show Ref w0 r w8 (.slice A7 (T1.length + 1) c7) (IX :: T1) by rw [hw8]; exact HT7.out.1); have hs8 := (show St w6 r.p (.slice AT T1.length cT) w8 (.slice A7 (T1.length + 1) c7) by rw [hw8]; exact HT7.out.2); have HF8 := Aside0.mk (F_tell HW.out.2.1 HF6.out HL6.out hs8); have HO8 := Aside0.mk (N_stN (Kd.N_below HW.out.1 HL6.out) hs8); have HS8 := Aside0.mk ((HW.out.2.2.1.below HL6.out).trans hs8); clear hw8 hcg hfg k5 hs8)
                          | (go_at_call 44; (with_reducible refine (rnum_at HS.out.1 HS.out.2 HCC.out (Kd.F_now HF8.out) 12 16 12 16 rfl rfl (by decide) (by decide) (by decide)).mono ?_); rintro e w9 ⟨rfl, hd⟩; have hw_ := below_drawn hd; have HF9 := Aside0.mk (Kd.F_below HF8.out hw_); have HR9 := Aside0.mk (HR8.out.up hw_); have HS9 := Aside0.mk (HS8.out.below hw_); have HO9 := Aside0.mk (Kd.N_below HO8.out hw_); clear hd hw_; rw [HND.out])
                          | (go_at_call 64; (try rw [HWC.out]); (with_reducible refine (rnames_ok HR9.out HG.out x ND NC HXI.out HDD.out HCG.out HQV.out).mono ?_); rintro e w10 ⟨vN, rfl, hr, hw⟩; obtain ⟨AN, cN, eN, hlN, hCN⟩ := Kd.R_reads hr; subst eN; obtain ⟨adN, eA, hn10⟩ := Kd.at_string hCN 0 (by omega) (by simp); subst eA; replace hn10 : w10.cell? adN = some (.string nm) := (by rw [show adN.add (0 : Int).toNat = adN from Addr.add_zero' _] at hn10; exact hn10); have HT10 := Aside0.mk (Kd.R_F (Kd.R_mono (Kd.R_bound hr) (fun k hk => hk.2.1))); have HCN := Aside0.mk hlN; have HR10 := Aside0.mk (HR9.out.up hw); have HS10 := Aside0.mk (HS9.out.below hw); have HO10 := Aside0.mk (Kd.N_below HO9.out hw); have HF10 := Aside0.mk (Kd.F_below HF9.out hw); have HZ10 := Aside0.mk hw.size; clear hr hw hlN hCN)
                          | (go_at_call 65; (with_reducible refine (rsysv_calls nm w10 (by have := HNS.out; omega)).mono ?_); rintro e w11 ⟨rfl, hd⟩; have hw_ := below_drawn hd; have HF11 := Aside0.mk (Kd.F_below HF10.out hw_); have HR11 := Aside0.mk (HR10.out.up hw_); have HS11 := Aside0.mk (HS10.out.below hw_); have HO11 := Aside0.mk (Kd.N_below HO10.out hw_); have HT11 := Aside0.mk (Kd.F_below HT10.out hw_); have hn11 := cell_up hw_ hn10; clear hd hw_; rw [HSY.out])
                          | (go_at_call 44; (with_reducible refine (rnum_at HS.out.1 HS.out.2 HCC.out (Kd.F_now HF11.out) 8 12 8 12 rfl rfl (by decide) (by decide) (by decide)).mono ?_); rintro e w12 ⟨rfl, hd⟩; have hw_ := below_drawn hd; have HF12 := Aside0.mk (Kd.F_below HF11.out hw_); have HR12 := Aside0.mk (HR11.out.up hw_); have HS12 := Aside0.mk (HS11.out.below hw_); have HO12 := Aside0.mk (Kd.N_below HO11.out hw_); have HT12 := Aside0.mk (Kd.F_below HT11.out hw_); have hn12 := cell_up hw_ hn11; clear hd hw_; rw [HNH.out])
                          | (go_at_call 44; (with_reducible refine (rnum_at HS.out.1 HS.out.2 HCC.out (Kd.F_now HF12.out) 16 20 16 20 rfl rfl (by decide) (by decide) (by decide)).mono ?_); rintro e w13 ⟨rfl, hd⟩; have hw_ := below_drawn hd; have HF13 := Aside0.mk (Kd.F_below HF12.out hw_); have HR13 := Aside0.mk (HR12.out.up hw_); have HS13 := Aside0.mk (HS12.out.below hw_); have HO13 := Aside0.mk (Kd.N_below HO12.out hw_); have HT13 := Aside0.mk (Kd.F_below HT12.out hw_); have hn13 := cell_up hw_ hn12; clear hd hw_; rw [HNX.out]))
                        obtain ⟨AR, cR, hcutR, hcapR, hRC⟩ := rest_cut2 adN cN nm rest HCN.out
                        have HRC := Aside0.mk hRC
                        clear hRC
                        refine start_ (n := 15) (S := fun w' => w'.cell? adN = some (.string nm)) (ds := [12, 13]) #[false, false, false, false, false, false, false, false, false, false, false, false, false, false, false] (by kernel_rfl) rfl rfl ((cell_up (below_drew1 (Below.refl w13.heap.size w13)) hn13)) (fun hHeld => ?_)
                        refine pure_ (i := 0) (N := some 104) (v := ?_) (a' := ?_) #[true, false, false, false, false, false, false, false, false, false, false, false, false, false, false] rfl rfl (by kernel_rfl) (fun _ _ _ h => h) (Or.inl ⟨by rfl, ?_⟩) ?_ ?_
                        rotate_left
                        · intro w'
                          go_simp
                          with_reducible rfl
                        rotate_left
                        · simp only [Act.put, List.setIfInBounds_toArray, List.set_cons_zero, List.set_cons_succ, i64_w, i32_w]
                          rfl
                        refine pure_ (i := 1) (N := some 105) (v := ?_) (a' := ?_) #[true, true, false, false, false, false, false, false, false, false, false, false, false, false, false] rfl rfl (by kernel_rfl) (fun _ _ _ h => h) (Or.inl ⟨by rfl, ?_⟩) ?_ ?_
                        rotate_left
                        · intro w'
                          go_simp
                          with_reducible rfl
                        rotate_left
                        · simp only [Act.put, List.setIfInBounds_toArray, List.set_cons_zero, List.set_cons_succ, i64_w, i32_w]
                          rfl
                        refine pure_ (i := 2) (N := some 106) (v := ?_) (a' := ?_) #[true, true, true, false, false, false, false, false, false, false, false, false, false, false, false] rfl rfl (by kernel_rfl) (fun _ _ _ h => h) (Or.inl ⟨by rfl, ?_⟩) ?_ ?_
                        rotate_left
                        · intro w'
                          go_simp
                          with_reducible rfl
                        rotate_left
                        · simp only [Act.put, List.setIfInBounds_toArray, List.set_cons_zero, List.set_cons_succ, i64_w, i32_w]
                          rfl
                        refine pure_ (i := 6) (N := some 110) (v := ?_) (a' := ?_) #[true, true, true, false, false, false, true, false, false, false, false, false, false, false, false] rfl rfl (by kernel_rfl) (fun _ _ _ h => h) (Or.inl ⟨by rfl, ?_⟩) ?_ ?_
                        rotate_left
                        · intro w'
                          go_simp
                          with_reducible rfl
                        rotate_left
                        · simp only [Act.put, List.setIfInBounds_toArray, List.set_cons_zero, List.set_cons_succ, i64_w, i32_w]
                          rfl
                        refine pure_ (i := 7) (N := some 111) (v := ?_) (a' := ?_) #[true, true, true, false, false, false, true, true, false, false, false, false, false, false, false] rfl rfl (by kernel_rfl) (fun _ _ _ h => h) (Or.inl ⟨by rfl, ?_⟩) ?_ ?_
                        rotate_left
                        · intro w'
                          go_simp
                          with_reducible rfl
                        rotate_left
                        · simp only [Act.put, List.setIfInBounds_toArray, List.set_cons_zero, List.set_cons_succ, i64_w, i32_w]
                          rfl
                        refine pure_ (i := 9) (N := some 113) (v := ?_) (a' := ?_) #[true, true, true, false, false, false, true, true, false, true, false, false, false, false, false] rfl rfl (by kernel_rfl) (fun _ _ _ h => h) (Or.inl ⟨by rfl, ?_⟩) ?_ ?_
                        rotate_left
                        · intro w'
                          go_simp
                          with_reducible rfl
                        rotate_left
                        · simp only [Act.put, List.setIfInBounds_toArray, List.set_cons_zero, List.set_cons_succ, i64_w, i32_w]
                          rfl
                        refine pure_ (i := 10) (N := some 114) (v := ?_) (a' := ?_) #[true, true, true, false, false, false, true, true, false, true, true, false, false, false, false] rfl rfl (by kernel_rfl) (fun _ _ _ h => h) (Or.inl ⟨by rfl, ?_⟩) ?_ ?_
                        rotate_left
                        · intro w'
                          go_simp
                          with_reducible rfl
                        rotate_left
                        · simp only [Act.put, List.setIfInBounds_toArray, List.set_cons_zero, List.set_cons_succ, i64_w, i32_w]
                          rfl
                        refine take_ (i := 8) (N := some 112) (v := ?_) (a' := ?_) #[true, true, true, false, false, false, true, true, true, true, true, false, false, false, false] rfl rfl (by kernel_rfl) (fun _ _ _ h => h) (Or.inl ⟨by rfl, ?_⟩) hHeld ?_ ?_
                        rotate_left
                        · intro w' s0
                          go_simp
                          with_reducible rfl
                        rotate_left
                        · simp only [Act.put, List.setIfInBounds_toArray, List.set_cons_zero, List.set_cons_succ, i64_w, i32_w]
                          rfl
                        refine one_ (i := 3) (N := some 107) #[true, true, true, true, false, false, true, true, true, true, true, false, false, false, false] rfl rfl (by kernel_rfl) (by decide) (fun K hK => ?_)
                        refine goes_ Try.func44 (by kernel_rfl) rfl #[.slice A 20 c, .int .i64 2, .int .i64 4] (by rfl) rfl rfl (by simp only [List.map_toArray, List.map_cons, List.map_nil]; rfl) ?_
                        with_reducible refine (rnum_at HS.out.1 HS.out.2 HCC.out (Kd.C_below (Kd.F_now HF13.out) (below_drew1 (Below.refl _ _))) 2 4 2 4 rfl rfl (by decide) (by decide) (by decide)).mono ?_
                        rintro e w14 ⟨rfl, hd⟩
                        refine ⟨_, rfl, ?_⟩
                        have hw_ := below_step (below_drew1 (Below.refl w13.heap.size w13)) (below_drawn hd)
                        have hk14 := cell_up hw_ hn13
                        have HR14 := Aside0.mk (HR13.out.up hw_)
                        have HS14 := Aside0.mk (HS13.out.below hw_)
                        have HO14 := Aside0.mk (Kd.N_below HO13.out hw_)
                        have HT14 := Aside0.mk (Kd.F_below HT13.out hw_)
                        clear hd hw_
                        rw [HN2.out]
                        refine hK.out _ _ (hk14) (fun hHeld => ?_)
                        clear hK K
                        refine norm_ (a' := ?_) ?_ ?_
                        rotate_left
                        · show Act.put _ (some 107) _ = _
                          simp only [Act.put, List.setIfInBounds_toArray, List.set_cons_zero, List.set_cons_succ, i64_w, i32_w]
                          rfl
                        refine pure_ (i := 4) (N := some 108) (v := ?_) (a' := ?_) #[true, true, true, true, true, false, true, true, true, true, true, false, false, false, false] rfl rfl (by kernel_rfl) (fun _ _ _ h => h) (Or.inl ⟨by rfl, ?_⟩) ?_ ?_
                        rotate_left
                        · intro w'
                          go_simp
                          with_reducible rfl
                        rotate_left
                        · simp only [Act.put, List.setIfInBounds_toArray, List.set_cons_zero, List.set_cons_succ, i64_w, i32_w]
                          rfl
                        refine pure_ (i := 5) (N := some 109) (v := ?_) (a' := ?_) #[true, true, true, true, true, true, true, true, true, true, true, false, false, false, false] rfl rfl (by kernel_rfl) (fun _ _ _ h => h) (Or.inl ⟨by rfl, ?_⟩) ?_ ?_
                        rotate_left
                        · intro w'
                          go_simp
                          with_reducible rfl
                        rotate_left
                        · simp only [Act.put, List.setIfInBounds_toArray, List.set_cons_zero, List.set_cons_succ, i64_w, i32_w]
                          rfl
                        refine pure_ (i := 11) (N := some 115) (v := ?_) (a' := ?_) #[true, true, true, true, true, true, true, true, true, true, true, true, false, false, false] rfl rfl (by kernel_rfl) (fun _ _ _ h => h) (Or.inl ⟨by rfl, ?_⟩) ?_ ?_
                        rotate_left
                        · intro w'
                          go_simp
                          with_reducible rfl
                        rotate_left
                        · simp only [Act.put, List.setIfInBounds_toArray, List.set_cons_zero, List.set_cons_succ, i64_w, i32_w]
                          rfl
                        refine last_ (i := 12) (N := some 116) #[true, true, true, true, true, true, true, true, true, true, true, true, true, false, false] rfl rfl (by kernel_rfl) (by decide) (fun K hK => ?_)
                        refine value_ (w1 := ?_) (v := ?_) (by rfl) rfl ?_ ?_
                        rotate_left 2
                        · go_simp
                          constructor
                          · rfl
                          · rfl
                        refine hK.out _ _ ?_
                        clear hK K
                        refine norm_ (a' := ?_) ?_ ?_
                        rotate_left
                        · show Act.put _ (some 116) _ = _
                          simp only [Act.put, List.setIfInBounds_toArray, List.set_cons_zero, List.set_cons_succ, i64_w, i32_w]
                          rfl
                        refine last_ (i := 13) (N := some 117) #[true, true, true, true, true, true, true, true, true, true, true, true, true, true, false] rfl rfl (by kernel_rfl) (by decide) (fun K hK => ?_)
                        refine Kd.N_append_step kDf (w0 := w14) w.heap.size (by rfl) (.tmp 104) (.tmp 116) 51 63 (.agg #[.int .i64 0, .bool false, .string ⟨#[]⟩, .slice none 0 0]) 56 rfl Try.underlying51 info63 rfl (by decide) (by omega) u8 acc (IX, ((Int.tmod N2 2) == 1), nm, rest) [.int .i64 IX, .bool ((Int.tmod N2 2) == 1), .string nm, .slice AR rest.length cR] (okN w r.p (.slice A7 (T1.length + 1) c7)) (fun k => w9.heap.size ≤ k ∧ k < w14.heap.size) rfl (by first | (go_simp; done) | (go_simp; rfl)) ?aP ?aK ?aF ?aO ?aB ?aS ?aL ?_
                        case aP => exact kDf_mkF _ _ (IX, ((Int.tmod N2 2) == 1), nm, rest) hcapR (Kd.F_bound (Kd.F_imp HT14.out (fun W2 hC => HRC.out W2 hC)))
                        case aK => exact fun k hk => ⟨⟨⟨fun e => by have := HR9.out.plt; have := hk.1; omega, fun e => by have := HR9.out.lt k e.symm; have := hk.1; omega⟩, Nat.le_trans HS9.out.size hk.1⟩, fun e => by have := Kd.N_lt HO9.out k e.symm; have := hk.1; omega⟩
                        case aF => exact fun k hk => ⟨⟨fun e => by have := HR14.out.plt; omega, fun e => by have := HR14.out.lt k e.symm; omega⟩, Nat.le_trans HS14.out.size hk⟩
                        case aO => exact HO14.out
                        case aB => exact Below.refl _ _
                        case aS => exact HS14.out.size
                        case aL => have := HW.out.2.2.2.1; have := HI.out; have := HN.out; omega
                        intro v15 w15 ho hb hg hat
                        have hw0 := HH.out.hw.size
                        have HO15 := Aside0.mk (show Kd.N kDf 63 w15 w.heap.size (okN w r.p (.slice A7 (T1.length + 1) c7)) v15 (acc ++ [(IX, ((Int.tmod N2 2) == 1), nm, rest)]) from ho)
                        have HR15 := Aside0.mk (HR14.out.row hg (fun k e => ⟨Nat.le_trans hw0 (Kd.N_base HO14.out k e), (HO14.out.1 k e).1.1, (HO14.out.1 k e).1.2⟩))
                        have HS15 := Aside0.mk (HS14.out.row hg (Kd.N_base HO14.out))
                        clear ho hb hg hat hw0
                        refine hK.out _ _ ?_
                        clear hK K
                        refine norm_ (a' := ?_) ?_ ?_
                        rotate_left
                        · show Act.put _ (some 117) _ = _
                          simp only [Act.put, List.setIfInBounds_toArray, List.set_cons_zero, List.set_cons_succ, i64_w, i32_w]
                          rfl
                        refine pure_ (i := 14) (N := some 8) (v := ?_) (a' := ?_) #[true, true, true, true, true, true, true, true, true, true, true, true, true, true, true] rfl rfl (by kernel_rfl) (fun _ _ _ h => h) (Or.inl ⟨by rfl, ?_⟩) ?_ ?_
                        rotate_left
                        · intro w'
                          go_simp
                          with_reducible rfl
                        rotate_left
                        · simp only [Act.put, List.setIfInBounds_toArray, List.set_cons_zero, List.set_cons_succ, i64_w, i32_w]
                          rfl
                        refine done_ (by kernel_rfl) ?_
                        try go_wp2
                        go_roundg (n - (i + 1)).toNat
                        case measure => have := HI.out; have := HC4.out; omega
                        case rel => exact ⟨i + 1, x, NX, .slice A7 (T1.length + 1) c7, IX :: T1, acc ++ [(IX, ((Int.tmod N2 2) == 1), nm, rest)], rfl, rfl, by rw [HV.out], ⟨by have := HI.out; have := HC4.out; omega⟩, ⟨HXI.out, HXX.out⟩, ⟨by rw [show (n - (i + 1)).toNat = k by have := HK.out; omega]; exact HX8.out⟩, ⟨HO15.out, HR15.out, HS15.out, by have := HW.out.2.2.2.1; have := HI.out; simp; omega, by have := HW.out.2.2.2.2; have := HI.out; simp; omega⟩⟩
                    · have cs0 : (IntKind.u64.wrap SY != NH) = true := by rw [HSU.out]; exact ne_t cs
                      have hx := HX6.out
                      rw [if_pos cs] at hx
                      have HX7 := Aside0.mk hx
                      clear hx HX6 cs
                      go_wp2_with (first
                        | (go_at_call 63; (with_reducible refine (entry_some HW.out.2.1 HG.out ad bb 20 HAB.out.1 HAB.out.2 (by omega) x s HQ.out 20 rfl).mono ?_); rintro e w2 ⟨A, c, rfl, hc, hF, hw⟩; have HCC := Aside0.mk hc; have HF2 := Aside0.mk hF; have HL2 := Aside0.mk hw; clear hc hF hw)
                        | (go_at_call 44; (with_reducible refine (rnum_at HS.out.1 HS.out.2 HCC.out (Kd.F_now HF2.out) 4 6 4 6 rfl rfl (by decide) (by decide) (by decide)).mono ?_); rintro e w3 ⟨rfl, hd⟩; have hw_ := below_drawn hd; have HF3 := Aside0.mk (Kd.F_below HF2.out hw_); have HL3 := Aside0.mk (below_step HL2.out hw_); clear hd hw_; rw [HNI.out])
                        | (go_at_call 44; (with_reducible refine (rnum_at HS.out.1 HS.out.2 HCC.out (Kd.F_now HF3.out) 6 8 6 8 rfl rfl (by decide) (by decide) (by decide)).mono ?_); rintro e w4 ⟨rfl, hd⟩; have hw_ := below_drawn hd; have HF4 := Aside0.mk (Kd.F_below HF3.out hw_); have HL4 := Aside0.mk (below_step HL3.out hw_); clear hd hw_; rw [HNC.out])
                        | (go_at_call 45; (try rw [hidx]); (with_reducible refine (had_calls (HW.out.2.1.up HL4.out) IX (by have := HW.out.2.2.2.2; have := HTL.out; have := HI.out; have := HN.out; omega)).mono ?_); rintro e w5 ⟨rfl, hd⟩; have hw_ := below_drawn hd; have HF5 := Aside0.mk (Kd.F_below HF4.out hw_); have HL5 := Aside0.mk (below_step HL4.out hw_); clear hd hw_)
                        | (go_at_call 44; (with_reducible refine (rnum_at HS.out.1 HS.out.2 HCC.out (Kd.F_now HF5.out) 0 2 0 2 rfl rfl (by decide) (by decide) (by decide)).mono ?_); rintro e w6 ⟨rfl, hd⟩; have hw_ := below_drawn hd; have HF6 := Aside0.mk (Kd.F_below HF5.out hw_); have HL6 := Aside0.mk (below_step HL5.out hw_); have k5 := (HW.out.2.1.up HL6.out).c5; clear hd hw_; rw [HN0.out])
                        | ((with_reducible refine gate_builtin (b := .append) (xs := #[.tmp 68, .tmp 70]) rfl ?_); at_builtin; refine Kd.R_append (Kd.int .i64) (w0 := w0) w0.heap.size rfl (.tmp 68) (.tmp 70) 37 3 (.int .i64 0) 8 rfl Try.underlying37 info3 rfl (by decide) (by omega) (.slice AT T1.length cT) T1.reverse IX [.int .i64 IX] (fun k => k ≠ r.p) (fun _ => False) rfl (by first | (go_simp; done) | (go_simp; rfl)) ?tP (fun _ hk => hk.elim) ?tF ?tO ?tB ?tS ?tL ?_; (case tP => exact rfl); (case tF => exact fun k hk e => by have := (HW.out.2.1.up HL6.out).plt; omega); (case tO => exact (HW.out.2.1.up HL6.out).told); (case tB => exact (HW.out.2.1.up HL6.out).hw); (case tS => exact (HW.out.2.1.up HL6.out).hw.size); (case tL => have := HW.out.2.2.2.2; have := HTL.out; have := HI.out; have := HN.out; simp; omega); intro v7 w7 ho hb hg hat; obtain ⟨A7, c7, e7⟩ := Kd.R_slice ho; replace e7 : v7 = .slice A7 (T1.length + 1) c7 := (by simpa using e7); subst e7; have HT7 := Aside0.mk ((HW.out.2.1.up HL6.out).tell ho hg hat); have hbx := (hg.block _ (HW.out.2.1.up HL6.out).plt (fun e => (HW.out.2.1.up HL6.out).told.1 _ e.symm rfl)).trans (HW.out.2.1.up HL6.out).box; have hcg : w7.cell? ⟨r.p, 5, none⟩ = some (.slice AT T1.length cT) := (cell_of_row w7 r.p 5 _ _ _ hbx).trans rfl; have hfg := blk_frozen hbx 5; clear ho hb hg hat hbx)
                        | ((with_reducible refine gate_store (t := 37) (p := 73) rfl ?_); refine store_event (t := 37) (p := 73) (v := ?vo5) (w1 := (w7.setCell ⟨r.p, 5, none⟩ (.slice A7 (T1.length + 1) c7))) ?hg5 ?ho5 ?hn5 ?hr5 ?_; (case ho5 => rfl); (case hg5 => rfl); (case hn5 => rfl); (case hr5 => first | (go_simp; done) | (go_simp; rfl)); intro w8 hw8; have HR8 := Aside0.mk (show Ref w0 r w8 (.slice A7 (T1.length + 1) c7) (IX :: T1) by rw [hw8]; exact HT7.out.1); have hs8 := (show St w6 r.p (.slice AT T1.length cT) w8 (.slice A7 (T1.length + 1) c7) by rw [hw8]; exact HT7.out.2); have HF8 := Aside0.mk (F_tell HW.out.2.1 HF6.out HL6.out hs8); have HO8 := Aside0.mk (N_stN (Kd.N_below HW.out.1 HL6.out) hs8); have HS8 := Aside0.mk ((HW.out.2.2.1.below HL6.out).trans hs8); clear hw8 hcg hfg k5 hs8)
                        | (go_at_call 44; (with_reducible refine (rnum_at HS.out.1 HS.out.2 HCC.out (Kd.F_now HF8.out) 12 16 12 16 rfl rfl (by decide) (by decide) (by decide)).mono ?_); rintro e w9 ⟨rfl, hd⟩; have hw_ := below_drawn hd; have HF9 := Aside0.mk (Kd.F_below HF8.out hw_); have HR9 := Aside0.mk (HR8.out.up hw_); have HS9 := Aside0.mk (HS8.out.below hw_); have HO9 := Aside0.mk (Kd.N_below HO8.out hw_); clear hd hw_; rw [HND.out])
                        | (go_at_call 64; (try rw [HWC.out]); (with_reducible refine (rnames_ok HR9.out HG.out x ND NC HXI.out HDD.out HCG.out HQV.out).mono ?_); rintro e w10 ⟨vN, rfl, hr, hw⟩; obtain ⟨AN, cN, eN, hlN, hCN⟩ := Kd.R_reads hr; subst eN; obtain ⟨adN, eA, hn10⟩ := Kd.at_string hCN 0 (by omega) (by simp); subst eA; replace hn10 : w10.cell? adN = some (.string nm) := (by rw [show adN.add (0 : Int).toNat = adN from Addr.add_zero' _] at hn10; exact hn10); have HT10 := Aside0.mk (Kd.R_F (Kd.R_mono (Kd.R_bound hr) (fun k hk => hk.2.1))); have HCN := Aside0.mk hlN; have HR10 := Aside0.mk (HR9.out.up hw); have HS10 := Aside0.mk (HS9.out.below hw); have HO10 := Aside0.mk (Kd.N_below HO9.out hw); have HF10 := Aside0.mk (Kd.F_below HF9.out hw); have HZ10 := Aside0.mk hw.size; clear hr hw hlN hCN)
                        | (go_at_call 65; (with_reducible refine (rsysv_calls nm w10 (by have := HNS.out; omega)).mono ?_); rintro e w11 ⟨rfl, hd⟩; have hw_ := below_drawn hd; have HF11 := Aside0.mk (Kd.F_below HF10.out hw_); have HR11 := Aside0.mk (HR10.out.up hw_); have HS11 := Aside0.mk (HS10.out.below hw_); have HO11 := Aside0.mk (Kd.N_below HO10.out hw_); have HT11 := Aside0.mk (Kd.F_below HT10.out hw_); have hn11 := cell_up hw_ hn10; clear hd hw_; rw [HSY.out])
                        | (go_at_call 44; (with_reducible refine (rnum_at HS.out.1 HS.out.2 HCC.out (Kd.F_now HF11.out) 8 12 8 12 rfl rfl (by decide) (by decide) (by decide)).mono ?_); rintro e w12 ⟨rfl, hd⟩; have hw_ := below_drawn hd; have HF12 := Aside0.mk (Kd.F_below HF11.out hw_); have HR12 := Aside0.mk (HR11.out.up hw_); have HS12 := Aside0.mk (HS11.out.below hw_); have HO12 := Aside0.mk (Kd.N_below HO11.out hw_); have HT12 := Aside0.mk (Kd.F_below HT11.out hw_); have hn12 := cell_up hw_ hn11; clear hd hw_; rw [HNH.out]))
                      refine HP.out _ _ ?_
                      rw [← HX7.out]
                      exact RowsR.err rfl HR12.out.hw
        · have c00 : (N0 != 1) = true := ne_t c0
          have hx := HX2.out
          rw [if_pos (.inl c0)] at hx
          have HX3 := Aside0.mk hx
          clear hx HX2 c0
          go_wp2_with (first
            | (go_at_call 63; (with_reducible refine (entry_some HW.out.2.1 HG.out ad bb 20 HAB.out.1 HAB.out.2 (by omega) x s HQ.out 20 rfl).mono ?_); rintro e w2 ⟨A, c, rfl, hc, hF, hw⟩; have HCC := Aside0.mk hc; have HF2 := Aside0.mk hF; have HL2 := Aside0.mk hw; clear hc hF hw)
            | (go_at_call 44; (with_reducible refine (rnum_at HS.out.1 HS.out.2 HCC.out (Kd.F_now HF2.out) 4 6 4 6 rfl rfl (by decide) (by decide) (by decide)).mono ?_); rintro e w3 ⟨rfl, hd⟩; have hw_ := below_drawn hd; have HF3 := Aside0.mk (Kd.F_below HF2.out hw_); have HL3 := Aside0.mk (below_step HL2.out hw_); clear hd hw_; rw [HNI.out])
            | (go_at_call 44; (with_reducible refine (rnum_at HS.out.1 HS.out.2 HCC.out (Kd.F_now HF3.out) 6 8 6 8 rfl rfl (by decide) (by decide) (by decide)).mono ?_); rintro e w4 ⟨rfl, hd⟩; have hw_ := below_drawn hd; have HF4 := Aside0.mk (Kd.F_below HF3.out hw_); have HL4 := Aside0.mk (below_step HL3.out hw_); clear hd hw_; rw [HNC.out])
            | (go_at_call 45; (try rw [hidx]); (with_reducible refine (had_calls (HW.out.2.1.up HL4.out) IX (by have := HW.out.2.2.2.2; have := HTL.out; have := HI.out; have := HN.out; omega)).mono ?_); rintro e w5 ⟨rfl, hd⟩; have hw_ := below_drawn hd; have HF5 := Aside0.mk (Kd.F_below HF4.out hw_); have HL5 := Aside0.mk (below_step HL4.out hw_); clear hd hw_)
            | (go_at_call 44; (with_reducible refine (rnum_at HS.out.1 HS.out.2 HCC.out (Kd.F_now HF5.out) 0 2 0 2 rfl rfl (by decide) (by decide) (by decide)).mono ?_); rintro e w6 ⟨rfl, hd⟩; have hw_ := below_drawn hd; have HF6 := Aside0.mk (Kd.F_below HF5.out hw_); have HL6 := Aside0.mk (below_step HL5.out hw_); have k5 := (HW.out.2.1.up HL6.out).c5; clear hd hw_; rw [HN0.out]))
          refine HP.out _ _ ?_
          rw [← HX3.out]
          exact RowsR.err rfl (HW.out.2.1.low HL6.out)
    · have c4b0 : decide (i < n) = false := decide_eq_false c4
      have hi : (n - i).toNat = 0 := by omega
      have hx := HX.out
      rw [hi, defsS] at hx
      have HX2 := Aside0.mk hx
      clear hx hi c4 HX
      go_wp2
      refine HP.out _ _ ?_
      rw [← HX2.out]
      exact RowsR.ok rfl HW.out.1 HW.out.2.1 HW.out.2.2.1
end Go.Proofs.Ythopdoamajjojaa.VersR
