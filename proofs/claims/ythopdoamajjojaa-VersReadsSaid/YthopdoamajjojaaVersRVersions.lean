import Derived.Test.YthopdoamajjojaaVersRNames
namespace Go.Proofs.Ythopdoamajjojaa.VersR
open Go Go.RowKit Go.Proofs.Ythopdoamajjojaa.QVers Go.Proofs.Ythopdoamajjojaa.VersSpec Go.Proofs.Ythopdoamajjojaa.VersS Go.Proofs.YthopdoamajjojaaW.PrintWords Go.Proofs.YthopdoamajjojaaW.PrintLast Go.Proofs.YthopdoamajjojaaW.PrintMore
open TextFacts (textS u64_in)
set_option linter.unusedSimpArgs false
set_option linter.unusedVariables false
theorem R_st {α : Type} {d : Kd α} {e base p : Nat} {w w' : World} {v v' u : Value} {xs : List α} (h : Kd.R d e w base (okR p v) u xs) (st : St w p v w' v') : Kd.R d e w' base (okR p v') u xs :=
  Kd.R_mono (Kd.R_step (Kd.R_bound h) (fun k hk hlt => st.keep k hlt hk.1.1 hk.1.2)) (fun k hk => ⟨hk.1.1, fun e => by
    rcases st.own with e2 | ⟨b, e2, hb⟩
    · rw [e2] at e; exact hk.1.2 e
    · rw [e2] at e; injection e with e; have := hk.2.2.1; omega⟩)
theorem St.low {w w1 w2 : World} {p : Nat} {v v1 v2 : Value} (h : St w p v w1 v1) (hb : Below w1.heap.size w1 w2) (h2 : St w2 p v1 w1 v2) : True := trivial
theorem F_tell {w0 w w1 w' : World} {r : Rc} {vT v' : Value} {T : List Int} {A : Option Addr} {n : Nat} {s : List Int} (h : Ref w0 r w vT T) (hF : Kd.F (Kd.int .u8) w1 (Pok w0 w) A n s) (hw : Below w.heap.size w w1) (st : St w1 r.p vT w' v') : Kd.F (Kd.int .u8) w' (Pok w0 w) A n s :=
  F_st hF (fun k hk => ⟨fun e => by have := h.p0; have := h.plt; rcases hk with hk | hk <;> omega, fun e => by have h1 := h.base k e.symm; have h2 := h.lt k e.symm; rcases hk with hk | hk <;> omega⟩) st
def VersionsR (w0 : World) (r : Rc) (w : World) (vT : Value) (res : Except Int (List Ax × List Int)) (e : Ending) (w' : World) : Prop :=
  match res with
  | .error c => e = .returned (.tuple #[.slice none 0 0, .int .i64 c]) ∧ Below w0.heap.size w0 w'
  | .ok l => ∃ v v', e = .returned (.tuple #[v, .int .i64 0]) ∧ Kd.R kAx 68 w' w.heap.size (okR r.p v') v l.1 ∧ Ref w0 r w' v' l.2 ∧ St w r.p vT w' v'
theorem VersionsR.err {w0 w w' : World} {r : Rc} {vT : Value} {c : Int} {e : Ending} (he : e = .returned (.tuple #[.slice none 0 0, .int .i64 c])) (hb : Below w0.heap.size w0 w') : VersionsR w0 r w vT (.error c) e w' := ⟨he, hb⟩
theorem VersionsR.ok {w0 w w' : World} {r : Rc} {vT v v' : Value} {l : List Ax × List Int} {e : Ending} (he : e = .returned (.tuple #[v, .int .i64 0])) (hr : Kd.R kAx 68 w' w.heap.size (okR r.p v') v l.1) (hR : Ref w0 r w' v' l.2) (hs : St w r.p vT w' v') : VersionsR w0 r w vT (.ok l) e w' := ⟨v, v', he, hr, hR, hs⟩
theorem num_2 {s : List Int} (h8 : ∀ x ∈ s, 0 ≤ x ∧ x ≤ 255) (a : Nat) (ha : a + 2 ≤ s.length) {N : Int} (hN : num ((s.take (a + 2)).drop a) = N) : 0 ≤ N ∧ N ≤ 65535 := by
  have h := num_in ((s.take (a + 2)).drop a) (fun x hx => h8 x (List.mem_of_mem_take (List.mem_of_mem_drop hx)))
  have hl : ((s.take (a + 2)).drop a).length = 2 := by simp; omega
  rw [hN, hl] at h
  omega
theorem weak_r {s : List Int} (h8 : ∀ x ∈ s, 0 ≤ x ∧ x ≤ 255) (hl : 6 ≤ s.length) {N X : Int} (hN : num ((s.take 6).drop 4) = N) (hX : rd s 4 = X) : ((Int.tmod (IntKind.u64.wrap (Int.tdiv N 2)) 2) == 1) = weakS X := by
  obtain _ | ⟨a0, _ | ⟨a1, _ | ⟨a2, _ | ⟨a3, _ | ⟨a4, _ | ⟨a5, s⟩⟩⟩⟩⟩⟩ := s
  all_goals try (exfalso; simp at hl; done)
  have e : num [a4, a5] = N := hN
  have e2 : a4 = X := hX
  have h4 := h8 a4 (by simp)
  have h5 := h8 a5 (by simp)
  simp only [num] at e
  subst e e2
  unfold weakS
  rw [Int.tdiv_eq_ediv_of_nonneg (by omega), u64_in _ (by omega) (by omega), Int.tmod_eq_emod_of_nonneg (by omega)]
  rw [Bool.eq_iff_iff, beq_iff_eq, decide_eq_true_eq]
  omega
theorem idx_r {N : Int} (h : 0 ≤ N ∧ N ≤ 18446744073709551615) (h2 : N ≤ 65535) : Int.tmod (wrap64 N) 32768 = idxS N := by
  rw [VersSpec.w64 _ (by omega) (by omega), Int.tmod_eq_emod_of_nonneg h.1]
  rfl
set_option maxHeartbeats 16000000 in
set_option maxRecDepth 100000 in
theorem rversions_calls {w0 w : World} {r : Rc} {vT : Value} {T : List Int} (h : Ref w0 r w vT T) (G : Gd r) (addr by_ n : Int) (ha : 0 ≤ addr ∧ addr ≤ 18446744073709551615) (hb : 0 ≤ by_ ∧ by_ ≤ 18446744073709551615) (hn : 0 ≤ n ∧ n ≤ 64) (hT : T.length ≤ 100000) :
    Calls Try.prog 67 #[.pointer (some ⟨r.p, 0, none⟩), .int .u64 addr, .int .u64 by_, .int .i64 n] w (VersionsR w0 r w vT (versionsS r.b r.ps r.ss n.toNat addr by_ T [])) := by
  refine calls_aside fun Post HP => ?_
  obtain ⟨res, hres⟩ : ∃ res, versionsS r.b r.ps r.ss n.toNat addr by_ T [] = res := ⟨_, rfl⟩
  rw [hres] at HP
  have HH := Aside0.mk h
  have HG := Aside0.mk G
  have HA := Aside0.mk ha
  have HB := Aside0.mk hb
  have HN := Aside0.mk hn
  have HTL := Aside0.mk hT
  have HR := Aside0.mk hres
  clear h G ha hb hn hres hT
  have hu24 := Try.underlying24
  have hu37 := Try.underlying37
  have hu68 := Try.underlying68
  have hu115 := Try.underlying115
  go_enter Try.func67, Try.ntmps67
  go_wp2
  go_loopg [1, 2, 10, 11] n.toNat (fun kq v1 v2 v10 v11 w' => ∃ (i : Int) (ad bb : Int) (vT1 : Value) (T1 : List Int) (acc : List Ax), v1 = .int .u64 ad ∧ v2 = .int .u64 bb ∧ v11 = .int .i64 i ∧ Aside0 (0 ≤ i ∧ i ≤ n ∧ kq = (n - i).toNat) ∧ Aside0 ((0 ≤ ad ∧ ad ≤ 18446744073709551615) ∧ 0 ≤ bb ∧ bb ≤ 18446744073709551615) ∧ Aside0 (versionsS r.b r.ps r.ss (n - i).toNat ad bb T1 acc = res) ∧ Aside0 (Kd.R kAx 68 w' w.heap.size (okR r.p vT1) v10 acc ∧ Ref w0 r w' vT1 T1 ∧ St w r.p vT w' vT1 ∧ acc.length ≤ i.toNat ∧ T1.length ≤ T.length + i.toNat))
  case atStart => exact ⟨0, addr, by_, vT, T, [], rfl, rfl, rfl, ⟨by have := HN.out; omega⟩, ⟨HA.out, HB.out⟩, ⟨by rw [Int.sub_zero]; exact HR.out⟩, ⟨Kd.R_nil _ _ _ _ _, HH.out, St.refl _ _ _, by simp, by simp⟩⟩
  case round =>
    obtain ⟨i, ad, bb, vT1, T1, acc, rfl, rfl, rfl, HI, HAB, HX, HW⟩ := hrel
    obtain ⟨AT, cT, eT⟩ := Kd.R_slice HW.out.2.1.told
    rw [List.length_reverse] at eT
    subst eT
    by_cases c4 : i < n
    · have c4b0 : decide (i < n) = true := decide_eq_true c4
      obtain ⟨k, hk⟩ : ∃ k, (n - i).toNat = k + 1 := ⟨(n - i).toNat - 1, by omega⟩
      have hx := HX.out
      rw [hk, versionsS] at hx
      have HK := Aside0.mk hk
      have HC4 := Aside0.mk c4
      clear hk c4 HX
      cases hq : atS r.b r.ps ad bb 16 with
      | none =>
        rw [hq] at hx
        have HE := Aside0.mk (show (Except.error 4 : Except Int (List Ax × List Int)) = res from hx)
        have HQ := Aside0.mk hq
        clear hx hq
        go_wp2_with (go_at_call 63; (with_reducible refine (entry_none HW.out.2.1 HG.out ad bb 16 HAB.out.1 HAB.out.2 (by omega) HQ.out).mono ?_); rintro e w2 ⟨a, v, rfl, hw⟩; have HW2 := Aside0.mk (HW.out.2.1.low hw); clear hw)
        refine HP.out _ _ ?_
        rw [← HE.out]
        exact VersionsR.err rfl HW2.out
      | some xs =>
        obtain ⟨x, s⟩ := xs
        rw [hq] at hx
        simp only at hx
        have hin := atS_in HG.out HAB.out.1 HAB.out.2.1 (by omega) hq
        have hsl : s.length = 16 := by omega
        obtain ⟨N12, hN12⟩ : ∃ y, num (s.drop 12) = y := ⟨_, rfl⟩
        obtain ⟨NH, hNH⟩ : ∃ y, num (s.take 4) = y := ⟨_, rfl⟩
        obtain ⟨NI, hNI⟩ : ∃ y, num ((s.take 8).drop 6) = y := ⟨_, rfl⟩
        obtain ⟨NT, hNT⟩ : ∃ y, num ((s.take 12).drop 8) = y := ⟨_, rfl⟩
        obtain ⟨N4, hN4⟩ : ∃ y, num ((s.take 6).drop 4) = y := ⟨_, rfl⟩
        obtain ⟨X4, hX4⟩ : ∃ y, rd s 4 = y := ⟨_, rfl⟩
        have h12 := num_in8 hin.2.2 (fun y hy => List.mem_of_mem_drop hy) (show (s.drop 12).length ≤ 8 by simp; omega)
        have hI2 := num_2 hin.2.2 6 (by omega) hNI
        have hTT := num_in8 hin.2.2 (fun y hy => List.mem_of_mem_take (List.mem_of_mem_drop hy)) (show ((s.take 12).drop 8).length ≤ 8 by simp; omega)
        have h4 := num_2 hin.2.2 4 (by omega) hN4
        have hwk := weak_r hin.2.2 (by omega) hN4 hX4
        rw [hN12] at hx h12
        rw [hNH] at hx
        rw [hNI] at hx
        rw [hNT] at hx hTT
        rw [hX4, ← hwk] at hx
        obtain ⟨IX, hidx⟩ : ∃ y, Int.tmod (wrap64 NI) 32768 = y := ⟨_, rfl⟩
        have hix := idx_r (by omega) hI2.2 (N := NI)
        rw [hidx] at hix
        have hii : 0 ≤ IX ∧ IX ≤ 32767 := by rw [hix]; exact idx_in NI
        rw [← hix] at hx
        have HS := Aside0.mk (And.intro hsl hin.2.2)
        have H12 := Aside0.mk h12
        have HTT := Aside0.mk hTT
        have HII := Aside0.mk hii
        have HN12 := Aside0.mk (show num ((s.take 16).drop 12) = N12 by rw [List.take_of_length_le (by omega)]; exact hN12)
        have HNH := Aside0.mk (show num ((s.take 4).drop 0) = NH from hNH)
        have HNI := Aside0.mk hNI
        have HNT := Aside0.mk hNT
        have HN4 := Aside0.mk hN4
        have HXI := Aside0.mk hin.1
        have HQ := Aside0.mk hq
        obtain ⟨t, hT⟩ : ∃ t, textS r.ss NT = t := ⟨_, rfl⟩
        rw [hT] at hx
        have HTS := Aside0.mk (show t.1.size ≤ 255 by rw [← hT]; exact text_size _ _)
        have HT := Aside0.mk hT
        have HX2 := Aside0.mk hx
        clear hin hsl hN12 hNH hNI hNT hN4 hX4 h12 hI2 hTT h4 hq hx hwk hix hii hT
        go_wp2_with (first
          | (go_at_call 63; (with_reducible refine (entry_some HW.out.2.1 HG.out ad bb 16 HAB.out.1 HAB.out.2 (by omega) x s HQ.out 16 rfl).mono ?_); rintro e w2 ⟨A, c, rfl, hc, hF, hw⟩; have HCC := Aside0.mk hc; have HF2 := Aside0.mk hF; have HL2 := Aside0.mk hw; clear hc hF hw)
          | (go_at_call 44; (with_reducible refine (rnum_at HS.out.1 HS.out.2 HCC.out (Kd.F_now HF2.out) 12 16 12 16 rfl rfl (by decide) (by decide) (by decide)).mono ?_); rintro e w3 ⟨rfl, hd⟩; have hw3 := below_drawn hd; have HF3 := Aside0.mk (Kd.F_below HF2.out hw3); have HL3 := Aside0.mk (below_step HL2.out hw3); clear hd hw3; rw [HN12.out]))
        have hR := HW.out.2.1.up HL3.out
        have k4 := hR.c4
        have HTX := Aside0.mk (fun n : Nat => Calls.quiet_of (rtext_calls r.As r.cs r.ss NT (World.drewN w3 n) (Kd.C_drewN hR.C_s _) hR.ls HG.out.sl HTT.out.1))
        have HNQ := Aside0.mk (fun n : Nat => Calls.quiet_of (rnum_at HS.out.1 HS.out.2 HCC.out (Kd.C_drewN (Kd.F_now HF3.out) n) 8 12 8 12 rfl rfl (by decide) (by decide) (by decide)))
        rw [HT.out] at HTX
        rw [HNT.out] at HNQ
        clear hR
        by_cases ht : t.2 = 0
        · have ht0 : (t.2 != 0) = false := ne_f ht
          have ht1 : (t.2 == 0) = true := beq_t ht
          have hx := HX2.out
          rw [if_neg (by omega)] at hx
          have HX3 := Aside0.mk hx
          clear hx HX2 ht
          go_quiet (first | exact HNQ.out _ | exact HTX.out _)
          have HL4 := Aside0.mk (pw_below_drewN HL3.out nq)
          have HF4 := Aside0.mk (Kd.F_below HF3.out (pw_below_drewN (Below.refl w3.heap.size w3) nq))
          have HV := Aside0.mk (show wrap64 (i + 1) = i + 1 from VersSpec.w64 _ (by have := HI.out; omega) (by have := HI.out; have := HN.out; omega))
          clear k4 HTX HNQ
          generalize World.drewN w3 nq = w4 at HL4 HF4 ⊢
          clear HL3 HF3
          obtain ⟨SY, hSY⟩ : ∃ y, sysv t.1 = y := ⟨_, rfl⟩
          have hsy := sysv_in t.1
          have HSY := Aside0.mk hSY
          have hx := HX3.out
          rw [hSY] at hsy hx
          have HSU := Aside0.mk (u64_in SY hsy.1 (by omega))
          have HX4 := Aside0.mk hx
          clear hx hSY hsy HX3
          by_cases cs : SY = NH
          · have cs0 : (IntKind.u64.wrap SY != NH) = false := by rw [HSU.out]; exact ne_f cs
            have HCS := Aside0.mk cs
            clear cs
            by_cases cj : IX < 2
            · have cj0 : decide (IX < 2) = true := decide_eq_true cj
              have hx := HX4.out
              rw [if_pos (.inr cj)] at hx
              have HX5 := Aside0.mk hx
              clear hx HX4 cj
              go_wp2_with (first
                | (go_at_call 44; (with_reducible refine (rnum_at HS.out.1 HS.out.2 HCC.out (Kd.F_now HF4.out) 6 8 6 8 rfl rfl (by decide) (by decide) (by decide)).mono ?_); rintro e w5 ⟨rfl, hd⟩; have hw5 := below_drawn hd; have HF5 := Aside0.mk (Kd.F_below HF4.out hw5); have HL5 := Aside0.mk (below_step HL4.out hw5); clear hd hw5; rw [HNI.out])
                | (go_at_call 45; (try rw [hidx]); (with_reducible refine (had_calls (HW.out.2.1.up HL5.out) IX (by have := HW.out.2.2.2.2; have := HTL.out; have := HI.out; have := HN.out; omega)).mono ?_); rintro e w6 ⟨rfl, hd⟩; have hw6 := below_drawn hd; have HF6 := Aside0.mk (Kd.F_below HF5.out hw6); have HL6 := Aside0.mk (below_step HL5.out hw6); clear hd hw6)
                | (go_at_call 65; (with_reducible refine (rsysv_calls t.1 w6 (by have := HTS.out; omega)).mono ?_); rintro e w7 ⟨rfl, hd⟩; have hw7 := below_drawn hd; have HF7 := Aside0.mk (Kd.F_below HF6.out hw7); have HL7 := Aside0.mk (below_step HL6.out hw7); clear hd hw7; rw [HSY.out])
                | (go_at_call 44; (with_reducible refine (rnum_at HS.out.1 HS.out.2 HCC.out (Kd.F_now HF7.out) 0 4 0 4 rfl rfl (by decide) (by decide) (by decide)).mono ?_); rintro e w8 ⟨rfl, hd⟩; have hw8 := below_drawn hd; have HF8 := Aside0.mk (Kd.F_below HF7.out hw8); have HL8 := Aside0.mk (below_step HL7.out hw8); have k5 := (HW.out.2.1.up HL8.out).c5; clear hd hw8; rw [HNH.out]))
              refine HP.out _ _ ?_
              rw [← HX5.out]
              exact VersionsR.err rfl (HW.out.2.1.low HL8.out)
            · have cj0 : decide (IX < 2) = false := decide_eq_false cj
              have hx := HX4.out
              rw [if_neg (fun h => h.elim (fun h => h HCS.out) cj)] at hx
              have HX5 := Aside0.mk hx
              clear hx HX4 cj
              by_cases cm : IX ∈ T1
              · have cm0 : decide (IX ∈ T1) = true := decide_eq_true cm
                have hx := HX5.out
                rw [if_pos cm] at hx
                have HX6 := Aside0.mk hx
                clear hx HX5 cm
                go_wp2_with (first
                  | (go_at_call 44; (with_reducible refine (rnum_at HS.out.1 HS.out.2 HCC.out (Kd.F_now HF4.out) 6 8 6 8 rfl rfl (by decide) (by decide) (by decide)).mono ?_); rintro e w5 ⟨rfl, hd⟩; have hw5 := below_drawn hd; have HF5 := Aside0.mk (Kd.F_below HF4.out hw5); have HL5 := Aside0.mk (below_step HL4.out hw5); clear hd hw5; rw [HNI.out])
                  | (go_at_call 45; (try rw [hidx]); (with_reducible refine (had_calls (HW.out.2.1.up HL5.out) IX (by have := HW.out.2.2.2.2; have := HTL.out; have := HI.out; have := HN.out; omega)).mono ?_); rintro e w6 ⟨rfl, hd⟩; have hw6 := below_drawn hd; have HF6 := Aside0.mk (Kd.F_below HF5.out hw6); have HL6 := Aside0.mk (below_step HL5.out hw6); clear hd hw6)
                  | (go_at_call 65; (with_reducible refine (rsysv_calls t.1 w6 (by have := HTS.out; omega)).mono ?_); rintro e w7 ⟨rfl, hd⟩; have hw7 := below_drawn hd; have HF7 := Aside0.mk (Kd.F_below HF6.out hw7); have HL7 := Aside0.mk (below_step HL6.out hw7); clear hd hw7; rw [HSY.out])
                  | (go_at_call 44; (with_reducible refine (rnum_at HS.out.1 HS.out.2 HCC.out (Kd.F_now HF7.out) 0 4 0 4 rfl rfl (by decide) (by decide) (by decide)).mono ?_); rintro e w8 ⟨rfl, hd⟩; have hw8 := below_drawn hd; have HF8 := Aside0.mk (Kd.F_below HF7.out hw8); have HL8 := Aside0.mk (below_step HL7.out hw8); have k5 := (HW.out.2.1.up HL8.out).c5; clear hd hw8; rw [HNH.out]))
                refine HP.out _ _ ?_
                rw [← HX6.out]
                exact VersionsR.err rfl (HW.out.2.1.low HL8.out)
              · have cm0 : decide (IX ∈ T1) = false := decide_eq_false cm
                have hx := HX5.out
                rw [if_neg cm] at hx
                have HX6 := Aside0.mk hx
                clear hx HX5 cm
                by_cases cz : N12 = 0
                · have cz0 : (N12 == 0) = true := beq_iff_eq.2 cz
                  by_cases ck : k = 0
                  · have ci : decide (wrap64 (i + 1) < n) = false := decide_eq_false (by rw [HV.out]; have := HK.out; have := HI.out; omega)
                    have hx := HX6.out
                    rw [if_neg (fun h => h.2 ck)] at hx
                    have HX7 := Aside0.mk hx
                    clear hx HX6 cz ck
                    go_wp2_with (first
                      | (go_at_call 44; (with_reducible refine (rnum_at HS.out.1 HS.out.2 HCC.out (Kd.F_now HF4.out) 6 8 6 8 rfl rfl (by decide) (by decide) (by decide)).mono ?_); rintro e w5 ⟨rfl, hd⟩; have hw5 := below_drawn hd; have HF5 := Aside0.mk (Kd.F_below HF4.out hw5); have HL5 := Aside0.mk (below_step HL4.out hw5); clear hd hw5; rw [HNI.out])
                      | (go_at_call 45; (try rw [hidx]); (with_reducible refine (had_calls (HW.out.2.1.up HL5.out) IX (by have := HW.out.2.2.2.2; have := HTL.out; have := HI.out; have := HN.out; omega)).mono ?_); rintro e w6 ⟨rfl, hd⟩; have hw6 := below_drawn hd; have HF6 := Aside0.mk (Kd.F_below HF5.out hw6); have HL6 := Aside0.mk (below_step HL5.out hw6); clear hd hw6)
                      | (go_at_call 65; (with_reducible refine (rsysv_calls t.1 w6 (by have := HTS.out; omega)).mono ?_); rintro e w7 ⟨rfl, hd⟩; have hw7 := below_drawn hd; have HF7 := Aside0.mk (Kd.F_below HF6.out hw7); have HL7 := Aside0.mk (below_step HL6.out hw7); clear hd hw7; rw [HSY.out])
                      | (go_at_call 44; (with_reducible refine (rnum_at HS.out.1 HS.out.2 HCC.out (Kd.F_now HF7.out) 0 4 0 4 rfl rfl (by decide) (by decide) (by decide)).mono ?_); rintro e w8 ⟨rfl, hd⟩; have hw8 := below_drawn hd; have HF8 := Aside0.mk (Kd.F_below HF7.out hw8); have HL8 := Aside0.mk (below_step HL7.out hw8); have k5 := (HW.out.2.1.up HL8.out).c5; clear hd hw8; rw [HNH.out])
                      | ((with_reducible refine gate_builtin (b := .append) (xs := #[.tmp 83, .tmp 85]) rfl ?_); at_builtin; refine Kd.R_append (Kd.int .i64) (w0 := w0) w0.heap.size rfl (.tmp 83) (.tmp 85) 37 3 (.int .i64 0) 8 rfl Try.underlying37 info3 rfl (by decide) (by omega) (.slice AT T1.length cT) T1.reverse IX [.int .i64 IX] (fun k => k ≠ r.p) (fun _ => False) rfl (by first | (go_simp; done) | (go_simp; rfl)) ?tP (fun _ hk => hk.elim) ?tF ?tO ?tB ?tS ?tL ?_; (case tP => exact rfl); (case tF => exact fun k hk e => by have := (HW.out.2.1.up HL8.out).plt; omega); (case tO => exact (HW.out.2.1.up HL8.out).told); (case tB => exact (HW.out.2.1.up HL8.out).hw); (case tS => exact (HW.out.2.1.up HL8.out).hw.size); (case tL => have := HW.out.2.2.2.2; have := HTL.out; have := HI.out; have := HN.out; simp; omega); intro v9 w9 ho hb hg hat; obtain ⟨A9, c9, e9⟩ := Kd.R_slice ho; replace e9 : v9 = .slice A9 (T1.length + 1) c9 := (by simpa using e9); subst e9; have HT9 := Aside0.mk ((HW.out.2.1.up HL8.out).tell ho hg hat); have hbx := (hg.block _ (HW.out.2.1.up HL8.out).plt (fun e => (HW.out.2.1.up HL8.out).told.1 _ e.symm rfl)).trans (HW.out.2.1.up HL8.out).box; have hcg : w9.cell? ⟨r.p, 5, none⟩ = some (.slice AT T1.length cT) := (cell_of_row w9 r.p 5 _ _ _ hbx).trans rfl; have hfg := blk_frozen hbx 5; clear ho hb hg hat hbx)
                      | ((with_reducible refine gate_store (t := 37) (p := 88) rfl ?_); refine store_event (t := 37) (p := 88) (v := ?vo1) (w1 := (w9.setCell ⟨r.p, 5, none⟩ (.slice A9 (T1.length + 1) c9))) ?hg1 ?ho1 ?hn1 ?hr1 ?_; (case ho1 => rfl); (case hg1 => rfl); (case hn1 => rfl); (case hr1 => first | (go_simp; done) | (go_simp; rfl)); intro w10 hw10; have HR10 := Aside0.mk (show Ref w0 r w10 (.slice A9 (T1.length + 1) c9) (IX :: T1) by rw [hw10]; exact HT9.out.1); have HS10 := Aside0.mk (show St w8 r.p (.slice AT T1.length cT) w10 (.slice A9 (T1.length + 1) c9) by rw [hw10]; exact HT9.out.2); have HF10 := Aside0.mk (F_tell HW.out.2.1 HF8.out HL8.out HS10.out); have HO10 := Aside0.mk (R_st (Kd.R_below HW.out.1 HL8.out) HS10.out); have HSS10 := Aside0.mk ((HW.out.2.2.1.below HL8.out).trans HS10.out); clear hw10 hcg hfg k5)
                      | (go_at_call 44; (with_reducible refine (rnum_at HS.out.1 HS.out.2 HCC.out (Kd.F_now HF10.out) 4 6 4 6 rfl rfl (by decide) (by decide) (by decide)).mono ?_); rintro e w11 ⟨rfl, hd⟩; have hw11 := below_drawn hd; have HR11 := Aside0.mk (HR10.out.up hw11); have HO11 := Aside0.mk (Kd.R_below HO10.out hw11); have HSS11 := Aside0.mk (HSS10.out.below hw11); clear hd hw11; rw [HN4.out])
                      | ((with_reducible refine gate_builtin (b := .append) (xs := #[.tmp 89, .tmp 98]) rfl ?_); at_builtin; refine Kd.R_append kAx (w0 := w11) w.heap.size rfl (.tmp 89) (.tmp 98) 64 68 (.agg #[.int .i64 0, .bool false, .string ⟨#[]⟩]) 32 rfl Try.underlying64 info68 rfl (by decide) (by omega) u10 acc (IX, ((Int.tmod (IntKind.u64.wrap (Int.tdiv N4 2)) 2) == 1), t.1) [.int .i64 IX, .bool ((Int.tmod (IntKind.u64.wrap (Int.tdiv N4 2)) 2) == 1), .string t.1] (okR r.p (.slice A9 (T1.length + 1) c9)) (fun _ => False) rfl (by first | (go_simp; done) | (go_simp; rfl)) ?aP (fun _ hk => hk.elim) ?aF ?aO ?aB ?aS ?aL ?_; (case aP => exact kAx_mkM _ _ _ _); (case aF => exact fun k hk => ⟨fun e => by have := HR11.out.plt; omega, fun e => by have := HR11.out.lt k e.symm; omega⟩); (case aO => exact HO11.out); (case aB => exact Below.refl _ _); (case aS => exact HSS11.out.size); (case aL => have := HW.out.2.2.2.1; have := HI.out; have := HN.out; omega); intro v12 w12 ho hb hg hat; have hw0 := HH.out.hw.size; have HO12 := Aside0.mk (show Kd.R kAx 68 w12 w.heap.size (okR r.p (.slice A9 (T1.length + 1) c9)) v12 (acc ++ [(IX, ((Int.tmod (IntKind.u64.wrap (Int.tdiv N4 2)) 2) == 1), t.1)]) from ho); have hbs := own_base (Kd.R_own HO11.out).choose_spec; have HR12 := Aside0.mk (HR11.out.row hg (fun k e => ⟨Nat.le_trans hw0 (hbs k e), (HO11.out.1 k e).1, (HO11.out.1 k e).2⟩)); have HS12 := Aside0.mk (HSS11.out.row hg hbs); clear ho hb hg hat hw0 hbs))
                    go_roundg (n - (i + 1)).toNat
                    case measure => have := HI.out; have := HC4.out; omega
                    case rel => exact ⟨i + 1, x, N12, .slice A9 (T1.length + 1) c9, IX :: T1, acc ++ [(IX, ((Int.tmod (IntKind.u64.wrap (Int.tdiv N4 2)) 2) == 1), t.1)], rfl, rfl, by rw [HV.out], ⟨by have := HI.out; have := HC4.out; omega⟩, ⟨HXI.out, H12.out⟩, ⟨by rw [show (n - (i + 1)).toNat = k by have := HK.out; omega]; exact HX7.out⟩, ⟨HO12.out, HR12.out, HS12.out, by have := HW.out.2.2.2.1; have := HI.out; simp; omega, by have := HW.out.2.2.2.2; have := HI.out; simp; omega⟩⟩
                  · have ci : decide (wrap64 (i + 1) < n) = true := decide_eq_true (by rw [HV.out]; have := HK.out; have := HI.out; omega)
                    have hx := HX6.out
                    rw [if_pos ⟨cz, ck⟩] at hx
                    have HX7 := Aside0.mk hx
                    clear hx HX6 cz ck
                    go_wp2_with (first
                      | (go_at_call 44; (with_reducible refine (rnum_at HS.out.1 HS.out.2 HCC.out (Kd.F_now HF4.out) 6 8 6 8 rfl rfl (by decide) (by decide) (by decide)).mono ?_); rintro e w5 ⟨rfl, hd⟩; have hw5 := below_drawn hd; have HF5 := Aside0.mk (Kd.F_below HF4.out hw5); have HL5 := Aside0.mk (below_step HL4.out hw5); clear hd hw5; rw [HNI.out])
                      | (go_at_call 45; (try rw [hidx]); (with_reducible refine (had_calls (HW.out.2.1.up HL5.out) IX (by have := HW.out.2.2.2.2; have := HTL.out; have := HI.out; have := HN.out; omega)).mono ?_); rintro e w6 ⟨rfl, hd⟩; have hw6 := below_drawn hd; have HF6 := Aside0.mk (Kd.F_below HF5.out hw6); have HL6 := Aside0.mk (below_step HL5.out hw6); clear hd hw6)
                      | (go_at_call 65; (with_reducible refine (rsysv_calls t.1 w6 (by have := HTS.out; omega)).mono ?_); rintro e w7 ⟨rfl, hd⟩; have hw7 := below_drawn hd; have HF7 := Aside0.mk (Kd.F_below HF6.out hw7); have HL7 := Aside0.mk (below_step HL6.out hw7); clear hd hw7; rw [HSY.out])
                      | (go_at_call 44; (with_reducible refine (rnum_at HS.out.1 HS.out.2 HCC.out (Kd.F_now HF7.out) 0 4 0 4 rfl rfl (by decide) (by decide) (by decide)).mono ?_); rintro e w8 ⟨rfl, hd⟩; have hw8 := below_drawn hd; have HF8 := Aside0.mk (Kd.F_below HF7.out hw8); have HL8 := Aside0.mk (below_step HL7.out hw8); have k5 := (HW.out.2.1.up HL8.out).c5; clear hd hw8; rw [HNH.out]))
                    refine HP.out _ _ ?_
                    rw [← HX7.out]
                    exact VersionsR.err rfl (HW.out.2.1.low HL8.out)
                · have cz0 : (N12 == 0) = false := beq_eq_false_iff_ne.2 cz
                  have hx := HX6.out
                  rw [if_neg (fun h => cz h.1)] at hx
                  have HX7 := Aside0.mk hx
                  clear hx HX6 cz
                  go_wp2_with (first
                    | (go_at_call 44; (with_reducible refine (rnum_at HS.out.1 HS.out.2 HCC.out (Kd.F_now HF4.out) 6 8 6 8 rfl rfl (by decide) (by decide) (by decide)).mono ?_); rintro e w5 ⟨rfl, hd⟩; have hw5 := below_drawn hd; have HF5 := Aside0.mk (Kd.F_below HF4.out hw5); have HL5 := Aside0.mk (below_step HL4.out hw5); clear hd hw5; rw [HNI.out])
                    | (go_at_call 45; (try rw [hidx]); (with_reducible refine (had_calls (HW.out.2.1.up HL5.out) IX (by have := HW.out.2.2.2.2; have := HTL.out; have := HI.out; have := HN.out; omega)).mono ?_); rintro e w6 ⟨rfl, hd⟩; have hw6 := below_drawn hd; have HF6 := Aside0.mk (Kd.F_below HF5.out hw6); have HL6 := Aside0.mk (below_step HL5.out hw6); clear hd hw6)
                    | (go_at_call 65; (with_reducible refine (rsysv_calls t.1 w6 (by have := HTS.out; omega)).mono ?_); rintro e w7 ⟨rfl, hd⟩; have hw7 := below_drawn hd; have HF7 := Aside0.mk (Kd.F_below HF6.out hw7); have HL7 := Aside0.mk (below_step HL6.out hw7); clear hd hw7; rw [HSY.out])
                    | (go_at_call 44; (with_reducible refine (rnum_at HS.out.1 HS.out.2 HCC.out (Kd.F_now HF7.out) 0 4 0 4 rfl rfl (by decide) (by decide) (by decide)).mono ?_); rintro e w8 ⟨rfl, hd⟩; have hw8 := below_drawn hd; have HF8 := Aside0.mk (Kd.F_below HF7.out hw8); have HL8 := Aside0.mk (below_step HL7.out hw8); have k5 := (HW.out.2.1.up HL8.out).c5; clear hd hw8; rw [HNH.out])
                    | ((with_reducible refine gate_builtin (b := .append) (xs := #[.tmp 83, .tmp 85]) rfl ?_); at_builtin; refine Kd.R_append (Kd.int .i64) (w0 := w0) w0.heap.size rfl (.tmp 83) (.tmp 85) 37 3 (.int .i64 0) 8 rfl Try.underlying37 info3 rfl (by decide) (by omega) (.slice AT T1.length cT) T1.reverse IX [.int .i64 IX] (fun k => k ≠ r.p) (fun _ => False) rfl (by first | (go_simp; done) | (go_simp; rfl)) ?tP (fun _ hk => hk.elim) ?tF ?tO ?tB ?tS ?tL ?_; (case tP => exact rfl); (case tF => exact fun k hk e => by have := (HW.out.2.1.up HL8.out).plt; omega); (case tO => exact (HW.out.2.1.up HL8.out).told); (case tB => exact (HW.out.2.1.up HL8.out).hw); (case tS => exact (HW.out.2.1.up HL8.out).hw.size); (case tL => have := HW.out.2.2.2.2; have := HTL.out; have := HI.out; have := HN.out; simp; omega); intro v9 w9 ho hb hg hat; obtain ⟨A9, c9, e9⟩ := Kd.R_slice ho; replace e9 : v9 = .slice A9 (T1.length + 1) c9 := (by simpa using e9); subst e9; have HT9 := Aside0.mk ((HW.out.2.1.up HL8.out).tell ho hg hat); have hbx := (hg.block _ (HW.out.2.1.up HL8.out).plt (fun e => (HW.out.2.1.up HL8.out).told.1 _ e.symm rfl)).trans (HW.out.2.1.up HL8.out).box; have hcg : w9.cell? ⟨r.p, 5, none⟩ = some (.slice AT T1.length cT) := (cell_of_row w9 r.p 5 _ _ _ hbx).trans rfl; have hfg := blk_frozen hbx 5; clear ho hb hg hat hbx)
                    | ((with_reducible refine gate_store (t := 37) (p := 88) rfl ?_); refine store_event (t := 37) (p := 88) (v := ?vo2) (w1 := (w9.setCell ⟨r.p, 5, none⟩ (.slice A9 (T1.length + 1) c9))) ?hg2 ?ho2 ?hn2 ?hr2 ?_; (case ho2 => rfl); (case hg2 => rfl); (case hn2 => rfl); (case hr2 => first | (go_simp; done) | (go_simp; rfl)); intro w10 hw10; have HR10 := Aside0.mk (show Ref w0 r w10 (.slice A9 (T1.length + 1) c9) (IX :: T1) by rw [hw10]; exact HT9.out.1); have HS10 := Aside0.mk (show St w8 r.p (.slice AT T1.length cT) w10 (.slice A9 (T1.length + 1) c9) by rw [hw10]; exact HT9.out.2); have HF10 := Aside0.mk (F_tell HW.out.2.1 HF8.out HL8.out HS10.out); have HO10 := Aside0.mk (R_st (Kd.R_below HW.out.1 HL8.out) HS10.out); have HSS10 := Aside0.mk ((HW.out.2.2.1.below HL8.out).trans HS10.out); clear hw10 hcg hfg k5)
                    | (go_at_call 44; (with_reducible refine (rnum_at HS.out.1 HS.out.2 HCC.out (Kd.F_now HF10.out) 4 6 4 6 rfl rfl (by decide) (by decide) (by decide)).mono ?_); rintro e w11 ⟨rfl, hd⟩; have hw11 := below_drawn hd; have HR11 := Aside0.mk (HR10.out.up hw11); have HO11 := Aside0.mk (Kd.R_below HO10.out hw11); have HSS11 := Aside0.mk (HSS10.out.below hw11); clear hd hw11; rw [HN4.out])
                    | ((with_reducible refine gate_builtin (b := .append) (xs := #[.tmp 89, .tmp 98]) rfl ?_); at_builtin; refine Kd.R_append kAx (w0 := w11) w.heap.size rfl (.tmp 89) (.tmp 98) 64 68 (.agg #[.int .i64 0, .bool false, .string ⟨#[]⟩]) 32 rfl Try.underlying64 info68 rfl (by decide) (by omega) u10 acc (IX, ((Int.tmod (IntKind.u64.wrap (Int.tdiv N4 2)) 2) == 1), t.1) [.int .i64 IX, .bool ((Int.tmod (IntKind.u64.wrap (Int.tdiv N4 2)) 2) == 1), .string t.1] (okR r.p (.slice A9 (T1.length + 1) c9)) (fun _ => False) rfl (by first | (go_simp; done) | (go_simp; rfl)) ?aP (fun _ hk => hk.elim) ?aF ?aO ?aB ?aS ?aL ?_; (case aP => exact kAx_mkM _ _ _ _); (case aF => exact fun k hk => ⟨fun e => by have := HR11.out.plt; omega, fun e => by have := HR11.out.lt k e.symm; omega⟩); (case aO => exact HO11.out); (case aB => exact Below.refl _ _); (case aS => exact HSS11.out.size); (case aL => have := HW.out.2.2.2.1; have := HI.out; have := HN.out; omega); intro v12 w12 ho hb hg hat; have hw0 := HH.out.hw.size; have HO12 := Aside0.mk (show Kd.R kAx 68 w12 w.heap.size (okR r.p (.slice A9 (T1.length + 1) c9)) v12 (acc ++ [(IX, ((Int.tmod (IntKind.u64.wrap (Int.tdiv N4 2)) 2) == 1), t.1)]) from ho); have hbs := own_base (Kd.R_own HO11.out).choose_spec; have HR12 := Aside0.mk (HR11.out.row hg (fun k e => ⟨Nat.le_trans hw0 (hbs k e), (HO11.out.1 k e).1, (HO11.out.1 k e).2⟩)); have HS12 := Aside0.mk (HSS11.out.row hg hbs); clear ho hb hg hat hw0 hbs))
                  go_roundg (n - (i + 1)).toNat
                  case measure => have := HI.out; have := HC4.out; omega
                  case rel => exact ⟨i + 1, x, N12, .slice A9 (T1.length + 1) c9, IX :: T1, acc ++ [(IX, ((Int.tmod (IntKind.u64.wrap (Int.tdiv N4 2)) 2) == 1), t.1)], rfl, rfl, by rw [HV.out], ⟨by have := HI.out; have := HC4.out; omega⟩, ⟨HXI.out, H12.out⟩, ⟨by rw [show (n - (i + 1)).toNat = k by have := HK.out; omega]; exact HX7.out⟩, ⟨HO12.out, HR12.out, HS12.out, by have := HW.out.2.2.2.1; have := HI.out; simp; omega, by have := HW.out.2.2.2.2; have := HI.out; simp; omega⟩⟩
          · have cs0 : (IntKind.u64.wrap SY != NH) = true := by rw [HSU.out]; exact ne_t cs
            have hx := HX4.out
            rw [if_pos (.inl cs)] at hx
            have HX5 := Aside0.mk hx
            clear hx HX4 cs
            go_wp2_with (first
              | (go_at_call 44; (with_reducible refine (rnum_at HS.out.1 HS.out.2 HCC.out (Kd.F_now HF4.out) 6 8 6 8 rfl rfl (by decide) (by decide) (by decide)).mono ?_); rintro e w5 ⟨rfl, hd⟩; have hw5 := below_drawn hd; have HF5 := Aside0.mk (Kd.F_below HF4.out hw5); have HL5 := Aside0.mk (below_step HL4.out hw5); clear hd hw5; rw [HNI.out])
              | (go_at_call 45; (try rw [hidx]); (with_reducible refine (had_calls (HW.out.2.1.up HL5.out) IX (by have := HW.out.2.2.2.2; have := HTL.out; have := HI.out; have := HN.out; omega)).mono ?_); rintro e w6 ⟨rfl, hd⟩; have hw6 := below_drawn hd; have HF6 := Aside0.mk (Kd.F_below HF5.out hw6); have HL6 := Aside0.mk (below_step HL5.out hw6); clear hd hw6)
              | (go_at_call 65; (with_reducible refine (rsysv_calls t.1 w6 (by have := HTS.out; omega)).mono ?_); rintro e w7 ⟨rfl, hd⟩; have hw7 := below_drawn hd; have HF7 := Aside0.mk (Kd.F_below HF6.out hw7); have HL7 := Aside0.mk (below_step HL6.out hw7); clear hd hw7; rw [HSY.out])
              | (go_at_call 44; (with_reducible refine (rnum_at HS.out.1 HS.out.2 HCC.out (Kd.F_now HF7.out) 0 4 0 4 rfl rfl (by decide) (by decide) (by decide)).mono ?_); rintro e w8 ⟨rfl, hd⟩; have hw8 := below_drawn hd; have HF8 := Aside0.mk (Kd.F_below HF7.out hw8); have HL8 := Aside0.mk (below_step HL7.out hw8); have k5 := (HW.out.2.1.up HL8.out).c5; clear hd hw8; rw [HNH.out]))
            refine HP.out _ _ ?_
            rw [← HX5.out]
            exact VersionsR.err rfl (HW.out.2.1.low HL8.out)
        · have ht0 : (t.2 != 0) = true := ne_t ht
          have ht1 : (t.2 == 0) = false := beq_f ht
          have hx := HX2.out
          rw [if_pos ht] at hx
          have HX3 := Aside0.mk hx
          clear hx HX2
          go_quiet (first | exact HNQ.out _ | exact HTX.out _)
          go_wp2
          refine HP.out _ _ ?_
          rw [← HX3.out]
          exact VersionsR.err rfl (HW.out.2.1.low (pw_below_drewN HL3.out nq))
    · have c4b0 : decide (i < n) = false := decide_eq_false c4
      have hi : (n - i).toNat = 0 := by omega
      have hx := HX.out
      rw [hi, versionsS] at hx
      have HX2 := Aside0.mk hx
      clear hx hi c4 HX
      go_wp2
      refine HP.out _ _ ?_
      rw [← HX2.out]
      exact VersionsR.ok rfl HW.out.1 HW.out.2.1 HW.out.2.2.1
end Go.Proofs.Ythopdoamajjojaa.VersR
