import Derived.Test.YthopdoamajjojaaVersRef
namespace Go.Proofs.Ythopdoamajjojaa.VersR
open Go Go.RowKit Go.Proofs.Ythopdoamajjojaa.QVers Go.Proofs.Ythopdoamajjojaa.VersSpec Go.Proofs.Ythopdoamajjojaa.VersS Go.Proofs.YthopdoamajjojaaW.PrintWords Go.Proofs.YthopdoamajjojaaW.PrintLast Go.Proofs.YthopdoamajjojaaW.PrintMore
open TextFacts (textS u64_in)
set_option linter.unusedSimpArgs false
set_option linter.unusedVariables false
section
variable {w0 w : World} {r : Rc} {vT : Value} {T : List Int}
theorem entry_none (h : Ref w0 r w vT T) (G : Gd r) (addr by_ size : Int) (ha : 0 ≤ addr ∧ addr ≤ 18446744073709551615) (hb : 0 ≤ by_ ∧ by_ ≤ 18446744073709551615) (hn : 0 ≤ size) (hq : atS r.b r.ps addr by_ size = none) :
    Calls Try.prog 63 #[.pointer (some ⟨r.p, 0, none⟩), .int .u64 addr, .int .u64 by_, .int .u64 size] w fun e w' => ∃ a v, e = .returned (.tuple #[.int .u64 a, v, .bool false]) ∧ Below w.heap.size w w' := by
  refine (entry_calls h G addr by_ size ha hb hn).mono ?_
  rintro e w' ⟨a, v, rfl, _, hw⟩
  exact ⟨a, v, by rw [hq]; rfl, hw⟩
theorem entry_some (h : Ref w0 r w vT T) (G : Gd r) (addr by_ size : Int) (ha : 0 ≤ addr ∧ addr ≤ 18446744073709551615) (hb : 0 ≤ by_ ∧ by_ ≤ 18446744073709551615) (hn : 0 ≤ size) (x : Int) (s : List Int) (hq : atS r.b r.ps addr by_ size = some (x, s)) (N : Nat) (hN : (N : Int) = size) :
    Calls Try.prog 63 #[.pointer (some ⟨r.p, 0, none⟩), .int .u64 addr, .int .u64 by_, .int .u64 size] w fun e w' => ∃ A c, e = .returned (.tuple #[.int .u64 x, .slice A N c, .bool true]) ∧ N ≤ c ∧ Kd.F (Kd.int .u8) w' (Pok w0 w) A N s ∧ Below w.heap.size w w' := by
  have hl := (atS_in G ha hb.1 hn hq).2.1
  have hl : s.length = N := by omega
  refine (entry_calls h G addr by_ size ha hb hn).mono ?_
  rintro e w' ⟨a, v, rfl, hv, hw⟩
  obtain ⟨rfl, hV⟩ := hv _ hq
  obtain ⟨A, c, rfl⟩ := Kd.V_slice hV
  obtain ⟨h1, h2, h3⟩ := Kd.V_reads' hV
  rw [hl] at h2
  refine ⟨A, c, by rw [hq, hl]; rfl, h2, ?_, hw⟩
  have := Kd.V_F hV
  rw [hl] at this
  exact this
end
theorem rnum_at {w : World} {A : Option Addr} {c N : Nat} {s : List Int} (hN : s.length = N) (h8 : ∀ x ∈ s, 0 ≤ x ∧ x ≤ 255) (hc : N ≤ c) (hC : Kd.C (Kd.int .u8) w A N s) (lo hi : Int) (a b : Nat) (ea : lo = a) (eb : hi = b) (hab : a ≤ b) (hb : b ≤ N) (hl : b - a ≤ 8) :
    Calls Try.prog 44 #[.slice A N c, .int .i64 lo, .int .i64 hi] w fun e w' => e = .returned (.int .u64 (num ((s.take b).drop a))) ∧ ∃ n, w' = w.drewN n := by
  subst hN; subst ea; subst eb
  exact rnum_calls A c s a b w hC hc h8 hab hb hl
def NamesR (w : World) (res : Except Int (List ByteArray)) (e : Ending) (w' : World) : Prop :=
  match res with
  | .error c => ∃ v, e = .returned (.tuple #[v, .int .i64 c]) ∧ Below w.heap.size w w'
  | .ok l => ∃ v, e = .returned (.tuple #[v, .int .i64 0]) ∧ Kd.R Kd.string 9 w' w.heap.size (fun _ => True) v l ∧ Below w.heap.size w w'
theorem NamesR.err {w w' : World} {c : Int} {e : Ending} {v : Value} (he : e = .returned (.tuple #[v, .int .i64 c])) (hb : Below w.heap.size w w') : NamesR w (.error c) e w' := ⟨v, he, hb⟩
theorem NamesR.ok {w w' : World} {l : List ByteArray} {e : Ending} {v : Value} (he : e = .returned (.tuple #[v, .int .i64 0])) (hr : Kd.R Kd.string 9 w' w.heap.size (fun _ => True) v l) (hb : Below w.heap.size w w') : NamesR w (.ok l) e w' := ⟨v, he, hr, hb⟩
theorem ne_t {a b : Int} (h : a ≠ b) : (a != b) = true := bne_iff_ne.2 h
theorem ne_f {a b : Int} (h : a = b) : (a != b) = false := by rw [h]; exact bne_self_eq_false _
set_option maxHeartbeats 8000000 in
set_option maxRecDepth 100000 in
theorem rnames_calls {w0 w : World} {r : Rc} {vT : Value} {T : List Int} (h : Ref w0 r w vT T) (G : Gd r) (addr by_ n : Int) (ha : 0 ≤ addr ∧ addr ≤ 18446744073709551615) (hb : 0 ≤ by_ ∧ by_ ≤ 18446744073709551615) (hn : 0 ≤ n ∧ n ≤ 64) :
    Calls Try.prog 64 #[.pointer (some ⟨r.p, 0, none⟩), .int .u64 addr, .int .u64 by_, .int .i64 n] w (NamesR w (namesS r.b r.ps r.ss n.toNat addr by_ [])) := by
  refine calls_aside fun Post HP => ?_
  obtain ⟨res, hres⟩ : ∃ res, namesS r.b r.ps r.ss n.toNat addr by_ [] = res := ⟨_, rfl⟩
  rw [hres] at HP
  have HH := Aside0.mk h
  have HG := Aside0.mk G
  have HA := Aside0.mk ha
  have HB := Aside0.mk hb
  have HN := Aside0.mk hn
  have HR := Aside0.mk hres
  clear h G ha hb hn hres
  have hu24 := Try.underlying24
  have hu115 := Try.underlying115
  go_enter Try.func64, Try.ntmps64
  go_wp2
  go_loopg [1, 2, 10, 11] n.toNat (fun kq v1 v2 v10 v11 w' => ∃ (i : Int) (ad bb : Int) (acc : List ByteArray), v1 = .int .u64 ad ∧ v2 = .int .u64 bb ∧ v11 = .int .i64 i ∧ Aside0 (0 ≤ i ∧ i ≤ n ∧ kq = (n - i).toNat) ∧ Aside0 ((0 ≤ ad ∧ ad ≤ 18446744073709551615) ∧ 0 ≤ bb ∧ bb ≤ 18446744073709551615) ∧ Aside0 (namesS r.b r.ps r.ss (n - i).toNat ad bb acc = res) ∧ Aside0 (Kd.R Kd.string 9 w' w.heap.size (fun _ => True) v10 acc ∧ Below w.heap.size w w' ∧ acc.length ≤ i.toNat))
  case atStart => exact ⟨0, addr, by_, [], rfl, rfl, rfl, ⟨by have := HN.out; omega⟩, ⟨HA.out, HB.out⟩, ⟨by rw [Int.sub_zero]; exact HR.out⟩, ⟨Kd.R_nil _ _ _ _ _, Below.refl _ _, by simp⟩⟩
  case round =>
    obtain ⟨i, ad, bb, acc, rfl, rfl, rfl, HI, HAB, HX, HW⟩ := hrel
    by_cases c4 : i < n
    · have c4b0 : decide (i < n) = true := decide_eq_true c4
      obtain ⟨k, hk⟩ : ∃ k, (n - i).toNat = k + 1 := ⟨(n - i).toNat - 1, by omega⟩
      have hx := HX.out
      rw [hk, namesS] at hx
      have HK := Aside0.mk hk
      have HC4 := Aside0.mk c4
      clear hk c4 HX
      cases hq : atS r.b r.ps ad bb 8 with
      | none =>
        rw [hq] at hx
        have HE := Aside0.mk (show (Except.error 4 : Except Int (List ByteArray)) = res from hx)
        have HQ := Aside0.mk hq
        clear hx hq
        go_wp2_with (go_at_call 63; (with_reducible refine (entry_none (HH.out.up HW.out.2.1) HG.out ad bb 8 HAB.out.1 HAB.out.2 (by omega) HQ.out).mono ?_); rintro e w2 ⟨a, v, rfl, hw⟩; have HW2 := Aside0.mk (below_step HW.out.2.1 hw); clear hw)
        refine HP.out _ _ ?_
        rw [← HE.out]
        exact NamesR.err (v := .slice none 0 0) rfl HW2.out
      | some xs =>
        obtain ⟨x, s⟩ := xs
        rw [hq] at hx
        simp only at hx
        have hin := atS_in HG.out HAB.out.1 HAB.out.2.1 (by omega) hq
        have hsl : s.length = 8 := by omega
        have e4 : (s.take 8).drop 4 = s.drop 4 := by rw [List.take_of_length_le (by omega)]
        obtain ⟨N4, hN4⟩ : ∃ y, num (s.drop 4) = y := ⟨_, rfl⟩
        obtain ⟨N0, hN0⟩ : ∃ y, num (s.take 4) = y := ⟨_, rfl⟩
        have h4 := num_in8 hin.2.2 (fun y hy => List.mem_of_mem_drop hy) (show (s.drop 4).length ≤ 8 by simp; omega)
        have h0 := num_in8 hin.2.2 (fun y hy => List.mem_of_mem_take hy) (show (s.take 4).length ≤ 8 by simp; omega)
        rw [hN4] at hx h4
        rw [hN0] at hx h0
        have HS := Aside0.mk (And.intro hsl hin.2.2)
        have H4 := Aside0.mk h4
        have H0 := Aside0.mk h0
        have HN4 := Aside0.mk (show num ((s.take 8).drop 4) = N4 by rw [e4]; exact hN4)
        have HN0 := Aside0.mk (show num ((s.take 4).drop 0) = N0 from hN0)
        have HXI := Aside0.mk hin.1
        have HQ := Aside0.mk hq
        have HX2 := Aside0.mk hx
        clear hin hsl hN4 hN0 h4 h0 hq hx e4
        go_wp2_with (go_at_call 63; (with_reducible refine (entry_some (HH.out.up HW.out.2.1) HG.out ad bb 8 HAB.out.1 HAB.out.2 (by omega) x s HQ.out 8 rfl).mono ?_); rintro e w2 ⟨A, c, rfl, hc, hF, hw⟩; have HCC := Aside0.mk hc; have HF := Aside0.mk (Kd.F_now hF); have HL2 := Aside0.mk hw; have HW2 := Aside0.mk (below_step HW.out.2.1 hw); clear hc hF hw)
        obtain ⟨t, hT⟩ : ∃ t, textS r.ss N0 = t := ⟨_, rfl⟩
        have hx := HX2.out
        rw [hT] at hx
        have HX3 := Aside0.mk hx
        clear hx HX2
        have hR := HH.out.up HW2.out
        have k4 := hR.c4
        have HTX := Aside0.mk (fun n : Nat => Calls.quiet_of (rtext_calls r.As r.cs r.ss N0 (World.drewN w2 n) (Kd.C_drewN hR.C_s _) hR.ls HG.out.sl H0.out.1))
        have HNQ := Aside0.mk (fun n : Nat => Calls.quiet_of (rnum_at HS.out.1 HS.out.2 HCC.out (Kd.C_drewN HF.out n) 0 4 0 4 rfl rfl (by decide) (by decide) (by decide)))
        rw [hT] at HTX
        rw [HN0.out] at HNQ
        clear hT hR
        by_cases ht : t.2 = 0
        · have ht0 : (t.2 != 0) = false := ne_f ht
          have ht1 : (t.2 == 0) = true := beq_t ht
          have hx := HX3.out
          rw [if_neg (by omega)] at hx
          have HX4 := Aside0.mk hx
          have HTZ := Aside0.mk ht
          clear hx HX3 ht
          go_quiet (first | exact HNQ.out _ | exact HTX.out _)
          have HW4 := Aside0.mk (pw_below_drewN HW2.out nq)
          have HL4 := Aside0.mk (pw_below_drewN HL2.out nq)
          have HF4 := Aside0.mk (Kd.C_drewN HF.out nq)
          have HV := Aside0.mk (show wrap64 (i + 1) = i + 1 from VersSpec.w64 _ (by have := HI.out; omega) (by have := HI.out; have := HN.out; omega))
          generalize World.drewN w2 nq = w4 at HW4 HL4 HF4 ⊢
          by_cases cz : N4 = 0
          · have cz0 : (N4 == 0) = true := beq_iff_eq.2 cz
            by_cases ck : k = 0
            · have ci : decide (wrap64 (i + 1) < n) = false := decide_eq_false (by rw [HV.out]; have := HK.out; have := HI.out; omega)
              have hx := HX4.out
              rw [if_neg (fun h => h.2 ck)] at hx
              have HX5 := Aside0.mk hx
              have HCZ := Aside0.mk cz
              clear hx HX4 ck cz
              go_wp2_with (first
                | (go_at_call 44; (with_reducible refine (rnum_at HS.out.1 HS.out.2 HCC.out HF4.out 4 8 4 8 rfl rfl (by decide) (by decide) (by decide)).mono ?_); rintro e w5 ⟨rfl, hd⟩; have hw5 := below_drawn hd; have HW5 := Aside0.mk (below_step HW4.out hw5); have HL5 := Aside0.mk (below_step HL4.out hw5); clear hd hw5; rw [HN4.out])
                | ((with_reducible refine gate_builtin (b := .append) (xs := #[.tmp 56, .tmp 58]) rfl ?_); at_builtin; refine Kd.R_append Kd.string (w0 := w) w.heap.size rfl (.tmp 56) (.tmp 58) 22 9 (.string ⟨#[]⟩) 16 rfl Try.underlying22 info9 rfl (by decide) (by omega) u10 acc t.1 [.string t.1] (fun _ => True) (fun _ => False) rfl rfl ?aP (fun _ hk => hk.elim) ?aF ?aO ?aB ?aS ?aL ?_; (case aP => exact rfl); (case aF => exact fun _ _ => trivial); (case aO => exact Kd.R_below HW.out.1 HL5.out); (case aB => exact HW5.out); (case aS => exact HW5.out.size); (case aL => have := HW.out.2.2; have := HI.out; have := HN.out; omega); intro v6 w6 ho hb hg hat; have HO6 := Aside0.mk ho; have HB6 := Aside0.mk hb; clear ho hb hg hat))
              go_roundg (n - (i + 1)).toNat
              case measure => have := HI.out; have := HC4.out; omega
              case rel => exact ⟨i + 1, x, N4, acc ++ [t.1], rfl, rfl, by rw [HV.out], ⟨by have := HI.out; have := HC4.out; omega⟩, ⟨HXI.out, H4.out⟩, ⟨by rw [show (n - (i + 1)).toNat = k by have := HK.out; omega]; exact HX5.out⟩, ⟨HO6.out, HB6.out, by have := HW.out.2.2; have := HI.out; simp; omega⟩⟩
            · have ci : decide (wrap64 (i + 1) < n) = true := decide_eq_true (by rw [HV.out]; have := HK.out; have := HI.out; omega)
              have hx := HX4.out
              rw [if_pos ⟨cz, ck⟩] at hx
              have HX5 := Aside0.mk hx
              clear hx HX4 cz ck
              go_wp2_with (go_at_call 44; (with_reducible refine (rnum_at HS.out.1 HS.out.2 HCC.out HF4.out 4 8 4 8 rfl rfl (by decide) (by decide) (by decide)).mono ?_); rintro e w5 ⟨rfl, hd⟩; have hw5 := below_drawn hd; have HW5 := Aside0.mk (below_step HW4.out hw5); have HL5 := Aside0.mk (below_step HL4.out hw5); clear hd hw5; rw [HN4.out])
              refine HP.out _ _ ?_
              rw [← HX5.out]
              exact NamesR.err (v := .slice none 0 0) rfl HW5.out
          · have cz0 : (N4 == 0) = false := beq_eq_false_iff_ne.2 cz
            have hx := HX4.out
            rw [if_neg (fun h => cz h.1)] at hx
            have HX5 := Aside0.mk hx
            clear hx HX4 cz
            go_wp2_with (first
              | (go_at_call 44; (with_reducible refine (rnum_at HS.out.1 HS.out.2 HCC.out HF4.out 4 8 4 8 rfl rfl (by decide) (by decide) (by decide)).mono ?_); rintro e w5 ⟨rfl, hd⟩; have hw5 := below_drawn hd; have HW5 := Aside0.mk (below_step HW4.out hw5); have HL5 := Aside0.mk (below_step HL4.out hw5); clear hd hw5; rw [HN4.out])
              | ((with_reducible refine gate_builtin (b := .append) (xs := #[.tmp 56, .tmp 58]) rfl ?_); at_builtin; refine Kd.R_append Kd.string (w0 := w) w.heap.size rfl (.tmp 56) (.tmp 58) 22 9 (.string ⟨#[]⟩) 16 rfl Try.underlying22 info9 rfl (by decide) (by omega) u10 acc t.1 [.string t.1] (fun _ => True) (fun _ => False) rfl rfl ?aP (fun _ hk => hk.elim) ?aF ?aO ?aB ?aS ?aL ?_; (case aP => exact rfl); (case aF => exact fun _ _ => trivial); (case aO => exact Kd.R_below HW.out.1 HL5.out); (case aB => exact HW5.out); (case aS => exact HW5.out.size); (case aL => have := HW.out.2.2; have := HI.out; have := HN.out; omega); intro v6 w6 ho hb hg hat; have HO6 := Aside0.mk ho; have HB6 := Aside0.mk hb; clear ho hb hg hat))
            go_roundg (n - (i + 1)).toNat
            case measure => have := HI.out; have := HC4.out; omega
            case rel => exact ⟨i + 1, x, N4, acc ++ [t.1], rfl, rfl, by rw [HV.out], ⟨by have := HI.out; have := HC4.out; omega⟩, ⟨HXI.out, H4.out⟩, ⟨by rw [show (n - (i + 1)).toNat = k by have := HK.out; omega]; exact HX5.out⟩, ⟨HO6.out, HB6.out, by have := HW.out.2.2; have := HI.out; simp; omega⟩⟩
        · have ht0 : (t.2 != 0) = true := ne_t ht
          have ht1 : (t.2 == 0) = false := beq_f ht
          have hx := HX3.out
          rw [if_pos ht] at hx
          have HX4 := Aside0.mk hx
          clear hx HX3
          go_quiet (first | exact HNQ.out _ | exact HTX.out _)
          go_wp2
          refine HP.out _ _ ?_
          rw [← HX4.out]
          exact NamesR.err (v := .slice none 0 0) rfl (pw_below_drewN HW2.out nq)
    · have c4b0 : decide (i < n) = false := decide_eq_false c4
      have hi : (n - i).toNat = 0 := by omega
      have hx := HX.out
      rw [hi, namesS] at hx
      have HX2 := Aside0.mk hx
      clear hx hi c4 HX
      go_wp2
      refine HP.out _ _ ?_
      rw [← HX2.out]
      exact NamesR.ok rfl HW.out.1 HW.out.2.1
end Go.Proofs.Ythopdoamajjojaa.VersR
