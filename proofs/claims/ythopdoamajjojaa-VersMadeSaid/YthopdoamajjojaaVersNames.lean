import Derived.Test.YthopdoamajjojaaVersCon
namespace Go.Proofs.Ythopdoamajjojaa.VersS
open Go Go.RowKit Go.Proofs.Ythopdoamajjojaa.QVers Go.Proofs.Ythopdoamajjojaa.VersSpec Go.Proofs.YthopdoamajjojaaW.PrintWords Go.Proofs.YthopdoamajjojaaW.PrintLast Go.Proofs.YthopdoamajjojaaW.PrintMore
open TextFacts (textS u64_in)
set_option linter.unusedSimpArgs false
set_option linter.unusedVariables false
theorem info9 : (Try.prog.info? 9).map (fun i => (i.zero, i.size, i.bytes)) = some (some (.string ⟨#[]⟩), 1, 16) := by kernel_rfl
section
variable {w0 w : World} {r : Rc} {T : List Int}
theorem at_none (h : Rdr w0 r w T) (G : Gd r) (addr by_ size : Int) (ha : 0 ≤ addr ∧ addr ≤ 18446744073709551615) (hb : 0 ≤ by_ ∧ by_ ≤ 18446744073709551615) (hn : 0 ≤ size) (hn2 : size ≤ 4294967296) (hq : atS r.b r.ps addr by_ size = none) :
    Calls Try.prog 57 #[.pointer (some ⟨r.p, 0, none⟩), .int .u64 addr, .int .u64 by_, .int .u64 size] w fun e w' => ∃ a v, e = .returned (.tuple #[.int .u64 a, v, .iface 97 (.int .i64 4)]) ∧ Below w.heap.size w w' := by
  refine (at_calls h G addr by_ size ha hb hn hn2).mono ?_
  rintro e w' ⟨a, v, rfl, _, hw⟩
  exact ⟨a, v, by rw [hq]; rfl, hw⟩
theorem at_some (h : Rdr w0 r w T) (G : Gd r) (addr by_ size : Int) (ha : 0 ≤ addr ∧ addr ≤ 18446744073709551615) (hb : 0 ≤ by_ ∧ by_ ≤ 18446744073709551615) (hn : 0 ≤ size) (hn2 : size ≤ 4294967296) (x : Int) (s : List Int) (hq : atS r.b r.ps addr by_ size = some (x, s)) (N : Nat) (hN : (N : Int) = size) :
    Calls Try.prog 57 #[.pointer (some ⟨r.p, 0, none⟩), .int .u64 addr, .int .u64 by_, .int .u64 size] w fun e w' => ∃ A c, e = .returned (.tuple #[.int .u64 x, .slice A N c, .nilIface]) ∧ N ≤ c ∧ Kd.C (Kd.int .u8) w' A N s ∧ Below w.heap.size w w' := by
  have hl : s.length = N := by
    unfold atS at hq
    split at hq
    · cases hq
    · cases h2 : slc r.b r.ps (addr + by_) size with
      | none => rw [h2] at hq; cases hq
      | some l =>
        rw [h2] at hq
        injection hq with hq
        injection hq with _ hq
        have := (slc_len G.po hn h2).1
        rw [← hq]; omega
  refine (at_calls h G addr by_ size ha hb hn hn2).mono ?_
  rintro e w' ⟨a, v, rfl, hv, hw⟩
  obtain ⟨rfl, hV⟩ := hv _ hq
  obtain ⟨A, c, rfl⟩ := Kd.V_slice hV
  obtain ⟨h1, h2, h3⟩ := Kd.V_reads' hV
  rw [hl] at h2 h3
  exact ⟨A, c, by rw [hq, hl]; rfl, h2, h3, hw⟩
theorem atS_in (G : Gd r) {addr by_ size : Int} (ha : 0 ≤ addr ∧ addr ≤ 18446744073709551615) (hb : 0 ≤ by_) (hn : 0 ≤ size) {x : Int} {s : List Int} (hq : atS r.b r.ps addr by_ size = some (x, s)) : (0 ≤ x ∧ x ≤ 18446744073709551615) ∧ (s.length : Int) = size ∧ ∀ y ∈ s, 0 ≤ y ∧ y ≤ 255 := by
  unfold atS at hq
  split at hq
  · cases hq
  · cases h2 : slc r.b r.ps (addr + by_) size with
    | none => rw [h2] at hq; cases hq
    | some l =>
      rw [h2] at hq
      injection hq with hq
      injection hq with hq1 hq2
      have h3 := slc_len G.po hn h2
      subst hq2
      exact ⟨by omega, h3.1, fun y hy => G.b8 y (h3.2.2 y hy)⟩
end
section
variable {w : World} {A : Option Addr} {c N : Nat} {s : List Int}
theorem cut_mid_num (hN : s.length = N) (hC : Kd.C (Kd.int .u8) w A N s) (hc : N ≤ c) (h8 : ∀ x ∈ s, 0 ≤ x ∧ x ≤ 255) (lo hi : Int) (a b n : Nat) (ha : lo = a) (hb : hi = b) (hab : a ≤ b) (hbN : b ≤ N) (hn : b - a = n) (hn8 : n ≤ 8) :
    ∃ A' c', (∀ W : World, (Instr.slice 24 (.slice A N c) (some (.int .i64 lo)) (some (.int .i64 hi)) none).run Try.prog W = .ok (.slice A' n c') W) ∧
      ∀ w', Below w.heap.size w w' → Calls Try.prog 39 #[.slice A' n c'] w' fun e w'' => e = .returned (.int .u64 (num ((s.take b).drop a))) ∧ ∃ m, w'' = w'.drewN m := by
  subst hN
  subst ha
  subst hb
  obtain ⟨i0, hi0, _, hsz, _⟩ := info_parts info5
  have hcut := cut_mid (P := Try.prog) 24 5 .i64 .i64 Try.underlying24 hi0 1 hsz A s.length c (a : Int) (b : Int) (by omega) (by omega) (by omega) hc
  have hl : ((s.take b).drop a).length = n := by simp; omega
  refine ⟨_, _, fun W => by rw [← hn]; exact hcut W, fun w' hw => ?_⟩
  have h := Kd.C_mid (Kd.C_below hC hw) hab hbN hc
  have h2 := number_calls _ (c - a) _ w' h (by rw [hl]; omega) (fun x hx => h8 x (List.mem_of_mem_take (List.mem_of_mem_drop hx))) (by rw [hl]; exact hn8)
  rw [hl] at h2
  exact h2
theorem cut_to_num (hN : s.length = N) (hC : Kd.C (Kd.int .u8) w A N s) (hc : N ≤ c) (h8 : ∀ x ∈ s, 0 ≤ x ∧ x ≤ 255) (hi : Int) (b : Nat) (hb : hi = b) (hbN : b ≤ N) (hn8 : b ≤ 8) :
    (∀ W : World, (Instr.slice 24 (.slice A N c) none (some (.int .i64 hi)) none).run Try.prog W = .ok (.slice A b c) W) ∧
      ∀ w', Below w.heap.size w w' → Calls Try.prog 39 #[.slice A b c] w' fun e w'' => e = .returned (.int .u64 (num (s.take b))) ∧ ∃ m, w'' = w'.drewN m := by
  subst hN
  subst hb
  obtain ⟨i0, hi0, _, hsz, _⟩ := info_parts info5
  have hcut := cut_to (P := Try.prog) 24 5 .i64 Try.underlying24 hi0 A s.length c (b : Int) (by omega) (by omega) hc
  have hl : (s.take b).length = b := by simp; omega
  refine ⟨hcut, fun w' hw => ?_⟩
  have h := Kd.C_take (Kd.C_below hC hw) hbN
  have h2 := number_calls _ c _ w' h (by rw [hl]; omega) (fun x hx => h8 x (List.mem_of_mem_take hx)) (by rw [hl]; exact hn8)
  rw [hl] at h2
  exact h2
theorem cut_from_num (hN : s.length = N) (hC : Kd.C (Kd.int .u8) w A N s) (hc : N ≤ c) (h8 : ∀ x ∈ s, 0 ≤ x ∧ x ≤ 255) (lo : Int) (a n : Nat) (ha : lo = a) (haN : a ≤ N) (hn : N - a = n) (hn8 : n ≤ 8) :
    ∃ A' c', (∀ W : World, (Instr.slice 24 (.slice A N c) (some (.int .i64 lo)) none none).run Try.prog W = .ok (.slice A' n c') W) ∧
      ∀ w', Below w.heap.size w w' → Calls Try.prog 39 #[.slice A' n c'] w' fun e w'' => e = .returned (.int .u64 (num (s.drop a))) ∧ ∃ m, w'' = w'.drewN m := by
  subst hN
  subst ha
  obtain ⟨i0, hi0, _, hsz, _⟩ := info_parts info5
  have hcut := cut_from (P := Try.prog) 24 5 .i64 Try.underlying24 hi0 1 hsz A s.length c (a : Int) (by omega) (by omega)
  have hl : (s.drop a).length = n := by simp; omega
  refine ⟨_, _, fun W => by rw [← hn]; exact hcut W, fun w' hw => ?_⟩
  have h := Kd.C_drop (Kd.C_below hC hw) haN hc
  have h2 := number_calls _ (c - a) _ w' h (by rw [hl]; omega) (fun x hx => h8 x (List.mem_of_mem_drop hx)) (by rw [hl]; exact hn8)
  rw [hl] at h2
  exact h2
end
theorem num_in8 {s t : List Int} (h8 : ∀ x ∈ s, 0 ≤ x ∧ x ≤ 255) (ht : ∀ x ∈ t, x ∈ s) (hl : t.length ≤ 8) : 0 ≤ num t ∧ num t ≤ 18446744073709551615 := by
  have := num_lt t (fun x hx => h8 x (ht x hx)) hl
  omega
theorem rd_byte {s : List Int} (h8 : ∀ x ∈ s, 0 ≤ x ∧ x ≤ 255) (j : Nat) (hj : j < s.length) : 0 ≤ rd s (j : Int) ∧ rd s (j : Int) ≤ 255 := by
  rw [rd_nat, getD_at _ _ _ hj]
  exact h8 _ (List.getElem_mem hj)
theorem below_drawn {w w' : World} (h : ∃ m, w' = w.drewN m) : Below w.heap.size w w' := by
  obtain ⟨m, rfl⟩ := h
  exact pw_below_drewN (Below.refl _ _) m
theorem errOf_none {c : Int} (h : c = 0) : errOf c = none := if_pos h
theorem errOf_some {c : Int} (h : c ≠ 0) : errOf c = some c := if_neg h
def namesS (b : List Int) (ps : List S29) (ss : List Int) : Nat → Int → Int → List ByteArray → Except Int (List ByteArray)
  | 0, _, _, acc => .ok acc
  | n + 1, addr, by_, acc =>
    match atS b ps addr by_ 8 with
    | none => .error 4
    | some x =>
      if (textS ss (num (x.2.take 4))).2 ≠ 0 then .error (textS ss (num (x.2.take 4))).2
      else if num (x.2.drop 4) = 0 ∧ n ≠ 0 then .error 3
      else namesS b ps ss n x.1 (num (x.2.drop 4)) (acc ++ [(textS ss (num (x.2.take 4))).1])
def NamesP (w : World) (res : Except Int (List ByteArray)) (e : Ending) (w' : World) : Prop :=
  match res with
  | .error c => ∃ v, e = .returned (.tuple #[v, .iface 97 (.int .i64 c)]) ∧ Below w.heap.size w w'
  | .ok l => ∃ v, e = .returned (.tuple #[v, .nilIface]) ∧ Kd.R Kd.string 9 w' w.heap.size (fun _ => True) v l ∧ Below w.heap.size w w'
theorem NamesP.err {w w' : World} {c : Int} {e : Ending} {v : Value} (he : e = .returned (.tuple #[v, .iface 97 (.int .i64 c)])) (hb : Below w.heap.size w w') : NamesP w (.error c) e w' := ⟨v, he, hb⟩
theorem NamesP.ok {w w' : World} {l : List ByteArray} {e : Ending} {v : Value} (he : e = .returned (.tuple #[v, .nilIface])) (hr : Kd.R Kd.string 9 w' w.heap.size (fun _ => True) v l) (hb : Below w.heap.size w w') : NamesP w (.ok l) e w' := ⟨v, he, hr, hb⟩
set_option maxHeartbeats 8000000 in
set_option maxRecDepth 100000 in
theorem names_calls {w0 w : World} {r : Rc} {T : List Int} (h : Rdr w0 r w T) (G : Gd r) (addr by_ n : Int) (ha : 0 ≤ addr ∧ addr ≤ 18446744073709551615) (hb : 0 ≤ by_ ∧ by_ ≤ 18446744073709551615) (hn : 0 ≤ n ∧ n ≤ 64) :
    Calls Try.prog 58 #[.pointer (some ⟨r.p, 0, none⟩), .int .u64 addr, .int .u64 by_, .int .u64 n] w (NamesP w (namesS r.b r.ps r.ss n.toNat addr by_ [])) := by
  refine calls_aside fun Post HP => ?_
  obtain ⟨res, hres⟩ : ∃ res, namesS r.b r.ps r.ss n.toNat addr by_ [] = res := ⟨_, rfl⟩
  rw [hres] at HP
  have HH := Aside0.mk h
  have HG := Aside0.mk G
  have HA := Aside0.mk ha
  have HB := Aside0.mk hb
  have HN := Aside0.mk hn
  have HR := Aside0.mk hres
  clear h G ha hb hn hres
  have hu24 := Try.underlying24
  have hu104 := Try.underlying104
  go_enter Try.func58, Try.ntmps58
  go_wp2
  go_loopg [1, 2, 10, 17] n.toNat (fun kq v1 v2 v10 v17 w' => ∃ (i : Int) (ad bb : Int) (acc : List ByteArray), v1 = .int .u64 ad ∧ v2 = .int .u64 bb ∧ v17 = .int .u64 i ∧ Aside0 (0 ≤ i ∧ i ≤ n ∧ kq = (n - i).toNat) ∧ Aside0 ((0 ≤ ad ∧ ad ≤ 18446744073709551615) ∧ 0 ≤ bb ∧ bb ≤ 18446744073709551615) ∧ Aside0 (namesS r.b r.ps r.ss (n - i).toNat ad bb acc = res) ∧ Aside0 (Kd.R Kd.string 9 w' w.heap.size (fun _ => True) v10 acc ∧ Below w.heap.size w w' ∧ acc.length ≤ i.toNat))
  case atStart => exact ⟨0, addr, by_, [], rfl, rfl, rfl, ⟨by have := HN.out; omega⟩, ⟨HA.out, HB.out⟩, ⟨by rw [Int.sub_zero]; exact HR.out⟩, ⟨Kd.R_nil _ _ _ _ _, Below.refl _ _, by simp⟩⟩
  case round =>
    obtain ⟨i, ad, bb, acc, rfl, rfl, rfl, HI, HAB, HX, HW⟩ := hrel
    by_cases c4 : i < n
    · have c4b0 : decide (i < n) = true := decide_eq_true c4
      obtain ⟨k, hk⟩ : ∃ k, (n - i).toNat = k + 1 := ⟨(n - i).toNat - 1, by omega⟩
      have hx := HX.out
      rw [hk, namesS] at hx
      have HK := Aside0.mk hk
      have HC4 := Aside0.mk c4
      clear hk c4 HX
      cases hq : atS r.b r.ps ad bb 8 with
      | none =>
        rw [hq] at hx
        have HE := Aside0.mk (show (Except.error 4 : Except Int (List ByteArray)) = res from hx)
        have HQ := Aside0.mk hq
        clear hx hq
        go_wp2_with (go_at_call 57; (with_reducible refine (at_none (HH.out.up HW.out.2.1) HG.out ad bb 8 HAB.out.1 HAB.out.2 (by omega) (by omega) HQ.out).mono ?_); rintro e w2 ⟨a, v, rfl, hw⟩; have HW2 := Aside0.mk (below_step HW.out.2.1 hw); clear hw)
        refine HP.out _ _ ?_
        rw [← HE.out]
        exact NamesP.err (v := .slice none 0 0) rfl HW2.out
      | some xs =>
        obtain ⟨x, s⟩ := xs
        rw [hq] at hx
        simp only at hx
        have hin := atS_in HG.out HAB.out.1 HAB.out.2.1 (by omega) hq
        have hsl : s.length = 8 := by omega
        obtain ⟨N4, hN4⟩ : ∃ y, num (s.drop 4) = y := ⟨_, rfl⟩
        obtain ⟨N0, hN0⟩ : ∃ y, num (s.take 4) = y := ⟨_, rfl⟩
        have h4 := num_in8 hin.2.2 (fun y hy => List.mem_of_mem_drop hy) (show (s.drop 4).length ≤ 8 by simp; omega)
        have h0 := num_in8 hin.2.2 (fun y hy => List.mem_of_mem_take hy) (show (s.take 4).length ≤ 8 by simp; omega)
        rw [hN4] at hx h4
        rw [hN0] at hx h0
        have HS := Aside0.mk (And.intro hsl hin.2.2)
        have H4 := Aside0.mk h4
        have H0 := Aside0.mk h0
        have HN4 := Aside0.mk hN4
        have HN0 := Aside0.mk hN0
        have HXI := Aside0.mk hin.1
        have HQ := Aside0.mk hq
        have HX2 := Aside0.mk hx
        clear hin hsl hN4 hN0 h4 h0 hq hx
        have b0 : ((8 : Int)) = 8 := rfl
        go_wp2_with (first
          | (go_at_call 57; (with_reducible refine (at_some (HH.out.up HW.out.2.1) HG.out ad bb 8 HAB.out.1 HAB.out.2 (by omega) (by omega) x s HQ.out 8 rfl).mono ?_); rintro e w2 ⟨A, c, rfl, hc, hC, hw⟩; obtain ⟨A4, c4, hcut4, hnum4⟩ := cut_from_num HS.out.1 hC hc HS.out.2 4 4 4 rfl (by decide) rfl (by decide); obtain ⟨hcut0, hnum0⟩ := cut_to_num HS.out.1 hC hc HS.out.2 4 4 rfl (by decide) (by decide); have HNUM4 := Aside0.mk hnum4; have HNUM0 := Aside0.mk hnum0; have HL2 := Aside0.mk hw; have HW2 := Aside0.mk (below_step HW.out.2.1 hw); clear hnum4 hnum0 hc hC hw)
          | (go_at_call 39; (with_reducible refine (HNUM4.out _ (Below.refl _ _)).mono ?_); rintro e w3 ⟨rfl, hd⟩; have hw3 := below_drawn hd; have HW3 := Aside0.mk (below_step HW2.out hw3); have HD3 := Aside0.mk hw3; have HL3 := Aside0.mk (below_step HL2.out hw3); clear hd hw3; rw [HN4.out]))
        obtain ⟨t, hT⟩ : ∃ t, textS r.ss N0 = t := ⟨_, rfl⟩
        have hx := HX2.out
        rw [hT] at hx
        have HX3 := Aside0.mk hx
        clear hx HX2
        have hR := HH.out.up HW3.out
        have k4 := hR.c4
        have HTX := Aside0.mk (fun n : Nat => Calls.quiet_of (text_calls r.As r.cs r.ss N0 (World.drewN w3 n) (Kd.C_drewN hR.C_s _) hR.ls HG.out.s8 HG.out.sl H0.out.1))
        have HNQ := Aside0.mk (fun n : Nat => Calls.quiet_of (HNUM0.out (World.drewN w3 n) (pw_below_drewN HD3.out n)))
        rw [hT] at HTX
        rw [HN0.out] at HNQ
        clear hT hR
        by_cases ht : t.2 = 0
        · rw [errOf_none ht, errW_none] at HTX
          have hx := HX3.out
          rw [if_neg (by omega)] at hx
          have HX4 := Aside0.mk hx
          clear hx HX3 ht
          go_quiet (first | exact HNQ.out _ | exact HTX.out _)
          have HW4 := Aside0.mk (pw_below_drewN HW3.out nq)
          have HL4 := Aside0.mk (pw_below_drewN HL3.out nq)
          have HU := Aside0.mk (u64_in (n - 1) (by have := HI.out; have := HC4.out; omega) (by have := HN.out; omega))
          have HV := Aside0.mk (u64_in (i + 1) (by have := HI.out; omega) (by have := HI.out; have := HN.out; omega))
          generalize World.drewN w3 nq = w4 at HW4 HL4 ⊢
          by_cases cz : N4 = 0
          · have cz0 : (N4 == 0) = true := beq_iff_eq.2 cz
            by_cases ck : k = 0
            · have ci : decide (i < IntKind.u64.wrap (n - 1)) = false := decide_eq_false (by rw [HU.out]; have := HK.out; have := HI.out; omega)
              have hx := HX4.out
              rw [if_neg (fun h => h.2 ck)] at hx
              have HX5 := Aside0.mk hx
              have HCZ := Aside0.mk cz
              clear hx HX4 ck cz
              go_wp2_with ((with_reducible refine gate_builtin (b := .append) (xs := #[.tmp 58, .tmp 60]) rfl ?_); at_builtin; refine Kd.R_append Kd.string (w0 := w) w.heap.size rfl (.tmp 58) (.tmp 60) 22 9 (.string ⟨#[]⟩) 16 rfl Try.underlying22 info9 rfl (by decide) (by omega) u10 acc t.1 [.string t.1] (fun _ => True) (fun _ => False) rfl rfl ?aP (fun _ hk => hk.elim) ?aF ?aO ?aB ?aS ?aL ?_; (case aP => exact rfl); (case aF => exact fun _ _ => trivial); (case aO => exact Kd.R_below HW.out.1 HL4.out); (case aB => exact HW4.out); (case aS => exact HW4.out.size); (case aL => have := HW.out.2.2; have := HI.out; have := HN.out; omega); intro v5 w5 ho hb hg hat; have HO5 := Aside0.mk ho; have HB5 := Aside0.mk hb; clear ho hb hg hat)
              go_roundg (n - (i + 1)).toNat
              case measure => have := HI.out; have := HC4.out; omega
              case rel => exact ⟨i + 1, x, N4, acc ++ [t.1], rfl, rfl, by rw [HV.out], ⟨by have := HI.out; have := HC4.out; omega⟩, ⟨HXI.out, H4.out⟩, ⟨by rw [show (n - (i + 1)).toNat = k by have := HK.out; omega]; exact HX5.out⟩, ⟨HO5.out, HB5.out, by have := HW.out.2.2; have := HI.out; simp; omega⟩⟩
            · have ci : decide (i < IntKind.u64.wrap (n - 1)) = true := decide_eq_true (by rw [HU.out]; have := HK.out; have := HI.out; omega)
              have hx := HX4.out
              rw [if_pos ⟨cz, ck⟩] at hx
              have HX5 := Aside0.mk hx
              clear hx HX4 cz ck
              go_wp2
              refine HP.out _ _ ?_
              rw [← HX5.out]
              exact NamesP.err (v := .slice none 0 0) rfl HW4.out
          · have cz0 : (N4 == 0) = false := beq_eq_false_iff_ne.2 cz
            have hx := HX4.out
            rw [if_neg (fun h => cz h.1)] at hx
            have HX5 := Aside0.mk hx
            clear hx HX4 cz
            go_wp2_with ((with_reducible refine gate_builtin (b := .append) (xs := #[.tmp 58, .tmp 60]) rfl ?_); at_builtin; refine Kd.R_append Kd.string (w0 := w) w.heap.size rfl (.tmp 58) (.tmp 60) 22 9 (.string ⟨#[]⟩) 16 rfl Try.underlying22 info9 rfl (by decide) (by omega) u10 acc t.1 [.string t.1] (fun _ => True) (fun _ => False) rfl rfl ?aP (fun _ hk => hk.elim) ?aF ?aO ?aB ?aS ?aL ?_; (case aP => exact rfl); (case aF => exact fun _ _ => trivial); (case aO => exact Kd.R_below HW.out.1 HL4.out); (case aB => exact HW4.out); (case aS => exact HW4.out.size); (case aL => have := HW.out.2.2; have := HI.out; have := HN.out; omega); intro v5 w5 ho hb hg hat; have HO5 := Aside0.mk ho; have HB5 := Aside0.mk hb; clear ho hb hg hat)
            go_roundg (n - (i + 1)).toNat
            case measure => have := HI.out; have := HC4.out; omega
            case rel => exact ⟨i + 1, x, N4, acc ++ [t.1], rfl, rfl, by rw [HV.out], ⟨by have := HI.out; have := HC4.out; omega⟩, ⟨HXI.out, H4.out⟩, ⟨by rw [show (n - (i + 1)).toNat = k by have := HK.out; omega]; exact HX5.out⟩, ⟨HO5.out, HB5.out, by have := HW.out.2.2; have := HI.out; simp; omega⟩⟩
        · rw [errOf_some ht, errW_some] at HTX
          have hx := HX3.out
          rw [if_pos ht] at hx
          have HX4 := Aside0.mk hx
          clear hx HX3
          go_quiet (first | exact HNQ.out _ | exact HTX.out _)
          go_wp2
          refine HP.out _ _ ?_
          rw [← HX4.out]
          exact NamesP.err (v := .slice none 0 0) rfl (pw_below_drewN HW3.out nq)
    · have c4b0 : decide (i < n) = false := decide_eq_false c4
      have hi : (n - i).toNat = 0 := by omega
      have hx := HX.out
      rw [hi, namesS] at hx
      have HX2 := Aside0.mk hx
      clear hx hi c4 HX
      go_wp2
      refine HP.out _ _ ?_
      rw [← HX2.out]
      exact NamesP.ok rfl HW.out.1 HW.out.2.1
end Go.Proofs.Ythopdoamajjojaa.VersS
