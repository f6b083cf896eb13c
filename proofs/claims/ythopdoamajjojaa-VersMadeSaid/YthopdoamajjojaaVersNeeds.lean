import Derived.Test.YthopdoamajjojaaVersDefs
namespace Go.Proofs.Ythopdoamajjojaa.VersS
open Go Go.RowKit Go.Proofs.Ythopdoamajjojaa.QVers Go.Proofs.Ythopdoamajjojaa.VersSpec Go.Proofs.YthopdoamajjojaaW.PrintWords Go.Proofs.YthopdoamajjojaaW.PrintLast Go.Proofs.YthopdoamajjojaaW.PrintMore
open TextFacts (textS u64_in)
set_option linter.unusedSimpArgs false
set_option linter.unusedVariables false
abbrev Nd := ByteArray × List Ax
def kNd : Kd Nd := Kd.pair Kd.string (Kd.slice 68 kAx)
theorem kNd_mkM (w : World) (base : Nat) (ok : Nat → Prop) (x : Nd) {v : Value} (g : Kd.R kAx 68 w base ok v x.2) : kNd.M w base ok x [.string x.1, v] :=
  ⟨[.string x.1], [v], rfl, rfl, ⟨v, rfl, g⟩⟩
theorem info66 : (Try.prog.info? 66).map (fun i => (i.zero, i.size, i.bytes)) = some (some (.agg #[.string ⟨#[]⟩, .slice none 0 0]), 2, 40) := by kernel_rfl
def needsS (b : List Int) (ps : List S29) (ss : List Int) : Nat → Int → Int → List Int → List Nd → Except Int (List Nd × List Int)
  | 0, _, _, T, acc => .ok (acc, T)
  | n + 1, addr, by_, T, acc =>
    match atS b ps addr by_ 16 with
    | none => .error 4
    | some x =>
      if num (x.2.take 2) ≠ 1 ∨ num ((x.2.take 4).drop 2) = 0 then .error 3
      else if num ((x.2.take 4).drop 2) > 64 then .error 2
      else if (textS ss (num ((x.2.take 8).drop 4))).2 ≠ 0 then .error (textS ss (num ((x.2.take 8).drop 4))).2
      else match versionsS b ps ss (num ((x.2.take 4).drop 2)).toNat x.1 (num ((x.2.take 12).drop 8)) T [] with
        | .error c => .error c
        | .ok l =>
          if num (x.2.drop 12) = 0 ∧ n ≠ 0 then .error 3
          else needsS b ps ss n x.1 (num (x.2.drop 12)) l.2 (acc ++ [((textS ss (num ((x.2.take 8).drop 4))).1, l.1)])
def needsT (b : List Int) (ps : List S29) (ss : List Int) (n addr : Int) (T : List Int) : Except Int (List Nd × List Int) := if n > 64 then .error 2 else needsS b ps ss n.toNat addr 0 T []
theorem versionsS_len {b : List Int} {ps : List S29} {ss : List Int} : ∀ (n : Nat) (a y : Int) (T : List Int) (acc : List Ax) (l : List Ax × List Int), versionsS b ps ss n a y T acc = .ok l → l.2.length = T.length + n
  | 0, _, _, T, acc, l, h => by
    simp only [versionsS] at h
    injection h with h
    rw [← h]; rfl
  | n + 1, a, y, T, acc, l, h => by
    simp only [versionsS] at h
    split at h
    · cases h
    · split at h
      · cases h
      · split at h
        · cases h
        · split at h
          · cases h
          · split at h
            · cases h
            · have := versionsS_len n _ _ _ _ l h
              rw [this, List.length_cons]
              omega
theorem versions_err {w0 w : World} {r : Rc} {T : List Int} (h : Rdr w0 r w T) (G : Gd r) (addr by_ n : Int) (ha : 0 ≤ addr ∧ addr ≤ 18446744073709551615) (hb : 0 ≤ by_ ∧ by_ ≤ 18446744073709551615) (hn : 0 ≤ n ∧ n ≤ 64) (hT : T.length ≤ 100000) {c : Int} (hq : versionsS r.b r.ps r.ss n.toNat addr by_ T [] = .error c) :
    Calls Try.prog 60 #[.pointer (some ⟨r.p, 0, none⟩), .int .u64 addr, .int .u64 by_, .int .u64 n] w fun e w' => e = .returned (.tuple #[.slice none 0 0, .iface 97 (.int .i64 c)]) ∧ Below w0.heap.size w0 w' ∧ w.grownBy w' (some r.m) := by
  have h := versions_calls h G addr by_ n ha hb hn hT
  rw [hq] at h
  exact h
theorem versions_ok {w0 w : World} {r : Rc} {T : List Int} (h : Rdr w0 r w T) (G : Gd r) (addr by_ n : Int) (ha : 0 ≤ addr ∧ addr ≤ 18446744073709551615) (hb : 0 ≤ by_ ∧ by_ ≤ 18446744073709551615) (hn : 0 ≤ n ∧ n ≤ 64) (hT : T.length ≤ 100000) {l : List Ax × List Int} (hq : versionsS r.b r.ps r.ss n.toNat addr by_ T [] = .ok l) :
    Calls Try.prog 60 #[.pointer (some ⟨r.p, 0, none⟩), .int .u64 addr, .int .u64 by_, .int .u64 n] w fun e w' => ∃ v, e = .returned (.tuple #[v, .nilIface]) ∧ Kd.R kAx 68 w' w.heap.size (fun k => k ≠ r.m) v l.1 ∧ Rdr w0 r w' l.2 ∧ w.grownBy w' (some r.m) := by
  have h := versions_calls h G addr by_ n ha hb hn hT
  rw [hq] at h
  exact h
set_option maxHeartbeats 16000000 in
set_option maxRecDepth 100000 in
theorem needs_calls {w0 w : World} {r : Rc} {T : List Int} (h : Rdr w0 r w T) (G : Gd r) (addr n : Int) (ha : 0 ≤ addr ∧ addr ≤ 18446744073709551615) (hn : 0 ≤ n ∧ n ≤ 18446744073709551615) (hT : T.length ≤ 1000) :
    Calls Try.prog 38 #[.pointer (some ⟨r.p, 0, none⟩), .int .u64 addr, .int .u64 n] w (RowsP kNd 66 w0 r w (needsT r.b r.ps r.ss n addr T)) := by
  refine calls_aside fun Post HP => ?_
  obtain ⟨res, hres⟩ : ∃ res, needsT r.b r.ps r.ss n addr T = res := ⟨_, rfl⟩
  rw [hres] at HP
  have HH := Aside0.mk h
  have HG := Aside0.mk G
  have HA := Aside0.mk ha
  have HTL := Aside0.mk hT
  have hu24 := Try.underlying24
  have hu64 := Try.underlying64
  have hu66 := Try.underlying66
  have hu104 := Try.underlying104
  by_cases c0 : n > 64
  · have c0b : decide (n > 64) = true := decide_eq_true c0
    rw [needsT, if_pos c0] at hres
    have HR := Aside0.mk hres
    clear h G ha hn hres hT c0
    go_enter Try.func38, Try.ntmps38
    go_wp2
    refine HP.out _ _ ?_
    rw [← HR.out]
    exact RowsP.err (v := .slice none 0 0) rfl HH.out.hw (grown_refl _ _)
  have c0b : decide (n > 64) = false := decide_eq_false c0
  rw [needsT, if_neg c0] at hres
  have HR := Aside0.mk hres
  have HN := Aside0.mk (show 0 ≤ n ∧ n ≤ 64 by omega)
  clear h G ha hn hres hT c0
  go_enter Try.func38, Try.ntmps38
  go_wp2
  go_loopg [1, 8, 9, 20] n.toNat (fun kq v1 v8 v9 v20 w' => ∃ (i : Int) (ad bb : Int) (T1 : List Int) (acc : List Nd), v1 = .int .u64 ad ∧ v9 = .int .u64 bb ∧ v20 = .int .u64 i ∧ Aside0 (0 ≤ i ∧ i ≤ n ∧ kq = (n - i).toNat) ∧ Aside0 ((0 ≤ ad ∧ ad ≤ 18446744073709551615) ∧ 0 ≤ bb ∧ bb ≤ 18446744073709551615) ∧ Aside0 (needsS r.b r.ps r.ss (n - i).toNat ad bb T1 acc = res) ∧ Aside0 (Kd.R kNd 66 w' w.heap.size (fun k => k ≠ r.m) v8 acc ∧ Rdr w0 r w' T1 ∧ w.grownBy w' (some r.m) ∧ acc.length ≤ i.toNat ∧ T1.length ≤ T.length + 64 * i.toNat))
  case atStart => exact ⟨0, addr, 0, T, [], rfl, rfl, rfl, ⟨by have := HN.out; omega⟩, ⟨HA.out, by omega⟩, ⟨by rw [Int.sub_zero]; exact HR.out⟩, ⟨Kd.R_nil _ _ _ _ _, HH.out, grown_refl _ _, by simp, by simp⟩⟩
  case round =>
    obtain ⟨i, ad, bb, T1, acc, rfl, rfl, rfl, HI, HAB, HX, HW⟩ := hrel
    by_cases c4 : i < n
    · have c4b0 : decide (i < n) = true := decide_eq_true c4
      obtain ⟨k, hk⟩ : ∃ k, (n - i).toNat = k + 1 := ⟨(n - i).toNat - 1, by omega⟩
      have hx := HX.out
      rw [hk, needsS] at hx
      have HK := Aside0.mk hk
      have HC4 := Aside0.mk c4
      clear hk c4 HX
      cases hq : atS r.b r.ps ad bb 16 with
      | none =>
        rw [hq] at hx
        have HE := Aside0.mk (show (Except.error 4 : Except Int (List Nd × List Int)) = res from hx)
        have HQ := Aside0.mk hq
        clear hx hq
        go_wp2_with (go_at_call 57; (with_reducible refine (at_none HW.out.2.1 HG.out ad bb 16 HAB.out.1 HAB.out.2 (by omega) (by omega) HQ.out).mono ?_); rintro e w2 ⟨a, v, rfl, hw⟩; have HW2 := Aside0.mk (And.intro (HW.out.2.1.low hw) (grown_below HW.out.2.2.1 hw)); clear hw)
        refine HP.out _ _ ?_
        rw [← HE.out]
        exact RowsP.err (v := .slice none 0 0) rfl HW2.out.1 HW2.out.2
      | some xs =>
        obtain ⟨x, s⟩ := xs
        rw [hq] at hx
        simp only at hx
        have hin := atS_in HG.out HAB.out.1 HAB.out.2.1 (by omega) hq
        have hsl : s.length = 16 := by omega
        obtain ⟨N2, hN2⟩ : ∃ y, num (s.take 2) = y := ⟨_, rfl⟩
        obtain ⟨NN, hNN⟩ : ∃ y, num ((s.take 4).drop 2) = y := ⟨_, rfl⟩
        obtain ⟨NT, hNT⟩ : ∃ y, num ((s.take 8).drop 4) = y := ⟨_, rfl⟩
        obtain ⟨ND, hND⟩ : ∃ y, num ((s.take 12).drop 8) = y := ⟨_, rfl⟩
        obtain ⟨NX, hNX⟩ : ∃ y, num (s.drop 12) = y := ⟨_, rfl⟩
        have hmd := fun (a b : Nat) (hb : b - a ≤ 8) => num_in8 (t := (s.take b).drop a) hin.2.2 (fun y hy => List.mem_of_mem_take (List.mem_of_mem_drop hy)) (by simp; omega)
        have hX := num_in8 hin.2.2 (fun y hy => List.mem_of_mem_drop hy) (show (s.drop 12).length ≤ 8 by simp; omega)
        have hNNr := hmd 2 4 (by decide)
        have hTr := hmd 4 8 (by decide)
        have hDr := hmd 8 12 (by decide)
        rw [hN2] at hx
        rw [hNN] at hx hNNr
        rw [hNT] at hx hTr
        rw [hND] at hx hDr
        rw [hNX] at hx hX
        obtain ⟨t, hT⟩ : ∃ t, textS r.ss NT = t := ⟨_, rfl⟩
        rw [hT] at hx
        have HT := Aside0.mk hT
        have HS := Aside0.mk (And.intro hsl hin.2.2)
        have HRN := Aside0.mk hNNr
        have HRT := Aside0.mk hTr
        have HRD := Aside0.mk hDr
        have HRX := Aside0.mk hX
        have HN2 := Aside0.mk hN2
        have HNN := Aside0.mk hNN
        have HNT := Aside0.mk hNT
        have HND := Aside0.mk hND
        have HNX := Aside0.mk hNX
        have HXI := Aside0.mk hin.1
        have HQ := Aside0.mk hq
        have HX3 := Aside0.mk hx
        clear hin hsl hN2 hNN hNT hND hNX hX hNNr hTr hDr hmd hq hx hT
        go_wp2_with (go_at_call 57; (with_reducible refine (at_someV HW.out.2.1 HG.out ad bb 16 HAB.out.1 HAB.out.2 (by omega) (by omega) x s HQ.out 16 rfl).mono ?_); rintro e w2 ⟨A, c, rfl, hV, hw⟩; have HV2 := Aside0.mk hV; have HL2 := Aside0.mk hw; obtain ⟨hsN, hc, hC⟩ := V_C hV; obtain ⟨AN, cN, hcutN, hnumN⟩ := cut_mid_num hsN hC hc HS.out.2 2 4 2 4 2 rfl rfl (by decide) (by decide) rfl (by decide); have HNUMN := Aside0.mk hnumN; clear hV hw hsN hc hC hnumN)
        obtain ⟨hsN, hc, hC⟩ := V_C HV2.out
        obtain ⟨AT, cT, hcutT, hnumT⟩ := cut_mid_num hsN hC hc HS.out.2 4 8 4 8 4 rfl rfl (by decide) (by decide) rfl (by decide)
        obtain ⟨AD, cD, hcutD, hnumD⟩ := cut_mid_num hsN hC hc HS.out.2 8 12 8 12 4 rfl rfl (by decide) (by decide) rfl (by decide)
        obtain ⟨AX, cX, hcutX, _⟩ := cut_from_num hsN hC hc HS.out.2 12 12 4 rfl (by decide) rfl (by decide)
        obtain ⟨hcut2, hnum2⟩ := cut_to_num hsN hC hc HS.out.2 2 2 rfl (by decide) (by decide)
        have HCT := Aside0.mk hcutT
        have HCD := Aside0.mk hcutD
        have HCX := Aside0.mk hcutX
        have HNUMT := Aside0.mk hnumT
        have HNUMD := Aside0.mk hnumD
        have HNUM2 := Aside0.mk hnum2
        have HR2 := Aside0.mk (HW.out.2.1.up HL2.out)
        have HO2 := Aside0.mk (Kd.R_below HW.out.1 HL2.out)
        have HG2 := Aside0.mk (grown_below HW.out.2.2.1 HL2.out)
        have HMR := Aside0.mk HW.out.2.1.map.lt
        clear hnumT hnumD hnum2 hsN hc hC
        have hNN := HRN.out
        by_cases ca : N2 = 1
        · have cab : (N2 == 1) = true := beq_t ca
          have cab2 : (N2 != 1) = false := by rw [bne, cab]; rfl
          by_cases cc : NN = 0
          · have ccb : (NN == 0) = true := beq_t cc
            have hx := HX3.out
            rw [if_pos (.inr cc)] at hx
            have HX4 := Aside0.mk hx
            clear hx HX3 hNN ca cc
            go_wp2_with (first
              | (go_at_call 39; (with_reducible refine (HNUMN.out _ (Below.refl _ _)).mono ?_); rintro e w7 ⟨rfl, hd⟩; have HQ7 := Aside0.mk (below_drawn hd); clear hd; rw [HNN.out])
              | (go_at_call 39; (with_reducible refine (HNUM2.out _ HQ7.out).mono ?_); rintro e w8 ⟨rfl, hd⟩; have HQ8 := Aside0.mk (below_step HQ7.out (below_drawn hd)); clear hd; rw [HN2.out])
              | ((with_reducible refine gate_dst (N := 15) rfl ?_); refine box_event ?hg (N := 15) ?hd (cs := #[.string ⟨#[]⟩, .slice none 0 0]) (t := 66) ?hr ?_; (case hd => rfl); (case hg => rfl); (case hr => first | (go_simp; done) | (go_simp; rfl)); intro g eg w9 hb hw; have HQ9 := Aside0.mk (below_step HQ8.out hw); have HB9 := Aside0.mk hb; have HGE := Aside0.mk (show w2.heap.size ≤ g by rw [eg]; exact HQ8.out.size); clear eg hb hw))
            refine HP.out _ _ ?_
            rw [← HX4.out]
            exact RowsP.err (v := .slice none 0 0) rfl (HR2.out.low HQ8.out) (grown_below HG2.out HQ8.out)
          · have ccb : (NN == 0) = false := beq_f cc
            have hx := HX3.out
            rw [if_neg (fun h => h.elim (fun h => h ca) cc)] at hx
            have HX4 := Aside0.mk hx
            have HNZ := Aside0.mk cc
            clear hx HX3 hNN ca cc
            by_cases cn : NN > 64
            · have cnb : decide (NN > 64) = true := decide_eq_true cn
              have hx := HX4.out
              rw [if_pos cn] at hx
              have HX5 := Aside0.mk hx
              clear hx HX4 cn
              go_wp2_with (first
                | (go_at_call 39; (with_reducible refine (HNUMN.out _ (Below.refl _ _)).mono ?_); rintro e w7 ⟨rfl, hd⟩; have HQ7 := Aside0.mk (below_drawn hd); clear hd; rw [HNN.out])
                | (go_at_call 39; (with_reducible refine (HNUM2.out _ HQ7.out).mono ?_); rintro e w8 ⟨rfl, hd⟩; have HQ8 := Aside0.mk (below_step HQ7.out (below_drawn hd)); clear hd; rw [HN2.out])
                | ((with_reducible refine gate_dst (N := 15) rfl ?_); refine box_event ?hg (N := 15) ?hd (cs := #[.string ⟨#[]⟩, .slice none 0 0]) (t := 66) ?hr ?_; (case hd => rfl); (case hg => rfl); (case hr => first | (go_simp; done) | (go_simp; rfl)); intro g eg w9 hb hw; have HQ9 := Aside0.mk (below_step HQ8.out hw); have HB9 := Aside0.mk hb; have HGE := Aside0.mk (show w2.heap.size ≤ g by rw [eg]; exact HQ8.out.size); clear eg hb hw))
              refine HP.out _ _ ?_
              rw [← HX5.out]
              exact RowsP.err (v := .slice none 0 0) rfl (HR2.out.low HQ8.out) (grown_below HG2.out HQ8.out)
            · have cnb : decide (NN > 64) = false := decide_eq_false cn
              have hx := HX4.out
              rw [if_neg cn] at hx
              have HX5 := Aside0.mk hx
              have HNP := Aside0.mk (show 0 ≤ NN ∧ NN ≤ 64 by have := HRN.out; omega)
              clear hx HX4 cn
              go_wp2_with (first
                | (go_at_call 39; (with_reducible refine (HNUMN.out _ (Below.refl _ _)).mono ?_); rintro e w7 ⟨rfl, hd⟩; have HQ7 := Aside0.mk (below_drawn hd); clear hd; rw [HNN.out])
                | (go_at_call 39; (with_reducible refine (HNUM2.out _ HQ7.out).mono ?_); rintro e w8 ⟨rfl, hd⟩; have HQ8 := Aside0.mk (below_step HQ7.out (below_drawn hd)); clear hd; rw [HN2.out])
                | ((with_reducible refine gate_dst (N := 15) rfl ?_); refine box_event ?hg (N := 15) ?hd (cs := #[.string ⟨#[]⟩, .slice none 0 0]) (t := 66) ?hr ?_; (case hd => rfl); (case hg => rfl); (case hr => first | (go_simp; done) | (go_simp; rfl)); intro g eg w9 hb hw; have HQ9 := Aside0.mk (below_step HQ8.out hw); have HB9 := Aside0.mk hb; have HGE := Aside0.mk (show w2.heap.size ≤ g by rw [eg]; exact HQ8.out.size); clear eg hb hw))
              have k4 := (HR2.out.up HQ9.out).c4
              have hcT := HCT.out
              by_cases ht : t.2 = 0
              · have hx := HX5.out
                rw [if_neg (by omega)] at hx
                have HX6 := Aside0.mk hx
                have HTZ := Aside0.mk ht
                clear hx HX5 ht
                refine start_ (n := 14) (S := fun w' => w'.cell? ⟨r.p, 4, none⟩ = some (.slice r.As r.ss.length r.cs)) (ds := [12]) #[false, false, false, false, false, false, false, false, false, false, false, false, false, false] (by kernel_rfl) rfl rfl ((cell_up (below_drew1 (Below.refl w9.heap.size w9)) k4)) (fun hHeld => ?_)
                refine pure_ (i := 0) (N := some 53) (v := ?_) (a' := ?_) #[true, false, false, false, false, false, false, false, false, false, false, false, false, false] rfl rfl (by kernel_rfl) (fun _ _ _ h => h) (Or.inl ⟨by rfl, ?_⟩) ?_ ?_
                rotate_left
                · intro w'
                  go_simp
                  with_reducible rfl
                rotate_left
                · simp only [Act.put, List.setIfInBounds_toArray, List.set_cons_zero, List.set_cons_succ, i64_w, i32_w]
                  rfl
                refine pure_ (i := 1) (N := some 54) (v := ?_) (a' := ?_) #[true, true, false, false, false, false, false, false, false, false, false, false, false, false] rfl rfl (by kernel_rfl) (fun _ _ _ h => h) (Or.inl ⟨by rfl, ?_⟩) ?_ ?_
                rotate_left
                · intro w'
                  go_simp
                  with_reducible rfl
                rotate_left
                · simp only [Act.put, List.setIfInBounds_toArray, List.set_cons_zero, List.set_cons_succ, i64_w, i32_w]
                  rfl
                refine pure_ (i := 2) (N := some 55) (v := ?_) (a' := ?_) #[true, true, true, false, false, false, false, false, false, false, false, false, false, false] rfl rfl (by kernel_rfl) (fun _ _ _ h => h) (Or.inl ⟨by rfl, ?_⟩) ?_ ?_
                rotate_left
                · intro w'
                  go_simp
                  with_reducible rfl
                rotate_left
                · simp only [Act.put, List.setIfInBounds_toArray, List.set_cons_zero, List.set_cons_succ, i64_w, i32_w]
                  rfl
                refine pure_ (i := 4) (N := some 57) (v := ?_) (a' := ?_) #[true, true, true, false, true, false, false, false, false, false, false, false, false, false] rfl rfl (by kernel_rfl) (fun _ _ _ h => h) (Or.inl ⟨by rfl, ?_⟩) ?_ ?_
                rotate_left
                · intro w'
                  go_simp
                  with_reducible rfl
                rotate_left
                · simp only [Act.put, List.setIfInBounds_toArray, List.set_cons_zero, List.set_cons_succ, i64_w, i32_w]
                  rfl
                refine pure_ (i := 5) (N := some 58) (v := ?_) (a' := ?_) #[true, true, true, false, true, true, false, false, false, false, false, false, false, false] rfl rfl (by kernel_rfl) (fun _ _ _ h => h) (Or.inl ⟨by rfl, ?_⟩) ?_ ?_
                rotate_left
                · intro w'
                  go_simp
                  with_reducible rfl
                rotate_left
                · simp only [Act.put, List.setIfInBounds_toArray, List.set_cons_zero, List.set_cons_succ, i64_w, i32_w]
                  rfl
                refine take_ (i := 3) (N := some 56) (v := ?_) (a' := ?_) #[true, true, true, true, true, true, false, false, false, false, false, false, false, false] rfl rfl (by kernel_rfl) (fun _ _ _ h => h) (Or.inl ⟨by rfl, ?_⟩) hHeld ?_ ?_
                rotate_left
                · intro w' s0
                  go_simp
                  with_reducible rfl
                rotate_left
                · simp only [Act.put, List.setIfInBounds_toArray, List.set_cons_zero, List.set_cons_succ, i64_w, i32_w]
                  rfl
                refine one_ (i := 6) (N := some 59) #[true, true, true, true, true, true, true, false, false, false, false, false, false, false] rfl rfl (by kernel_rfl) (by decide) (fun K hK => ?_)
                refine goes_ Try.func39 (by kernel_rfl) rfl #[.slice AT 4 cT] (by rfl) rfl rfl (by simp only [List.map_toArray, List.map_cons, List.map_nil]; rfl) ?_
                with_reducible refine (HNUMT.out _ (below_drew1 HQ9.out)).mono ?_
                rintro e w10 ⟨rfl, hd⟩
                refine ⟨_, rfl, ?_⟩
                have hw_ := below_drawn hd
                have hk10 := cell_up hw_ (cell_up (below_drew1 (Below.refl w9.heap.size w9)) k4)
                have HQ10 := Aside0.mk (below_step (below_drew1 HQ9.out) hw_)
                have hg10 := (hw_.block _ (lt_of_block HB9.out)).trans HB9.out
                have HR10 := Aside0.mk (HR2.out.up HQ10.out)
                clear hd hw_
                rw [HNT.out]
                refine hK.out _ _ (hk10) (fun hHeld => ?_)
                clear hK K
                refine norm_ (a' := ?_) ?_ ?_
                rotate_left
                · show Act.put _ (some 59) _ = _
                  simp only [Act.put, List.setIfInBounds_toArray, List.set_cons_zero, List.set_cons_succ, i64_w, i32_w]
                  rfl
                refine one_ (i := 7) (N := some 60) #[true, true, true, true, true, true, true, true, false, false, false, false, false, false] rfl rfl (by kernel_rfl) (by decide) (fun K hK => ?_)
                refine goes_ Try.func59 (by kernel_rfl) rfl #[.slice r.As r.ss.length r.cs, .int .u64 NT] (by rfl) rfl rfl (by simp only [List.map_toArray, List.map_cons, List.map_nil]; rfl) ?_
                with_reducible refine (text_calls r.As r.cs r.ss NT w10 HR10.out.C_s HR10.out.ls HG.out.s8 HG.out.sl HRT.out.1).mono ?_
                rintro e w11 ⟨rfl, hd⟩
                refine ⟨_, rfl, ?_⟩
                have hw_ := below_drawn hd
                have hk11 := cell_up hw_ hk10
                have HQ11 := Aside0.mk (below_step HQ10.out hw_)
                have hg11 := (hw_.block _ (lt_of_block hg10)).trans hg10
                clear hd hw_
                rw [HT.out, errOf_none HTZ.out, errW_none]
                refine hK.out _ _ (hk11) (fun hHeld => ?_)
                clear hK K
                refine norm_ (a' := ?_) ?_ ?_
                rotate_left
                · show Act.put _ (some 60) _ = _
                  simp only [Act.put, List.setIfInBounds_toArray, List.set_cons_zero, List.set_cons_succ, i64_w, i32_w]
                  rfl
                refine pure_ (i := 8) (N := some 52) (v := ?_) (a' := ?_) #[true, true, true, true, true, true, true, true, true, false, false, false, false, false] rfl rfl (by kernel_rfl) (fun _ _ _ h => h) (Or.inl ⟨by rfl, ?_⟩) ?_ ?_
                rotate_left
                · intro w'
                  go_simp
                  with_reducible rfl
                rotate_left
                · simp only [Act.put, List.setIfInBounds_toArray, List.set_cons_zero, List.set_cons_succ, i64_w, i32_w]
                  rfl
                refine pure_ (i := 9) (N := some 61) (v := ?_) (a' := ?_) #[true, true, true, true, true, true, true, true, true, true, false, false, false, false] rfl rfl (by kernel_rfl) (fun _ _ _ h => h) (Or.inl ⟨by rfl, ?_⟩) ?_ ?_
                rotate_left
                · intro w'
                  go_simp
                  with_reducible rfl
                rotate_left
                · simp only [Act.put, List.setIfInBounds_toArray, List.set_cons_zero, List.set_cons_succ, i64_w, i32_w]
                  rfl
                refine pure_ (i := 10) (N := some 62) (v := ?_) (a' := ?_) #[true, true, true, true, true, true, true, true, true, true, true, false, false, false] rfl rfl (by kernel_rfl) (fun _ _ _ h => h) (Or.inl ⟨by rfl, ?_⟩) ?_ ?_
                rotate_left
                · intro w'
                  go_simp
                  with_reducible rfl
                rotate_left
                · simp only [Act.put, List.setIfInBounds_toArray, List.set_cons_zero, List.set_cons_succ, i64_w, i32_w]
                  rfl
                refine pure_ (i := 11) (N := some 63) (v := ?_) (a' := ?_) #[true, true, true, true, true, true, true, true, true, true, true, true, false, false] rfl rfl (by kernel_rfl) (fun _ _ _ h => h) (Or.inl ⟨by rfl, ?_⟩) ?_ ?_
                rotate_left
                · intro w'
                  go_simp
                  with_reducible rfl
                rotate_left
                · simp only [Act.put, List.setIfInBounds_toArray, List.set_cons_zero, List.set_cons_succ, i64_w, i32_w]
                  rfl
                refine last_ (i := 12) (N := none) #[true, true, true, true, true, true, true, true, true, true, true, true, true, false] rfl rfl (by kernel_rfl) (by decide) (fun K hK => ?_)
                have hcg : w11.cell? ⟨g, 0, none⟩ = some (.string ⟨#[]⟩) := (cell_of_row w11 g 0 _ _ _ hg11).trans rfl
                have hfg := blk_frozen hg11 0
                refine skip_ (w1 := ?_) (by rfl) rfl ?_ ?_
                rotate_left
                · go_simp
                  rfl
                clear hcg hfg
                have HG12 := Aside0.mk (blk_set hg11 0 (.string t.1))
                have HQ12 := Aside0.mk (Below.setCell HQ11.out (p := ⟨g, 0, none⟩) HGE.out (.string t.1))
                clear hg11
                refine hK.out _ _ ?_
                clear hK K
                refine pure_ (i := 13) (N := some 13) (v := ?_) (a' := ?_) #[true, true, true, true, true, true, true, true, true, true, true, true, true, true] rfl rfl (by kernel_rfl) (fun _ _ _ h => h) (Or.inl ⟨by rfl, ?_⟩) ?_ ?_
                rotate_left
                · intro w'
                  go_simp
                  with_reducible rfl
                rotate_left
                · simp only [Act.put, List.setIfInBounds_toArray, List.set_cons_zero, List.set_cons_succ, i64_w, i32_w]
                  rfl
                refine done_ (by kernel_rfl) ?_
                have HB12 := Aside0.mk (show (w11.setCell ⟨g, 0, none⟩ (.string t.1)).heap[g]? = some (.cells #[.string t.1, .slice none 0 0] 66 (0, 0)) from HG12.out)
                clear HG12
                generalize World.setCell w11 ⟨g, 0, none⟩ (.string t.1) = w12 at HB12 HQ12 ⊢
                have hcD := HCD.out
                have hcX := HCX.out
                have HTB := Aside0.mk (show T1.length ≤ 100000 by have := HW.out.2.2.2.2; have := HTL.out; have := HI.out; have := HN.out; omega)
                cases hq2 : versionsS r.b r.ps r.ss NN.toNat x ND T1 [] with
                | error cE =>
                  have hx := HX6.out
                  rw [hq2] at hx
                  have HX7 := Aside0.mk (show (Except.error cE : Except Int (List Nd × List Int)) = res from hx)
                  have HQ2 := Aside0.mk hq2
                  clear hx HX6 hq2
                  go_wp2_with (first
                    | (go_at_call 39; (with_reducible refine (HNUMD.out _ HQ12.out).mono ?_); rintro e w13 ⟨rfl, hd⟩; have hw_ := below_drawn hd; have HQ13 := Aside0.mk (below_step HQ12.out hw_); have HB13 := Aside0.mk ((hw_.block _ (lt_of_block HB12.out)).trans HB12.out); have HR13 := Aside0.mk (HR2.out.up HQ13.out); clear hd hw_; rw [HND.out])
                    | (go_at_call 60; (with_reducible refine (versions_err HR13.out HG.out x ND NN HXI.out HRD.out HNP.out HTB.out HQ2.out).mono ?_); rintro e w14 ⟨rfl, hw, hg14⟩; have HB14 := Aside0.mk ((hg14.block g (lt_of_block HB13.out) (fun e => HR13.out.map.ne HB13.out (by injection e))).trans HB13.out); have HW14 := Aside0.mk hw; have HG14 := Aside0.mk (grown_grown (grown_below HG2.out HQ13.out) hg14); have hcg : w14.cell? ⟨g, 1, none⟩ = some (.slice none 0 0) := (cell_of_row w14 g 1 _ _ _ HB14.out).trans rfl; have hfg := blk_frozen HB14.out 1; clear hw hg14))
                  refine HP.out _ _ ?_
                  rw [← HX7.out]
                  exact RowsP.err (v := .slice none 0 0) rfl (Below.setCell HW14.out (p := ⟨g, 1, none⟩) (by have := HGE.out; have := HR2.out.hw.size; show _ ≤ g; omega) _) (grown_set HG14.out (by have := HGE.out; have := HG2.out.size; omega) 1 _)
                | ok l =>
                  have HLL := Aside0.mk (versionsS_len _ _ _ _ _ _ hq2)
                  have hx := HX6.out
                  rw [hq2] at hx
                  simp only at hx
                  have HX7 := Aside0.mk hx
                  have HQ2 := Aside0.mk hq2
                  clear hx HX6 hq2
                  have HU := Aside0.mk (u64_in (n - 1) (by have := HI.out; have := HC4.out; omega) (by have := HN.out; omega))
                  have HVV := Aside0.mk (u64_in (i + 1) (by have := HI.out; omega) (by have := HI.out; have := HN.out; omega))
                  by_cases cz : NX = 0
                  · have cz0 : (NX == 0) = true := beq_t cz
                    by_cases ck : k = 0
                    · have ci2 : decide (i < IntKind.u64.wrap (n - 1)) = false := decide_eq_false (by rw [HU.out]; have := HK.out; have := HI.out; omega)
                      have hx := HX7.out
                      rw [if_neg (fun h => h.2 ck)] at hx
                      have HX10 := Aside0.mk hx
                      clear hx HX7 ck cz
                      go_wp2_with (first
                        | (go_at_call 39; (with_reducible refine (HNUMD.out _ HQ12.out).mono ?_); rintro e w13 ⟨rfl, hd⟩; have hw_ := below_drawn hd; have HQ13 := Aside0.mk (below_step HQ12.out hw_); have HB13 := Aside0.mk ((hw_.block _ (lt_of_block HB12.out)).trans HB12.out); have HR13 := Aside0.mk (HR2.out.up HQ13.out); clear hd hw_; rw [HND.out])
                        | (go_at_call 60; (with_reducible refine (versions_ok HR13.out HG.out x ND NN HXI.out HRD.out HNP.out HTB.out HQ2.out).mono ?_); rintro e w14 ⟨vA, rfl, hRA, hR14, hg14⟩; obtain ⟨A3, c3, e3⟩ := Kd.R_slice hRA; subst e3; have HRA := Aside0.mk hRA; have HMS14 := Aside0.mk hR14.map; have HGR14 := Aside0.mk (grown_grown (grown_below (grown_refl w2 r.m) HQ13.out) hg14); have HB14 := Aside0.mk ((hg14.block g (lt_of_block HB13.out) (fun e => HR13.out.map.ne HB13.out (by injection e))).trans HB13.out); have HGL := Aside0.mk (show g < w13.heap.size from lt_of_block HB13.out); have hcg : w14.cell? ⟨g, 1, none⟩ = some (.slice none 0 0) := (cell_of_row w14 g 1 _ _ _ HB14.out).trans rfl; have hfg := blk_frozen HB14.out 1; clear hRA hR14 hg14)
                        | ((with_reducible refine gate_store (t := 64) (p := 77) rfl ?_); refine store_event (t := 64) (p := 77) (v := ?vo) (w1 := (w14.setCell ⟨g, 1, none⟩ (.slice A3 l.1.length c3))) ?hg ?ho ?hn ?hr ?_; (case ho => rfl); (case hg => rfl); (case hn => rfl); (case hr => first | (go_simp; done) | (go_simp; rfl)); intro w15 hw15; have HGR15 := Aside0.mk (show w2.grownBy w15 (some r.m) by rw [hw15]; exact grown_set HGR14.out HGE.out 1 _); have HMS15 := Aside0.mk (show MapSet w15 r.m l.2 by rw [hw15]; exact HMS14.out.set (fun e => HMS14.out.ne HB14.out e.symm) 1 _); have HRA15 := Aside0.mk (show Kd.R kAx 68 w15 w13.heap.size (fun k => k ≠ r.m) (.slice A3 l.1.length c3) l.1 by rw [hw15]; exact R_low HRA.out HGL.out 1 _); have HB15 := Aside0.mk (show w15.heap[g]? = some (.cells #[.string t.1, .slice A3 l.1.length c3] 66 (0, 0)) by rw [hw15]; exact blk_set HB14.out 1 _); have hV := Kd.V_grown HV2.out HGR15.out (fun k hk e => by injection e with e; have := HMR.out; omega); have HNX_ := Aside0.mk (from_again (V_C hV).1 (V_C hV).2.2 (V_C hV).2.1 HS.out.2 12 12 4 rfl (by decide) rfl (by decide) HCX.out); clear hw15 hV hcg hfg)
                        | (go_at_call 39; (with_reducible refine (HNX_.out _ (Below.refl _ _)).mono ?_); rintro e w19 ⟨rfl, hd⟩; have hw_ := below_drawn hd; have HGR19 := Aside0.mk (grown_below HGR15.out hw_); have HMS19 := Aside0.mk (HMS15.out.below hw_); have HRP19 := Aside0.mk (Kd.R_below HRA15.out hw_); have hb19 := (hw_.block _ (lt_of_block HB15.out)).trans HB15.out; have f0 : w19.cell? ⟨g, 0, none⟩ = some (.string t.1) := (cell_of_row w19 g 0 _ _ _ hb19).trans rfl; have f1 : w19.cell? ⟨g, 1, none⟩ = some (.slice A3 l.1.length c3) := (cell_of_row w19 g 1 _ _ _ hb19).trans rfl; clear hd hw_ hb19; rw [HNX.out])
                        | ((with_reducible refine gate_builtin (b := .append) (xs := #[.tmp 93, .tmp 95]) rfl ?_); at_builtin; refine Kd.R_append kNd (w0 := w19) w.heap.size rfl (.tmp 93) (.tmp 95) 52 66 (.agg #[.string ⟨#[]⟩, .slice none 0 0]) 40 rfl Try.underlying52 info66 rfl (by decide) (by omega) u8 acc (t.1, l.1) [.string t.1, .slice A3 l.1.length c3] (fun k => k ≠ r.m) (fun k => w2.heap.size ≤ k) rfl (by first | (go_simp; done) | (go_simp; rfl)) ?aP ?aK ?aF ?aO ?aB ?aS ?aL ?_; (case aP => exact kNd_mkM _ _ _ (t.1, l.1) (Kd.R_lower (Kd.R_mono (Kd.R_bound HRP19.out) (fun k hk => Nat.le_trans HQ13.out.size hk.2.1)) (Nat.le_trans HG2.out.size HQ13.out.size))); (case aK => exact fun k hk => ⟨fun e => by have := HR2.out.map.lt; have e : k = r.m := e; omega, fun e => by obtain ⟨_, ho⟩ := Kd.R_own HO2.out; have := own_lt ho k e.symm; omega⟩); (case aF => exact fun k hk e => by have := HMS19.out.lt; have e : k = r.m := e; omega); (case aO => exact R_grownm HO2.out HGR19.out); (case aB => exact Below.refl _ _); (case aS => exact Nat.le_trans HG2.out.size HGR19.out.size); (case aL => have := HW.out.2.2.2.1; have := HI.out; have := HN.out; omega); intro v20 w20 ho hb hg hat; have HO20 := Aside0.mk ho; have HR20 := Aside0.mk (HH.out.own (HR2.out.told HMS19.out HGR19.out) (R_grownm HO2.out HGR19.out) hg); have HG20 := Aside0.mk (grown_own (grown_grown HG2.out HGR19.out) (R_grownm HO2.out HGR19.out) hg); clear ho hb hg hat f0 f1))
                      go_roundg (n - (i + 1)).toNat
                      case measure => have := HI.out; have := HC4.out; omega
                      case rel => exact ⟨i + 1, x, NX, l.2, acc ++ [(t.1, l.1)], rfl, rfl, by rw [HVV.out], ⟨by have := HI.out; have := HC4.out; omega⟩, ⟨HXI.out, HRX.out⟩, ⟨by rw [show (n - (i + 1)).toNat = k by have := HK.out; omega]; exact HX10.out⟩, ⟨HO20.out, HR20.out, HG20.out, by have := HW.out.2.2.2.1; have := HI.out; simp; omega, by have := HW.out.2.2.2.2; have := HI.out; have := HLL.out; have := HNP.out; omega⟩⟩
                    · have ci2 : decide (i < IntKind.u64.wrap (n - 1)) = true := decide_eq_true (by rw [HU.out]; have := HK.out; have := HI.out; omega)
                      have hx := HX7.out
                      rw [if_pos ⟨cz, ck⟩] at hx
                      have HX10 := Aside0.mk hx
                      clear hx HX7 cz ck
                      go_wp2_with (first
                        | (go_at_call 39; (with_reducible refine (HNUMD.out _ HQ12.out).mono ?_); rintro e w13 ⟨rfl, hd⟩; have hw_ := below_drawn hd; have HQ13 := Aside0.mk (below_step HQ12.out hw_); have HB13 := Aside0.mk ((hw_.block _ (lt_of_block HB12.out)).trans HB12.out); have HR13 := Aside0.mk (HR2.out.up HQ13.out); clear hd hw_; rw [HND.out])
                        | (go_at_call 60; (with_reducible refine (versions_ok HR13.out HG.out x ND NN HXI.out HRD.out HNP.out HTB.out HQ2.out).mono ?_); rintro e w14 ⟨vA, rfl, hRA, hR14, hg14⟩; obtain ⟨A3, c3, e3⟩ := Kd.R_slice hRA; subst e3; have HRA := Aside0.mk hRA; have HMS14 := Aside0.mk hR14.map; have HGR14 := Aside0.mk (grown_grown (grown_below (grown_refl w2 r.m) HQ13.out) hg14); have HB14 := Aside0.mk ((hg14.block g (lt_of_block HB13.out) (fun e => HR13.out.map.ne HB13.out (by injection e))).trans HB13.out); have HGL := Aside0.mk (show g < w13.heap.size from lt_of_block HB13.out); have hcg : w14.cell? ⟨g, 1, none⟩ = some (.slice none 0 0) := (cell_of_row w14 g 1 _ _ _ HB14.out).trans rfl; have hfg := blk_frozen HB14.out 1; clear hRA hR14 hg14)
                        | ((with_reducible refine gate_store (t := 64) (p := 77) rfl ?_); refine store_event (t := 64) (p := 77) (v := ?vo) (w1 := (w14.setCell ⟨g, 1, none⟩ (.slice A3 l.1.length c3))) ?hg ?ho ?hn ?hr ?_; (case ho => rfl); (case hg => rfl); (case hn => rfl); (case hr => first | (go_simp; done) | (go_simp; rfl)); intro w15 hw15; have HGR15 := Aside0.mk (show w2.grownBy w15 (some r.m) by rw [hw15]; exact grown_set HGR14.out HGE.out 1 _); have HMS15 := Aside0.mk (show MapSet w15 r.m l.2 by rw [hw15]; exact HMS14.out.set (fun e => HMS14.out.ne HB14.out e.symm) 1 _); have HRA15 := Aside0.mk (show Kd.R kAx 68 w15 w13.heap.size (fun k => k ≠ r.m) (.slice A3 l.1.length c3) l.1 by rw [hw15]; exact R_low HRA.out HGL.out 1 _); have HB15 := Aside0.mk (show w15.heap[g]? = some (.cells #[.string t.1, .slice A3 l.1.length c3] 66 (0, 0)) by rw [hw15]; exact blk_set HB14.out 1 _); have hV := Kd.V_grown HV2.out HGR15.out (fun k hk e => by injection e with e; have := HMR.out; omega); have HNX_ := Aside0.mk (from_again (V_C hV).1 (V_C hV).2.2 (V_C hV).2.1 HS.out.2 12 12 4 rfl (by decide) rfl (by decide) HCX.out); clear hw15 hV hcg hfg)
                        | (go_at_call 39; (with_reducible refine (HNX_.out _ (Below.refl _ _)).mono ?_); rintro e w19 ⟨rfl, hd⟩; have hw_ := below_drawn hd; have HGR19 := Aside0.mk (grown_below HGR15.out hw_); have HMS19 := Aside0.mk (HMS15.out.below hw_); have HRP19 := Aside0.mk (Kd.R_below HRA15.out hw_); have hb19 := (hw_.block _ (lt_of_block HB15.out)).trans HB15.out; have f0 : w19.cell? ⟨g, 0, none⟩ = some (.string t.1) := (cell_of_row w19 g 0 _ _ _ hb19).trans rfl; have f1 : w19.cell? ⟨g, 1, none⟩ = some (.slice A3 l.1.length c3) := (cell_of_row w19 g 1 _ _ _ hb19).trans rfl; clear hd hw_ hb19; rw [HNX.out]))
                      refine HP.out _ _ ?_
                      rw [← HX10.out]
                      exact RowsP.err (v := .slice none 0 0) rfl (HR2.out.told HMS19.out HGR19.out).hw (grown_grown HG2.out HGR19.out)
                  · have cz0 : (NX == 0) = false := beq_f cz
                    have hx := HX7.out
                    rw [if_neg (fun h => cz h.1)] at hx
                    have HX10 := Aside0.mk hx
                    clear hx HX7 cz
                    go_wp2_with (first
                      | (go_at_call 39; (with_reducible refine (HNUMD.out _ HQ12.out).mono ?_); rintro e w13 ⟨rfl, hd⟩; have hw_ := below_drawn hd; have HQ13 := Aside0.mk (below_step HQ12.out hw_); have HB13 := Aside0.mk ((hw_.block _ (lt_of_block HB12.out)).trans HB12.out); have HR13 := Aside0.mk (HR2.out.up HQ13.out); clear hd hw_; rw [HND.out])
                      | (go_at_call 60; (with_reducible refine (versions_ok HR13.out HG.out x ND NN HXI.out HRD.out HNP.out HTB.out HQ2.out).mono ?_); rintro e w14 ⟨vA, rfl, hRA, hR14, hg14⟩; obtain ⟨A3, c3, e3⟩ := Kd.R_slice hRA; subst e3; have HRA := Aside0.mk hRA; have HMS14 := Aside0.mk hR14.map; have HGR14 := Aside0.mk (grown_grown (grown_below (grown_refl w2 r.m) HQ13.out) hg14); have HB14 := Aside0.mk ((hg14.block g (lt_of_block HB13.out) (fun e => HR13.out.map.ne HB13.out (by injection e))).trans HB13.out); have HGL := Aside0.mk (show g < w13.heap.size from lt_of_block HB13.out); have hcg : w14.cell? ⟨g, 1, none⟩ = some (.slice none 0 0) := (cell_of_row w14 g 1 _ _ _ HB14.out).trans rfl; have hfg := blk_frozen HB14.out 1; clear hRA hR14 hg14)
                      | ((with_reducible refine gate_store (t := 64) (p := 77) rfl ?_); refine store_event (t := 64) (p := 77) (v := ?vo) (w1 := (w14.setCell ⟨g, 1, none⟩ (.slice A3 l.1.length c3))) ?hg ?ho ?hn ?hr ?_; (case ho => rfl); (case hg => rfl); (case hn => rfl); (case hr => first | (go_simp; done) | (go_simp; rfl)); intro w15 hw15; have HGR15 := Aside0.mk (show w2.grownBy w15 (some r.m) by rw [hw15]; exact grown_set HGR14.out HGE.out 1 _); have HMS15 := Aside0.mk (show MapSet w15 r.m l.2 by rw [hw15]; exact HMS14.out.set (fun e => HMS14.out.ne HB14.out e.symm) 1 _); have HRA15 := Aside0.mk (show Kd.R kAx 68 w15 w13.heap.size (fun k => k ≠ r.m) (.slice A3 l.1.length c3) l.1 by rw [hw15]; exact R_low HRA.out HGL.out 1 _); have HB15 := Aside0.mk (show w15.heap[g]? = some (.cells #[.string t.1, .slice A3 l.1.length c3] 66 (0, 0)) by rw [hw15]; exact blk_set HB14.out 1 _); have hV := Kd.V_grown HV2.out HGR15.out (fun k hk e => by injection e with e; have := HMR.out; omega); have HNX_ := Aside0.mk (from_again (V_C hV).1 (V_C hV).2.2 (V_C hV).2.1 HS.out.2 12 12 4 rfl (by decide) rfl (by decide) HCX.out); clear hw15 hV hcg hfg)
                      | (go_at_call 39; (with_reducible refine (HNX_.out _ (Below.refl _ _)).mono ?_); rintro e w19 ⟨rfl, hd⟩; have hw_ := below_drawn hd; have HGR19 := Aside0.mk (grown_below HGR15.out hw_); have HMS19 := Aside0.mk (HMS15.out.below hw_); have HRP19 := Aside0.mk (Kd.R_below HRA15.out hw_); have hb19 := (hw_.block _ (lt_of_block HB15.out)).trans HB15.out; have f0 : w19.cell? ⟨g, 0, none⟩ = some (.string t.1) := (cell_of_row w19 g 0 _ _ _ hb19).trans rfl; have f1 : w19.cell? ⟨g, 1, none⟩ = some (.slice A3 l.1.length c3) := (cell_of_row w19 g 1 _ _ _ hb19).trans rfl; clear hd hw_ hb19; rw [HNX.out])
                      | ((with_reducible refine gate_builtin (b := .append) (xs := #[.tmp 93, .tmp 95]) rfl ?_); at_builtin; refine Kd.R_append kNd (w0 := w19) w.heap.size rfl (.tmp 93) (.tmp 95) 52 66 (.agg #[.string ⟨#[]⟩, .slice none 0 0]) 40 rfl Try.underlying52 info66 rfl (by decide) (by omega) u8 acc (t.1, l.1) [.string t.1, .slice A3 l.1.length c3] (fun k => k ≠ r.m) (fun k => w2.heap.size ≤ k) rfl (by first | (go_simp; done) | (go_simp; rfl)) ?aP ?aK ?aF ?aO ?aB ?aS ?aL ?_; (case aP => exact kNd_mkM _ _ _ (t.1, l.1) (Kd.R_lower (Kd.R_mono (Kd.R_bound HRP19.out) (fun k hk => Nat.le_trans HQ13.out.size hk.2.1)) (Nat.le_trans HG2.out.size HQ13.out.size))); (case aK => exact fun k hk => ⟨fun e => by have := HR2.out.map.lt; have e : k = r.m := e; omega, fun e => by obtain ⟨_, ho⟩ := Kd.R_own HO2.out; have := own_lt ho k e.symm; omega⟩); (case aF => exact fun k hk e => by have := HMS19.out.lt; have e : k = r.m := e; omega); (case aO => exact R_grownm HO2.out HGR19.out); (case aB => exact Below.refl _ _); (case aS => exact Nat.le_trans HG2.out.size HGR19.out.size); (case aL => have := HW.out.2.2.2.1; have := HI.out; have := HN.out; omega); intro v20 w20 ho hb hg hat; have HO20 := Aside0.mk ho; have HR20 := Aside0.mk (HH.out.own (HR2.out.told HMS19.out HGR19.out) (R_grownm HO2.out HGR19.out) hg); have HG20 := Aside0.mk (grown_own (grown_grown HG2.out HGR19.out) (R_grownm HO2.out HGR19.out) hg); clear ho hb hg hat f0 f1))
                    go_roundg (n - (i + 1)).toNat
                    case measure => have := HI.out; have := HC4.out; omega
                    case rel => exact ⟨i + 1, x, NX, l.2, acc ++ [(t.1, l.1)], rfl, rfl, by rw [HVV.out], ⟨by have := HI.out; have := HC4.out; omega⟩, ⟨HXI.out, HRX.out⟩, ⟨by rw [show (n - (i + 1)).toNat = k by have := HK.out; omega]; exact HX10.out⟩, ⟨HO20.out, HR20.out, HG20.out, by have := HW.out.2.2.2.1; have := HI.out; simp; omega, by have := HW.out.2.2.2.2; have := HI.out; have := HLL.out; have := HNP.out; omega⟩⟩
              · have hx := HX5.out
                rw [if_pos ht] at hx
                have HX6 := Aside0.mk hx
                have HTZ := Aside0.mk ht
                clear hx HX5 ht
                refine start_ (n := 14) (S := fun w' => w'.cell? ⟨r.p, 4, none⟩ = some (.slice r.As r.ss.length r.cs)) (ds := [12]) #[false, false, false, false, false, false, false, false, false, false, false, false, false, false] (by kernel_rfl) rfl rfl ((cell_up (below_drew1 (Below.refl w9.heap.size w9)) k4)) (fun hHeld => ?_)
                refine pure_ (i := 0) (N := some 53) (v := ?_) (a' := ?_) #[true, false, false, false, false, false, false, false, false, false, false, false, false, false] rfl rfl (by kernel_rfl) (fun _ _ _ h => h) (Or.inl ⟨by rfl, ?_⟩) ?_ ?_
                rotate_left
                · intro w'
                  go_simp
                  with_reducible rfl
                rotate_left
                · simp only [Act.put, List.setIfInBounds_toArray, List.set_cons_zero, List.set_cons_succ, i64_w, i32_w]
                  rfl
                refine pure_ (i := 1) (N := some 54) (v := ?_) (a' := ?_) #[true, true, false, false, false, false, false, false, false, false, false, false, false, false] rfl rfl (by kernel_rfl) (fun _ _ _ h => h) (Or.inl ⟨by rfl, ?_⟩) ?_ ?_
                rotate_left
                · intro w'
                  go_simp
                  with_reducible rfl
                rotate_left
                · simp only [Act.put, List.setIfInBounds_toArray, List.set_cons_zero, List.set_cons_succ, i64_w, i32_w]
                  rfl
                refine pure_ (i := 2) (N := some 55) (v := ?_) (a' := ?_) #[true, true, true, false, false, false, false, false, false, false, false, false, false, false] rfl rfl (by kernel_rfl) (fun _ _ _ h => h) (Or.inl ⟨by rfl, ?_⟩) ?_ ?_
                rotate_left
                · intro w'
                  go_simp
                  with_reducible rfl
                rotate_left
                · simp only [Act.put, List.setIfInBounds_toArray, List.set_cons_zero, List.set_cons_succ, i64_w, i32_w]
                  rfl
                refine pure_ (i := 4) (N := some 57) (v := ?_) (a' := ?_) #[true, true, true, false, true, false, false, false, false, false, false, false, false, false] rfl rfl (by kernel_rfl) (fun _ _ _ h => h) (Or.inl ⟨by rfl, ?_⟩) ?_ ?_
                rotate_left
                · intro w'
                  go_simp
                  with_reducible rfl
                rotate_left
                · simp only [Act.put, List.setIfInBounds_toArray, List.set_cons_zero, List.set_cons_succ, i64_w, i32_w]
                  rfl
                refine pure_ (i := 5) (N := some 58) (v := ?_) (a' := ?_) #[true, true, true, false, true, true, false, false, false, false, false, false, false, false] rfl rfl (by kernel_rfl) (fun _ _ _ h => h) (Or.inl ⟨by rfl, ?_⟩) ?_ ?_
                rotate_left
                · intro w'
                  go_simp
                  with_reducible rfl
                rotate_left
                · simp only [Act.put, List.setIfInBounds_toArray, List.set_cons_zero, List.set_cons_succ, i64_w, i32_w]
                  rfl
                refine take_ (i := 3) (N := some 56) (v := ?_) (a' := ?_) #[true, true, true, true, true, true, false, false, false, false, false, false, false, false] rfl rfl (by kernel_rfl) (fun _ _ _ h => h) (Or.inl ⟨by rfl, ?_⟩) hHeld ?_ ?_
                rotate_left
                · intro w' s0
                  go_simp
                  with_reducible rfl
                rotate_left
                · simp only [Act.put, List.setIfInBounds_toArray, List.set_cons_zero, List.set_cons_succ, i64_w, i32_w]
                  rfl
                refine one_ (i := 6) (N := some 59) #[true, true, true, true, true, true, true, false, false, false, false, false, false, false] rfl rfl (by kernel_rfl) (by decide) (fun K hK => ?_)
                refine goes_ Try.func39 (by kernel_rfl) rfl #[.slice AT 4 cT] (by rfl) rfl rfl (by simp only [List.map_toArray, List.map_cons, List.map_nil]; rfl) ?_
                with_reducible refine (HNUMT.out _ (below_drew1 HQ9.out)).mono ?_
                rintro e w10 ⟨rfl, hd⟩
                refine ⟨_, rfl, ?_⟩
                have hw_ := below_drawn hd
                have hk10 := cell_up hw_ (cell_up (below_drew1 (Below.refl w9.heap.size w9)) k4)
                have HQ10 := Aside0.mk (below_step (below_drew1 HQ9.out) hw_)
                have hg10 := (hw_.block _ (lt_of_block HB9.out)).trans HB9.out
                have HR10 := Aside0.mk (HR2.out.up HQ10.out)
                clear hd hw_
                rw [HNT.out]
                refine hK.out _ _ (hk10) (fun hHeld => ?_)
                clear hK K
                refine norm_ (a' := ?_) ?_ ?_
                rotate_left
                · show Act.put _ (some 59) _ = _
                  simp only [Act.put, List.setIfInBounds_toArray, List.set_cons_zero, List.set_cons_succ, i64_w, i32_w]
                  rfl
                refine one_ (i := 7) (N := some 60) #[true, true, true, true, true, true, true, true, false, false, false, false, false, false] rfl rfl (by kernel_rfl) (by decide) (fun K hK => ?_)
                refine goes_ Try.func59 (by kernel_rfl) rfl #[.slice r.As r.ss.length r.cs, .int .u64 NT] (by rfl) rfl rfl (by simp only [List.map_toArray, List.map_cons, List.map_nil]; rfl) ?_
                with_reducible refine (text_calls r.As r.cs r.ss NT w10 HR10.out.C_s HR10.out.ls HG.out.s8 HG.out.sl HRT.out.1).mono ?_
                rintro e w11 ⟨rfl, hd⟩
                refine ⟨_, rfl, ?_⟩
                have hw_ := below_drawn hd
                have hk11 := cell_up hw_ hk10
                have HQ11 := Aside0.mk (below_step HQ10.out hw_)
                have hg11 := (hw_.block _ (lt_of_block hg10)).trans hg10
                clear hd hw_
                rw [HT.out, errOf_some HTZ.out, errW_some]
                refine hK.out _ _ (hk11) (fun hHeld => ?_)
                clear hK K
                refine norm_ (a' := ?_) ?_ ?_
                rotate_left
                · show Act.put _ (some 60) _ = _
                  simp only [Act.put, List.setIfInBounds_toArray, List.set_cons_zero, List.set_cons_succ, i64_w, i32_w]
                  rfl
                refine pure_ (i := 8) (N := some 52) (v := ?_) (a' := ?_) #[true, true, true, true, true, true, true, true, true, false, false, false, false, false] rfl rfl (by kernel_rfl) (fun _ _ _ h => h) (Or.inl ⟨by rfl, ?_⟩) ?_ ?_
                rotate_left
                · intro w'
                  go_simp
                  with_reducible rfl
                rotate_left
                · simp only [Act.put, List.setIfInBounds_toArray, List.set_cons_zero, List.set_cons_succ, i64_w, i32_w]
                  rfl
                refine pure_ (i := 9) (N := some 61) (v := ?_) (a' := ?_) #[true, true, true, true, true, true, true, true, true, true, false, false, false, false] rfl rfl (by kernel_rfl) (fun _ _ _ h => h) (Or.inl ⟨by rfl, ?_⟩) ?_ ?_
                rotate_left
                · intro w'
                  go_simp
                  with_reducible rfl
                rotate_left
                · simp only [Act.put, List.setIfInBounds_toArray, List.set_cons_zero, List.set_cons_succ, i64_w, i32_w]
                  rfl
                refine pure_ (i := 10) (N := some 62) (v := ?_) (a' := ?_) #[true, true, true, true, true, true, true, true, true, true, true, false, false, false] rfl rfl (by kernel_rfl) (fun _ _ _ h => h) (Or.inl ⟨by rfl, ?_⟩) ?_ ?_
                rotate_left
                · intro w'
                  go_simp
                  with_reducible rfl
                rotate_left
                · simp only [Act.put, List.setIfInBounds_toArray, List.set_cons_zero, List.set_cons_succ, i64_w, i32_w]
                  rfl
                refine pure_ (i := 11) (N := some 63) (v := ?_) (a' := ?_) #[true, true, true, true, true, true, true, true, true, true, true, true, false, false] rfl rfl (by kernel_rfl) (fun _ _ _ h => h) (Or.inl ⟨by rfl, ?_⟩) ?_ ?_
                rotate_left
                · intro w'
                  go_simp
                  with_reducible rfl
                rotate_left
                · simp only [Act.put, List.setIfInBounds_toArray, List.set_cons_zero, List.set_cons_succ, i64_w, i32_w]
                  rfl
                refine last_ (i := 12) (N := none) #[true, true, true, true, true, true, true, true, true, true, true, true, true, false] rfl rfl (by kernel_rfl) (by decide) (fun K hK => ?_)
                have hcg : w11.cell? ⟨g, 0, none⟩ = some (.string ⟨#[]⟩) := (cell_of_row w11 g 0 _ _ _ hg11).trans rfl
                have hfg := blk_frozen hg11 0
                refine skip_ (w1 := ?_) (by rfl) rfl ?_ ?_
                rotate_left
                · go_simp
                  rfl
                clear hcg hfg
                have HG12 := Aside0.mk (blk_set hg11 0 (.string t.1))
                have HQ12 := Aside0.mk (Below.setCell HQ11.out (p := ⟨g, 0, none⟩) HGE.out (.string t.1))
                clear hg11
                refine hK.out _ _ ?_
                clear hK K
                refine pure_ (i := 13) (N := some 13) (v := ?_) (a' := ?_) #[true, true, true, true, true, true, true, true, true, true, true, true, true, true] rfl rfl (by kernel_rfl) (fun _ _ _ h => h) (Or.inl ⟨by rfl, ?_⟩) ?_ ?_
                rotate_left
                · intro w'
                  go_simp
                  with_reducible rfl
                rotate_left
                · simp only [Act.put, List.setIfInBounds_toArray, List.set_cons_zero, List.set_cons_succ, i64_w, i32_w]
                  rfl
                refine done_ (by kernel_rfl) ?_
                go_wp2
                refine HP.out _ _ ?_
                rw [← HX6.out]
                exact RowsP.err (v := .slice none 0 0) rfl (HR2.out.low HQ12.out) (grown_below HG2.out HQ12.out)
        · have cab : (N2 == 1) = false := beq_f ca
          have cab2 : (N2 != 1) = true := by rw [bne, cab]; rfl
          have hx := HX3.out
          rw [if_pos (.inl ca)] at hx
          have HX4 := Aside0.mk hx
          clear hx HX3 hNN ca
          go_wp2_with (first
            | (go_at_call 39; (with_reducible refine (HNUMN.out _ (Below.refl _ _)).mono ?_); rintro e w7 ⟨rfl, hd⟩; have HQ7 := Aside0.mk (below_drawn hd); clear hd; rw [HNN.out])
            | (go_at_call 39; (with_reducible refine (HNUM2.out _ HQ7.out).mono ?_); rintro e w8 ⟨rfl, hd⟩; have HQ8 := Aside0.mk (below_step HQ7.out (below_drawn hd)); clear hd; rw [HN2.out])
            | ((with_reducible refine gate_dst (N := 15) rfl ?_); refine box_event ?hg (N := 15) ?hd (cs := #[.string ⟨#[]⟩, .slice none 0 0]) (t := 66) ?hr ?_; (case hd => rfl); (case hg => rfl); (case hr => first | (go_simp; done) | (go_simp; rfl)); intro g eg w9 hb hw; have HQ9 := Aside0.mk (below_step HQ8.out hw); have HB9 := Aside0.mk hb; have HGE := Aside0.mk (show w2.heap.size ≤ g by rw [eg]; exact HQ8.out.size); clear eg hb hw))
          refine HP.out _ _ ?_
          rw [← HX4.out]
          exact RowsP.err (v := .slice none 0 0) rfl (HR2.out.low HQ8.out) (grown_below HG2.out HQ8.out)
    · have c4b0 : decide (i < n) = false := decide_eq_false c4
      have hi : (n - i).toNat = 0 := by omega
      have hx := HX.out
      rw [hi, needsS] at hx
      have HX2 := Aside0.mk hx
      clear hx hi c4 HX
      go_wp2
      refine HP.out _ _ ?_
      rw [← HX2.out]
      exact RowsP.ok rfl HW.out.1 HW.out.2.1 HW.out.2.2.1
end Go.Proofs.Ythopdoamajjojaa.VersS
