import Derived.Test.YthopdoamajjojaaVersMadeH
import Derived.StillTailTactics
import Derived.Deep.CutRange
namespace Go.Proofs.Ythopdoamajjojaa.VersMk
open Go Go.RowKit Go.Proofs.Ythopdoamajjojaa.QVers Go.Proofs.Ythopdoamajjojaa.VersSpec Go.Proofs.Ythopdoamajjojaa.VersS Go.Proofs.YthopdoamajjojaaW.PrintWords Go.Proofs.YthopdoamajjojaaW.PrintLast Go.Proofs.YthopdoamajjojaaW.PrintMore
set_option linter.unusedSimpArgs false
set_option linter.unusedVariables false
theorem atL_snoc (A : List ByteArray) (i : Nat) : (List.range i).map (atO A) ++ [atO A i] = (List.range (i + 1)).map (atO A) := by rw [List.range_succ, List.map_append]; rfl
theorem atL_len (A : List ByteArray) (i : Nat) : ((List.range i).map (atO A)).length = i := by simp
theorem str_next (A : List ByteArray) (i : Nat) (h : i < A.length) : (stringsT (A.take i) ++ bytesOf (gN A i)) ++ [0] = stringsT (A.take (i + 1)) := by
  rw [List.take_succ_eq_append_getElem h, stringsT_snoc, gN_at h]
theorem gN_rd (A : List ByteArray) (i : Nat) : rdOf ByteArray.empty A (i : Int) = gN A i := by simp [rdOf, gN]
theorem row_kept {W W2 : World} {v u : Value} {b b2 : Nat} {ok : Nat → Prop} {xs ys : List Int} (h : Kd.R (Kd.int .i64) 3 W b (fun _ => True) v xs) (h5 : Kd.R (Kd.int .u8) 5 W b2 ok u ys) (hK : Kept W W2 (fun k => some k = u.ownBlock)) : Kd.R (Kd.int .i64) 3 W2 b (fun _ => True) v xs :=
  Kd.R_mono (Kd.R_kept (Kd.R_tight rfl h) hK (fun k hk hs => by obtain ⟨c, hc⟩ := Kd.R_typed h5 k hs.symm; exact Kd.R_ne h hc (by decide) hk)) (fun _ _ => trivial)
def wants (d n : Nat) (P : List Int) (i : Nat) : List Int := (P.take i).map (wantF d n)
theorem wants_next {d n : Nat} {P : List Int} {i : Nat} (h : i < P.length) : wants d n P (i + 1) = wants d n P i ++ [wantF d n P[i]] := by
  unfold wants; rw [List.take_succ_eq_append_getElem h, List.map_append]; rfl
theorem wants_len {d n : Nat} {P : List Int} {i : Nat} (h : i ≤ P.length) : (wants d n P i).length = i := by unfold wants; simp; omega
theorem wordsB_snoc (l : List Int) (x : Int) : wordsB (l ++ [x]) = wordsB l ++ leN 2 x := by simp [wordsB]
set_option maxHeartbeats 64000000 in
set_option maxRecDepth 100000 in
theorem made_calls (w : World) (A0 : Option Addr) (c0 : Nat) (D : List ByteArray) (F : ByteArray) (A2 : Option Addr) (c2 : Nat) (N : List ByteArray) (A3 : Option Addr) (c3 : Nat) (P : List Int)
    (hr0 : Kd.C Kd.string w A0 D.length D) (hr2 : Kd.C Kd.string w A2 N.length N) (hr3 : Kd.C (Kd.int .i64) w A3 P.length P)
    (hs : ∀ s ∈ allA F D N, s.size ≤ 9223372036854775807) (hp : ∀ x ∈ P, -9223372036854775808 ≤ x ∧ x ≤ 9223372036854775807) :
    Calls Try.prog 7 #[.slice A0 D.length c0, .string F, .slice A2 N.length c2, .slice A3 P.length c3] w fun e w' => e = .returned (.bool true) ∧ Below w.heap.size w w' := by
  refine calls_aside fun Post HP => ?_
  have HR0 := Aside0.mk hr0
  have HR2 := Aside0.mk hr2
  have HR3 := Aside0.mk hr3
  have HSZ := Aside0.mk hs
  have HPI := Aside0.mk hp
  clear hr0 hr2 hr3 hs hp
  have hu29 := Try.underlying29
  have hu32 := Try.underlying32
  have hu35 := Try.underlying35
  have hu54 := Try.underlying54
  have hu41 := Try.underlying41
  by_cases k1 : (D.length : Int) > 20
  · have b1 : decide ((D.length : Int) > 20) = true := decide_eq_true k1
    clear k1
    go_enter Try.func7, Try.ntmps7
    go_wp2_with (go_at_call 17; (with_reducible refine (up_calls _).mono ?_); rintro e w3 ⟨rfl, hw⟩; have Q3 := Aside0.mk hw; clear hw)
    exact HP.out _ _ ⟨rfl, Q3.out⟩
  by_cases k2 : (N.length : Int) > 20
  · have b1 : decide ((D.length : Int) > 20) = false := decide_eq_false k1
    have b2 : decide ((N.length : Int) > 20) = true := decide_eq_true k2
    clear k1 k2
    go_enter Try.func7, Try.ntmps7
    go_wp2_with (go_at_call 17; (with_reducible refine (up_calls _).mono ?_); rintro e w3 ⟨rfl, hw⟩; have Q3 := Aside0.mk hw; clear hw)
    exact HP.out _ _ ⟨rfl, Q3.out⟩
  by_cases k3 : (P.length : Int) > 60
  · have b1 : decide ((D.length : Int) > 20) = false := decide_eq_false k1
    have b2 : decide ((N.length : Int) > 20) = false := decide_eq_false k2
    have b3 : decide ((P.length : Int) > 60) = true := decide_eq_true k3
    clear k1 k2 k3
    go_enter Try.func7, Try.ntmps7
    go_wp2_with (go_at_call 17; (with_reducible refine (up_calls _).mono ?_); rintro e w3 ⟨rfl, hw⟩; have Q3 := Aside0.mk hw; clear hw)
    exact HP.out _ _ ⟨rfl, Q3.out⟩
  have b1 : decide ((D.length : Int) > 20) = false := decide_eq_false k1
  have b2 : decide ((N.length : Int) > 20) = false := decide_eq_false k2
  have b3 : decide ((P.length : Int) > 60) = false := decide_eq_false k3
  have LD := Aside0.mk (show D.length ≤ 20 by omega)
  have LN := Aside0.mk (show N.length ≤ 20 by omega)
  have LP := Aside0.mk (show P.length ≤ 60 by omega)
  clear k1 k2 k3
  obtain ⟨A, hA⟩ : ∃ A, allA F D N = A := ⟨_, rfl⟩
  have HAE := Aside0.mk hA
  have HAL := Aside0.mk (show A.length = 1 + D.length + N.length by rw [← hA]; simp [allA]; omega)
  have hSZ := HSZ.out
  rw [hA] at hSZ
  clear HSZ
  have HSZ := Aside0.mk hSZ
  clear hSZ hA
  go_enter Try.func7, Try.ntmps7
  go_wp2_with (first
    | (go_at_call 17; (with_reducible refine (up_calls _).mono ?_); rintro e w3 ⟨rfl, hw⟩; have Q3 := Aside0.mk hw; clear hw)
    | ((with_reducible refine gate_dst (N := 51) rfl ?_); refine Kd.R_lit Kd.string _ 9 ?hg (N := 51) ?hd (xs := ([F] : List ByteArray)) (inner := [.string F]) (ok := fun _ => True) (okp := fun _ => True) ?hr ?hp (fun _ hk => hk) trivial (Below.refl _ _) (Nat.le_refl _) (by simp) ?_; (case hd => rfl); (case hg => rfl); (case hr => first | (go_simp; done) | (go_simp; rfl)); (case hp => exact (Reps.one (show Kd.M Kd.string _ _ _ F [.string F] from rfl) (Reps.none _ _))); intro v4 w4 ho hb _ _; have O4 := Aside0.mk (Kd.R_lower ho Q3.out.size); have Q4 := Aside0.mk (below_step Q3.out hb); clear ho hb)
    | ((with_reducible refine gate_builtin (b := .append) (xs := #[.tmp 51, .tmp 52]) rfl ?_); at_builtin; refine Kd.R_append_rows Kd.string (w0 := w) w.heap.size rfl (.tmp 51) (.tmp 52) 22 9 (.string ⟨#[]⟩) 16 rfl Try.underlying22 info9 rfl (by decide) (by omega) v4 [F] D _ _ _ (fun _ => True) (fun _ => False) rfl rfl ?aO ?aR (fun _ _ h => h) (fun _ h => h.elim) ?aF ?aB ?aS ?aL ?_; (case aR => exact Kd.C_below HR0.out Q4.out); (case aB => exact Q4.out); (case aF => exact (fun _ _ => trivial)); (case aO => exact O4.out); (case aS => exact Q4.out.size); (case aL => have := LD.out; simp; omega); intro v5 w5 ho hb hg hat; have O5 := Aside0.mk ho; have Q5 := Aside0.mk hb; clear ho hb hg hat O4 Q4 Q3)
    | ((with_reducible refine gate_builtin (b := .append) (xs := #[.tmp 53, .tmp 54]) rfl ?_); at_builtin; refine Kd.R_append_rows Kd.string (w0 := w) w.heap.size rfl (.tmp 53) (.tmp 54) 22 9 (.string ⟨#[]⟩) 16 rfl Try.underlying22 info9 rfl (by decide) (by omega) v5 ([F] ++ D) N _ _ _ (fun _ => True) (fun _ => False) rfl rfl ?aO ?aR (fun _ _ h => h) (fun _ h => h.elim) ?aF ?aB ?aS ?aL ?_; (case aR => exact Kd.C_below HR2.out Q5.out); (case aB => exact Q5.out); (case aF => exact (fun _ _ => trivial)); (case aO => exact O5.out); (case aS => exact Q5.out.size); (case aL => have := LD.out; have := LN.out; simp; omega); intro v6 wS ho hb hg hat; have ho2 : Kd.R Kd.string 9 wS w.heap.size (fun _ => True) v6 A := (by rw [← HAE.out]; exact ho); obtain ⟨Aa, ca, rfl, la, ha⟩ := Kd.R_reads ho2; have CA := Aside0.mk ha; have QS := Aside0.mk hb; clear ho ho2 hb hg hat la ha O5 Q5)
    | ((with_reducible refine gate_dst (N := 56) rfl ?_); refine Kd.R_lit (Kd.int .u8) _ 5 ?hg (N := 56) ?hd (xs := ([0] : List Int)) (inner := [.int .u8 0]) (ok := fun _ => True) (okp := fun _ => True) ?hr ?hp (fun _ hk => hk) trivial (Below.refl _ _) (Nat.le_refl _) (by simp) ?_; (case hd => rfl); (case hg => rfl); (case hr => first | (go_simp; done) | (go_simp; rfl)); (case hp => exact (Reps.one (show Kd.M (Kd.int .u8) _ _ _ 0 [.int .u8 0] from rfl) (Reps.none _ _))); intro v7 w7 ho hb _ _; have O7 := Aside0.mk ho; have Q7 := Aside0.mk hb; clear ho hb))
  clear b1 b2 b3
  go_loopg [11, 12, 13] A.length (fun kq v11 v12 v13 w' => ∃ (x : Int) (i : Nat), v13 = .int .i64 x ∧ Aside0 (x = (i : Int) ∧ i ≤ A.length ∧ kq = A.length - i) ∧ Aside0 (Kd.R (Kd.int .u8) 5 w' wS.heap.size (fun _ => True) v11 (stringsT (A.take i)) ∧ Kd.R (Kd.int .i64) 3 w' wS.heap.size (fun _ => True) v12 ((List.range i).map (atO A)) ∧ Below wS.heap.size wS w') ∧ Aside0 (∀ s ∈ A.take i, okN s))
  case atStart => exact ⟨0, 0, rfl, ⟨by omega⟩, ⟨O7.out, Kd.R_nil _ _ _ _ _, Q7.out⟩, ⟨by simp⟩⟩
  case round =>
    obtain ⟨x, i, rfl, HI, HW, HOK⟩ := hrel
    clear O7 Q7
    have hxi := HI.out.1
    by_cases c4 : x < (A.length : Int)
    · have c4b0 : decide (x < (A.length : Int)) = true := decide_eq_true c4
      have HV := Aside0.mk (show wrap64 (x + 1) = x + 1 from w64 _ (by omega) (by have := HAL.out; have := LD.out; have := LN.out; omega))
      have HIL := Aside0.mk (show i < A.length by omega)
      have p1 : (0 : Int) ≤ x := by omega
      obtain ⟨ad, eA, g0⟩ := Kd.at_string (Kd.C_below CA.out HW.out.2.2) x p1 c4
      subst eA
      have hrd : rdOf ByteArray.empty A x = gN A i := by rw [hxi, gN_rd]
      have g0s := Aside0.mk (fun (W : World) (hb : Below wS.heap.size wS W) => Kd.at_string (Kd.C_below CA.out hb) x p1 c4)
      rw [hrd] at g0 g0s
      have q1 := eq_true c4
      replace p1 := eq_true p1
      clear c4 hxi hrd
      obtain ⟨s, hs⟩ : ∃ s, gN A i = s := ⟨_, rfl⟩
      have HSE := Aside0.mk hs
      rw [hs] at g0 g0s
      have HSS := Aside0.mk (show s.size ≤ 9223372036854775807 from HSZ.out s (by rw [← hs, gN_at HIL.out]; exact List.getElem_mem _))
      clear hs
      obtain ⟨T, hT⟩ : ∃ T, stringsT (A.take i) = T := ⟨_, rfl⟩
      have HTE := Aside0.mk hT
      rw [hT] at HW
      clear hT
      obtain ⟨A11, k11, rfl, l11, _⟩ := Kd.R_reads HW.out.1
      clear l11
      rcases hn : namedB s with _ | _
      · have HNC := Aside0.mk (fun W => named_c s HSS.out W)
        rw [hn] at HNC
        clear hn
        go_wp2_with (go_at_call 22; (with_reducible refine (HNC.out _).mono ?_); rintro e w8 ⟨rfl, hw⟩; have Q8 := Aside0.mk (below_step HW.out.2.2 hw); clear hw)
        exact HP.out _ _ ⟨rfl, below_step QS.out Q8.out⟩
      · have HNC := Aside0.mk (fun W => named_c s HSS.out W)
        have HNO := Aside0.mk (namedB_ok hn)
        rw [hn] at HNC
        clear hn
        have HTL := Aside0.mk (show T.length ≤ 10497 by rw [← HTE.out]; have := stringsT_len _ HOK.out; have h2 : (A.take i).length ≤ A.length := (by simp; omega); have := HAL.out; have := LD.out; have := LN.out; omega)
        go_wp2_with (first
          | (go_at_call 22; (with_reducible refine (HNC.out _).mono ?_); rintro e w8 ⟨rfl, hw⟩; have Q8 := Aside0.mk (below_step HW.out.2.2 hw); have O8 := Aside0.mk (Kd.R_below HW.out.1 hw); have U8 := Aside0.mk (Kd.R_below HW.out.2.1 hw); clear hw)
          | ((with_reducible refine gate_builtin (b := .append) (xs := #[.tmp 71, .tmp 74]) rfl ?_); at_builtin; refine Kd.R_append (Kd.int .i64) (w0 := wS) wS.heap.size rfl (.tmp 71) (.tmp 74) 37 3 (.int .i64 0) 8 rfl Try.underlying37 info3 rfl (by decide) (by omega) u12 ((List.range i).map (atO A)) (T.length : Int) [.int .i64 (T.length : Int)] (fun _ => True) (fun _ => False) rfl rfl ?aP (fun _ hk => hk.elim) ?aF ?aO ?aB ?aS ?aL ?_; (case aP => exact rfl); (case aB => exact Q8.out); (case aF => exact (fun _ _ => trivial)); (case aO => exact U8.out); (case aS => exact Q8.out.size); (case aL => have := HI.out; have := HAL.out; have := LD.out; have := LN.out; rw [atL_len]; omega); intro v9 w9 ho hb hg hat; have U9 := Aside0.mk ho; have O9 := Aside0.mk (Kd.R_over' O8.out (Kd.R_typed U8.out) (by decide) hg); have Q9 := Aside0.mk hb; obtain ⟨ad9, e9, g9⟩ := g0s.out _ hb; obtain rfl : ad = ad9 := (by injection e9); clear ho hb hg hat e9 O8 U8 Q8)
          | (at_builtin; refine print_append_str (w0 := wS) wS.heap.size rfl (.tmp 76) _ 24 9 5 rfl Try.underlying24 Try.underlying9 info5 (.slice A11 T.length k11) T s rfl rfl ?aO ?aB ?aS ?aL ?_; (case aB => exact Q9.out); (case aO => exact (Kd.own_of_R O9.out)); (case aS => exact Q9.out.size); (case aL => have := HTL.out; have := HNO.out.1; omega); intro v10 w10 ho0 hb hg; have ho := Kd.R_of_own (h1 := fun _ => rfl) (ok := fun _ => True) ho0 (fun _ _ => trivial); change Kd.R (Kd.int .u8) 5 w10 wS.heap.size (fun _ => True) v10 (T ++ bytesOf s) at ho; have U10 := Aside0.mk (Kd.R_over' U9.out (Kd.R_typed O9.out) (by decide) hg); have O10 := Aside0.mk ho; have Q10 := Aside0.mk hb; clear ho0 ho hb hg O9 U9 Q9)
          | ((with_reducible refine gate_builtin (b := .append) (xs := #[.tmp 82, .tmp 83]) rfl ?_); at_builtin; refine Kd.R_append (Kd.int .u8) (w0 := wS) wS.heap.size rfl (.tmp 82) (.tmp 83) 24 5 (.int .u8 0) 1 rfl Try.underlying24 info5 rfl (by decide) (by omega) v10 (T ++ bytesOf s) 0 [.int .u8 0] (fun _ => True) (fun _ => False) rfl rfl ?aP (fun _ hk => hk.elim) ?aF ?aO ?aB ?aS ?aL ?_; (case aP => exact rfl); (case aB => exact Q10.out); (case aF => exact (fun _ _ => trivial)); (case aO => exact O10.out); (case aS => exact Q10.out.size); (case aL => have := HTL.out; have := HNO.out.1; rw [List.length_append, bytesOf_length]; omega); intro v11 w11 ho hb hg hat; have U11 := Aside0.mk (Kd.R_over' U10.out (Kd.R_typed O10.out) (by decide) hg); have O11 := Aside0.mk ho; have Q11 := Aside0.mk hb; clear ho hb hg hat O10 U10 Q10))
        go_roundg (A.length - (i + 1))
        case measure => have := HIL.out; have := HI.out; omega
        case rel => exact ⟨x + 1, i + 1, by rw [HV.out], ⟨by have := HIL.out; have := HI.out; omega⟩, ⟨by have h := O11.out; rw [← HTE.out, ← HSE.out, str_next A i HIL.out] at h; exact h, by have h := U11.out; rw [← HTE.out] at h; exact (atL_snoc A i) ▸ h, Q11.out⟩, ⟨by
          intro t ht
          rw [List.take_succ_eq_append_getElem HIL.out] at ht
          rcases List.mem_append.1 ht with h | h
          · exact HOK.out t h
          · rw [List.mem_singleton.1 h, ← gN_at HIL.out, HSE.out]; exact HNO.out⟩⟩
    · have c4b0 : decide (x < (A.length : Int)) = false := decide_eq_false c4
      have hi : A.take i = A := List.take_of_length_le (by omega)
      have hi2 : i = A.length := by have := HI.out; omega
      have HAO := Aside0.mk (show ∀ s ∈ A, okN s by have h := HOK.out; rw [hi] at h; exact h)
      have hq := HW.out
      rw [hi, hi2] at hq
      obtain ⟨A11, k11, rfl, l11, h11⟩ := Kd.R_reads hq.1
      obtain ⟨A12, k12, rfl, l12, h12⟩ := Kd.R_reads hq.2.1
      obtain ⟨T, hT⟩ : ∃ T, stringsT A = T := ⟨_, rfl⟩
      have HTE := Aside0.mk hT
      rw [hT] at h11
      obtain ⟨O, hO⟩ : ∃ O, (List.range A.length).map (atO A) = O := ⟨_, rfl⟩
      rw [hO] at h12
      rw [hO]
      rw [hT]
      have HOE := Aside0.mk hO
      have HOL := Aside0.mk (show O.length = A.length by rw [← hO]; simp)
      have CT := Aside0.mk h11
      have CO := Aside0.mk h12
      clear hT hO
      have QA := Aside0.mk (below_step QS.out hq.2.2)
      have CAA := Aside0.mk (Kd.C_below CA.out hq.2.2)
      rename World => wA
      clear c4 hi hi2 HI HW HOK CA QS l11 l12 h11 h12 hq hxi
      go_wp2
      go_loopg [15, 16] D.length (fun kq v15 v16 w' => ∃ (x : Int) (i : Nat), v16 = .int .i64 x ∧ Aside0 (x = (i : Int) ∧ i ≤ D.length ∧ kq = D.length - i) ∧ Aside0 (Lays wA w' v15 ((List.range i).flatMap (defE A D))))
      case atStart => exact ⟨0, 0, rfl, ⟨by omega⟩, ⟨Kd.R_nil _ _ _ _ _, Below.refl _ _⟩⟩
      case round =>
        obtain ⟨x, i, rfl, HI, HL⟩ := hrel
        have hxi := HI.out.1
        by_cases c4 : x < (D.length : Int)
        · have c4b0 : decide (x < (D.length : Int)) = true := decide_eq_true c4
          have hv : wrap64 (x + 1) = x + 1 := w64 _ (by omega) (by have := LD.out; omega)
          have HA1 := Aside0.mk (show 0 ≤ x + 1 ∧ x + 1 ≤ 9223372036854775807 by have := LD.out; omega)
          have HIL := Aside0.mk (show i < D.length by omega)
          obtain ⟨nx, hnx⟩ : ∃ nx, nextD D i = nx := ⟨_, rfl⟩
          have HNX := Aside0.mk hnx
          have HA2 := Aside0.mk (show 0 ≤ nx ∧ nx ≤ 9223372036854775807 by rw [← hnx]; unfold nextD; split <;> omega)
          obtain ⟨B, hB⟩ : ∃ B, (List.range i).flatMap (defE A D) = B := ⟨_, rfl⟩
          have HBE := Aside0.mk hB
          have HBL := Aside0.mk (show B.length ≤ 600 by rw [← hB, flat_len (defE_len A D)]; have := LD.out; omega)
          rw [hB] at HL
          have p1 : (0 : Int) ≤ x := by omega
          obtain ⟨s, hs⟩ : ∃ s, gN D i = s := ⟨_, rfl⟩
          have hrd : rdOf ByteArray.empty D x = s := by rw [hxi, gN_rd, hs]
          have hmem : s ∈ A := by
            have h := gN_defs F D N i HIL.out
            rw [HAE.out] at h
            rw [← hs, ← h.2, gN_at h.1]; exact List.getElem_mem _
          have HSS := Aside0.mk (show s.size ≤ 9223372036854775807 by have := (HAO.out s hmem).1; omega)
          have HSE := Aside0.mk hs
          obtain ⟨ad, eA, g0⟩ := Kd.at_string (Kd.C_below HR0.out QA.out) x p1 c4
          rw [hrd] at g0
          have gS := Aside0.mk (fun (W : World) (hb : Below wA.heap.size wA W) => cell_up hb g0)
          obtain ⟨y, hy⟩ : ∃ y, wrap64 (1 + x) = y := ⟨_, rfl⟩
          have hye : y = 1 + x := by rw [← hy]; exact w64 _ (by omega) (by have := LD.out; omega)
          have hyw : IntKind.i64.wrap (1 + x) = y := (i64_w _).trans hy
          have p2 : (0 : Int) ≤ y := by omega
          have q2 : y < (O.length : Int) := by rw [HOL.out, HAL.out]; omega
          obtain ⟨ad2, eO, g1⟩ := Kd.at_int CO.out y p2 q2
          have hrd2 : rd O y = atO A (1 + i) := by
            rw [hye, hxi, show (1 : Int) + (i : Int) = ((1 + i : Nat) : Int) by omega, rd_nat, ← HOE.out]
            rw [getD_at _ _ _ (by simp; have := HAL.out; have := HIL.out; omega)]
            simp
          rw [hrd2] at g1
          obtain ⟨o, ho⟩ : ∃ o, atO A (1 + i) = o := ⟨_, rfl⟩
          have HOO := Aside0.mk ho
          have HA3 := Aside0.mk (show 0 ≤ o ∧ o ≤ 9223372036854775807 by rw [← ho]; have := atO_in A HAO.out (by have := HAL.out; have := LD.out; have := LN.out; omega) (1 + i); omega)
          rw [ho] at g1
          have gO := Aside0.mk (fun (W : World) (hb : Below wA.heap.size wA W) => cell_up hb g1)
          obtain ⟨H, hH⟩ : ∃ H, sysv s = H := ⟨_, rfl⟩
          have HHE := Aside0.mk hH
          have HSY := Aside0.mk (fun W => sysv_calls s W HSS.out)
          rw [hH] at HSY
          have hHw : wrap64 H = H := by rw [← hH]; exact w64 _ (by have := sysv_in s; omega) (by have := sysv_in s; omega)
          have HA4 := Aside0.mk (show 0 ≤ H ∧ H ≤ 9223372036854775807 by rw [← hH]; have := sysv_in s; omega)
          replace g0 := gS.out _ HL.out.2
          replace g1 := gO.out _ HL.out.2
          subst eA
          subst eO
          have hcl : (x == wrap64 ((D.length : Int) - 1)) = decide (i + 1 = D.length) := by
            rw [w64 _ (by omega) (by have := LD.out; omega)]
            by_cases h : i + 1 = D.length
            · rw [decide_eq_true h, beq_iff_eq]; omega
            · rw [decide_eq_false h, beq_eq_false_iff_ne]; omega
          have HCL := Aside0.mk hcl
          clear hcl
          have q1 := eq_true c4
          replace p1 := eq_true p1
          replace p2 := eq_true p2
          replace q2 := eq_true q2
          clear c4 hxi hrd hs hB hnx hmem hye hrd2 ho hH
          go_upto_if 95 with (fail)
          go_cut [17] (fun v17 wc => v17 = .int .i64 nx ∧ Aside0 (Lays wA wc u15 B))
          case first =>
            by_cases c5 : i + 1 = D.length
            · have c5b : (x == wrap64 ((D.length : Int) - 1)) = true := HCL.out.trans (decide_eq_true c5)
              have HN2 := Aside0.mk (show (0 : Int) = nx by rw [← HNX.out]; unfold nextD; rw [if_pos c5])
              clear HCL c5
              (first | rw [c5b] | (simp only [i64_w, i32_w]; rw [c5b]) | skip)
              go_wp2
              go_meet
              case rel => exact ⟨by rw [HN2.out], HL⟩
            · have c5b : (x == wrap64 ((D.length : Int) - 1)) = false := HCL.out.trans (decide_eq_false c5)
              have HN2 := Aside0.mk (show (28 : Int) = nx by rw [← HNX.out]; unfold nextD; rw [if_neg c5])
              clear HCL c5
              (first | rw [c5b] | (simp only [i64_w, i32_w]; rw [c5b]) | skip)
              go_wp2
              go_meet
              case rel => exact ⟨by rw [HN2.out], HL⟩
          case rest =>
            clear HL HCL g0 g1
            obtain ⟨rfl, HL⟩ := hcut
            have g0 := gS.out _ HL.out.2
            have g1 := gO.out _ HL.out.2
            go_wp2_with (first
              | (go_at_call 23; (with_reducible refine (lay_c HL.out _ 2 2 rfl (by decide) (by first | decide | exact HA1.out | exact HA2.out | exact HA3.out | exact HA4.out) (by have := HBL.out; (try simp only [List.length_append, leN_len]); omega)).mono ?_); rintro e w2 ⟨v1, rfl, hL, hK⟩; clear HL; have HL := Aside0.mk hL; try clear g0; try clear g1; have g0 := gS.out _ hL.2; have g1 := gO.out _ hL.2; clear hL hK)
              | (go_at_call 23; (with_reducible refine (lay_c HL.out _ 4 4 rfl (by decide) (by first | decide | exact HA1.out | exact HA2.out | exact HA3.out | exact HA4.out) (by have := HBL.out; (try simp only [List.length_append, leN_len]); omega)).mono ?_); rintro e w2 ⟨v1, rfl, hL, hK⟩; clear HL; have HL := Aside0.mk hL; try clear g0; try clear g1; have g0 := gS.out _ hL.2; have g1 := gO.out _ hL.2; clear hL hK)
              | (go_at_call 24; (with_reducible refine (HSY.out _).mono ?_); rintro e w2 ⟨rfl, hd⟩; have hb := below_drawn hd; have hL : Lays wA w2 _ _ := ⟨Kd.R_below HL.out.1 hb, below_step HL.out.2 hb⟩; clear HL; have HL := Aside0.mk hL; try clear g0; try clear g1; have g0 := gS.out _ hL.2; have g1 := gO.out _ hL.2; clear hL hb hd))
            go_roundg (D.length - (i + 1))
            case measure => have := HIL.out; have := HI.out; omega
            case rel => exact ⟨x + 1, i + 1, by rw [hv], ⟨by have := HIL.out; have := HI.out; omega⟩, ⟨by
              have h := HL.out
              have e : B ++ defE A D i = (List.range (i + 1)).flatMap (defE A D) := by rw [← HBE.out, List.range_succ, List.flatMap_append]; simp
              rw [← e]
              have e2 : defE A D i = leN 2 1 ++ (leN 2 0 ++ (leN 2 (x + 1) ++ (leN 2 1 ++ (leN 4 H ++ (leN 4 20 ++ (leN 4 nx ++ (leN 4 o ++ leN 4 0))))))) := by rw [← HHE.out, ← HNX.out, ← HOO.out, ← HSE.out, HI.out.1]; simp [defE, defH, defA, List.append_assoc]
              rw [e2]
              simp only [List.append_assoc] at h ⊢
              exact h⟩⟩
        · have c4b0 : decide (x < (D.length : Int)) = false := decide_eq_false c4
          have hi : i = D.length := by have := HI.out; omega
          rw [hi] at HL
          have HLB := Aside0.mk (show Lays wA _ u15 (defsB A D) from HL.out)
          rename World => wB
          clear c4 hi HI HL hxi
          obtain ⟨B0, hB0⟩ : ∃ B0, defsB A D = B0 := ⟨_, rfl⟩
          have HB0E := Aside0.mk hB0
          have HB0L := Aside0.mk (show B0.length ≤ 560 by rw [← hB0, defsB_len]; have := LD.out; omega)
          rw [hB0] at HLB
          obtain ⟨A15, k15, e15, l15, _⟩ := Kd.R_reads HLB.out.1
          subst e15
          obtain ⟨fi, hfi⟩ : ∃ fi, firstI D.length = fi := ⟨_, rfl⟩
          have HFI := Aside0.mk hfi
          have HFB := Aside0.mk (show 2 ≤ fi ∧ fi ≤ 21 by rw [← hfi]; have := firstI_in D.length LD.out; omega)
          obtain ⟨d1, hd1⟩ : ∃ d1, wrap64 ((D.length : Int) + 1) = d1 := ⟨_, rfl⟩
          have hd1w : IntKind.i64.wrap ((D.length : Int) + 1) = d1 := (i64_w _).trans hd1
          have HD1 := Aside0.mk (show d1 = (D.length : Int) + 1 by rw [← hd1]; exact w64 _ (by omega) (by have := LD.out; omega))
          clear hB0 hfi l15
          go_upto_if 128 with (fail)
          go_cut [19] from 128 to 128 (fun v19 wc => v19 = .int .i64 fi ∧ Aside0 (Lays wA wc (.slice A15 B0.length k15) B0))
          case first =>
            by_cases c5 : d1 < 2
            · have c5b : decide (d1 < 2) = true := decide_eq_true c5
              have HN2 := Aside0.mk (show (2 : Int) = fi by rw [← HFI.out]; unfold firstI; rw [← HD1.out, if_pos c5])
              clear c5
              (first | rw [c5b] | skip)
              go_wp2
              go_meet
              case rel => exact ⟨by rw [HN2.out], HLB⟩
            · have c5b : decide (d1 < 2) = false := decide_eq_false c5
              have HN2 := Aside0.mk (show d1 = fi by rw [← HFI.out]; unfold firstI; rw [← HD1.out, if_neg c5])
              clear c5
              (first | rw [c5b] | skip)
              go_wp2
              go_meet
              case rel => exact ⟨by rw [HN2.out], HLB⟩
          case rest =>
            clear HLB
            obtain ⟨rfl, HL⟩ := hcut
            go_upto_if 131 with (fail)
            go_cut [15] from 131 to 131 (fun v15 wc => Aside0 (Lays wA wc v15 (B0 ++ headB A N)))
            case first =>
              by_cases c6 : 0 < N.length
              · have c6b0 : decide (0 < (N.length : Int)) = true := decide_eq_true (by omega)
                have c6b1 : decide (0 < N.length) = true := decide_eq_true c6
                have c6b2 : decide ((N.length : Int) > 0) = true := decide_eq_true (by omega)
                have HC6 := Aside0.mk c6
                clear c6
                have HA1 := Aside0.mk (show 0 ≤ (N.length : Int) ∧ (N.length : Int) ≤ 9223372036854775807 by have := LN.out; omega)
                have q2 : (0 : Int) < (O.length : Int) := by rw [HOL.out, HAL.out]; omega
                obtain ⟨ad2, eO, g1⟩ := Kd.at_int CO.out 0 (by omega) q2
                replace g1 : wA.cell? ad2 = some (.int .i64 (rd O 0)) := (congrArg wA.cell? (Addr.add_zero' ad2)).symm.trans g1
                have hrd2 : rd O 0 = atO A 0 := by
                  rw [show (0 : Int) = ((0 : Nat) : Int) by omega, rd_nat, ← HOE.out, getD_at _ _ _ (by simp; have := HAL.out; omega)]
                  simp
                rw [hrd2] at g1
                obtain ⟨o, ho⟩ : ∃ o, atO A 0 = o := ⟨_, rfl⟩
                have HOO := Aside0.mk ho
                have HA2 := Aside0.mk (show 0 ≤ o ∧ o ≤ 9223372036854775807 by rw [← ho]; have := atO_in A HAO.out (by have := HAL.out; have := LD.out; have := LN.out; omega) 0; omega)
                rw [ho] at g1
                have gO := Aside0.mk (fun (W : World) (hb : Below wA.heap.size wA W) => cell_up hb g1)
                subst eO
                clear hrd2 ho g1
                have g1 := gO.out _ HL.out.2
                have q2b : decide (0 < O.length) = true := decide_eq_true (by omega)
                have q2c : decide (0 < (O.length : Int)) = true := decide_eq_true q2
                have q2n : (0 < O.length) = True := eq_true (by omega)
                replace q2 := eq_true q2
                (first | rw [c6b1] | rw [c6b0] | rw [c6b2] | skip)
                go_wp2_with (first
                  | (go_at_call 23; (with_reducible refine (lay_c HL.out _ 2 2 rfl (by decide) (by first | decide | exact HA1.out | exact HA2.out) (by have := HB0L.out; (try simp only [List.length_append, leN_len]); omega)).mono ?_); rintro e w2 ⟨v1, rfl, hL, hK⟩; clear HL; have HL := Aside0.mk hL; try clear g1; have g1 := gO.out _ hL.2; clear hL hK)
                  | (go_at_call 23; (with_reducible refine (lay_c HL.out _ 4 4 rfl (by decide) (by first | decide | exact HA1.out | exact HA2.out) (by have := HB0L.out; (try simp only [List.length_append, leN_len]); omega)).mono ?_); rintro e w2 ⟨v1, rfl, hL, hK⟩; clear HL; have HL := Aside0.mk hL; try clear g1; have g1 := gO.out _ hL.2; clear hL hK))
                go_meet
                case rel => exact ⟨by
                  have h := HL.out
                  have e : headB A N = leN 2 1 ++ (leN 2 (N.length : Int) ++ (leN 4 o ++ (leN 4 16 ++ leN 4 0))) := by unfold headB; rw [if_pos HC6.out, HOO.out]; simp [needH, List.append_assoc]
                  rw [e]
                  simp only [List.append_assoc] at h ⊢
                  exact h⟩
              · have c6b0 : decide (0 < (N.length : Int)) = false := decide_eq_false (by omega)
                have c6b1 : decide (0 < N.length) = false := decide_eq_false c6
                have c6b2 : decide ((N.length : Int) > 0) = false := decide_eq_false (by omega)
                have HC6 := Aside0.mk c6
                clear c6
                (first | rw [c6b1] | rw [c6b0] | rw [c6b2] | skip)
                go_wp2
                go_meet
                case rel => exact ⟨by have e : headB A N = [] := if_neg HC6.out
                                      rw [e, List.append_nil]; exact HL.out⟩
            case rest =>
              clear HL
              have HL := hcut
              clear hcut
              obtain ⟨B1, hB1⟩ : ∃ B1, B0 ++ headB A N = B1 := ⟨_, rfl⟩
              have HB1E := Aside0.mk hB1
              have HB1L := Aside0.mk (show B1.length ≤ 576 by rw [← hB1, List.length_append, headB_len]; have := HB0L.out; split <;> omega)
              rw [hB1] at HL
              clear hB1
              go_wp2
              go_loopg [15, 20] N.length (fun kq v15 v20 w' => ∃ (x : Int) (i : Nat), v20 = .int .i64 x ∧ Aside0 (x = (i : Int) ∧ i ≤ N.length ∧ kq = N.length - i) ∧ Aside0 (Lays wA w' v15 (B1 ++ (List.range i).flatMap (verE A N (1 + D.length) fi))))
              case atStart => exact ⟨0, 0, rfl, ⟨by omega⟩, ⟨by rw [show (List.range 0).flatMap (verE A N (1 + D.length) fi) = [] from rfl, List.append_nil]; exact HL.out⟩⟩
              case round =>
                clear HL
                obtain ⟨x, i, rfl, HI, HL⟩ := hrel
                have hxi := HI.out.1
                by_cases c4 : x < (N.length : Int)
                · have c4b0 : decide (x < (N.length : Int)) = true := decide_eq_true c4
                  have hv : wrap64 (x + 1) = x + 1 := w64 _ (by omega) (by have := LN.out; omega)
                  have HIL := Aside0.mk (show i < N.length by omega)
                  obtain ⟨nx, hnx⟩ : ∃ nx, nextN N i = nx := ⟨_, rfl⟩
                  have HNX := Aside0.mk hnx
                  have HA2 := Aside0.mk (show 0 ≤ nx ∧ nx ≤ 9223372036854775807 by rw [← hnx]; unfold nextN; split <;> omega)
                  obtain ⟨B, hB⟩ : ∃ B, B1 ++ (List.range i).flatMap (verE A N (1 + D.length) fi) = B := ⟨_, rfl⟩
                  have HBE := Aside0.mk hB
                  have HBL := Aside0.mk (show B.length ≤ 1000 by rw [← hB, List.length_append, flat_len (verE_len A N (1 + D.length) fi)]; have := LN.out; have := HB1L.out; omega)
                  rw [hB] at HL
                  have p1 : (0 : Int) ≤ x := by omega
                  obtain ⟨s, hs⟩ : ∃ s, gN N i = s := ⟨_, rfl⟩
                  have hrd : rdOf ByteArray.empty N x = s := by rw [hxi, gN_rd, hs]
                  have hmem : s ∈ A := by
                    have h := gN_needs F D N i HIL.out
                    rw [HAE.out] at h
                    rw [← hs, ← h.2, gN_at h.1]; exact List.getElem_mem _
                  have HSS := Aside0.mk (show s.size ≤ 9223372036854775807 by have := (HAO.out s hmem).1; omega)
                  have HSE := Aside0.mk hs
                  obtain ⟨ad, eA, g0⟩ := Kd.at_string (Kd.C_below HR2.out QA.out) x p1 c4
                  rw [hrd] at g0
                  have gS := Aside0.mk (fun (W : World) (hb : Below wA.heap.size wA W) => cell_up hb g0)
                  obtain ⟨d2, hd2⟩ : ∃ d2, wrap64 (1 + (D.length : Int)) = d2 := ⟨_, rfl⟩
                  have hd2w : IntKind.i64.wrap (1 + (D.length : Int)) = d2 := (i64_w _).trans hd2
                  have hd2e : d2 = 1 + (D.length : Int) := by rw [← hd2]; exact w64 _ (by omega) (by have := LD.out; omega)
                  obtain ⟨y, hy⟩ : ∃ y, wrap64 (d2 + x) = y := ⟨_, rfl⟩
                  have hye : y = 1 + (D.length : Int) + x := by rw [← hy, hd2e]; exact w64 _ (by omega) (by have := LD.out; have := LN.out; omega)
                  have hyw : IntKind.i64.wrap (d2 + x) = y := (i64_w _).trans hy
                  obtain ⟨ix, hix⟩ : ∃ ix, wrap64 (fi + x) = ix := ⟨_, rfl⟩
                  have hixe : ix = fi + x := by rw [← hix]; exact w64 _ (by have := HFB.out; omega) (by have := HFB.out; have := LN.out; omega)
                  have hixw : IntKind.i64.wrap (fi + x) = ix := (i64_w _).trans hix
                  have HIX := Aside0.mk (show ix = fi + (i : Int) by omega)
                  have HA1 := Aside0.mk (show 0 ≤ ix ∧ ix ≤ 9223372036854775807 by have := HFB.out; have := LN.out; omega)
                  have p2 : (0 : Int) ≤ y := by omega
                  have q2 : y < (O.length : Int) := by rw [HOL.out, HAL.out]; omega
                  obtain ⟨ad2, eO, g1⟩ := Kd.at_int CO.out y p2 q2
                  have hrd2 : rd O y = atO A (1 + D.length + i) := by
                    rw [hye, hxi, show (1 : Int) + (D.length : Int) + (i : Int) = ((1 + D.length + i : Nat) : Int) by omega, rd_nat, ← HOE.out]
                    rw [getD_at _ _ _ (by simp; have := HAL.out; have := HIL.out; omega)]
                    simp
                  rw [hrd2] at g1
                  obtain ⟨o, ho⟩ : ∃ o, atO A (1 + D.length + i) = o := ⟨_, rfl⟩
                  have HOO := Aside0.mk ho
                  have HA3 := Aside0.mk (show 0 ≤ o ∧ o ≤ 9223372036854775807 by rw [← ho]; have := atO_in A HAO.out (by have := HAL.out; have := LD.out; have := LN.out; omega) (1 + D.length + i); omega)
                  rw [ho] at g1
                  have gO := Aside0.mk (fun (W : World) (hb : Below wA.heap.size wA W) => cell_up hb g1)
                  obtain ⟨H, hH⟩ : ∃ H, sysv s = H := ⟨_, rfl⟩
                  have HHE := Aside0.mk hH
                  have HSY := Aside0.mk (fun W => sysv_calls s W HSS.out)
                  rw [hH] at HSY
                  have hHw : wrap64 H = H := by rw [← hH]; exact w64 _ (by have := sysv_in s; omega) (by have := sysv_in s; omega)
                  have HA4 := Aside0.mk (show 0 ≤ H ∧ H ≤ 9223372036854775807 by rw [← hH]; have := sysv_in s; omega)
                  replace g0 := gS.out _ HL.out.2
                  replace g1 := gO.out _ HL.out.2
                  subst eA
                  subst eO
                  obtain ⟨n1, hn1⟩ : ∃ n1, wrap64 ((N.length : Int) - 1) = n1 := ⟨_, rfl⟩
                  have hn1w : IntKind.i64.wrap ((N.length : Int) - 1) = n1 := (i64_w _).trans hn1
                  have HCL := Aside0.mk (show (x == n1) = decide (i + 1 = N.length) by
                    rw [← hn1, w64 _ (by omega) (by have := LN.out; omega)]
                    by_cases h : i + 1 = N.length
                    · rw [decide_eq_true h, beq_iff_eq]; omega
                    · rw [decide_eq_false h, beq_eq_false_iff_ne]; omega)
                  have q1 := eq_true c4
                  replace p1 := eq_true p1
                  replace p2 := eq_true p2
                  replace q2 := eq_true q2
                  clear c4 hxi hrd hs hB hnx hmem hye hrd2 ho hH hd2e hixe
                  go_upto_if 154 with (fail)
                  go_cut [21] from 154 to 154 (fun v21 wc => v21 = .int .i64 nx ∧ Aside0 (Lays wA wc u15 B))
                  case first =>
                    by_cases c5 : i + 1 = N.length
                    · have c5b : (x == n1) = true := HCL.out.trans (decide_eq_true c5)
                      have HN2 := Aside0.mk (show (0 : Int) = nx by rw [← HNX.out]; unfold nextN; rw [if_pos c5])
                      clear HCL c5
                      (first | rw [c5b] | skip)
                      go_wp2
                      go_meet
                      case rel => exact ⟨by rw [HN2.out], HL⟩
                    · have c5b : (x == n1) = false := HCL.out.trans (decide_eq_false c5)
                      have HN2 := Aside0.mk (show (16 : Int) = nx by rw [← HNX.out]; unfold nextN; rw [if_neg c5])
                      clear HCL c5
                      (first | rw [c5b] | skip)
                      go_wp2
                      go_meet
                      case rel => exact ⟨by rw [HN2.out], HL⟩
                  case rest =>
                    clear HL HCL g0 g1
                    obtain ⟨rfl, HL⟩ := hcut
                    have g0 := gS.out _ HL.out.2
                    have g1 := gO.out _ HL.out.2
                    go_wp2_with (first
                      | (go_at_call 23; (with_reducible refine (lay_c HL.out _ 2 2 rfl (by decide) (by first | decide | exact HA1.out | exact HA2.out | exact HA3.out | exact HA4.out) (by have := HBL.out; (try simp only [List.length_append, leN_len]); omega)).mono ?_); rintro e w2 ⟨v1, rfl, hL, hK⟩; clear HL; have HL := Aside0.mk hL; try clear g0; try clear g1; have g0 := gS.out _ hL.2; have g1 := gO.out _ hL.2; clear hL hK)
                      | (go_at_call 23; (with_reducible refine (lay_c HL.out _ 4 4 rfl (by decide) (by first | decide | exact HA1.out | exact HA2.out | exact HA3.out | exact HA4.out) (by have := HBL.out; (try simp only [List.length_append, leN_len]); omega)).mono ?_); rintro e w2 ⟨v1, rfl, hL, hK⟩; clear HL; have HL := Aside0.mk hL; try clear g0; try clear g1; have g0 := gS.out _ hL.2; have g1 := gO.out _ hL.2; clear hL hK)
                      | (go_at_call 24; (with_reducible refine (HSY.out _).mono ?_); rintro e w2 ⟨rfl, hd⟩; have hb := below_drawn hd; have hL : Lays wA w2 _ _ := ⟨Kd.R_below HL.out.1 hb, below_step HL.out.2 hb⟩; clear HL; have HL := Aside0.mk hL; try clear g0; try clear g1; have g0 := gS.out _ hL.2; have g1 := gO.out _ hL.2; clear hL hb hd))
                    go_roundg (N.length - (i + 1))
                    case measure => have := HIL.out; have := HI.out; omega
                    case rel => exact ⟨x + 1, i + 1, by rw [hv], ⟨by have := HIL.out; have := HI.out; omega⟩, ⟨by
                      have h := HL.out
                      have e : B ++ verE A N (1 + D.length) fi i = B1 ++ (List.range (i + 1)).flatMap (verE A N (1 + D.length) fi) := by rw [← HBE.out, List.range_succ, List.flatMap_append, List.append_assoc]; simp
                      rw [← e]
                      have e2 : verE A N (1 + D.length) fi i = leN 4 H ++ (leN 2 0 ++ (leN 2 ix ++ (leN 4 o ++ leN 4 nx))) := by rw [← HHE.out, ← HNX.out, ← HOO.out, ← HSE.out, HIX.out]; simp [verE, verH, List.append_assoc]
                      rw [e2]
                      simp only [List.append_assoc] at h ⊢
                      exact h⟩⟩
                · have c4b0 : decide (x < (N.length : Int)) = false := decide_eq_false c4
                  have hi : i = N.length := by have := HI.out; omega
                  rw [hi] at HL
                  have HLC := Aside0.mk (show Lays wA _ u15 (B1 ++ versB A N D.length) from by have h := HL.out; rw [← HFI.out] at h; exact h)
                  rename World => wC
                  clear c4 hi HI HL hxi
                  obtain ⟨B2, hB2⟩ : ∃ B2, B1 ++ versB A N D.length = B2 := ⟨_, rfl⟩
                  have HB2E := Aside0.mk hB2
                  have HB2L := Aside0.mk (show B2.length ≤ 900 by rw [← hB2, List.length_append, versB_len]; have := HB1L.out; have := LN.out; omega)
                  rw [hB2] at HLC
                  obtain ⟨A15b, k15b, e15b, l15b, _⟩ := Kd.R_reads HLC.out.1
                  subst e15b
                  obtain ⟨tp, htp⟩ : ∃ tp, wrap64 (fi + (N.length : Int)) = tp := ⟨_, rfl⟩
                  have htpw : IntKind.i64.wrap (fi + (N.length : Int)) = tp := (i64_w _).trans htp
                  have HTP := Aside0.mk (show tp = fi + (N.length : Int) by rw [← htp]; exact w64 _ (by have := HFB.out; omega) (by have := HFB.out; have := LN.out; omega))
                  clear hB2 l15b
                  go_wp2
                  go_loopg [15, 23, 25] P.length (fun kq v15 v23 v25 w' => ∃ (x : Int) (i : Nat), v25 = .int .i64 x ∧ Aside0 (x = (i : Int) ∧ i ≤ P.length ∧ kq = P.length - i) ∧ Aside0 (Lays wA w' v15 (B2 ++ wordsB (wants D.length N.length P i))) ∧ Aside0 (Kd.R (Kd.int .i64) 3 w' wA.heap.size (fun _ => True) v23 (wants D.length N.length P i)))
                  case atStart => exact ⟨0, 0, rfl, ⟨by omega⟩, ⟨by rw [show wordsB (wants D.length N.length P 0) = [] from rfl, List.append_nil]; exact HLC.out⟩, ⟨Kd.R_nil _ _ _ _ _⟩⟩
                  case round =>
                    clear HLC
                    obtain ⟨x, i, rfl, HI, HL, HU⟩ := hrel
                    have hxi := HI.out.1
                    by_cases c4 : x < (P.length : Int)
                    · have c4b0 : decide (x < (P.length : Int)) = true := decide_eq_true c4
                      have hv : wrap64 (x + 1) = x + 1 := w64 _ (by omega) (by have := LP.out; omega)
                      have HIL := Aside0.mk (show i < P.length by omega)
                      obtain ⟨W, hW⟩ : ∃ W, wants D.length N.length P i = W := ⟨_, rfl⟩
                      have HWE := Aside0.mk hW
                      have HWL := Aside0.mk (show W.length = i by rw [← hW]; exact wants_len HI.out.2.1)
                      rw [hW] at HL HU
                      obtain ⟨B, hB⟩ : ∃ B, B2 ++ wordsB W = B := ⟨_, rfl⟩
                      have HBE := Aside0.mk hB
                      have HBL := Aside0.mk (show B.length ≤ 1100 by rw [← hB, List.length_append, wordsB_len, HWL.out]; have := LP.out; have := HB2L.out; have := HI.out; omega)
                      rw [hB] at HL
                      have p1 : (0 : Int) ≤ x := by omega
                      obtain ⟨p, hp⟩ : ∃ p, P[i]'HIL.out = p := ⟨_, rfl⟩
                      have hrd : rd P x = p := by rw [hxi, rd_nat, getD_at _ _ _ HIL.out, hp]
                      have HPE := Aside0.mk hp
                      have HPB := Aside0.mk (show -9223372036854775808 ≤ p ∧ p ≤ 9223372036854775807 from HPI.out p (by rw [← hp]; exact List.getElem_mem _))
                      obtain ⟨ad, eA, g0⟩ := Kd.at_int (Kd.C_below HR3.out (below_step QA.out HL.out.2)) x p1 c4
                      rw [hrd] at g0
                      subst eA
                      have q1 := eq_true c4
                      replace p1 := eq_true p1
                      clear c4 hxi hrd hW hB hp
                      obtain ⟨y, hy⟩ : ∃ y, (if p < 0 then -(p + 1) else p) = y := ⟨_, rfl⟩
                      have HYE := Aside0.mk hy
                      have HYB := Aside0.mk (show 0 ≤ y ∧ y ≤ 9223372036854775807 by rw [← hy]; have := HPB.out; split <;> omega)
                      clear hy
                      go_upto_if 197 with (fail)
                      go_cut [26] from 197 to 197 (fun v26 wc => v26 = .int .i64 y ∧ Aside0 (Lays wA wc u15 B) ∧ Aside0 (Kd.R (Kd.int .i64) 3 wc wA.heap.size (fun _ => True) u23 W))
                      case first =>
                        by_cases c5 : p < 0
                        · have c5b : decide (p < 0) = true := decide_eq_true c5
                          obtain ⟨z, hz⟩ : ∃ z, wrap64 (p + 1) = z := ⟨_, rfl⟩
                          have hze : z = p + 1 := by rw [← hz]; exact w64 _ (by have := HPB.out; omega) (by omega)
                          have hzw : IntKind.i64.wrap (p + 1) = z := (i64_w _).trans hz
                          have hyz : wrap64 (-z) = y := by rw [← HYE.out, if_pos c5, hze]; exact w64 _ (by have := HPB.out; omega) (by have := HPB.out; omega)
                          have hyzw : IntKind.i64.wrap (-z) = y := (i64_w _).trans hyz
                          clear c5 hze
                          (first | rw [c5b] | skip)
                          go_wp2
                          go_meet
                          case rel => exact ⟨by first | rfl | rw [hyz], HL, HU⟩
                        · have c5b : decide (p < 0) = false := decide_eq_false c5
                          have HN2 := Aside0.mk (show p = y by rw [← HYE.out, if_neg c5])
                          clear c5
                          (first | rw [c5b] | skip)
                          go_wp2
                          go_meet
                          case rel => exact ⟨by rw [HN2.out], HL, HU⟩
                      case rest =>
                        clear HL HU g0
                        obtain ⟨rfl, HL, HU⟩ := hcut
                        have htz : (tp == 0) = false := beq_eq_false_iff_ne.2 (by have := HTP.out; have := HFB.out; omega)
                        have htz2 : (tp = 0) = False := eq_false (by have := HTP.out; have := HFB.out; omega)
                        obtain ⟨r, hr⟩ : ∃ r, Int.tmod y tp = r := ⟨_, rfl⟩
                        have HRE := Aside0.mk hr
                        have HRB := Aside0.mk (show 0 ≤ r ∧ r < tp by
                          rw [← hr, Int.tmod_eq_emod_of_nonneg HYB.out.1]
                          exact ⟨Int.emod_nonneg _ (by have := HTP.out; have := HFB.out; omega), Int.emod_lt_of_pos _ (by have := HTP.out; have := HFB.out; omega)⟩)
                        have hr2 : wrap64 (Int.tmod y tp) = r := by rw [hr]; exact w64 _ (by have := HRB.out; omega) (by have := HRB.out; have := HTP.out; have := HFB.out; have := LN.out; omega)
                        have hr3 : IntKind.i64.wrap (Int.tmod y tp) = r := (i64_w _).trans hr2
                        obtain ⟨b, hb⟩ : ∃ b : Bool, decide ((r = d1 ∧ N.length = 0) ∨ (r > (D.length : Int) ∧ r < fi)) = b := ⟨_, rfl⟩
                        have HBB := Aside0.mk hb
                        clear hb
                        go_upto_region 51 with (fail)
                        go_cut [224] from 204 to 204 (fun v224 wc => v224 = .bool b ∧ Aside0 (Lays wA wc u15 B) ∧ Aside0 (Kd.R (Kd.int .i64) 3 wc wA.heap.size (fun _ => True) u23 W))
                        case first =>
                          by_cases c6 : r = d1
                          · have c6b : (r == d1) = true := beq_iff_eq.2 c6
                            by_cases c7 : N.length = 0
                            · have c7b : ((N.length : Int) == 0) = true := beq_iff_eq.2 (by omega)
                              have c7c : (N.length == 0) = true := beq_iff_eq.2 c7
                              have HN2 := Aside0.mk (show true = b by rw [← HBB.out]; exact (decide_eq_true (.inl ⟨c6, c7⟩)).symm)
                              clear c6 c7
                              go_wp2
                              go_meet
                              case rel => exact ⟨by rw [← HN2.out], HL, HU⟩
                            · have c7b : ((N.length : Int) == 0) = false := beq_eq_false_iff_ne.2 (by omega)
                              have c7c : (N.length == 0) = false := beq_eq_false_iff_ne.2 c7
                              have c8b : decide ((D.length : Int) < r) = true := decide_eq_true (by have := HD1.out; omega)
                              obtain ⟨t, ht⟩ : ∃ t, decide (r < fi) = t := ⟨_, rfl⟩
                              have HN2 := Aside0.mk (show t = b by
                                rw [← HBB.out, ← ht]
                                refine decide_eq_decide.2 ⟨fun h => .inr ⟨by have := HD1.out; omega, h⟩, fun h => h.elim (fun h => absurd h.2 c7) (fun h => h.2)⟩)
                              clear c6 c7
                              go_wp2
                              go_meet
                              case rel => exact ⟨by rw [← HN2.out], HL, HU⟩
                          · have c6b : (r == d1) = false := beq_eq_false_iff_ne.2 c6
                            by_cases c8 : (D.length : Int) < r
                            · have c8b : decide ((D.length : Int) < r) = true := decide_eq_true c8
                              obtain ⟨t, ht⟩ : ∃ t, decide (r < fi) = t := ⟨_, rfl⟩
                              have HN2 := Aside0.mk (show t = b by
                                rw [← HBB.out, ← ht]
                                refine decide_eq_decide.2 ⟨fun h => .inr ⟨c8, h⟩, fun h => h.elim (fun h => absurd h.1 c6) (fun h => h.2)⟩)
                              clear c6 c8
                              go_wp2
                              go_meet
                              case rel => exact ⟨by rw [← HN2.out], HL, HU⟩
                            · have c8b : decide ((D.length : Int) < r) = false := decide_eq_false c8
                              have HN2 := Aside0.mk (show false = b by
                                rw [← HBB.out]
                                exact (decide_eq_false (fun h => h.elim (fun h => c6 h.1) (fun h => c8 h.1))).symm)
                              clear c6 c8
                              go_wp2
                              go_meet
                              case rel => exact ⟨by rw [← HN2.out], HL, HU⟩
                        case rest =>
                          clear HL HU
                          obtain ⟨rfl, HL, HU⟩ := hcut
                          obtain ⟨wv, hwv⟩ : ∃ wv, wantF D.length N.length p = wv := ⟨_, rfl⟩
                          have HWV := Aside0.mk hwv
                          have hwq : (if b = true then 0 else r) = wv := by
                            rw [← hwv]; unfold wantF; simp only
                            rw [HYE.out, HFI.out, ← HTP.out, HRE.out, ← HBB.out]
                            have := HD1.out
                            by_cases h : (r = d1 ∧ N.length = 0) ∨ (r > (D.length : Int) ∧ r < fi)
                            · rw [if_pos (decide_eq_true h), if_pos (by rw [← this]; exact h)]
                            · rw [if_neg (by simp only [decide_eq_true_eq]; exact h), if_neg (by rw [← this]; exact h)]
                          have HWI := Aside0.mk (show 0 ≤ wv ∧ wv ≤ 9223372036854775807 by rw [← hwq]; have := HRB.out; have := HTP.out; have := HFB.out; have := LN.out; split <;> omega)
                          have HWQ := Aside0.mk hwq
                          clear hwv hwq
                          go_upto_if 224 with (fail)
                          go_cut [26] from 224 to 224 (fun v26 wc => v26 = .int .i64 wv ∧ Aside0 (Lays wA wc u15 B) ∧ Aside0 (Kd.R (Kd.int .i64) 3 wc wA.heap.size (fun _ => True) u23 W))
                          case first =>
                            rcases b with _ | _
                            · have HN2 := Aside0.mk (show r = wv by rw [← HWQ.out]; rfl)
                              go_wp2
                              go_meet
                              case rel => exact ⟨by rw [HN2.out], HL, HU⟩
                            · have HN2 := Aside0.mk (show 0 = wv by rw [← HWQ.out]; rfl)
                              go_wp2
                              go_meet
                              case rel => exact ⟨by rw [HN2.out], HL, HU⟩
                          case rest =>
                            clear HL HU
                            obtain ⟨rfl, HL, HU⟩ := hcut
                            go_wp2_with (first
                              | ((with_reducible refine gate_builtin (b := .append) (xs := #[.tmp 225, .tmp 227]) rfl ?_); at_builtin; refine Kd.R_append (Kd.int .i64) (w0 := wA) wA.heap.size rfl (.tmp 225) (.tmp 227) 37 3 (.int .i64 0) 8 rfl Try.underlying37 info3 rfl (by decide) (by omega) u23 W wv [.int .i64 wv] (fun _ => True) (fun _ => False) rfl rfl ?aP (fun _ hk => hk.elim) ?aF ?aO ?aB ?aS ?aL ?_; (case aP => exact rfl); (case aB => exact HL.out.2); (case aF => exact (fun _ _ => trivial)); (case aO => exact HU.out); (case aS => exact HL.out.2.size); (case aL => have := HWL.out; have := LP.out; have := HIL.out; omega); intro v9 w9 ho hb hg hat; have hL : Lays wA w9 _ _ := ⟨Kd.R_over' HL.out.1 (Kd.R_typed HU.out) (by decide) hg, hb⟩; clear HU HL; have HU := Aside0.mk ho; have HL := Aside0.mk hL; clear ho hb hg hat hL)
                              | (go_at_call 23; (with_reducible refine (lay_c HL.out _ 2 2 rfl (by decide) HWI.out (by have := HBL.out; omega)).mono ?_); rintro e w2 ⟨v1, rfl, hL, hK⟩; have hU := row_kept HU.out HL.out.1 hK; clear HL HU; have HL := Aside0.mk hL; have HU := Aside0.mk hU; clear hL hK hU))
                            go_roundg (P.length - (i + 1))
                            case measure => have := HIL.out; have := HI.out; omega
                            case rel => exact ⟨x + 1, i + 1, by rw [hv], ⟨by have := HIL.out; have := HI.out; omega⟩, ⟨by
                              have h := HL.out
                              rw [wants_next HIL.out, HWE.out, HPE.out, HWV.out, wordsB_snoc, ← List.append_assoc, HBE.out]
                              exact h⟩, ⟨by
                              rw [wants_next HIL.out, HWE.out, HPE.out, HWV.out]
                              exact HU.out⟩⟩
                    · have c4b0 : decide (x < (P.length : Int)) = false := decide_eq_false c4
                      have hi : i = P.length := by have := HI.out; omega
                      rw [hi] at HL HU
                      have HLD := HL
                      have HUD := HU
                      rename World => wD
                      clear c4 hi HI HL HU hxi
                      obtain ⟨W, hW⟩ : ∃ W, wants D.length N.length P P.length = W := ⟨_, rfl⟩
                      have HWL := Aside0.mk (show W.length ≤ 60 by rw [← hW, wants_len (Nat.le_refl _)]; exact LP.out)
                      have HWW := Aside0.mk (show ∀ x ∈ W, 0 ≤ x ∧ (x ≤ (D.length : Int) ∨ (firstI D.length ≤ x ∧ x < firstI D.length + (N.length : Int))) by
                        intro x hx
                        rw [← hW] at hx
                        obtain ⟨p, _, rfl⟩ := List.mem_map.1 hx
                        exact wantF_in D.length N.length LD.out LN.out p)
                      rw [hW] at HLD HUD
                      obtain ⟨B3, hB3⟩ : ∃ B3, B2 ++ wordsB W = B3 := ⟨_, rfl⟩
                      have HB3E := Aside0.mk hB3
                      have HB3N := Aside0.mk (show B3.length = B2.length + 2 * W.length by rw [← hB3, List.length_append, wordsB_len])
                      rw [hB3] at HLD
                      obtain ⟨A15c, k15c, e15c, l15c, _⟩ := Kd.R_reads HLD.out.1
                      subst e15c
                      obtain ⟨A23, k23, e23, l23, _⟩ := Kd.R_reads HUD.out
                      subst e23
                      obtain ⟨BB, hBB⟩ : ∃ BB, B3 ++ T = BB := ⟨_, rfl⟩
                      have HBB := Aside0.mk hBB
                      have HBE := Aside0.mk (show blob A D N W = BB by
                        rw [← hBB, ← HB3E.out, ← HB2E.out, ← HB1E.out, ← HB0E.out, ← HTE.out]
                        simp only [blob, List.append_assoc])
                      have HBBL := Aside0.mk (show BB.length ≤ 20000 by
                        rw [← HBE.out, ← HAE.out]
                        exact blob_len F D N W (by rw [HAE.out]; exact HAO.out) LD.out LN.out HWL.out)
                      have HTL := Aside0.mk (show T.length ≤ 10497 by rw [← HTE.out]; have := stringsT_len A HAO.out; have := HAL.out; have := LD.out; have := LN.out; omega)
                      obtain ⟨nB, hnB⟩ : ∃ nB, IntKind.u64.wrap (BB.length : Int) = nB := ⟨_, rfl⟩
                      have HNB := Aside0.mk (show nB = (BB.length : Int) by rw [← hnB]; exact TextFacts.u64_in _ (by omega) (by have := HBBL.out; omega))
                      obtain ⟨t1, ht1⟩ : ∃ t1, wrap64 (4096 + (B3.length : Int)) = t1 := ⟨_, rfl⟩
                      have ht1w : IntKind.i64.wrap (4096 + (B3.length : Int)) = t1 := (i64_w _).trans ht1
                      have HT1 := Aside0.mk (show t1 = 4096 + (B3.length : Int) by rw [← ht1]; exact w64 _ (by omega) (by have := HB3N.out; have := HWL.out; have := HB2L.out; omega))
                      have ht1u : IntKind.u64.wrap t1 = t1 := TextFacts.u64_in _ (by have := HT1.out; omega) (by have := HT1.out; have := HB3N.out; have := HWL.out; have := HB2L.out; omega)
                      obtain ⟨sz, hsz⟩ : ∃ sz, IntKind.u64.wrap (T.length : Int) = sz := ⟨_, rfl⟩
                      have HSZE := Aside0.mk (show sz = (T.length : Int) by rw [← hsz]; exact TextFacts.u64_in _ (by omega) (by have := HTL.out; omega))
                      obtain ⟨t2, ht2⟩ : ∃ t2, wrap64 (4096 + (B2.length : Int)) = t2 := ⟨_, rfl⟩
                      have ht2w : IntKind.i64.wrap (4096 + (B2.length : Int)) = t2 := (i64_w _).trans ht2
                      have HT2 := Aside0.mk (show t2 = 4096 + (B2.length : Int) by rw [← ht2]; exact w64 _ (by omega) (by have := HB2L.out; omega))
                      have ht2u : IntKind.u64.wrap t2 = t2 := TextFacts.u64_in _ (by have := HT2.out; omega) (by have := HT2.out; have := HB2L.out; omega)
                      obtain ⟨dn, hdn⟩ : ∃ dn, IntKind.u64.wrap (D.length : Int) = dn := ⟨_, rfl⟩
                      have HDN := Aside0.mk (show dn = (D.length : Int) by rw [← hdn]; exact TextFacts.u64_in _ (by omega) (by have := LD.out; omega))
                      obtain ⟨t3, ht3⟩ : ∃ t3, wrap64 (4096 + (B0.length : Int)) = t3 := ⟨_, rfl⟩
                      have ht3w : IntKind.i64.wrap (4096 + (B0.length : Int)) = t3 := (i64_w _).trans ht3
                      have HT3 := Aside0.mk (show t3 = 4096 + (B0.length : Int) by rw [← ht3]; exact w64 _ (by omega) (by have := HB0L.out; omega))
                      have ht3u : IntKind.u64.wrap t3 = t3 := TextFacts.u64_in _ (by have := HT3.out; omega) (by have := HT3.out; have := HB0L.out; omega)
                      obtain ⟨va, hva⟩ : ∃ va, (if 0 < D.length then (4096 : Int) else 0) = va := ⟨_, rfl⟩
                      have HVA := Aside0.mk hva
                      obtain ⟨vb, hvb⟩ : ∃ vb, (if 0 < D.length then dn else 0) = vb := ⟨_, rfl⟩
                      have HVB := Aside0.mk hvb
                      obtain ⟨vc, hvc⟩ : ∃ vc, (if 0 < N.length then t3 else 0) = vc := ⟨_, rfl⟩
                      have HVC := Aside0.mk hvc
                      obtain ⟨vd, hvd⟩ : ∃ vd, (if 0 < N.length then (1 : Int) else 0) = vd := ⟨_, rfl⟩
                      have HVD := Aside0.mk hvd
                      clear hW hB3 l15c hBB hva hvb hvc hvd
                      go_upto_if 255 with (first
                        | ((with_reducible refine gate_builtin (b := .append) (xs := #[.tmp 234, .tmp 235]) rfl ?_); at_builtin; refine Kd.R_append_rows (Kd.int .u8) (w0 := wA) wA.heap.size rfl (.tmp 234) (.tmp 235) 24 5 (.int .u8 0) 1 rfl Try.underlying24 info5 rfl (by decide) (by omega) (.slice A15c B3.length k15c) B3 T _ _ _ (fun _ => True) (fun _ => False) rfl rfl ?aO ?aR (fun _ _ h => h) (fun _ h => h.elim) ?aF ?aB ?aS ?aL ?_; (case aR => exact Kd.C_below CT.out HLD.out.2); (case aB => exact HLD.out.2); (case aF => exact (fun _ _ => trivial)); (case aO => exact HLD.out.1); (case aS => exact HLD.out.2.size); (case aL => have := HTL.out; have := HB3N.out; have := HWL.out; have := HB2L.out; omega); intro v5 wE ho hb hg hat; have hu := Kd.R_reads' (Kd.R_over' HUD.out (Kd.R_typed HLD.out.1) (by decide) hg); have CW := Aside0.mk hu.2.2; rw [HBB.out] at ho; obtain ⟨Ab, kb, rfl, lb, hcb⟩ := Kd.R_reads ho; have CB := Aside0.mk (And.intro hcb lb); have QE := Aside0.mk (below_step QA.out hb); clear ho hb hg hat hu hcb lb HLD HUD)
                        | ((with_reducible refine gate_dst (N := 241) rfl ?_); refine Kd.R_lit k29 _ 29 ?hg1 (N := 241) ?hd1 (xs := [p0 nB]) (inner := [.int .u32 1, .int .u32 0, .int .u64 0, .int .u64 4096, .int .u64 nB, .int .u64 0, .int .u64 0]) (ok := fun _ => True) (okp := fun _ => True) ?hr1 ?hp1 (fun _ hk => hk) trivial (Below.refl _ _) (Nat.le_refl _) (by simp) ?_; (case hd1 => rfl); (case hg1 => rfl); (case hr1 => first | (go_simp; done) | (go_simp; rfl)); (case hp1 => exact Reps.c7 (k29_mkM _ _ _ (p0 nB)) (Reps.none _ _)); intro v6 wP ho hb hg_ hn_; obtain ⟨Ap, cp, e6, lp, hCp⟩ := Kd.R_reads ho; replace e6 : v6 = .slice Ap 1 cp := e6; subst e6; have CP := Aside0.mk (And.intro hCp lp); have CBP := Aside0.mk (Kd.C_below CB.out.1 hb); have CWP := Aside0.mk (Kd.C_below CW.out hb); have QP := Aside0.mk (below_step QE.out hb); clear ho hb hg_ hn_ lp hCp)
                        | ((with_reducible refine gate_dst (N := 28) rfl ?_); refine box_event2 ?hg2 (N := 28) ?hd2 (cs := #[.int .i64 0, .int .u64 0, .slice Ap 1 cp]) (t := 32) (zs := #[.int .i64 0, .int .u64 0, .slice none 0 0]) ?hr2 rfl rfl rfl (fun _ => rfl) (fun _ => rfl) (by kernel_rfl) ?hz2 (by first | kernel_rfl | rfl) ?_; (case hd2 => rfl); (case hg2 => rfl); (case hr2 => first | (go_simp; done) | (go_simp; rfl)); (case hz2 => rfl); intro g2 eg w8 hb hw; have B2_ := Aside0.mk hb; have Q8 := Aside0.mk hw; clear eg hb hw)
                        | ((with_reducible refine gate_dst (N := 252) rfl ?_); refine wpList_buildAt (t := 35) #[(4, .tmp 245), (8, .tmp 248), (26, .tmp 251)] (dynV t1 sz t2 0 0 0 0) ?_ ?_; (as_aux_lemma => kernel_rfl))
                        | ((with_reducible refine gate_dst (N := 29) rfl ?_); refine box_event2 ?hg3 (N := 29) ?hd3 (cs := dynV t1 sz t2 0 0 0 0) (t := 35) (zs := dynZ) ?hr3 rfl rfl rfl (fun _ => rfl) (fun _ => rfl) (by kernel_rfl) ?hz3 (by first | kernel_rfl | rfl) ?_; (case hd3 => rfl); (case hg3 => rfl); (case hr3 => first | (go_simp; done) | (go_simp; rfl)); (case hz3 => rfl); intro g3 eg w9 hb hw; have HX := Aside0.mk (show BxA wP g2 g3 #[.int .i64 0, .int .u64 0, .slice Ap 1 cp] t1 sz t2 0 0 0 0 w9 from ⟨(hw.block _ (lt_of_block B2_.out)).trans B2_.out, hb, below_step Q8.out hw, by have h2 := lt_of_block B2_.out; omega, by have h1 := Q8.out.size; omega⟩); clear eg hb hw B2_ Q8))
                      go_cut [] from 255 to 255 (fun wc => Aside0 (BxA wP g2 g3 #[.int .i64 0, .int .u64 0, .slice Ap 1 cp] t1 sz t2 va vb 0 0 wc))
                      case first =>
                        by_cases c6 : 0 < D.length
                        · have c6b1 : decide (0 < D.length) = true := decide_eq_true c6
                          have k28 := (cell_of_row _ g3 28 _ _ _ HX.out.bh).trans (show (dynV t1 sz t2 0 0 0 0)[28]? = some (.int .u64 0) from rfl)
                          have k29 := (cell_of_row _ g3 29 _ _ _ HX.out.bh).trans (show (dynV t1 sz t2 0 0 0 0)[29]? = some (.int .u64 0) from rfl)
                          have f28 := blk_frozen HX.out.bh 28
                          have f29 := blk_frozen (HX.out.s28 4096).bh 29
                          have k29b := (cell_of_row _ g3 29 _ _ _ (HX.out.s28 4096).bh).trans (show (dynV t1 sz t2 4096 0 0 0)[29]? = some (.int .u64 0) from rfl)
                          have HN1 := Aside0.mk (show va = 4096 by rw [← HVA.out, if_pos c6])
                          have HN2 := Aside0.mk (show vb = dn by rw [← HVB.out, if_pos c6])
                          clear c6
                          (first | rw [c6b1] | skip)
                          go_wp2
                          go_meet
                          case rel => exact ⟨by rw [HN1.out, HN2.out]; exact (HX.out.s28 4096).s29 dn⟩
                        · have c6b1 : decide (0 < D.length) = false := decide_eq_false c6
                          have HN1 := Aside0.mk (show va = 0 by rw [← HVA.out, if_neg c6])
                          have HN2 := Aside0.mk (show vb = 0 by rw [← HVB.out, if_neg c6])
                          clear c6
                          (first | rw [c6b1] | skip)
                          go_wp2
                          go_meet
                          case rel => exact ⟨by rw [HN1.out, HN2.out]; exact HX.out⟩
                      case rest =>
                        clear HX
                        have HX := hcut
                        clear hcut
                        go_upto_if 263 with (fail)
                        go_cut [] from 263 to 263 (fun wc => Aside0 (BxA wP g2 g3 #[.int .i64 0, .int .u64 0, .slice Ap 1 cp] t1 sz t2 va vb vc vd wc))
                        case first =>
                          by_cases c6 : 0 < N.length
                          · have c6b1 : decide (0 < N.length) = true := decide_eq_true c6
                            have k30 := (cell_of_row _ g3 30 _ _ _ HX.out.bh).trans (show (dynV t1 sz t2 va vb 0 0)[30]? = some (.int .u64 0) from rfl)
                            have k31 := (cell_of_row _ g3 31 _ _ _ HX.out.bh).trans (show (dynV t1 sz t2 va vb 0 0)[31]? = some (.int .u64 0) from rfl)
                            have f30 := blk_frozen HX.out.bh 30
                            have f31 := blk_frozen (HX.out.s30 t3).bh 31
                            have k31b := (cell_of_row _ g3 31 _ _ _ (HX.out.s30 t3).bh).trans (show (dynV t1 sz t2 va vb t3 0)[31]? = some (.int .u64 0) from rfl)
                            have HN1 := Aside0.mk (show vc = t3 by rw [← HVC.out, if_pos c6])
                            have HN2 := Aside0.mk (show vd = 1 by rw [← HVD.out, if_pos c6])
                            clear c6
                            (first | rw [c6b1] | skip)
                            go_wp2
                            go_meet
                            case rel => exact ⟨by rw [HN1.out, HN2.out]; exact (HX.out.s30 t3).s31 1⟩
                          · have c6b1 : decide (0 < N.length) = false := decide_eq_false c6
                            have HN1 := Aside0.mk (show vc = 0 by rw [← HVC.out, if_neg c6])
                            have HN2 := Aside0.mk (show vd = 0 by rw [← HVD.out, if_neg c6])
                            clear c6
                            (first | rw [c6b1] | skip)
                            go_wp2
                            go_meet
                            case rel => exact ⟨by rw [HN1.out, HN2.out]; exact HX.out⟩
                        case rest =>
                          clear HX
                          have HX := hcut
                          clear hcut
                          have RC := Aside0.mk (show ∀ W1, Below wP.heap.size wP W1 → Calls Try.prog 18 #[.slice Ab BB.length kb, .agg #[.int .i64 0, .int .u64 0, .slice Ap 1 cp], .agg (dynV t1 sz t2 va vb vc vd), .int .i64 (W.length : Int)] W1 fun e w' => ∃ v1 v2 v3, e = .returned (.tuple #[.agg #[.bool true, v1, v2, v3], .nilIface]) ∧ Kd.R (Kd.int .i64) 3 w' W1.heap.size (fun _ => True) v1 W ∧ Kd.R kDf 63 w' W1.heap.size (fun _ => True) v2 (dfsOf 0 D) ∧ Kd.R kNd 66 w' W1.heap.size (fun _ => True) v3 (if 0 < N.length then [(F, axOfN fi 0 N)] else []) ∧ Below W1.heap.size W1 w' by
                            have h := read_made wP Ab kb F D N W Ap cp (by rw [HAE.out]; exact HAO.out) LD.out LN.out HWL.out HWW.out B2.length B3.length (by rw [HAE.out, HB0E.out, ← HB2E.out, ← HB1E.out]; simp only [List.length_append]; omega) HB3N.out (by rw [HAE.out, HBE.out]; exact CBP.out) (by rw [HAE.out, HBE.out]; exact CB.out.2) (by rw [HAE.out, HBE.out, ← HNB.out]; exact CP.out.1) (by rw [HAE.out, HBE.out, ← HNB.out]; exact CP.out.2)
                            rw [HAE.out, HBE.out, HTE.out, HB0E.out, HFI.out, ← HNB.out, ← HT1.out, ← HSZE.out, ← HT2.out, ← HDN.out, ← HT3.out, HVA.out, HVB.out, HVC.out, HVD.out] at h
                            exact h)
                          obtain ⟨nl, hnl⟩ : ∃ nl, (if 0 < N.length then [(F, axOfN fi 0 N)] else ([] : List Nd)).length = nl := ⟨_, rfl⟩
                          have HNL := Aside0.mk hnl
                          clear hnl
                          go_upto_region 66 with (first
                            | ((with_reducible refine gate_ (.load 32 (.tmp 28)) rfl ?_); refine wpList_load_row rfl 32 (.tmp 28) rfl g2 rfl 32 _ (0, 0) _ HX.out.bg Try.underlying32 rfl (by rw [info32]; rfl) ?_)
                            | ((with_reducible refine gate_ (.load 35 (.tmp 29)) rfl ?_); refine wpList_load_row rfl 35 (.tmp 29) rfl g3 rfl 35 _ (0, 0) _ HX.out.bh Try.underlying35 rfl (by rw [info35]; rfl) ?_)
                            | (go_at_call 18; (with_reducible refine (RC.out _ HX.out.lw).mono ?_); rintro e w10 ⟨v1, v2, v3, rfl, r1, r2, r3, hw⟩; obtain ⟨A1_, k1, rfl, l1, h1_⟩ := Kd.R_reads r1; obtain ⟨A2_, k2, e2, l2, h2_⟩ := Kd.R_reads r2; rw [dfsOf_len] at e2 h2_; subst e2; obtain ⟨A3_, k3, e3, l3, h3_⟩ := Kd.R_reads r3; rw [HNL.out] at e3 h3_; subst e3; have HV := Aside0.mk (And.intro h1_ (And.intro h2_ h3_)); have CW10 := Aside0.mk (Kd.C_below CWP.out (below_step HX.out.lw hw)); have Q10 := Aside0.mk (below_step QP.out (below_step HX.out.lw hw)); clear hw r1 r2 r3 l1 l2 l3 h1_ h2_ h3_)
                            | ((with_reducible refine gate_dst (N := 30) rfl ?_); refine box_event2 ?hga (N := 30) ?hda (cs := #[.bool true, .slice A1_ W.length k1, .slice A2_ D.length k2, .slice A3_ nl k3]) (t := 54) (zs := #[.bool false, .slice none 0 0, .slice none 0 0, .slice none 0 0]) ?hra rfl rfl rfl (fun _ => rfl) (fun _ => rfl) (by kernel_rfl) ?hza (by first | kernel_rfl | rfl) ?_; (case hda => rfl); (case hga => rfl); (case hra => first | (go_simp; done) | (go_simp; rfl)); (case hza => rfl); intro g4 eg wF hb hw; have BV := Aside0.mk hb; have HVF := Aside0.mk (And.intro (Kd.C_below HV.out.1 hw) (And.intro (Kd.C_below HV.out.2.1 hw) (Kd.C_below HV.out.2.2 hw))); have CWF := Aside0.mk (Kd.C_below CW10.out hw); have QF := Aside0.mk (below_step Q10.out hw); clear eg hb hw HV CW10 Q10 HX))
                          have Y1 := Aside0.mk ((cell_of_row wF g4 1 _ _ _ BV.out).trans (show (#[.bool true, .slice A1_ W.length k1, .slice A2_ D.length k2, .slice A3_ nl k3] : Array Value)[1]? = some (.slice A1_ W.length k1) from rfl))
                          have Y2 := Aside0.mk ((cell_of_row wF g4 2 _ _ _ BV.out).trans (show (#[.bool true, .slice A1_ W.length k1, .slice A2_ D.length k2, .slice A3_ nl k3] : Array Value)[2]? = some (.slice A2_ D.length k2) from rfl))
                          have Y3 := Aside0.mk ((cell_of_row wF g4 3 _ _ _ BV.out).trans (show (#[.bool true, .slice A1_ W.length k1, .slice A2_ D.length k2, .slice A3_ nl k3] : Array Value)[3]? = some (.slice A3_ nl k3) from rfl))
                          have N1 := Aside0.mk (fun c6 : 0 < N.length => show nl = 1 by rw [← HNL.out, if_pos c6]; rfl)
                          have N3 := Aside0.mk (fun c6 : 0 < N.length => show ∃ ad AX cX, A3_ = some ad ∧ wF.cell? ad = some (.string F) ∧ wF.cell? ⟨ad.block, ad.off + 1, none⟩ = some (.slice AX N.length cX) ∧ Kd.C kAx wF AX N.length (axOfN fi 0 N) by
                            have h := HVF.out.2.2
                            rw [N1.out c6, if_pos c6] at h
                            obtain ⟨ad, AX, cX, e, g0, g1, _, hX⟩ := at_kNd h 0 (by omega) (by omega) (F, axOfN fi 0 N) rfl
                            simp only [Int.toNat_zero, Nat.zero_mul, Addr.add_zero'] at g0 g1
                            rw [axOfN_len] at g1 hX
                            exact ⟨ad, AX, cX, e, g0, g1, hX⟩)
                          clear BV
                          go_cut [326] from 278 to 278 (fun v326 wc => v326 = .bool false ∧ Aside0 (Below wF.heap.size wF wc))
                          case first =>
                            have y1 := Y1.out
                            have y2 := Y2.out
                            have y3 := Y3.out
                            by_cases c6 : 0 < N.length
                            · have c6b : decide (0 < N.length) = true := decide_eq_true c6
                              obtain ⟨ad, AX, cX, eA, g0, g1, _⟩ := N3.out c6
                              subst eA
                              rw [N1.out c6] at y3
                              clear c6
                              go_wp2
                              repeat (go_quiet (fail); try go_wp2)
                              go_meet
                              case rel => exact ⟨by first | rfl | (simp; done) | (simp [*]; done), ⟨by repeat (first | exact Below.refl _ _ | apply below_alloc | apply pw_below_drewN | apply below_drew1)⟩⟩
                            · have c6b : decide (0 < N.length) = false := decide_eq_false c6
                              clear c6
                              go_wp2
                              repeat (go_quiet (fail); try go_wp2)
                              go_meet
                              case rel => exact ⟨by first | rfl | (simp; done) | (simp [*]; done), ⟨by repeat (first | exact Below.refl _ _ | apply below_alloc | apply pw_below_drewN | apply below_drew1)⟩⟩
                          case rest =>
                            obtain ⟨rfl, HF⟩ := hcut
                            as_aux_lemma =>
                              go_wp2
                              go_loopg [32] D.length (fun kq v32 w' => ∃ (x : Int) (i : Nat), v32 = .int .i64 x ∧ Aside0 (x = (i : Int) ∧ i ≤ D.length ∧ kq = D.length - i) ∧ Aside0 (Below wF.heap.size wF w'))
                              case atStart => exact ⟨0, 0, rfl, ⟨by omega⟩, ⟨by repeat (first | exact HF.out | apply below_alloc | apply pw_below_drewN | apply below_drew1)⟩⟩
                              case round =>
                                clear HF
                                obtain ⟨x, i, rfl, HI, HF⟩ := hrel
                                have hxi := HI.out.1
                                by_cases c4 : x < (D.length : Int)
                                · have c4b0 : decide (x < (D.length : Int)) = true := decide_eq_true c4
                                  have HIL := Aside0.mk (show i < D.length by omega)
                                  obtain ⟨z, hz⟩ : ∃ z, wrap64 (x + 1) = z := ⟨_, rfl⟩
                                  have hzw : IntKind.i64.wrap (x + 1) = z := (i64_w _).trans hz
                                  have HZ := Aside0.mk (show z = (i : Int) + 1 by rw [← hz, hxi]; exact w64 _ (by omega) (by have := LD.out; omega))
                                  have p1 : (0 : Int) ≤ x := by omega
                                  obtain ⟨s, hs⟩ : ∃ s, gN D i = s := ⟨_, rfl⟩
                                  have hrd : rdOf ByteArray.empty D x = s := by rw [hxi, gN_rd, hs]
                                  obtain ⟨ad, eA, g0⟩ := Kd.at_string (Kd.C_below HR0.out (below_step QF.out HF.out)) x p1 c4
                                  rw [hrd] at g0
                                  obtain ⟨ad2, A3, c3, eD, q0, _, q2, q3, _, _⟩ := at_kDf (Kd.C_below HVF.out.2.1 HF.out) x p1 c4 (z, false, s, []) (by rw [hxi, Int.toNat_natCast, dfs_at D 0 i HIL.out, HZ.out, hs, Nat.zero_add])
                                  have y2 := cell_up HF.out Y2.out
                                  subst eA
                                  subst eD
                                  have q1 := eq_true c4
                                  replace p1 := eq_true p1
                                  clear c4 hxi hrd hs
                                  go_wp2
                                  repeat (go_quiet (fail); try go_wp2)
                                  go_roundg (D.length - (i + 1))
                                  case measure => have := HIL.out; have := HI.out; omega
                                  case rel => exact ⟨z, i + 1, by first | rfl | rw [hz], ⟨by have := HIL.out; have := HI.out; have := HZ.out; omega⟩, ⟨by repeat (first | exact HF.out | apply below_alloc | apply pw_below_drewN | apply below_drew1)⟩⟩
                                · have c4b0 : decide (x < (D.length : Int)) = false := decide_eq_false c4
                                  clear c4 HI hxi
                                  go_wp2
                                  repeat (go_quiet (fail); try go_wp2)
                                  go_loopg [33] N.length (fun kq v33 w' => ∃ (x : Int) (i : Nat), v33 = .int .i64 x ∧ Aside0 (x = (i : Int) ∧ i ≤ N.length ∧ kq = N.length - i) ∧ Aside0 (Below wF.heap.size wF w'))
                                  case atStart => exact ⟨0, 0, rfl, ⟨by omega⟩, ⟨by repeat (first | exact HF.out | apply below_alloc | apply pw_below_drewN | apply below_drew1)⟩⟩
                                  case round =>
                                    clear HF
                                    obtain ⟨x, i, rfl, HI, HF⟩ := hrel
                                    have hxi := HI.out.1
                                    by_cases c4 : x < (N.length : Int)
                                    · have c4b0 : decide (x < (N.length : Int)) = true := decide_eq_true c4
                                      have HIL := Aside0.mk (show i < N.length by omega)
                                      have hv : wrap64 (x + 1) = x + 1 := w64 _ (by omega) (by have := LN.out; omega)
                                      obtain ⟨ix, hix⟩ : ∃ ix, wrap64 (fi + x) = ix := ⟨_, rfl⟩
                                      have hixw : IntKind.i64.wrap (fi + x) = ix := (i64_w _).trans hix
                                      have HIX := Aside0.mk (show ix = fi + (i : Int) by rw [← hix, hxi]; exact w64 _ (by have := HFB.out; omega) (by have := HFB.out; have := LN.out; omega))
                                      have p1 : (0 : Int) ≤ x := by omega
                                      obtain ⟨s, hs⟩ : ∃ s, gN N i = s := ⟨_, rfl⟩
                                      have hrd : rdOf ByteArray.empty N x = s := by rw [hxi, gN_rd, hs]
                                      obtain ⟨ad, eA, g0⟩ := Kd.at_string (Kd.C_below HR2.out (below_step QF.out HF.out)) x p1 c4
                                      rw [hrd] at g0
                                      obtain ⟨ad3, AX, cX, eA3, m0, m1, hX⟩ := N3.out (by omega)
                                      replace m0 := cell_up HF.out m0
                                      replace m1 := cell_up HF.out m1
                                      obtain ⟨ad4, eX, q0, _, q2⟩ := at_kAx (Kd.C_below hX HF.out) x p1 c4 (ix, false, s) (by rw [hxi, Int.toNat_natCast, ax_at fi N 0 i HIL.out, HIX.out, hs, Nat.zero_add])
                                      have y3 := cell_up HF.out Y3.out
                                      rw [N1.out (by omega)] at y3
                                      subst eA
                                      subst eA3
                                      subst eX
                                      have q1 := eq_true c4
                                      replace p1 := eq_true p1
                                      clear c4 hxi hrd hs hX
                                      go_wp2
                                      repeat (go_quiet (fail); try go_wp2)
                                      go_roundg (N.length - (i + 1))
                                      case measure => have := HIL.out; have := HI.out; omega
                                      case rel => exact ⟨x + 1, i + 1, by first | rfl | rw [hv], ⟨by have := HIL.out; have := HI.out; omega⟩, ⟨by repeat (first | exact HF.out | apply below_alloc | apply pw_below_drewN | apply below_drew1)⟩⟩
                                    · have c4b0 : decide (x < (N.length : Int)) = false := decide_eq_false c4
                                      clear c4 HI hxi
                                      go_wp2
                                      repeat (go_quiet (fail); try go_wp2)
                                      go_loopg [34] W.length (fun kq v34 w' => ∃ (x : Int) (i : Nat), v34 = .int .i64 x ∧ Aside0 (x = (i : Int) ∧ i ≤ W.length ∧ kq = W.length - i) ∧ Aside0 (Below wF.heap.size wF w'))
                                      case atStart => exact ⟨0, 0, rfl, ⟨by omega⟩, ⟨by repeat (first | exact HF.out | apply below_alloc | apply pw_below_drewN | apply below_drew1)⟩⟩
                                      case round =>
                                        clear HF
                                        obtain ⟨x, i, rfl, HI, HF⟩ := hrel
                                        have hxi := HI.out.1
                                        by_cases c4 : x < (W.length : Int)
                                        · have c4b0 : decide (x < (W.length : Int)) = true := decide_eq_true c4
                                          have HIL := Aside0.mk (show i < W.length by omega)
                                          have hv : wrap64 (x + 1) = x + 1 := w64 _ (by omega) (by have := HWL.out; omega)
                                          have p1 : (0 : Int) ≤ x := by omega
                                          obtain ⟨ad, eA, g0⟩ := Kd.at_int (Kd.C_below HVF.out.1 HF.out) x p1 c4
                                          obtain ⟨ad5, eB, g1⟩ := Kd.at_int (Kd.C_below CWF.out HF.out) x p1 c4
                                          obtain ⟨u, hu⟩ : ∃ u, rd W x = u := ⟨_, rfl⟩
                                          rw [hu] at g0 g1
                                          have y1 := cell_up HF.out Y1.out
                                          subst eA
                                          subst eB
                                          have q1 := eq_true c4
                                          replace p1 := eq_true p1
                                          clear c4 hxi hu
                                          go_wp2
                                          repeat (go_quiet (fail); try go_wp2)
                                          go_roundg (W.length - (i + 1))
                                          case measure => have := HIL.out; have := HI.out; omega
                                          case rel => exact ⟨x + 1, i + 1, by first | rfl | rw [hv], ⟨by have := HIL.out; have := HI.out; omega⟩, ⟨by repeat (first | exact HF.out | apply below_alloc | apply pw_below_drewN | apply below_drew1)⟩⟩
                                        · have c4b0 : decide (x < (W.length : Int)) = false := decide_eq_false c4
                                          clear c4 HI hxi
                                          go_wp2
                                          repeat (go_quiet (fail); try go_wp2)
                                          exact HP.out _ _ ⟨rfl, below_step QF.out (by repeat (first | exact HF.out | apply below_alloc | apply pw_below_drewN | apply below_drew1))⟩
end Go.Proofs.Ythopdoamajjojaa.VersMk
