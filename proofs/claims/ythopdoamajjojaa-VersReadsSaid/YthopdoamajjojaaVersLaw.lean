import Derived.Test.YthopdoamajjojaaVersRSame
import Derived.Test.YthopdoamajjojaaVersUp
namespace Go.Proofs.Ythopdoamajjojaa.VersR
open Go Go.RowKit Go.Proofs.Ythopdoamajjojaa.QVers Go.Proofs.Ythopdoamajjojaa.VersSpec Go.Proofs.Ythopdoamajjojaa.VersS Go.Proofs.YthopdoamajjojaaW.PrintWords Go.Proofs.YthopdoamajjojaaW.PrintLast Go.Proofs.YthopdoamajjojaaW.PrintMore
set_option linter.unusedSimpArgs false
set_option linter.unusedVariables false
set_option maxHeartbeats 16000000 in
set_option maxRecDepth 100000 in
theorem reads_calls (w : World) (A0 : Option Addr) (c0 : Nat) (b : List Int) (h0 h1 : Int) (A1 : Option Addr) (c1 : Nat) (ps : List S29) (dc : Array Value) (n : Int) (x : Vs) (e1 : Option Int) (e2 : Int)
    (hsz : dc.size = 37) (h1c : dc.all (·.oneCell') = true)
    (H18 : ∀ w1, Below w.heap.size w w1 → Calls Try.prog 18 #[.slice A0 b.length c0, .agg #[.int .i64 h0, .int .u64 h1, .slice A1 ps.length c1], .agg dc, .int .i64 n] w1 fun e w' => ∃ v1 v2 v3, e = .returned (.tuple #[.agg #[.bool x.1, v1, v2, v3], errW e1]) ∧ Kd.R (Kd.int .i64) 3 w' w1.heap.size (fun _ => True) v1 x.2.1 ∧ Kd.R kDf 63 w' w1.heap.size (fun _ => True) v2 x.2.2.1 ∧ Kd.R kNd 66 w' w1.heap.size (fun _ => True) v3 x.2.2.2 ∧ Below w1.heap.size w1 w')
    (H19 : ∀ w1, Below w.heap.size w w1 → Calls Try.prog 19 #[.slice A0 b.length c0, .agg #[.int .i64 h0, .int .u64 h1, .slice A1 ps.length c1], .agg dc, .int .i64 n] w1 fun e w' => ∃ v1 v2 v3, e = .returned (.tuple #[.agg #[.bool x.1, v1, v2, v3], .int .i64 e2]) ∧ Kd.R (Kd.int .i64) 3 w' w1.heap.size (fun _ => True) v1 x.2.1 ∧ Kd.N kDf 63 w' w1.heap.size (fun _ => True) v2 x.2.2.1 ∧ Kd.N kNd 66 w' w1.heap.size (fun _ => True) v3 x.2.2.2 ∧ Below w1.heap.size w1 w')
    (hcode : shacklelaw00_Code.f e1 = some e2) (n1 : x.2.1.length ≤ 1000000) (n2 : x.2.2.1.length ≤ 1000000) (n3 : x.2.2.2.length ≤ 1000000) (n4 : ∀ p ∈ x.2.2.1, p.2.2.2.length ≤ 1000000) (n5 : ∀ p ∈ x.2.2.2, p.2.length ≤ 1000000) :
    Calls Try.prog 5 #[.slice A0 b.length c0, .agg #[.int .i64 h0, .int .u64 h1, .slice A1 ps.length c1], .agg dc, .int .i64 n] w fun e w' => e = .returned (.bool true) ∧ Below w.heap.size w w' := by
  refine calls_aside fun Post HP => ?_
  obtain ⟨has, of, ds, ns⟩ := x
  simp only at H18 H19 n1 n2 n3 n4 n5
  have HD := Aside0.mk (And.intro hsz h1c)
  have H18 := Aside0.mk H18
  have H19 := Aside0.mk H19
  have HCO := Aside0.mk hcode
  have HNN := Aside0.mk (And.intro n1 (And.intro n2 (And.intro n3 (And.intro n4 n5))))
  clear hsz h1c hcode n1 n2 n3 n4 n5
  have hu32 := Try.underlying32
  have hu35 := Try.underlying35
  have hu54 := Try.underlying54
  go_enter Try.func5, Try.ntmps5
  go_upto_region 5 with (first
    | ((with_reducible refine gate_dst (N := 5) rfl ?_); refine box_event ?hg (N := 5) ?hd (cs := #[.int .i64 h0, .int .u64 h1, .slice A1 ps.length c1]) (t := 32) ?hr ?_; (case hd => rfl); (case hg => rfl); (case hr => first | (go_simp; done) | (go_simp; rfl)); intro g5 eg w1 hb hw; have B5 := Aside0.mk hb; have Q1 := Aside0.mk hw; clear eg hb hw)
    | ((with_reducible refine gate_dst (N := 6) rfl ?_); refine box_event ?hg (N := 6) ?hd (cs := dc) (t := 35) ?hr ?_; (case hd => rfl); (case hg => rfl); (case hr => first | (go_simp; done) | (go_simp; rfl)); intro g6 eg w2 hb hw; have B6 := Aside0.mk hb; have b5 := Aside0.mk ((hw.block _ (lt_of_block B5.out)).trans B5.out); have Q2 := Aside0.mk (below_step Q1.out hw); clear eg hb hw B5)
    | (go_at_call 17; (with_reducible refine (up_calls w2).mono ?_); rintro e w3 ⟨rfl, hw⟩; have c5 := Aside0.mk ((hw.block _ (lt_of_block b5.out)).trans b5.out); have c6 := Aside0.mk ((hw.block _ (lt_of_block B6.out)).trans B6.out); have Q3 := Aside0.mk (below_step Q2.out hw); clear hw b5 B6)
    | ((with_reducible refine gate_ (.load 32 (.tmp 5)) rfl ?_); refine wpList_load_row rfl 32 (.tmp 5) rfl g5 rfl 32 _ (0, 0) _ c5.out Try.underlying32 rfl (by rw [info32]; rfl) ?_)
    | ((with_reducible refine gate_ (.load 35 (.tmp 6)) rfl ?_); refine wpList_load_row rfl 35 (.tmp 6) rfl g6 rfl 35 _ (0, 0) _ c6.out Try.underlying35 rfl (by rw [info35, HD.out.1]) ?_)
    | (go_at_call 18; (with_reducible refine (H18.out w3 Q3.out).mono ?_); rintro e w4 ⟨v1, v2, v3, rfl, r1, r2, r3, hw⟩; obtain ⟨A1_, k1, rfl, l1, h1_⟩ := Kd.R_reads r1; obtain ⟨A2_, k2, rfl, l2, h2_⟩ := Kd.R_reads r2; obtain ⟨A3_, k3, rfl, l3, h3_⟩ := Kd.R_reads r3; have HV := Aside0.mk (And.intro (And.intro l1 h1_) (And.intro (And.intro l2 h2_) (And.intro l3 h3_))); have d5 := Aside0.mk ((hw.block _ (lt_of_block c5.out)).trans c5.out); have d6 := Aside0.mk ((hw.block _ (lt_of_block c6.out)).trans c6.out); have Q4 := Aside0.mk (below_step Q3.out hw); clear hw r1 r2 r3 l1 l2 l3 h1_ h2_ h3_)
    | ((with_reducible refine gate_dst (N := 10) rfl ?_); refine box_event ?hg (N := 10) ?hd (cs := #[.bool false, .slice none 0 0, .slice none 0 0, .slice none 0 0]) (t := 54) ?hr ?_; (case hd => rfl); (case hg => rfl); (case hr => first | (go_simp; done) | (go_simp; rfl)); intro g10 eg w5 hb hw; have B10 := Aside0.mk hb; have L10 := Aside0.mk (show w4.heap.size ≤ g10 by rw [eg]; exact Nat.le_refl _); have Q5 := Aside0.mk hw; have M5 := Aside0.mk (And.intro (lt_of_block d5.out) (lt_of_block d6.out)); clear eg hb hw)
    | ((with_reducible refine gate_store (t := 54) (p := 10) rfl ?_); refine store_row_ev rfl rfl 54 (.tmp 10) (.tmp 22) rfl g10 #[.bool has, .slice A1_ of.length k1, .slice A2_ ds.length k2, .slice A3_ ns.length k3] rfl rfl 54 _ B10.out (by kernel_rfl) rfl (by kernel_rfl) ?_; intro w6 hb hf hk_; have C10 := Aside0.mk hb; have hw := hf _ _ Q5.out L10.out; have e5 := Aside0.mk ((hw.block _ M5.out.1).trans d5.out); have e6 := Aside0.mk ((hw.block _ M5.out.2).trans d6.out); have W6 := Aside0.mk hw; have Q6 := Aside0.mk (below_step Q4.out hw); clear hb hf hk_ hw B10 c5 c6 d5 d6)
    | ((with_reducible refine gate_ (.load 32 (.tmp 5)) rfl ?_); refine wpList_load_row rfl 32 (.tmp 5) rfl g5 rfl 32 _ (0, 0) _ e5.out Try.underlying32 rfl (by rw [info32]; rfl) ?_)
    | ((with_reducible refine gate_ (.load 35 (.tmp 6)) rfl ?_); refine wpList_load_row rfl 35 (.tmp 6) rfl g6 rfl 35 _ (0, 0) _ e6.out Try.underlying35 rfl (by rw [info35, HD.out.1]) ?_)
    | (go_at_call 19; (with_reducible refine (H19.out w6 Q6.out).mono ?_); rintro e w7 ⟨v1, v2, v3, rfl, r1, r2, r3, hw⟩; obtain ⟨B1_, j1, rfl, l1, h1_⟩ := Kd.R_reads r1; obtain ⟨B2_, j2, rfl, l2, h2_⟩ := Kd.N_reads r2; obtain ⟨B3_, j3, rfl, l3, h3_⟩ := Kd.N_reads r3; have HW := Aside0.mk (And.intro (And.intro l1 h1_) (And.intro (And.intro l2 h2_) (And.intro l3 h3_))); have D10 := Aside0.mk ((hw.block _ (lt_of_block C10.out)).trans C10.out); have N10 := Aside0.mk (lt_of_block C10.out); have N7 := Aside0.mk hw.size; have W7 := Aside0.mk (below_step W6.out hw); have Q7 := Aside0.mk (below_step Q6.out hw); clear hw r1 r2 r3 l1 l2 l3 h1_ h2_ h3_)
    | ((with_reducible refine gate_dst (N := 12) rfl ?_); refine box_event ?hg (N := 12) ?hd (cs := #[.bool false, .slice none 0 0, .slice none 0 0, .slice none 0 0]) (t := 54) ?hr ?_; (case hd => rfl); (case hg => rfl); (case hr => first | (go_simp; done) | (go_simp; rfl)); intro g12 eg w8 hb hw; have B12 := Aside0.mk hb; have L12 := Aside0.mk (show w7.heap.size ≤ g12 by rw [eg]; exact Nat.le_refl _); have Q8 := Aside0.mk hw; have E10 := Aside0.mk ((hw.block _ (lt_of_block D10.out)).trans D10.out); clear eg hb hw)
    | ((with_reducible refine gate_store (t := 54) (p := 12) rfl ?_); refine store_row_ev rfl rfl 54 (.tmp 12) (.tmp 30) rfl g12 #[.bool has, .slice B1_ of.length j1, .slice B2_ ds.length j2, .slice B3_ ns.length j3] rfl rfl 54 _ B12.out (by kernel_rfl) rfl (by kernel_rfl) ?_; intro w9 hb hf hk_; have C12 := Aside0.mk hb; have hw := hf _ _ Q8.out L12.out; have F10 := Aside0.mk ((hk_ g10 (by have := N10.out; have := L12.out; have := N7.out; omega)).trans E10.out); have W9 := Aside0.mk hw; have V9 := Aside0.mk (below_step W7.out hw); have Q9 := Aside0.mk (below_step Q7.out hw); clear hb hf hk_ hw B12)
    | ((with_reducible refine gate_ (.load 54 (.tmp 10)) rfl ?_); refine wpList_load_row rfl 54 (.tmp 10) rfl g10 rfl 54 _ (0, 0) _ F10.out Try.underlying54 rfl (by rw [info54]; rfl) ?_)
    | ((with_reducible refine gate_ (.load 54 (.tmp 12)) rfl ?_); refine wpList_load_row rfl 54 (.tmp 12) rfl g12 rfl 54 _ (0, 0) _ C12.out Try.underlying54 rfl (by rw [info54]; rfl) ?_)
    | (go_at_call 20; (with_reducible refine (rsame_calls w9 (has, of, ds, ns) A1_ k1 A2_ k2 A3_ k3 B1_ j1 B2_ j2 B3_ j3 (Kd.C_below HV.out.1.2 V9.out) HV.out.1.1 (Kd.C_below HV.out.2.1.2 V9.out) HV.out.2.1.1 (Kd.C_below HV.out.2.2.2 V9.out) HV.out.2.2.1 (Kd.C_below HW.out.1.2 W9.out) HW.out.1.1 (Kd.C_below HW.out.2.1.2 W9.out) HW.out.2.1.1 (Kd.C_below HW.out.2.2.2 W9.out) HW.out.2.2.1 HNN.out.1 HNN.out.2.1 HNN.out.2.2.1 HNN.out.2.2.2.1 HNN.out.2.2.2.2).mono ?_); rintro e w10 ⟨rfl, hw⟩; have Q10 := Aside0.mk (below_step Q9.out hw); clear hw))
  go_wp2_with (go_at_call 21; (with_reducible refine (shacklelaw00_Code.calls e1 e2 w10 HCO.out).mono ?_); rintro e w11 ⟨rfl, ⟨hd⟩⟩; have Q11 := Aside0.mk (below_step Q10.out (below_drawn hd)); clear hd)
  exact HP.out _ _ ⟨by simp, Q11.out⟩
end Go.Proofs.Ythopdoamajjojaa.VersR
