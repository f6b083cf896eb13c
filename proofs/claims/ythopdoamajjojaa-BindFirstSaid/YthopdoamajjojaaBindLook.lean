import Derived.Test.YthopdoamajjojaaBindOne
namespace Go.Proofs.Ythopdoamajjojaa.BindS
open Go Go.RowKit Go.Proofs.YthopdoamajjojaaW.PrintWords Go.Proofs.YthopdoamajjojaaW.PrintLast Go.Proofs.YthopdoamajjojaaW.PrintMore
set_option linter.unusedVariables false
set_option linter.unusedSimpArgs false
theorem info32 : (Try.prog.info? 32).map (·.size) = some 3 := by kernel_rfl
theorem info86 : (Try.prog.info? 86).map (·.size) = some 4 := by kernel_rfl
theorem info88 : (Try.prog.info? 88).map (·.size) = some 2 := by kernel_rfl
section
variable {w : World} {Ab Ap As : Option Addr} {nb cb np cp ns cs : Nat} {n0 : ByteArray} {l : List Int}
def SysvIs (w : World) (Ab Ap : Option Addr) (nb cb np cp : Nat) : Prop :=
  ∀ W, Below w.heap.size w W → Calls Try.prog 30 #[.agg #[.slice Ab nb cb, .int .i64 0, .int .u64 0, .slice Ap np cp], .int .u64 256] W fun e w' => ∃ A1 n1 c1 A2 n2 c2, e = .returned (.tuple #[.agg #[.slice A1 n1 c1, .slice A2 n2 c2], .nilIface]) ∧ (Kd.int .u32).C w' A1 n1 [1] ∧ (Kd.int .u32).C w' A2 n2 [0, 0] ∧ n1 = 1 ∧ n2 = 2 ∧ n1 ≤ c1 ∧ n2 ≤ c2 ∧ Below W.heap.size W w'
set_option maxHeartbeats 16000000 in
set_option maxRecDepth 100000 in
theorem count1_calls (hs : SysvIs w Ab Ap nb cb np cp) :
    Calls Try.prog 12 #[.slice Ab nb cb, .agg #[.int .i64 0, .int .u64 0, .slice Ap np cp], .agg dyn1] w fun e w' => e = .returned (.tuple #[.int .i64 2, .nilIface]) ∧ Below w.heap.size w w' := by
  unfold SysvIs at hs
  have HS := Aside0.mk hs
  clear hs
  have hu32 := Try.underlying32
  have hu35 := Try.underlying35
  have hu86 := Try.underlying86
  have hu88 := Try.underlying88
  go_enter Try.func12, Try.ntmps12
  go_wp2_with (first
    | ((with_reducible refine gate_dst (N := 4) rfl ?_); refine box_event ?hg (N := 4) ?hd (cs := #[.int .i64 0, .int .u64 0, .slice Ap np cp]) (t := 32) ?hr ?_; (case hd => rfl); (case hg => rfl); (case hr => first | (go_simp; done) | (go_simp; rfl)); intro g4 hg w1 hb hw; have B4 := Aside0.mk hb; have HW := Aside0.mk hw;  clear hg hb hw)
    | ((with_reducible refine gate_dst (N := 5) rfl ?_); refine box_event ?hg (N := 5) ?hd (cs := dyn1) (t := 35) ?hr ?_; (case hd => rfl); (case hg => rfl); (case hr => first | (go_simp; done) | (go_simp; rfl)); intro g5 hg w2 hb hw; have B5 := Aside0.mk hb; replace B4 := Aside0.mk ((hw.block g4 (lt_of_block B4.out)).trans B4.out); replace HW := Aside0.mk (below_step HW.out hw);  clear hg hb hw)
    | ((with_reducible refine gate_ (.load 32 (.tmp 4)) rfl ?_); refine wpList_load_row rfl 32 (.tmp 4) rfl g4 rfl 32 (#[.int .i64 0, .int .u64 0, .slice Ap np cp]) (0, 0) _ B4.out hu32 rfl info32 ?_)
    | ((with_reducible refine gate_dst (N := 8) rfl ?_); refine box_event2 ?hg (N := 8) ?hd (cs := #[.slice Ab nb cb, .int .i64 0, .int .u64 0, .slice Ap np cp]) (t := 86) (v := .tmp 15) (zs := #[.slice none 0 0, .int .i64 0, .int .u64 0, .slice none 0 0]) ?hr rfl rfl rfl (fun _ => rfl) (fun _ => rfl) (by kernel_rfl) (by kernel_rfl) (by kernel_rfl) ?_; (case hd => rfl); (case hg => rfl); (case hr => first | (go_simp; done) | (go_simp; rfl)); intro g8 hg w3 hb hw; have B8 := Aside0.mk hb; replace B4 := Aside0.mk ((hw.block g4 (lt_of_block B4.out)).trans B4.out); replace B5 := Aside0.mk ((hw.block g5 (lt_of_block B5.out)).trans B5.out); replace HW := Aside0.mk (below_step HW.out hw); have d3_ := (cell_of_row w3 g5 3 _ _ _ B5.out).trans (show dyn1[3]? = some (.int .u64 256) from rfl);  clear hg hb hw)
    | ((with_reducible refine gate_ (.load 86 (.tmp 8)) rfl ?_); refine wpList_load_row rfl 86 (.tmp 8) rfl g8 rfl 86 (#[.slice Ab nb cb, .int .i64 0, .int .u64 0, .slice Ap np cp]) (0, 0) _ B8.out hu86 rfl info86 ?_)
    | (go_at_call 30; (with_reducible refine (HS.out _ HW.out).mono ?_); rintro e w4 ⟨A1, n1, c1, A2, n2, c2, rfl, hc1, hc2, rfl, rfl, hle1, hle2, hw⟩; replace HW := Aside0.mk (below_step HW.out hw); clear hc1 hc2 hle1 hle2 hw d3_)
    | ((with_reducible refine gate_dst (N := 9) rfl ?_); refine box_event2 ?hg (N := 9) ?hd (cs := #[.slice A1 1 c1, .slice A2 2 c2]) (t := 88) (v := .tmp 25) (zs := #[.slice none 0 0, .slice none 0 0]) ?hr rfl rfl rfl (fun _ => rfl) (fun _ => rfl) (by kernel_rfl) (by kernel_rfl) (by kernel_rfl) ?_; (case hd => rfl); (case hg => rfl); (case hr => first | (go_simp; done) | (go_simp; rfl)); intro g9 hg w5 hb hw; have B9 := Aside0.mk hb; replace HW := Aside0.mk (below_step HW.out hw); have k1_ := (cell_of_row w5 g9 1 _ _ _ B9.out).trans (show (#[.slice A1 1 c1, .slice A2 2 c2] : Array Value)[1]? = some (.slice A2 2 c2) from rfl);  clear hg hb hw))
  go_ret2
  exact ⟨rfl, HW.out⟩
set_option maxHeartbeats 16000000 in
set_option maxRecDepth 100000 in
theorem look1_calls (hs : SysvIs w Ab Ap nb cb np cp)
    (hk : ∀ W, Below w.heap.size w W → ∀ A1 c1 A2 c2, (Kd.int .u32).C W A1 1 [1] → (Kd.int .u32).C W A2 2 [0, 0] → 1 ≤ c1 → 2 ≤ c2 →
      Calls Try.prog 34 #[.agg #[.slice A1 1 c1, .slice A2 2 c2], .slice As ns cs, .string n0] W fun e w' => ∃ A c, e = .returned (.tuple #[.slice A l.length c, .nilIface]) ∧ (Kd.int .i64).C w' A l.length l ∧ Below W.heap.size W w') :
    Calls Try.prog 13 #[.slice Ab nb cb, .agg #[.int .i64 0, .int .u64 0, .slice Ap np cp], .agg dyn1, .slice As ns cs, .string n0] w fun e w' => ∃ A c, e = .returned (.tuple #[.slice A l.length c, .nilIface]) ∧ (Kd.int .i64).C w' A l.length l ∧ Below w.heap.size w w' := by
  unfold SysvIs at hs
  have HS := Aside0.mk hs
  have HK := Aside0.mk hk
  have HC := Aside0.mk (fun (W : World) (hb : Below w.heap.size w W) => count1_calls (w := W) (Ab := Ab) (Ap := Ap) (nb := nb) (cb := cb) (np := np) (cp := cp) (fun V hV => hs V (below_step hb hV)))
  clear hs hk
  have hu32 := Try.underlying32
  have hu35 := Try.underlying35
  have hu86 := Try.underlying86
  have hu88 := Try.underlying88
  go_enter Try.func13, Try.ntmps13
  go_wp2_with (first
    | ((with_reducible refine gate_dst (N := 6) rfl ?_); refine box_event ?hg (N := 6) ?hd (cs := #[.int .i64 0, .int .u64 0, .slice Ap np cp]) (t := 32) ?hr ?_; (case hd => rfl); (case hg => rfl); (case hr => first | (go_simp; done) | (go_simp; rfl)); intro g6 hg w1 hb hw; have B6 := Aside0.mk hb; have HW := Aside0.mk hw;  clear hg hb hw)
    | ((with_reducible refine gate_dst (N := 7) rfl ?_); refine box_event ?hg (N := 7) ?hd (cs := dyn1) (t := 35) ?hr ?_; (case hd => rfl); (case hg => rfl); (case hr => first | (go_simp; done) | (go_simp; rfl)); intro g7 hg w2 hb hw; have B7 := Aside0.mk hb; replace B6 := Aside0.mk ((hw.block g6 (lt_of_block B6.out)).trans B6.out); replace HW := Aside0.mk (below_step HW.out hw);  clear hg hb hw)
    | ((with_reducible refine gate_ (.load 32 (.tmp 6)) rfl ?_); refine wpList_load_row rfl 32 (.tmp 6) rfl g6 rfl 32 (#[.int .i64 0, .int .u64 0, .slice Ap np cp]) (0, 0) _ B6.out hu32 rfl info32 ?_)
    | ((with_reducible refine gate_ (.load 35 (.tmp 7)) rfl ?_); refine wpList_load_row rfl 35 (.tmp 7) rfl g7 rfl 35 (dyn1) (0, 0) _ B7.out hu35 rfl info35 ?_)
    | (go_at_call 12; (with_reducible refine (HC.out _ HW.out).mono ?_); rintro e w3 ⟨rfl, hw⟩; replace B6 := Aside0.mk ((hw.block g6 (lt_of_block B6.out)).trans B6.out); replace B7 := Aside0.mk ((hw.block g7 (lt_of_block B7.out)).trans B7.out); replace HW := Aside0.mk (below_step HW.out hw); clear hw)
    | ((with_reducible refine gate_dst (N := 14) rfl ?_); refine box_event2 ?hg (N := 14) ?hd (cs := #[.slice Ab nb cb, .int .i64 0, .int .u64 0, .slice Ap np cp]) (t := 86) (v := .tmp 33) (zs := #[.slice none 0 0, .int .i64 0, .int .u64 0, .slice none 0 0]) ?hr rfl rfl rfl (fun _ => rfl) (fun _ => rfl) (by kernel_rfl) (by kernel_rfl) (by kernel_rfl) ?_; (case hd => rfl); (case hg => rfl); (case hr => first | (go_simp; done) | (go_simp; rfl)); intro g14 hg w4 hb hw; have B14 := Aside0.mk hb; replace B6 := Aside0.mk ((hw.block g6 (lt_of_block B6.out)).trans B6.out); replace B7 := Aside0.mk ((hw.block g7 (lt_of_block B7.out)).trans B7.out); replace HW := Aside0.mk (below_step HW.out hw); have d3_ := (cell_of_row w4 g7 3 _ _ _ B7.out).trans (show dyn1[3]? = some (.int .u64 256) from rfl); have d25_ := (cell_of_row w4 g7 25 _ _ _ B7.out).trans (show dyn1[25]? = some (.int .u64 0) from rfl);  clear hg hb hw)
    | ((with_reducible refine gate_ (.load 86 (.tmp 14)) rfl ?_); refine wpList_load_row rfl 86 (.tmp 14) rfl g14 rfl 86 (#[.slice Ab nb cb, .int .i64 0, .int .u64 0, .slice Ap np cp]) (0, 0) _ B14.out hu86 rfl info86 ?_)
    | (go_at_call 30; (with_reducible refine (HS.out _ HW.out).mono ?_); rintro e w5 ⟨A1, n1, c1, A2, n2, c2, rfl, hc1, hc2, rfl, rfl, hle1, hle2, hw⟩; replace HW := Aside0.mk (below_step HW.out hw); have HC1 := Aside0.mk hc1; have HC2 := Aside0.mk hc2; have HL := Aside0.mk (And.intro hle1 hle2); clear hc1 hc2 hle1 hle2 hw d3_ d25_)
    | ((with_reducible refine gate_dst (N := 19) rfl ?_); refine box_event2 ?hg (N := 19) ?hd (cs := #[.slice A1 1 c1, .slice A2 2 c2]) (t := 88) (v := .tmp 71) (zs := #[.slice none 0 0, .slice none 0 0]) ?hr rfl rfl rfl (fun _ => rfl) (fun _ => rfl) (by kernel_rfl) (by kernel_rfl) (by kernel_rfl) ?_; (case hd => rfl); (case hg => rfl); (case hr => first | (go_simp; done) | (go_simp; rfl)); intro g19 hg w6 hb hw; have B19 := Aside0.mk hb; replace HC1 := Aside0.mk (Kd.C_below HC1.out hw); replace HC2 := Aside0.mk (Kd.C_below HC2.out hw); replace HW := Aside0.mk (below_step HW.out hw);  clear hg hb hw)
    | ((with_reducible refine gate_ (.load 88 (.tmp 19)) rfl ?_); refine wpList_load_row rfl 88 (.tmp 19) rfl g19 rfl 88 (#[.slice A1 1 c1, .slice A2 2 c2]) (0, 0) _ B19.out hu88 rfl info88 ?_)
    | (go_at_call 34; (with_reducible refine (HK.out _ HW.out A1 c1 A2 c2 HC1.out HC2.out HL.out.1 HL.out.2).mono ?_); rintro e w7 ⟨A3, c3, rfl, hc3, hw⟩; have HC3 := Aside0.mk hc3; replace HW := Aside0.mk (below_step HW.out hw); clear hc3 hw))
  go_ret2
  exact ⟨A3, c3, rfl, HC3.out, HW.out⟩
end
end Go.Proofs.Ythopdoamajjojaa.BindS
