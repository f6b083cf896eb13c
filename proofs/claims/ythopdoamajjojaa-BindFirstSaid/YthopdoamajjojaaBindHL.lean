import Derived.Test.YthopdoamajjojaaBindIn2
import Derived.Test.YthopdoamajjojaaBindFind
namespace Go.Proofs.Ythopdoamajjojaa.BindF
open Go Go.RowKit Go.Proofs.YthopdoamajjojaaW.PrintWords Go.Proofs.YthopdoamajjojaaW.PrintLast Go.Proofs.YthopdoamajjojaaW.PrintMore
open Go.Proofs.Ythopdoamajjojaa.BindS (info35)
set_option linter.unusedVariables false
set_option linter.unusedSimpArgs false
theorem info32 : (Try.prog.info? 32).map (·.size) = some 3 := by kernel_rfl
theorem info86 : (Try.prog.info? 86).map (·.size) = some 4 := by kernel_rfl
theorem info88 : (Try.prog.info? 88).map (·.size) = some 2 := by kernel_rfl
theorem info92 : (Try.prog.info? 92).map (·.size) = some 9 := by kernel_rfl
structure Fl where
  (A0 : Option Addr) (n0 c0 : Nat) (a1 a2 : Int) (A3 : Option Addr) (n3 c3 : Nat)
def Fl.v (f : Fl) : Array Value := #[.slice f.A0 f.n0 f.c0, .int .i64 f.a1, .int .u64 f.a2, .slice f.A3 f.n3 f.c3]
def SyI (w : World) (f : Fl) (x : Int) (v : Value) (T : World → Array Value → Prop) : Prop :=
  ∀ W, Below w.heap.size w W → Calls Try.prog 30 #[.agg #[.slice f.A0 f.n0 f.c0, .int .i64 f.a1, .int .u64 f.a2, .slice f.A3 f.n3 f.c3], .int .u64 x] W fun e w' => ∃ A1 n1 c1 A2 n2 c2, e = .returned (.tuple #[.agg #[.slice A1 n1 c1, .slice A2 n2 c2], v]) ∧ T w' #[.slice A1 n1 c1, .slice A2 n2 c2] ∧ Below W.heap.size W w'
def GnI (w : World) (f : Fl) (x : Int) (v : Value) (T : World → Array Value → Prop) : Prop :=
  ∀ W, Below w.heap.size w W → Calls Try.prog 31 #[.agg #[.slice f.A0 f.n0 f.c0, .int .i64 f.a1, .int .u64 f.a2, .slice f.A3 f.n3 f.c3], .int .u64 x] W fun e w' => ∃ A0 n0 c0 A3 n3 c3 A4 n4 c4 A5 n5 c5 b1 b2 b6 b7 b8, e = .returned (.tuple #[.agg #[.slice A0 n0 c0, .int .i64 b1, .int .u64 b2, .slice A3 n3 c3, .slice A4 n4 c4, .slice A5 n5 c5, .int .u32 b6, .int .u32 b7, .int .u64 b8], v]) ∧ T w' #[.slice A0 n0 c0, .int .i64 b1, .int .u64 b2, .slice A3 n3 c3, .slice A4 n4 c4, .slice A5 n5 c5, .int .u32 b6, .int .u32 b7, .int .u64 b8] ∧ Below W.heap.size W w'
def CoI (w : World) (v : Value) (T : World → Array Value → Prop) : Prop :=
  ∀ W c, Below w.heap.size w W → T W c → Calls Try.prog 32 #[.agg c] W fun e w' => ∃ n, e = .returned (.tuple #[.int .i64 n, v]) ∧ Below W.heap.size W w'
def LkI (w : World) (fn : Nat) (es : Value) (n0 : ByteArray) (v : Value) (l : List Int) (T : World → Array Value → Prop) : Prop :=
  ∀ W c, Below w.heap.size w W → T W c → Calls Try.prog fn #[.agg c, es, .string n0] W fun e w' => ∃ A c, e = .returned (.tuple #[.slice A l.length c, v]) ∧ Kd.C (Kd.int .i64) w' A l.length l ∧ Below W.heap.size W w'
def UpT (T : World → Array Value → Prop) : Prop := ∀ w1 w2 c, T w1 c → Below w1.heap.size w1 w2 → T w2 c
section
variable {w : World} {f : Fl} {D : Array Value} {x3 x25 : Int} {es v : Value} {n0 : ByteArray} {l : List Int} {T1 T2 : World → Array Value → Prop}
set_option maxHeartbeats 16000000 in
set_option maxRecDepth 100000 in
theorem countS (hD : D.size = 37) (h3 : D[3]? = some (.int .u64 x3)) (h25 : D[25]? = some (.int .u64 x25)) (hx3 : ¬ x3 = 0) (hs : SyI w f x3 v T1) :
    Calls Try.prog 12 #[.slice f.A0 f.n0 f.c0, .agg #[.int .i64 f.a1, .int .u64 f.a2, .slice f.A3 f.n3 f.c3], .agg D] w fun e w' => ∃ n, e = .returned (.tuple #[.int .i64 n, v]) ∧ Below w.heap.size w w' := by
  have HD := Aside0.mk hD
  have HX3 := Aside0.mk h3
  have HX25 := Aside0.mk h25
  unfold SyI at hs
  have HS := Aside0.mk hs
  clear hD h3 h25
  have e3 : (x3 = 0) = False := eq_false hx3
  have f3 : (x3 == 0) = false := by simpa using hx3
  have d3 : decide (x3 = 0) = false := by simpa using hx3
  have hu32 := Try.underlying32
  have hu35 := Try.underlying35
  have hu86 := Try.underlying86
  have hu88 := Try.underlying88
  have hu92 := Try.underlying92
  have hu41 := Try.underlying41
  go_enter Try.func12, Try.ntmps12
  go_wp2_with (first
    | ((with_reducible refine gate_dst (N := 4) rfl ?_); refine box_event ?hg (N := 4) ?hd (cs := #[.int .i64 f.a1, .int .u64 f.a2, .slice f.A3 f.n3 f.c3]) (t := 32) ?hr ?_; (case hd => rfl); (case hg => rfl); (case hr => first | (go_simp; done) | (go_simp; rfl)); intro g4 hg w1 hb hw; have B4 := Aside0.mk hb; have HW := Aside0.mk hw;  clear hg hb hw)
    | ((with_reducible refine gate_dst (N := 5) rfl ?_); refine box_event ?hg (N := 5) ?hd (cs := D) (t := 35) ?hr ?_; (case hd => rfl); (case hg => rfl); (case hr => first | (go_simp; done) | (go_simp; rfl)); intro g5 hg w2 hb hw; have B5 := Aside0.mk hb; replace B4 := Aside0.mk ((hw.block g4 (lt_of_block B4.out)).trans B4.out); replace HW := Aside0.mk (below_step HW.out hw);  clear hg hb hw)
    | ((with_reducible refine gate_ (.load 32 (.tmp 4)) rfl ?_); refine wpList_load_row rfl 32 (.tmp 4) rfl g4 rfl 32 (#[.int .i64 f.a1, .int .u64 f.a2, .slice f.A3 f.n3 f.c3]) (0, 0) _ B4.out hu32 rfl info32 ?_)
    | ((with_reducible refine gate_dst (N := 8) rfl ?_); refine box_event2 ?hg (N := 8) ?hd (cs := #[.slice f.A0 f.n0 f.c0, .int .i64 f.a1, .int .u64 f.a2, .slice f.A3 f.n3 f.c3]) (t := 86) (v := .tmp 15) (zs := #[.slice none 0 0, .int .i64 0, .int .u64 0, .slice none 0 0]) ?hr rfl rfl rfl (fun _ => rfl) (fun _ => rfl) (by kernel_rfl) (by kernel_rfl) (by kernel_rfl) ?_; (case hd => rfl); (case hg => rfl); (case hr => first | (go_simp; done) | (go_simp; rfl)); intro g8 hg w3 hb hw; have B8 := Aside0.mk hb; replace B4 := Aside0.mk ((hw.block g4 (lt_of_block B4.out)).trans B4.out); replace B5 := Aside0.mk ((hw.block g5 (lt_of_block B5.out)).trans B5.out); replace HW := Aside0.mk (below_step HW.out hw); have d3_ := (cell_of_row w3 g5 3 _ _ _ B5.out).trans HX3.out; have d25_ := (cell_of_row w3 g5 25 _ _ _ B5.out).trans HX25.out;  clear hg hb hw)
    | ((with_reducible refine gate_ (.load 86 (.tmp 8)) rfl ?_); refine wpList_load_row rfl 86 (.tmp 8) rfl g8 rfl 86 (#[.slice f.A0 f.n0 f.c0, .int .i64 f.a1, .int .u64 f.a2, .slice f.A3 f.n3 f.c3]) (0, 0) _ B8.out hu86 rfl info86 ?_)
    | (go_at_call 30; (with_reducible refine (HS.out _ HW.out).mono ?_); rintro e w4 ⟨A1, n1, c1, A2, n2, c2, rfl, ht, hw⟩; replace HW := Aside0.mk (below_step HW.out hw);  have HT1 := Aside0.mk ht; clear ht hw)
    | ((with_reducible refine gate_dst (N := 9) rfl ?_); refine box_event2 ?hg (N := 9) ?hd (cs := #[.slice A1 n1 c1, .slice A2 n2 c2]) (t := 88) (v := .tmp 25) (zs := #[.slice none 0 0, .slice none 0 0]) ?hr rfl rfl rfl (fun _ => rfl) (fun _ => rfl) (by kernel_rfl) (by kernel_rfl) (by kernel_rfl) ?_; (case hd => rfl); (case hg => rfl); (case hr => first | (go_simp; done) | (go_simp; rfl)); intro g9 hg w5 hb hw; have B9 := Aside0.mk hb; replace HW := Aside0.mk (below_step HW.out hw); have k1_ := (cell_of_row w5 g9 1 _ _ _ B9.out).trans (show (#[.slice A1 n1 c1, .slice A2 n2 c2] : Array Value)[1]? = some (.slice A2 n2 c2) from rfl);  clear hg hb hw))
  go_ret2
  exact ⟨_, rfl, HW.out⟩
set_option maxHeartbeats 16000000 in
set_option maxRecDepth 100000 in
theorem countG (hD : D.size = 37) (h3 : D[3]? = some (.int .u64 x3)) (h25 : D[25]? = some (.int .u64 x25)) (hx25 : ¬ x25 = 0) (hx3 : x3 = 0) (c : Int) (hv : v = .iface 97 (.int .i64 c)) (hg : GnI w f x25 v T2) :
    Calls Try.prog 12 #[.slice f.A0 f.n0 f.c0, .agg #[.int .i64 f.a1, .int .u64 f.a2, .slice f.A3 f.n3 f.c3], .agg D] w fun e w' => ∃ n, e = .returned (.tuple #[.int .i64 n, v]) ∧ Below w.heap.size w w' := by
  have HD := Aside0.mk hD
  have HX3 := Aside0.mk h3
  have HX25 := Aside0.mk h25
  subst hv hx3
  unfold GnI at hg
  have HG := Aside0.mk hg
  clear hD h3 h25
  have e25 : (x25 = 0) = False := eq_false hx25
  have f25 : (x25 == 0) = false := by simpa using hx25
  have d25 : decide (x25 = 0) = false := by simpa using hx25
  have hu32 := Try.underlying32
  have hu35 := Try.underlying35
  have hu86 := Try.underlying86
  have hu88 := Try.underlying88
  have hu92 := Try.underlying92
  have hu41 := Try.underlying41
  go_enter Try.func12, Try.ntmps12
  go_wp2_with (first
    | ((with_reducible refine gate_dst (N := 4) rfl ?_); refine box_event ?hg (N := 4) ?hd (cs := #[.int .i64 f.a1, .int .u64 f.a2, .slice f.A3 f.n3 f.c3]) (t := 32) ?hr ?_; (case hd => rfl); (case hg => rfl); (case hr => first | (go_simp; done) | (go_simp; rfl)); intro g4 hg w1 hb hw; have B4 := Aside0.mk hb; have HW := Aside0.mk hw;  clear hg hb hw)
    | ((with_reducible refine gate_dst (N := 5) rfl ?_); refine box_event ?hg (N := 5) ?hd (cs := D) (t := 35) ?hr ?_; (case hd => rfl); (case hg => rfl); (case hr => first | (go_simp; done) | (go_simp; rfl)); intro g5 hg w2 hb hw; have B5 := Aside0.mk hb; replace B4 := Aside0.mk ((hw.block g4 (lt_of_block B4.out)).trans B4.out); replace HW := Aside0.mk (below_step HW.out hw);  clear hg hb hw)
    | ((with_reducible refine gate_ (.load 32 (.tmp 4)) rfl ?_); refine wpList_load_row rfl 32 (.tmp 4) rfl g4 rfl 32 (#[.int .i64 f.a1, .int .u64 f.a2, .slice f.A3 f.n3 f.c3]) (0, 0) _ B4.out hu32 rfl info32 ?_)
    | ((with_reducible refine gate_dst (N := 8) rfl ?_); refine box_event2 ?hg (N := 8) ?hd (cs := #[.slice f.A0 f.n0 f.c0, .int .i64 f.a1, .int .u64 f.a2, .slice f.A3 f.n3 f.c3]) (t := 86) (v := .tmp 15) (zs := #[.slice none 0 0, .int .i64 0, .int .u64 0, .slice none 0 0]) ?hr rfl rfl rfl (fun _ => rfl) (fun _ => rfl) (by kernel_rfl) (by kernel_rfl) (by kernel_rfl) ?_; (case hd => rfl); (case hg => rfl); (case hr => first | (go_simp; done) | (go_simp; rfl)); intro g8 hg w3 hb hw; have B8 := Aside0.mk hb; replace B4 := Aside0.mk ((hw.block g4 (lt_of_block B4.out)).trans B4.out); replace B5 := Aside0.mk ((hw.block g5 (lt_of_block B5.out)).trans B5.out); replace HW := Aside0.mk (below_step HW.out hw); have d3_ := (cell_of_row w3 g5 3 _ _ _ B5.out).trans HX3.out; have d25_ := (cell_of_row w3 g5 25 _ _ _ B5.out).trans HX25.out;  clear hg hb hw)
    | ((with_reducible refine gate_ (.load 86 (.tmp 8)) rfl ?_); refine wpList_load_row rfl 86 (.tmp 8) rfl g8 rfl 86 (#[.slice f.A0 f.n0 f.c0, .int .i64 f.a1, .int .u64 f.a2, .slice f.A3 f.n3 f.c3]) (0, 0) _ B8.out hu86 rfl info86 ?_)
    | (go_at_call 31; (with_reducible refine (HG.out _ HW.out).mono ?_); rintro e w4 ⟨A0, n0_, c0, A3, n3, c3, A4, n4, c4, A5, n5, c5, b1, b2, b6, b7, b8, rfl, ht, hw⟩; replace HW := Aside0.mk (below_step HW.out hw);  have HT2 := Aside0.mk ht; clear ht hw)
    | ((with_reducible refine gate_dst (N := 11) rfl ?_); refine box_event2 ?hg (N := 11) ?hd (cs := #[.slice A0 n0_ c0, .int .i64 b1, .int .u64 b2, .slice A3 n3 c3, .slice A4 n4 c4, .slice A5 n5 c5, .int .u32 b6, .int .u32 b7, .int .u64 b8]) (t := 92) (v := .tmp 40) (zs := #[.slice none 0 0, .int .i64 0, .int .u64 0, .slice none 0 0, .slice none 0 0, .slice none 0 0, .int .u32 0, .int .u32 0, .int .u64 0]) ?hr rfl rfl rfl (fun _ => rfl) (fun _ => rfl) (by kernel_rfl) (by kernel_rfl) (by kernel_rfl) ?_; (case hd => rfl); (case hg => rfl); (case hr => first | (go_simp; done) | (go_simp; rfl)); intro g11 hg w5 hb hw; have B11 := Aside0.mk hb; replace HW := Aside0.mk (below_step HW.out hw);  clear hg hb hw))
  go_ret2
  exact ⟨_, rfl, HW.out⟩
set_option maxHeartbeats 16000000 in
set_option maxRecDepth 100000 in
theorem countC (hD : D.size = 37) (h3 : D[3]? = some (.int .u64 x3)) (h25 : D[25]? = some (.int .u64 x25)) (hx25 : ¬ x25 = 0) (hx3 : x3 = 0) (hg : GnI w f x25 .nilIface T2) (hc : CoI w v T2) (ht : UpT T2) :
    Calls Try.prog 12 #[.slice f.A0 f.n0 f.c0, .agg #[.int .i64 f.a1, .int .u64 f.a2, .slice f.A3 f.n3 f.c3], .agg D] w fun e w' => ∃ n, e = .returned (.tuple #[.int .i64 n, v]) ∧ Below w.heap.size w w' := by
  have HD := Aside0.mk hD
  have HX3 := Aside0.mk h3
  have HX25 := Aside0.mk h25
  subst hx3
  unfold GnI at hg
  have HG := Aside0.mk hg
  unfold CoI at hc
  have HC := Aside0.mk hc
  have HU := Aside0.mk ht
  clear ht
  clear hD h3 h25
  have e25 : (x25 = 0) = False := eq_false hx25
  have f25 : (x25 == 0) = false := by simpa using hx25
  have d25 : decide (x25 = 0) = false := by simpa using hx25
  have hu32 := Try.underlying32
  have hu35 := Try.underlying35
  have hu86 := Try.underlying86
  have hu88 := Try.underlying88
  have hu92 := Try.underlying92
  have hu41 := Try.underlying41
  go_enter Try.func12, Try.ntmps12
  go_wp2_with (first
    | ((with_reducible refine gate_dst (N := 4) rfl ?_); refine box_event ?hg (N := 4) ?hd (cs := #[.int .i64 f.a1, .int .u64 f.a2, .slice f.A3 f.n3 f.c3]) (t := 32) ?hr ?_; (case hd => rfl); (case hg => rfl); (case hr => first | (go_simp; done) | (go_simp; rfl)); intro g4 hg w1 hb hw; have B4 := Aside0.mk hb; have HW := Aside0.mk hw;  clear hg hb hw)
    | ((with_reducible refine gate_dst (N := 5) rfl ?_); refine box_event ?hg (N := 5) ?hd (cs := D) (t := 35) ?hr ?_; (case hd => rfl); (case hg => rfl); (case hr => first | (go_simp; done) | (go_simp; rfl)); intro g5 hg w2 hb hw; have B5 := Aside0.mk hb; replace B4 := Aside0.mk ((hw.block g4 (lt_of_block B4.out)).trans B4.out); replace HW := Aside0.mk (below_step HW.out hw);  clear hg hb hw)
    | ((with_reducible refine gate_ (.load 32 (.tmp 4)) rfl ?_); refine wpList_load_row rfl 32 (.tmp 4) rfl g4 rfl 32 (#[.int .i64 f.a1, .int .u64 f.a2, .slice f.A3 f.n3 f.c3]) (0, 0) _ B4.out hu32 rfl info32 ?_)
    | ((with_reducible refine gate_dst (N := 8) rfl ?_); refine box_event2 ?hg (N := 8) ?hd (cs := #[.slice f.A0 f.n0 f.c0, .int .i64 f.a1, .int .u64 f.a2, .slice f.A3 f.n3 f.c3]) (t := 86) (v := .tmp 15) (zs := #[.slice none 0 0, .int .i64 0, .int .u64 0, .slice none 0 0]) ?hr rfl rfl rfl (fun _ => rfl) (fun _ => rfl) (by kernel_rfl) (by kernel_rfl) (by kernel_rfl) ?_; (case hd => rfl); (case hg => rfl); (case hr => first | (go_simp; done) | (go_simp; rfl)); intro g8 hg w3 hb hw; have B8 := Aside0.mk hb; replace B4 := Aside0.mk ((hw.block g4 (lt_of_block B4.out)).trans B4.out); replace B5 := Aside0.mk ((hw.block g5 (lt_of_block B5.out)).trans B5.out); replace HW := Aside0.mk (below_step HW.out hw); have d3_ := (cell_of_row w3 g5 3 _ _ _ B5.out).trans HX3.out; have d25_ := (cell_of_row w3 g5 25 _ _ _ B5.out).trans HX25.out;  clear hg hb hw)
    | ((with_reducible refine gate_ (.load 86 (.tmp 8)) rfl ?_); refine wpList_load_row rfl 86 (.tmp 8) rfl g8 rfl 86 (#[.slice f.A0 f.n0 f.c0, .int .i64 f.a1, .int .u64 f.a2, .slice f.A3 f.n3 f.c3]) (0, 0) _ B8.out hu86 rfl info86 ?_)
    | (go_at_call 31; (with_reducible refine (HG.out _ HW.out).mono ?_); rintro e w4 ⟨A0, n0_, c0, A3, n3, c3, A4, n4, c4, A5, n5, c5, b1, b2, b6, b7, b8, rfl, ht, hw⟩; replace HW := Aside0.mk (below_step HW.out hw);  have HT2 := Aside0.mk ht; clear ht hw)
    | ((with_reducible refine gate_dst (N := 11) rfl ?_); refine box_event2 ?hg (N := 11) ?hd (cs := #[.slice A0 n0_ c0, .int .i64 b1, .int .u64 b2, .slice A3 n3 c3, .slice A4 n4 c4, .slice A5 n5 c5, .int .u32 b6, .int .u32 b7, .int .u64 b8]) (t := 92) (v := .tmp 40) (zs := #[.slice none 0 0, .int .i64 0, .int .u64 0, .slice none 0 0, .slice none 0 0, .slice none 0 0, .int .u32 0, .int .u32 0, .int .u64 0]) ?hr rfl rfl rfl (fun _ => rfl) (fun _ => rfl) (by kernel_rfl) (by kernel_rfl) (by kernel_rfl) ?_; (case hd => rfl); (case hg => rfl); (case hr => first | (go_simp; done) | (go_simp; rfl)); intro g11 hg w5 hb hw; have B11 := Aside0.mk hb; replace HT2 := Aside0.mk (HU.out _ _ _ HT2.out hw); replace HW := Aside0.mk (below_step HW.out hw);  clear hg hb hw)
    | ((with_reducible refine gate_ (.load 92 (.tmp 11)) rfl ?_); refine wpList_load_row rfl 92 (.tmp 11) rfl g11 rfl 92 (#[.slice A0 n0_ c0, .int .i64 b1, .int .u64 b2, .slice A3 n3 c3, .slice A4 n4 c4, .slice A5 n5 c5, .int .u32 b6, .int .u32 b7, .int .u64 b8]) (0, 0) _ B11.out hu92 rfl info92 ?_)
    | (go_at_call 32; (with_reducible refine (HC.out _ _ HW.out HT2.out).mono ?_); rintro e w6 ⟨n6, rfl, hw⟩; replace HW := Aside0.mk (below_step HW.out hw);  clear hw))
  go_ret2
  exact ⟨_, rfl, HW.out⟩
set_option maxHeartbeats 16000000 in
set_option maxRecDepth 100000 in
theorem countN (hD : D.size = 37) (h3 : D[3]? = some (.int .u64 x3)) (h25 : D[25]? = some (.int .u64 x25)) (hx25 : x25 = 0) (hx3 : x3 = 0) (hv : v = .nilIface) :
    Calls Try.prog 12 #[.slice f.A0 f.n0 f.c0, .agg #[.int .i64 f.a1, .int .u64 f.a2, .slice f.A3 f.n3 f.c3], .agg D] w fun e w' => ∃ n, e = .returned (.tuple #[.int .i64 n, v]) ∧ Below w.heap.size w w' := by
  have HD := Aside0.mk hD
  have HX3 := Aside0.mk h3
  have HX25 := Aside0.mk h25
  subst hv hx3 hx25
  clear hD h3 h25
  have hu32 := Try.underlying32
  have hu35 := Try.underlying35
  have hu86 := Try.underlying86
  have hu88 := Try.underlying88
  have hu92 := Try.underlying92
  have hu41 := Try.underlying41
  go_enter Try.func12, Try.ntmps12
  go_wp2_with (first
    | ((with_reducible refine gate_dst (N := 4) rfl ?_); refine box_event ?hg (N := 4) ?hd (cs := #[.int .i64 f.a1, .int .u64 f.a2, .slice f.A3 f.n3 f.c3]) (t := 32) ?hr ?_; (case hd => rfl); (case hg => rfl); (case hr => first | (go_simp; done) | (go_simp; rfl)); intro g4 hg w1 hb hw; have B4 := Aside0.mk hb; have HW := Aside0.mk hw;  clear hg hb hw)
    | ((with_reducible refine gate_dst (N := 5) rfl ?_); refine box_event ?hg (N := 5) ?hd (cs := D) (t := 35) ?hr ?_; (case hd => rfl); (case hg => rfl); (case hr => first | (go_simp; done) | (go_simp; rfl)); intro g5 hg w2 hb hw; have B5 := Aside0.mk hb; replace B4 := Aside0.mk ((hw.block g4 (lt_of_block B4.out)).trans B4.out); replace HW := Aside0.mk (below_step HW.out hw);  clear hg hb hw)
    | ((with_reducible refine gate_ (.load 32 (.tmp 4)) rfl ?_); refine wpList_load_row rfl 32 (.tmp 4) rfl g4 rfl 32 (#[.int .i64 f.a1, .int .u64 f.a2, .slice f.A3 f.n3 f.c3]) (0, 0) _ B4.out hu32 rfl info32 ?_)
    | ((with_reducible refine gate_dst (N := 8) rfl ?_); refine box_event2 ?hg (N := 8) ?hd (cs := #[.slice f.A0 f.n0 f.c0, .int .i64 f.a1, .int .u64 f.a2, .slice f.A3 f.n3 f.c3]) (t := 86) (v := .tmp 15) (zs := #[.slice none 0 0, .int .i64 0, .int .u64 0, .slice none 0 0]) ?hr rfl rfl rfl (fun _ => rfl) (fun _ => rfl) (by kernel_rfl) (by kernel_rfl) (by kernel_rfl) ?_; (case hd => rfl); (case hg => rfl); (case hr => first | (go_simp; done) | (go_simp; rfl)); intro g8 hg w3 hb hw; have B8 := Aside0.mk hb; replace B4 := Aside0.mk ((hw.block g4 (lt_of_block B4.out)).trans B4.out); replace B5 := Aside0.mk ((hw.block g5 (lt_of_block B5.out)).trans B5.out); replace HW := Aside0.mk (below_step HW.out hw); have d3_ := (cell_of_row w3 g5 3 _ _ _ B5.out).trans HX3.out; have d25_ := (cell_of_row w3 g5 25 _ _ _ B5.out).trans HX25.out;  clear hg hb hw)
    | ((with_reducible refine gate_ (.load 86 (.tmp 8)) rfl ?_); refine wpList_load_row rfl 86 (.tmp 8) rfl g8 rfl 86 (#[.slice f.A0 f.n0 f.c0, .int .i64 f.a1, .int .u64 f.a2, .slice f.A3 f.n3 f.c3]) (0, 0) _ B8.out hu86 rfl info86 ?_))
  go_ret2
  exact ⟨_, rfl, HW.out⟩
set_option maxHeartbeats 16000000 in
set_option maxRecDepth 100000 in
theorem lookE (hD : D.size = 37) (h3 : D[3]? = some (.int .u64 x3)) (h25 : D[25]? = some (.int .u64 x25)) (hc : ∀ W, Below w.heap.size w W → Calls Try.prog 12 #[.slice f.A0 f.n0 f.c0, .agg #[.int .i64 f.a1, .int .u64 f.a2, .slice f.A3 f.n3 f.c3], .agg D] W fun e w' => ∃ n, e = .returned (.tuple #[.int .i64 n, v]) ∧ Below W.heap.size W w') (c : Int) (hv : v = .iface 97 (.int .i64 c)) (hl : l = []) :
    Calls Try.prog 13 #[.slice f.A0 f.n0 f.c0, .agg #[.int .i64 f.a1, .int .u64 f.a2, .slice f.A3 f.n3 f.c3], .agg D, es, .string n0] w fun e w' => ∃ A c, e = .returned (.tuple #[.slice A l.length c, v]) ∧ Kd.C (Kd.int .i64) w' A l.length l ∧ Below w.heap.size w w' := by
  have HD := Aside0.mk hD
  have HX3 := Aside0.mk h3
  have HX25 := Aside0.mk h25
  subst hv hl
  have HC := Aside0.mk hc
  clear hc
  clear hD h3 h25
  have hu32 := Try.underlying32
  have hu35 := Try.underlying35
  have hu86 := Try.underlying86
  have hu88 := Try.underlying88
  have hu92 := Try.underlying92
  have hu41 := Try.underlying41
  go_enter Try.func13, Try.ntmps13
  go_wp2_with (first
    | ((with_reducible refine gate_dst (N := 6) rfl ?_); refine box_event ?hg (N := 6) ?hd (cs := #[.int .i64 f.a1, .int .u64 f.a2, .slice f.A3 f.n3 f.c3]) (t := 32) ?hr ?_; (case hd => rfl); (case hg => rfl); (case hr => first | (go_simp; done) | (go_simp; rfl)); intro g6 hg w1 hb hw; have B6 := Aside0.mk hb; have HW := Aside0.mk hw;  clear hg hb hw)
    | ((with_reducible refine gate_dst (N := 7) rfl ?_); refine box_event ?hg (N := 7) ?hd (cs := D) (t := 35) ?hr ?_; (case hd => rfl); (case hg => rfl); (case hr => first | (go_simp; done) | (go_simp; rfl)); intro g7 hg w2 hb hw; have B7 := Aside0.mk hb; replace B6 := Aside0.mk ((hw.block g6 (lt_of_block B6.out)).trans B6.out); replace HW := Aside0.mk (below_step HW.out hw);  clear hg hb hw)
    | ((with_reducible refine gate_ (.load 32 (.tmp 6)) rfl ?_); refine wpList_load_row rfl 32 (.tmp 6) rfl g6 rfl 32 (#[.int .i64 f.a1, .int .u64 f.a2, .slice f.A3 f.n3 f.c3]) (0, 0) _ B6.out hu32 rfl info32 ?_)
    | ((with_reducible refine gate_ (.load 35 (.tmp 7)) rfl ?_); refine wpList_load_row rfl 35 (.tmp 7) rfl g7 rfl 35 (D) (0, 0) _ B7.out hu35 rfl (by rw [HD.out]; exact info35) ?_)
    | (go_at_call 12; (with_reducible refine (HC.out _ HW.out).mono ?_); rintro e w3 ⟨n3_, rfl, hw⟩; replace B6 := Aside0.mk ((hw.block g6 (lt_of_block B6.out)).trans B6.out); replace B7 := Aside0.mk ((hw.block g7 (lt_of_block B7.out)).trans B7.out); replace HW := Aside0.mk (below_step HW.out hw);  clear hw))
  go_ret2
  exact ⟨_, _, rfl, Kd.C_nil _ _, HW.out⟩
set_option maxHeartbeats 16000000 in
set_option maxRecDepth 100000 in
theorem lookG (hD : D.size = 37) (h3 : D[3]? = some (.int .u64 x3)) (h25 : D[25]? = some (.int .u64 x25)) (hc : ∀ W, Below w.heap.size w W → Calls Try.prog 12 #[.slice f.A0 f.n0 f.c0, .agg #[.int .i64 f.a1, .int .u64 f.a2, .slice f.A3 f.n3 f.c3], .agg D] W fun e w' => ∃ n, e = .returned (.tuple #[.int .i64 n, .nilIface]) ∧ Below W.heap.size W w') (hx25 : ¬ x25 = 0) (c : Int) (hv : v = .iface 97 (.int .i64 c)) (hl : l = []) (hg : GnI w f x25 v T2) :
    Calls Try.prog 13 #[.slice f.A0 f.n0 f.c0, .agg #[.int .i64 f.a1, .int .u64 f.a2, .slice f.A3 f.n3 f.c3], .agg D, es, .string n0] w fun e w' => ∃ A c, e = .returned (.tuple #[.slice A l.length c, v]) ∧ Kd.C (Kd.int .i64) w' A l.length l ∧ Below w.heap.size w w' := by
  have HD := Aside0.mk hD
  have HX3 := Aside0.mk h3
  have HX25 := Aside0.mk h25
  subst hv hl
  unfold GnI at hg
  have HG := Aside0.mk hg
  have HC := Aside0.mk hc
  clear hc
  clear hD h3 h25
  have e25 : (x25 = 0) = False := eq_false hx25
  have f25 : (x25 == 0) = false := by simpa using hx25
  have d25 : decide (x25 = 0) = false := by simpa using hx25
  have hu32 := Try.underlying32
  have hu35 := Try.underlying35
  have hu86 := Try.underlying86
  have hu88 := Try.underlying88
  have hu92 := Try.underlying92
  have hu41 := Try.underlying41
  go_enter Try.func13, Try.ntmps13
  go_wp2_with (first
    | ((with_reducible refine gate_dst (N := 6) rfl ?_); refine box_event ?hg (N := 6) ?hd (cs := #[.int .i64 f.a1, .int .u64 f.a2, .slice f.A3 f.n3 f.c3]) (t := 32) ?hr ?_; (case hd => rfl); (case hg => rfl); (case hr => first | (go_simp; done) | (go_simp; rfl)); intro g6 hg w1 hb hw; have B6 := Aside0.mk hb; have HW := Aside0.mk hw;  clear hg hb hw)
    | ((with_reducible refine gate_dst (N := 7) rfl ?_); refine box_event ?hg (N := 7) ?hd (cs := D) (t := 35) ?hr ?_; (case hd => rfl); (case hg => rfl); (case hr => first | (go_simp; done) | (go_simp; rfl)); intro g7 hg w2 hb hw; have B7 := Aside0.mk hb; replace B6 := Aside0.mk ((hw.block g6 (lt_of_block B6.out)).trans B6.out); replace HW := Aside0.mk (below_step HW.out hw);  clear hg hb hw)
    | ((with_reducible refine gate_ (.load 32 (.tmp 6)) rfl ?_); refine wpList_load_row rfl 32 (.tmp 6) rfl g6 rfl 32 (#[.int .i64 f.a1, .int .u64 f.a2, .slice f.A3 f.n3 f.c3]) (0, 0) _ B6.out hu32 rfl info32 ?_)
    | ((with_reducible refine gate_ (.load 35 (.tmp 7)) rfl ?_); refine wpList_load_row rfl 35 (.tmp 7) rfl g7 rfl 35 (D) (0, 0) _ B7.out hu35 rfl (by rw [HD.out]; exact info35) ?_)
    | (go_at_call 12; (with_reducible refine (HC.out _ HW.out).mono ?_); rintro e w3 ⟨n3_, rfl, hw⟩; replace B6 := Aside0.mk ((hw.block g6 (lt_of_block B6.out)).trans B6.out); replace B7 := Aside0.mk ((hw.block g7 (lt_of_block B7.out)).trans B7.out); replace HW := Aside0.mk (below_step HW.out hw);  clear hw)
    | ((with_reducible refine gate_dst (N := 14) rfl ?_); refine box_event2 ?hg (N := 14) ?hd (cs := #[.slice f.A0 f.n0 f.c0, .int .i64 f.a1, .int .u64 f.a2, .slice f.A3 f.n3 f.c3]) (t := 86) (v := .tmp 33) (zs := #[.slice none 0 0, .int .i64 0, .int .u64 0, .slice none 0 0]) ?hr rfl rfl rfl (fun _ => rfl) (fun _ => rfl) (by kernel_rfl) (by kernel_rfl) (by kernel_rfl) ?_; (case hd => rfl); (case hg => rfl); (case hr => first | (go_simp; done) | (go_simp; rfl)); intro g14 hg w4 hb hw; have B14 := Aside0.mk hb; replace B6 := Aside0.mk ((hw.block g6 (lt_of_block B6.out)).trans B6.out); replace B7 := Aside0.mk ((hw.block g7 (lt_of_block B7.out)).trans B7.out); replace HW := Aside0.mk (below_step HW.out hw); have d3_ := (cell_of_row w4 g7 3 _ _ _ B7.out).trans HX3.out; have d25_ := (cell_of_row w4 g7 25 _ _ _ B7.out).trans HX25.out;  clear hg hb hw)
    | ((with_reducible refine gate_ (.load 86 (.tmp 14)) rfl ?_); refine wpList_load_row rfl 86 (.tmp 14) rfl g14 rfl 86 (#[.slice f.A0 f.n0 f.c0, .int .i64 f.a1, .int .u64 f.a2, .slice f.A3 f.n3 f.c3]) (0, 0) _ B14.out hu86 rfl info86 ?_)
    | (go_at_call 31; (with_reducible refine (HG.out _ HW.out).mono ?_); rintro e w5 ⟨A0, n0_, c0, A3, n3, c3, A4, n4, c4, A5, n5, c5, b1, b2, b6, b7, b8, rfl, ht, hw⟩; replace HW := Aside0.mk (below_step HW.out hw);  have HT2 := Aside0.mk ht; clear ht hw)
    | ((with_reducible refine gate_dst (N := 15) rfl ?_); refine box_event2 ?hg (N := 15) ?hd (cs := #[.slice A0 n0_ c0, .int .i64 b1, .int .u64 b2, .slice A3 n3 c3, .slice A4 n4 c4, .slice A5 n5 c5, .int .u32 b6, .int .u32 b7, .int .u64 b8]) (t := 92) (v := .tmp 43) (zs := #[.slice none 0 0, .int .i64 0, .int .u64 0, .slice none 0 0, .slice none 0 0, .slice none 0 0, .int .u32 0, .int .u32 0, .int .u64 0]) ?hr rfl rfl rfl (fun _ => rfl) (fun _ => rfl) (by kernel_rfl) (by kernel_rfl) (by kernel_rfl) ?_; (case hd => rfl); (case hg => rfl); (case hr => first | (go_simp; done) | (go_simp; rfl)); intro g15 hg w6 hb hw; have B15 := Aside0.mk hb; replace HW := Aside0.mk (below_step HW.out hw);  clear hg hb hw))
  go_ret2
  exact ⟨_, _, rfl, Kd.C_nil _ _, HW.out⟩
set_option maxHeartbeats 16000000 in
set_option maxRecDepth 100000 in
theorem lookC (hD : D.size = 37) (h3 : D[3]? = some (.int .u64 x3)) (h25 : D[25]? = some (.int .u64 x25)) (hc : ∀ W, Below w.heap.size w W → Calls Try.prog 12 #[.slice f.A0 f.n0 f.c0, .agg #[.int .i64 f.a1, .int .u64 f.a2, .slice f.A3 f.n3 f.c3], .agg D] W fun e w' => ∃ n, e = .returned (.tuple #[.int .i64 n, .nilIface]) ∧ Below W.heap.size W w') (hx25 : ¬ x25 = 0) (c : Int) (hv : v = .iface 97 (.int .i64 c)) (hl : l = []) (hg : GnI w f x25 .nilIface T2) (hk : CoI w v T2) (ht : UpT T2) :
    Calls Try.prog 13 #[.slice f.A0 f.n0 f.c0, .agg #[.int .i64 f.a1, .int .u64 f.a2, .slice f.A3 f.n3 f.c3], .agg D, es, .string n0] w fun e w' => ∃ A c, e = .returned (.tuple #[.slice A l.length c, v]) ∧ Kd.C (Kd.int .i64) w' A l.length l ∧ Below w.heap.size w w' := by
  have HD := Aside0.mk hD
  have HX3 := Aside0.mk h3
  have HX25 := Aside0.mk h25
  subst hv hl
  unfold GnI at hg
  have HG := Aside0.mk hg
  unfold CoI at hk
  have HK := Aside0.mk hk
  have HU := Aside0.mk ht
  clear ht
  have HC := Aside0.mk hc
  clear hc
  clear hD h3 h25
  have e25 : (x25 = 0) = False := eq_false hx25
  have f25 : (x25 == 0) = false := by simpa using hx25
  have d25 : decide (x25 = 0) = false := by simpa using hx25
  have hu32 := Try.underlying32
  have hu35 := Try.underlying35
  have hu86 := Try.underlying86
  have hu88 := Try.underlying88
  have hu92 := Try.underlying92
  have hu41 := Try.underlying41
  go_enter Try.func13, Try.ntmps13
  go_wp2_with (first
    | ((with_reducible refine gate_dst (N := 6) rfl ?_); refine box_event ?hg (N := 6) ?hd (cs := #[.int .i64 f.a1, .int .u64 f.a2, .slice f.A3 f.n3 f.c3]) (t := 32) ?hr ?_; (case hd => rfl); (case hg => rfl); (case hr => first | (go_simp; done) | (go_simp; rfl)); intro g6 hg w1 hb hw; have B6 := Aside0.mk hb; have HW := Aside0.mk hw;  clear hg hb hw)
    | ((with_reducible refine gate_dst (N := 7) rfl ?_); refine box_event ?hg (N := 7) ?hd (cs := D) (t := 35) ?hr ?_; (case hd => rfl); (case hg => rfl); (case hr => first | (go_simp; done) | (go_simp; rfl)); intro g7 hg w2 hb hw; have B7 := Aside0.mk hb; replace B6 := Aside0.mk ((hw.block g6 (lt_of_block B6.out)).trans B6.out); replace HW := Aside0.mk (below_step HW.out hw);  clear hg hb hw)
    | ((with_reducible refine gate_ (.load 32 (.tmp 6)) rfl ?_); refine wpList_load_row rfl 32 (.tmp 6) rfl g6 rfl 32 (#[.int .i64 f.a1, .int .u64 f.a2, .slice f.A3 f.n3 f.c3]) (0, 0) _ B6.out hu32 rfl info32 ?_)
    | ((with_reducible refine gate_ (.load 35 (.tmp 7)) rfl ?_); refine wpList_load_row rfl 35 (.tmp 7) rfl g7 rfl 35 (D) (0, 0) _ B7.out hu35 rfl (by rw [HD.out]; exact info35) ?_)
    | (go_at_call 12; (with_reducible refine (HC.out _ HW.out).mono ?_); rintro e w3 ⟨n3_, rfl, hw⟩; replace B6 := Aside0.mk ((hw.block g6 (lt_of_block B6.out)).trans B6.out); replace B7 := Aside0.mk ((hw.block g7 (lt_of_block B7.out)).trans B7.out); replace HW := Aside0.mk (below_step HW.out hw);  clear hw)
    | ((with_reducible refine gate_dst (N := 14) rfl ?_); refine box_event2 ?hg (N := 14) ?hd (cs := #[.slice f.A0 f.n0 f.c0, .int .i64 f.a1, .int .u64 f.a2, .slice f.A3 f.n3 f.c3]) (t := 86) (v := .tmp 33) (zs := #[.slice none 0 0, .int .i64 0, .int .u64 0, .slice none 0 0]) ?hr rfl rfl rfl (fun _ => rfl) (fun _ => rfl) (by kernel_rfl) (by kernel_rfl) (by kernel_rfl) ?_; (case hd => rfl); (case hg => rfl); (case hr => first | (go_simp; done) | (go_simp; rfl)); intro g14 hg w4 hb hw; have B14 := Aside0.mk hb; replace B6 := Aside0.mk ((hw.block g6 (lt_of_block B6.out)).trans B6.out); replace B7 := Aside0.mk ((hw.block g7 (lt_of_block B7.out)).trans B7.out); replace HW := Aside0.mk (below_step HW.out hw); have d3_ := (cell_of_row w4 g7 3 _ _ _ B7.out).trans HX3.out; have d25_ := (cell_of_row w4 g7 25 _ _ _ B7.out).trans HX25.out;  clear hg hb hw)
    | ((with_reducible refine gate_ (.load 86 (.tmp 14)) rfl ?_); refine wpList_load_row rfl 86 (.tmp 14) rfl g14 rfl 86 (#[.slice f.A0 f.n0 f.c0, .int .i64 f.a1, .int .u64 f.a2, .slice f.A3 f.n3 f.c3]) (0, 0) _ B14.out hu86 rfl info86 ?_)
    | (go_at_call 31; (with_reducible refine (HG.out _ HW.out).mono ?_); rintro e w5 ⟨A0, n0_, c0, A3, n3, c3, A4, n4, c4, A5, n5, c5, b1, b2, b6, b7, b8, rfl, ht, hw⟩; replace HW := Aside0.mk (below_step HW.out hw);  have HT2 := Aside0.mk ht; clear ht hw)
    | ((with_reducible refine gate_dst (N := 15) rfl ?_); refine box_event2 ?hg (N := 15) ?hd (cs := #[.slice A0 n0_ c0, .int .i64 b1, .int .u64 b2, .slice A3 n3 c3, .slice A4 n4 c4, .slice A5 n5 c5, .int .u32 b6, .int .u32 b7, .int .u64 b8]) (t := 92) (v := .tmp 43) (zs := #[.slice none 0 0, .int .i64 0, .int .u64 0, .slice none 0 0, .slice none 0 0, .slice none 0 0, .int .u32 0, .int .u32 0, .int .u64 0]) ?hr rfl rfl rfl (fun _ => rfl) (fun _ => rfl) (by kernel_rfl) (by kernel_rfl) (by kernel_rfl) ?_; (case hd => rfl); (case hg => rfl); (case hr => first | (go_simp; done) | (go_simp; rfl)); intro g15 hg w6 hb hw; have B15 := Aside0.mk hb; replace HT2 := Aside0.mk (HU.out _ _ _ HT2.out hw); replace HW := Aside0.mk (below_step HW.out hw);  clear hg hb hw)
    | ((with_reducible refine gate_ (.load 92 (.tmp 15)) rfl ?_); refine wpList_load_row rfl 92 (.tmp 15) rfl g15 rfl 92 (#[.slice A0 n0_ c0, .int .i64 b1, .int .u64 b2, .slice A3 n3 c3, .slice A4 n4 c4, .slice A5 n5 c5, .int .u32 b6, .int .u32 b7, .int .u64 b8]) (0, 0) _ B15.out hu92 rfl info92 ?_)
    | (go_at_call 32; (with_reducible refine (HK.out _ _ HW.out HT2.out).mono ?_); rintro e w7 ⟨n7, rfl, hw⟩; replace B15 := Aside0.mk ((hw.block g15 (lt_of_block B15.out)).trans B15.out); replace HT2 := Aside0.mk (HU.out _ _ _ HT2.out hw); replace HW := Aside0.mk (below_step HW.out hw);  clear hw))
  go_ret2
  exact ⟨_, _, rfl, Kd.C_nil _ _, HW.out⟩
set_option maxHeartbeats 16000000 in
set_option maxRecDepth 100000 in
theorem look2 (hD : D.size = 37) (h3 : D[3]? = some (.int .u64 x3)) (h25 : D[25]? = some (.int .u64 x25)) (hc : ∀ W, Below w.heap.size w W → Calls Try.prog 12 #[.slice f.A0 f.n0 f.c0, .agg #[.int .i64 f.a1, .int .u64 f.a2, .slice f.A3 f.n3 f.c3], .agg D] W fun e w' => ∃ n, e = .returned (.tuple #[.int .i64 n, .nilIface]) ∧ Below W.heap.size W w') (hx25 : ¬ x25 = 0) (hg : GnI w f x25 .nilIface T2) (hk : CoI w .nilIface T2) (hl : LkI w 33 es n0 v l T2) (ht : UpT T2) :
    Calls Try.prog 13 #[.slice f.A0 f.n0 f.c0, .agg #[.int .i64 f.a1, .int .u64 f.a2, .slice f.A3 f.n3 f.c3], .agg D, es, .string n0] w fun e w' => ∃ A c, e = .returned (.tuple #[.slice A l.length c, v]) ∧ Kd.C (Kd.int .i64) w' A l.length l ∧ Below w.heap.size w w' := by
  have HD := Aside0.mk hD
  have HX3 := Aside0.mk h3
  have HX25 := Aside0.mk h25
  unfold GnI at hg
  have HG := Aside0.mk hg
  unfold CoI at hk
  have HK := Aside0.mk hk
  have HU := Aside0.mk ht
  unfold LkI at hl
  have HLK := Aside0.mk hl
  clear ht
  have HC := Aside0.mk hc
  clear hc
  clear hD h3 h25
  have e25 : (x25 = 0) = False := eq_false hx25
  have f25 : (x25 == 0) = false := by simpa using hx25
  have d25 : decide (x25 = 0) = false := by simpa using hx25
  have hu32 := Try.underlying32
  have hu35 := Try.underlying35
  have hu86 := Try.underlying86
  have hu88 := Try.underlying88
  have hu92 := Try.underlying92
  have hu41 := Try.underlying41
  go_enter Try.func13, Try.ntmps13
  go_wp2_with (first
    | ((with_reducible refine gate_dst (N := 6) rfl ?_); refine box_event ?hg (N := 6) ?hd (cs := #[.int .i64 f.a1, .int .u64 f.a2, .slice f.A3 f.n3 f.c3]) (t := 32) ?hr ?_; (case hd => rfl); (case hg => rfl); (case hr => first | (go_simp; done) | (go_simp; rfl)); intro g6 hg w1 hb hw; have B6 := Aside0.mk hb; have HW := Aside0.mk hw;  clear hg hb hw)
    | ((with_reducible refine gate_dst (N := 7) rfl ?_); refine box_event ?hg (N := 7) ?hd (cs := D) (t := 35) ?hr ?_; (case hd => rfl); (case hg => rfl); (case hr => first | (go_simp; done) | (go_simp; rfl)); intro g7 hg w2 hb hw; have B7 := Aside0.mk hb; replace B6 := Aside0.mk ((hw.block g6 (lt_of_block B6.out)).trans B6.out); replace HW := Aside0.mk (below_step HW.out hw);  clear hg hb hw)
    | ((with_reducible refine gate_ (.load 32 (.tmp 6)) rfl ?_); refine wpList_load_row rfl 32 (.tmp 6) rfl g6 rfl 32 (#[.int .i64 f.a1, .int .u64 f.a2, .slice f.A3 f.n3 f.c3]) (0, 0) _ B6.out hu32 rfl info32 ?_)
    | ((with_reducible refine gate_ (.load 35 (.tmp 7)) rfl ?_); refine wpList_load_row rfl 35 (.tmp 7) rfl g7 rfl 35 (D) (0, 0) _ B7.out hu35 rfl (by rw [HD.out]; exact info35) ?_)
    | (go_at_call 12; (with_reducible refine (HC.out _ HW.out).mono ?_); rintro e w3 ⟨n3_, rfl, hw⟩; replace B6 := Aside0.mk ((hw.block g6 (lt_of_block B6.out)).trans B6.out); replace B7 := Aside0.mk ((hw.block g7 (lt_of_block B7.out)).trans B7.out); replace HW := Aside0.mk (below_step HW.out hw);  clear hw)
    | ((with_reducible refine gate_dst (N := 14) rfl ?_); refine box_event2 ?hg (N := 14) ?hd (cs := #[.slice f.A0 f.n0 f.c0, .int .i64 f.a1, .int .u64 f.a2, .slice f.A3 f.n3 f.c3]) (t := 86) (v := .tmp 33) (zs := #[.slice none 0 0, .int .i64 0, .int .u64 0, .slice none 0 0]) ?hr rfl rfl rfl (fun _ => rfl) (fun _ => rfl) (by kernel_rfl) (by kernel_rfl) (by kernel_rfl) ?_; (case hd => rfl); (case hg => rfl); (case hr => first | (go_simp; done) | (go_simp; rfl)); intro g14 hg w4 hb hw; have B14 := Aside0.mk hb; replace B6 := Aside0.mk ((hw.block g6 (lt_of_block B6.out)).trans B6.out); replace B7 := Aside0.mk ((hw.block g7 (lt_of_block B7.out)).trans B7.out); replace HW := Aside0.mk (below_step HW.out hw); have d3_ := (cell_of_row w4 g7 3 _ _ _ B7.out).trans HX3.out; have d25_ := (cell_of_row w4 g7 25 _ _ _ B7.out).trans HX25.out;  clear hg hb hw)
    | ((with_reducible refine gate_ (.load 86 (.tmp 14)) rfl ?_); refine wpList_load_row rfl 86 (.tmp 14) rfl g14 rfl 86 (#[.slice f.A0 f.n0 f.c0, .int .i64 f.a1, .int .u64 f.a2, .slice f.A3 f.n3 f.c3]) (0, 0) _ B14.out hu86 rfl info86 ?_)
    | (go_at_call 31; (with_reducible refine (HG.out _ HW.out).mono ?_); rintro e w5 ⟨A0, n0_, c0, A3, n3, c3, A4, n4, c4, A5, n5, c5, b1, b2, b6, b7, b8, rfl, ht, hw⟩; replace HW := Aside0.mk (below_step HW.out hw);  have HT2 := Aside0.mk ht; clear ht hw)
    | ((with_reducible refine gate_dst (N := 15) rfl ?_); refine box_event2 ?hg (N := 15) ?hd (cs := #[.slice A0 n0_ c0, .int .i64 b1, .int .u64 b2, .slice A3 n3 c3, .slice A4 n4 c4, .slice A5 n5 c5, .int .u32 b6, .int .u32 b7, .int .u64 b8]) (t := 92) (v := .tmp 43) (zs := #[.slice none 0 0, .int .i64 0, .int .u64 0, .slice none 0 0, .slice none 0 0, .slice none 0 0, .int .u32 0, .int .u32 0, .int .u64 0]) ?hr rfl rfl rfl (fun _ => rfl) (fun _ => rfl) (by kernel_rfl) (by kernel_rfl) (by kernel_rfl) ?_; (case hd => rfl); (case hg => rfl); (case hr => first | (go_simp; done) | (go_simp; rfl)); intro g15 hg w6 hb hw; have B15 := Aside0.mk hb; replace HT2 := Aside0.mk (HU.out _ _ _ HT2.out hw); replace HW := Aside0.mk (below_step HW.out hw);  clear hg hb hw)
    | ((with_reducible refine gate_ (.load 92 (.tmp 15)) rfl ?_); refine wpList_load_row rfl 92 (.tmp 15) rfl g15 rfl 92 (#[.slice A0 n0_ c0, .int .i64 b1, .int .u64 b2, .slice A3 n3 c3, .slice A4 n4 c4, .slice A5 n5 c5, .int .u32 b6, .int .u32 b7, .int .u64 b8]) (0, 0) _ B15.out hu92 rfl info92 ?_)
    | (go_at_call 32; (with_reducible refine (HK.out _ _ HW.out HT2.out).mono ?_); rintro e w7 ⟨n7, rfl, hw⟩; replace B15 := Aside0.mk ((hw.block g15 (lt_of_block B15.out)).trans B15.out); replace HT2 := Aside0.mk (HU.out _ _ _ HT2.out hw); replace HW := Aside0.mk (below_step HW.out hw);  clear hw)
    | (go_at_call 33; (with_reducible refine (HLK.out _ _ HW.out HT2.out).mono ?_); rintro e w8 ⟨A8, c8, rfl, hl8, hw⟩; replace HW := Aside0.mk (below_step HW.out hw);  have HL := Aside0.mk hl8; clear hw hl8))
  go_ret2
  exact ⟨_, _, rfl, HL.out, HW.out⟩
set_option maxHeartbeats 16000000 in
set_option maxRecDepth 100000 in
theorem look1 (hD : D.size = 37) (h3 : D[3]? = some (.int .u64 x3)) (h25 : D[25]? = some (.int .u64 x25)) (hc : ∀ W, Below w.heap.size w W → Calls Try.prog 12 #[.slice f.A0 f.n0 f.c0, .agg #[.int .i64 f.a1, .int .u64 f.a2, .slice f.A3 f.n3 f.c3], .agg D] W fun e w' => ∃ n, e = .returned (.tuple #[.int .i64 n, .nilIface]) ∧ Below W.heap.size W w') (hx25 : x25 = 0) (hx3 : ¬ x3 = 0) (hs : SyI w f x3 .nilIface T1) (hl : LkI w 34 es n0 v l T1) (ht : UpT T1) :
    Calls Try.prog 13 #[.slice f.A0 f.n0 f.c0, .agg #[.int .i64 f.a1, .int .u64 f.a2, .slice f.A3 f.n3 f.c3], .agg D, es, .string n0] w fun e w' => ∃ A c, e = .returned (.tuple #[.slice A l.length c, v]) ∧ Kd.C (Kd.int .i64) w' A l.length l ∧ Below w.heap.size w w' := by
  have HD := Aside0.mk hD
  have HX3 := Aside0.mk h3
  have HX25 := Aside0.mk h25
  subst hx25
  unfold SyI at hs
  have HS := Aside0.mk hs
  have HU := Aside0.mk ht
  unfold LkI at hl
  have HLK := Aside0.mk hl
  clear ht
  have HC := Aside0.mk hc
  clear hc
  clear hD h3 h25
  have e3 : (x3 = 0) = False := eq_false hx3
  have f3 : (x3 == 0) = false := by simpa using hx3
  have d3 : decide (x3 = 0) = false := by simpa using hx3
  have hu32 := Try.underlying32
  have hu35 := Try.underlying35
  have hu86 := Try.underlying86
  have hu88 := Try.underlying88
  have hu92 := Try.underlying92
  have hu41 := Try.underlying41
  go_enter Try.func13, Try.ntmps13
  go_wp2_with (first
    | ((with_reducible refine gate_dst (N := 6) rfl ?_); refine box_event ?hg (N := 6) ?hd (cs := #[.int .i64 f.a1, .int .u64 f.a2, .slice f.A3 f.n3 f.c3]) (t := 32) ?hr ?_; (case hd => rfl); (case hg => rfl); (case hr => first | (go_simp; done) | (go_simp; rfl)); intro g6 hg w1 hb hw; have B6 := Aside0.mk hb; have HW := Aside0.mk hw;  clear hg hb hw)
    | ((with_reducible refine gate_dst (N := 7) rfl ?_); refine box_event ?hg (N := 7) ?hd (cs := D) (t := 35) ?hr ?_; (case hd => rfl); (case hg => rfl); (case hr => first | (go_simp; done) | (go_simp; rfl)); intro g7 hg w2 hb hw; have B7 := Aside0.mk hb; replace B6 := Aside0.mk ((hw.block g6 (lt_of_block B6.out)).trans B6.out); replace HW := Aside0.mk (below_step HW.out hw);  clear hg hb hw)
    | ((with_reducible refine gate_ (.load 32 (.tmp 6)) rfl ?_); refine wpList_load_row rfl 32 (.tmp 6) rfl g6 rfl 32 (#[.int .i64 f.a1, .int .u64 f.a2, .slice f.A3 f.n3 f.c3]) (0, 0) _ B6.out hu32 rfl info32 ?_)
    | ((with_reducible refine gate_ (.load 35 (.tmp 7)) rfl ?_); refine wpList_load_row rfl 35 (.tmp 7) rfl g7 rfl 35 (D) (0, 0) _ B7.out hu35 rfl (by rw [HD.out]; exact info35) ?_)
    | (go_at_call 12; (with_reducible refine (HC.out _ HW.out).mono ?_); rintro e w3 ⟨n3_, rfl, hw⟩; replace B6 := Aside0.mk ((hw.block g6 (lt_of_block B6.out)).trans B6.out); replace B7 := Aside0.mk ((hw.block g7 (lt_of_block B7.out)).trans B7.out); replace HW := Aside0.mk (below_step HW.out hw);  clear hw)
    | ((with_reducible refine gate_dst (N := 14) rfl ?_); refine box_event2 ?hg (N := 14) ?hd (cs := #[.slice f.A0 f.n0 f.c0, .int .i64 f.a1, .int .u64 f.a2, .slice f.A3 f.n3 f.c3]) (t := 86) (v := .tmp 33) (zs := #[.slice none 0 0, .int .i64 0, .int .u64 0, .slice none 0 0]) ?hr rfl rfl rfl (fun _ => rfl) (fun _ => rfl) (by kernel_rfl) (by kernel_rfl) (by kernel_rfl) ?_; (case hd => rfl); (case hg => rfl); (case hr => first | (go_simp; done) | (go_simp; rfl)); intro g14 hg w4 hb hw; have B14 := Aside0.mk hb; replace B6 := Aside0.mk ((hw.block g6 (lt_of_block B6.out)).trans B6.out); replace B7 := Aside0.mk ((hw.block g7 (lt_of_block B7.out)).trans B7.out); replace HW := Aside0.mk (below_step HW.out hw); have d3_ := (cell_of_row w4 g7 3 _ _ _ B7.out).trans HX3.out; have d25_ := (cell_of_row w4 g7 25 _ _ _ B7.out).trans HX25.out;  clear hg hb hw)
    | ((with_reducible refine gate_ (.load 86 (.tmp 14)) rfl ?_); refine wpList_load_row rfl 86 (.tmp 14) rfl g14 rfl 86 (#[.slice f.A0 f.n0 f.c0, .int .i64 f.a1, .int .u64 f.a2, .slice f.A3 f.n3 f.c3]) (0, 0) _ B14.out hu86 rfl info86 ?_)
    | (go_at_call 30; (with_reducible refine (HS.out _ HW.out).mono ?_); rintro e w5 ⟨A1, n1, c1, A2, n2, c2, rfl, ht, hw⟩; replace HW := Aside0.mk (below_step HW.out hw);  have HT1 := Aside0.mk ht; clear ht hw)
    | ((with_reducible refine gate_dst (N := 19) rfl ?_); refine box_event2 ?hg (N := 19) ?hd (cs := #[.slice A1 n1 c1, .slice A2 n2 c2]) (t := 88) (v := .tmp 71) (zs := #[.slice none 0 0, .slice none 0 0]) ?hr rfl rfl rfl (fun _ => rfl) (fun _ => rfl) (by kernel_rfl) (by kernel_rfl) (by kernel_rfl) ?_; (case hd => rfl); (case hg => rfl); (case hr => first | (go_simp; done) | (go_simp; rfl)); intro g19 hg w6 hb hw; have B19 := Aside0.mk hb; replace HT1 := Aside0.mk (HU.out _ _ _ HT1.out hw); replace HW := Aside0.mk (below_step HW.out hw);  clear hg hb hw)
    | ((with_reducible refine gate_ (.load 88 (.tmp 19)) rfl ?_); refine wpList_load_row rfl 88 (.tmp 19) rfl g19 rfl 88 (#[.slice A1 n1 c1, .slice A2 n2 c2]) (0, 0) _ B19.out hu88 rfl info88 ?_)
    | (go_at_call 34; (with_reducible refine (HLK.out _ _ HW.out HT1.out).mono ?_); rintro e w8 ⟨A8, c8, rfl, hl8, hw⟩; replace HW := Aside0.mk (below_step HW.out hw);  have HL := Aside0.mk hl8; clear hw hl8))
  go_ret2
  exact ⟨_, _, rfl, HL.out, HW.out⟩
set_option maxHeartbeats 16000000 in
set_option maxRecDepth 100000 in
theorem look0 (hD : D.size = 37) (h3 : D[3]? = some (.int .u64 x3)) (h25 : D[25]? = some (.int .u64 x25)) (hc : ∀ W, Below w.heap.size w W → Calls Try.prog 12 #[.slice f.A0 f.n0 f.c0, .agg #[.int .i64 f.a1, .int .u64 f.a2, .slice f.A3 f.n3 f.c3], .agg D] W fun e w' => ∃ n, e = .returned (.tuple #[.int .i64 n, .nilIface]) ∧ Below W.heap.size W w') (hx25 : x25 = 0) (hx3 : x3 = 0) (hv : v = .nilIface) (hl : l = []) :
    Calls Try.prog 13 #[.slice f.A0 f.n0 f.c0, .agg #[.int .i64 f.a1, .int .u64 f.a2, .slice f.A3 f.n3 f.c3], .agg D, es, .string n0] w fun e w' => ∃ A c, e = .returned (.tuple #[.slice A l.length c, v]) ∧ Kd.C (Kd.int .i64) w' A l.length l ∧ Below w.heap.size w w' := by
  have HD := Aside0.mk hD
  have HX3 := Aside0.mk h3
  have HX25 := Aside0.mk h25
  subst hv hl hx25 hx3
  have HC := Aside0.mk hc
  clear hc
  clear hD h3 h25
  have hu32 := Try.underlying32
  have hu35 := Try.underlying35
  have hu86 := Try.underlying86
  have hu88 := Try.underlying88
  have hu92 := Try.underlying92
  have hu41 := Try.underlying41
  go_enter Try.func13, Try.ntmps13
  go_wp2_with (first
    | ((with_reducible refine gate_dst (N := 6) rfl ?_); refine box_event ?hg (N := 6) ?hd (cs := #[.int .i64 f.a1, .int .u64 f.a2, .slice f.A3 f.n3 f.c3]) (t := 32) ?hr ?_; (case hd => rfl); (case hg => rfl); (case hr => first | (go_simp; done) | (go_simp; rfl)); intro g6 hg w1 hb hw; have B6 := Aside0.mk hb; have HW := Aside0.mk hw;  clear hg hb hw)
    | ((with_reducible refine gate_dst (N := 7) rfl ?_); refine box_event ?hg (N := 7) ?hd (cs := D) (t := 35) ?hr ?_; (case hd => rfl); (case hg => rfl); (case hr => first | (go_simp; done) | (go_simp; rfl)); intro g7 hg w2 hb hw; have B7 := Aside0.mk hb; replace B6 := Aside0.mk ((hw.block g6 (lt_of_block B6.out)).trans B6.out); replace HW := Aside0.mk (below_step HW.out hw);  clear hg hb hw)
    | ((with_reducible refine gate_ (.load 32 (.tmp 6)) rfl ?_); refine wpList_load_row rfl 32 (.tmp 6) rfl g6 rfl 32 (#[.int .i64 f.a1, .int .u64 f.a2, .slice f.A3 f.n3 f.c3]) (0, 0) _ B6.out hu32 rfl info32 ?_)
    | ((with_reducible refine gate_ (.load 35 (.tmp 7)) rfl ?_); refine wpList_load_row rfl 35 (.tmp 7) rfl g7 rfl 35 (D) (0, 0) _ B7.out hu35 rfl (by rw [HD.out]; exact info35) ?_)
    | (go_at_call 12; (with_reducible refine (HC.out _ HW.out).mono ?_); rintro e w3 ⟨n3_, rfl, hw⟩; replace B6 := Aside0.mk ((hw.block g6 (lt_of_block B6.out)).trans B6.out); replace B7 := Aside0.mk ((hw.block g7 (lt_of_block B7.out)).trans B7.out); replace HW := Aside0.mk (below_step HW.out hw);  clear hw)
    | ((with_reducible refine gate_dst (N := 14) rfl ?_); refine box_event2 ?hg (N := 14) ?hd (cs := #[.slice f.A0 f.n0 f.c0, .int .i64 f.a1, .int .u64 f.a2, .slice f.A3 f.n3 f.c3]) (t := 86) (v := .tmp 33) (zs := #[.slice none 0 0, .int .i64 0, .int .u64 0, .slice none 0 0]) ?hr rfl rfl rfl (fun _ => rfl) (fun _ => rfl) (by kernel_rfl) (by kernel_rfl) (by kernel_rfl) ?_; (case hd => rfl); (case hg => rfl); (case hr => first | (go_simp; done) | (go_simp; rfl)); intro g14 hg w4 hb hw; have B14 := Aside0.mk hb; replace B6 := Aside0.mk ((hw.block g6 (lt_of_block B6.out)).trans B6.out); replace B7 := Aside0.mk ((hw.block g7 (lt_of_block B7.out)).trans B7.out); replace HW := Aside0.mk (below_step HW.out hw); have d3_ := (cell_of_row w4 g7 3 _ _ _ B7.out).trans HX3.out; have d25_ := (cell_of_row w4 g7 25 _ _ _ B7.out).trans HX25.out;  clear hg hb hw)
    | ((with_reducible refine gate_ (.load 86 (.tmp 14)) rfl ?_); refine wpList_load_row rfl 86 (.tmp 14) rfl g14 rfl 86 (#[.slice f.A0 f.n0 f.c0, .int .i64 f.a1, .int .u64 f.a2, .slice f.A3 f.n3 f.c3]) (0, 0) _ B14.out hu86 rfl info86 ?_))
  go_ret2
  exact ⟨_, _, rfl, Kd.C_nil _ _, HW.out⟩
end
end Go.Proofs.Ythopdoamajjojaa.BindF
