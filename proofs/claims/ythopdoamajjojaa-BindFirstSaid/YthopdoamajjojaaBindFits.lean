import Derived.Test.YthopdoamajjojaaBindWord
import Derived.Laws.Rows
namespace Go.Proofs.Ythopdoamajjojaa.BindS
open Go Go.RowKit Go.Proofs.YthopdoamajjojaaW.PrintWords Go.Proofs.YthopdoamajjojaaW.PrintLast Go.Proofs.YthopdoamajjojaaW.PrintMore
set_option linter.unusedVariables false
set_option linter.unusedSimpArgs false
def fitsF (has : Bool) (ws : List Int) (ds : List (Int × Bool × ByteArray)) (ns : List (ByteArray × List (Int × ByteArray))) (sym : Int) (version : ByteArray) : Bool :=
  if (wordF has ws sym).2 = false then true
  else if version.toList.isEmpty = true then !(Go.bits .and .i64 (wordF has ws sym).1 32768 != 0)
  else ((namedF ds ns (Go.bits .and .i64 (wordF has ws sym).1 32767)).2.2 && ((namedF ds ns (Go.bits .and .i64 (wordF has ws sym).1 32767)).1.toList == version.toList)) || (!(namedF ds ns (Go.bits .and .i64 (wordF has ws sym).1 32767)).2.2 && !(Go.bits .and .i64 (wordF has ws sym).1 32768 != 0))
theorem info127 : (Try.prog.info? 127).map (·.size) = some 54 := by kernel_rfl
set_option maxHeartbeats 16000000 in
set_option maxRecDepth 100000 in
theorem fits_calls (cs : Array Value) (has : Bool) (Ao Ad An : Option Addr) (co cd cn : Nat) (ws : List Int) (ds : List (Int × Bool × ByteArray)) (ns : List (ByteArray × List (Int × ByteArray))) (hc : Cells cs has Ao Ad An ws.length ds.length ns.length co cd cn) (sym : Int) (n0 version f0 : ByteArray) (w : World) (h0 : 0 ≤ sym)
    (hw : Kd.C (Kd.int .i64) w Ao ws.length ws) (hd : DRow w Ad ds) (hn : NRow w An ns) (hld : ds.length ≤ 9223372036854775807) (hln : ns.length ≤ 9223372036854775807) :
    Calls Try.prog 72 #[.agg cs, .int .i64 sym, .agg #[.string n0, .string version, .string f0]] w fun e w' => e = .returned (.bool (fitsF has ws ds ns sym version)) ∧ Below w.heap.size w w' := by
  have HC := Aside0.mk hc
  have HW := Aside0.mk hw
  have HD := Aside0.mk hd
  have HN := Aside0.mk hn
  have HLD := Aside0.mk hld
  have HLN := Aside0.mk hln
  have WC := Aside0.mk (fun (W : World) (hb : Below w.heap.size w W) => word_calls cs has Ao Ad An ds.length ns.length co cd cn ws hc sym W h0 (Kd.C_below hw hb))
  clear hw hd hn hld hln
  obtain ⟨r, hr⟩ : ∃ r, fitsF has ws ds ns sym version = r := ⟨_, rfl⟩
  rw [hr]
  unfold fitsF at hr
  obtain ⟨x, ok, hx⟩ : ∃ x ok, wordF has ws sym = (x, ok) := ⟨_, _, rfl⟩
  rw [hx] at hr WC
  simp only at hr WC
  clear hx h0
  have hu127 := Try.underlying127
  rcases ok with _ | _
  · rw [if_pos rfl] at hr
    have HR := Aside0.mk hr
    clear hr hc
    go_enter Try.func72, Try.ntmps72
    go_wp2_with (first
      | ((with_reducible refine gate_dst (N := 3) rfl ?_); refine box_event ?hg (N := 3) ?hd (cs := cs) (t := 127) ?hr ?_; (case hd => rfl); (case hg => rfl); (case hr => first | (go_simp; done) | (go_simp; rfl)); intro g hg w1 hb1 hw1; have HB := Aside0.mk hb1; have HW1 := Aside0.mk hw1; clear hg hb1 hw1)
      | ((with_reducible refine gate_dst (N := 5) rfl ?_); refine box_event ?hg (N := 5) ?hd (cs := #[.string n0, .string version, .string f0]) (t := 74) ?hr ?_; (case hd => rfl); (case hg => rfl); (case hr => first | (go_simp; done) | (go_simp; rfl)); intro g2 hg2 w2 hb2 hw2; have k1 : w2.cell? ⟨g2, 1, none⟩ = some (.string version) := (by rw [cell_of_row w2 g2 1 _ _ _ hb2]; rfl); have HB2 := Aside0.mk ((hw2.block g (lt_of_block HB.out)).trans HB.out); have HW2 := Aside0.mk (below_step HW1.out hw2); clear hg2 hb2 hw2 HB HW1)
      | ((with_reducible refine gate_ (.load 127 (.tmp 3)) rfl ?_); refine wpList_load_row rfl 127 (.tmp 3) rfl g rfl 127 cs (0, 0) _ HB2.out hu127 rfl (by rw [HC.out.sz]; exact info127) ?_)
      | (go_at_call 76; (with_reducible refine (WC.out _ HW2.out).mono ?_); rintro e w3 ⟨rfl, hw3⟩; have HW3 := Aside0.mk (below_step HW2.out hw3); clear hw3))
    go_ret
    exact ⟨by rw [← HR.out]; rfl, HW3.out⟩
  · rw [if_neg (by decide)] at hr
    obtain ⟨bh, hbh⟩ : ∃ bh, (Go.bits .and .i64 x 32768 != 0) = bh := ⟨_, rfl⟩
    rw [hbh] at hr
    rcases hv : version.toList.isEmpty with _ | _
    · rw [hv, if_neg (by decide)] at hr
      obtain ⟨nm, fl, told, hnm⟩ : ∃ nm fl told, namedF ds ns (Go.bits .and .i64 x 32767) = (nm, fl, told) := ⟨_, _, _, rfl⟩
      rw [hnm] at hr
      simp only at hr
      obtain ⟨be, hbe⟩ : ∃ be, (nm.toList == version.toList) = be := ⟨_, rfl⟩
      rw [hbe] at hr
      have hv2 : (version.toList == []) = false := by rw [← hv]; cases version.toList <;> rfl
      have NC := Aside0.mk (fun (W : World) (hb : Below w.heap.size w W) => named_calls (.bool has) (.slice Ao ws.length co) Ad An cd cn ds ns (Go.bits .and .i64 x 32767) W (HD.out.up hb) (HN.out.up hb) HLD.out HLN.out)
      rw [hnm] at NC
      simp only at NC
      have HR := Aside0.mk hr
      clear hr hc hnm
      rcases told with _ | _ <;> rcases be with _ | _ <;> rcases bh with _ | _
      all_goals (go_enter Try.func72, Try.ntmps72)
      all_goals go_wp2_with (first
      | ((with_reducible refine gate_dst (N := 3) rfl ?_); refine box_event ?hg (N := 3) ?hd (cs := cs) (t := 127) ?hr ?_; (case hd => rfl); (case hg => rfl); (case hr => first | (go_simp; done) | (go_simp; rfl)); intro g hg w1 hb1 hw1; have HB := Aside0.mk hb1; have d6 := (cell_of_row w1 g 46 _ _ _ hb1).trans HC.out.c46; have d7 := (cell_of_row w1 g 47 _ _ _ hb1).trans HC.out.c47; have d8 := (cell_of_row w1 g 48 _ _ _ hb1).trans HC.out.c48; have d9 := (cell_of_row w1 g 49 _ _ _ hb1).trans HC.out.c49; have HW1 := Aside0.mk hw1; clear hg hb1 hw1)
      | ((with_reducible refine gate_dst (N := 5) rfl ?_); refine box_event ?hg (N := 5) ?hd (cs := #[.string n0, .string version, .string f0]) (t := 74) ?hr ?_; (case hd => rfl); (case hg => rfl); (case hr => first | (go_simp; done) | (go_simp; rfl)); intro g2 hg2 w2 hb2 hw2; have k1 : w2.cell? ⟨g2, 1, none⟩ = some (.string version) := (by rw [cell_of_row w2 g2 1 _ _ _ hb2]; rfl); replace d6 := cell_up hw2 d6; replace d7 := cell_up hw2 d7; replace d8 := cell_up hw2 d8; replace d9 := cell_up hw2 d9; have HB2 := Aside0.mk ((hw2.block g (lt_of_block HB.out)).trans HB.out); have HW2 := Aside0.mk (below_step HW1.out hw2); clear hg2 hb2 hw2 HB HW1)
      | ((with_reducible refine gate_ (.load 127 (.tmp 3)) rfl ?_); refine wpList_load_row rfl 127 (.tmp 3) rfl g rfl 127 cs (0, 0) _ HB2.out hu127 rfl (by rw [HC.out.sz]; exact info127) ?_)
      | (go_at_call 76; (with_reducible refine (WC.out _ HW2.out).mono ?_); rintro e w3 ⟨rfl, hw3⟩; replace k1 := cell_up hw3 k1; replace d6 := cell_up hw3 d6; replace d7 := cell_up hw3 d7; replace d8 := cell_up hw3 d8; replace d9 := cell_up hw3 d9; have HW3 := Aside0.mk (below_step HW2.out hw3); clear hw3)
      | (go_at_call 77; (with_reducible refine (NC.out _ HW3.out).mono ?_); rintro e w4 ⟨rfl, hw4⟩; replace k1 := cell_up hw4 k1; have HW4 := Aside0.mk (below_step HW3.out hw4); clear hw4))
      all_goals go_ret
      all_goals exact ⟨by rw [← HR.out]; rfl, HW4.out⟩
    · rw [hv, if_pos rfl] at hr
      have hv2 : (version.toList == []) = true := by rw [← hv]; cases version.toList <;> rfl
      have HR := Aside0.mk hr
      clear hr hc
      rcases bh with _ | _
      all_goals (go_enter Try.func72, Try.ntmps72)
      all_goals go_wp2_with (first
      | ((with_reducible refine gate_dst (N := 3) rfl ?_); refine box_event ?hg (N := 3) ?hd (cs := cs) (t := 127) ?hr ?_; (case hd => rfl); (case hg => rfl); (case hr => first | (go_simp; done) | (go_simp; rfl)); intro g hg w1 hb1 hw1; have HB := Aside0.mk hb1; have d6 := (cell_of_row w1 g 46 _ _ _ hb1).trans HC.out.c46; have d7 := (cell_of_row w1 g 47 _ _ _ hb1).trans HC.out.c47; have d8 := (cell_of_row w1 g 48 _ _ _ hb1).trans HC.out.c48; have d9 := (cell_of_row w1 g 49 _ _ _ hb1).trans HC.out.c49; have HW1 := Aside0.mk hw1; clear hg hb1 hw1)
      | ((with_reducible refine gate_dst (N := 5) rfl ?_); refine box_event ?hg (N := 5) ?hd (cs := #[.string n0, .string version, .string f0]) (t := 74) ?hr ?_; (case hd => rfl); (case hg => rfl); (case hr => first | (go_simp; done) | (go_simp; rfl)); intro g2 hg2 w2 hb2 hw2; have k1 : w2.cell? ⟨g2, 1, none⟩ = some (.string version) := (by rw [cell_of_row w2 g2 1 _ _ _ hb2]; rfl); replace d6 := cell_up hw2 d6; replace d7 := cell_up hw2 d7; replace d8 := cell_up hw2 d8; replace d9 := cell_up hw2 d9; have HB2 := Aside0.mk ((hw2.block g (lt_of_block HB.out)).trans HB.out); have HW2 := Aside0.mk (below_step HW1.out hw2); clear hg2 hb2 hw2 HB HW1)
      | ((with_reducible refine gate_ (.load 127 (.tmp 3)) rfl ?_); refine wpList_load_row rfl 127 (.tmp 3) rfl g rfl 127 cs (0, 0) _ HB2.out hu127 rfl (by rw [HC.out.sz]; exact info127) ?_)
      | (go_at_call 76; (with_reducible refine (WC.out _ HW2.out).mono ?_); rintro e w3 ⟨rfl, hw3⟩; replace k1 := cell_up hw3 k1; replace d6 := cell_up hw3 d6; replace d7 := cell_up hw3 d7; replace d8 := cell_up hw3 d8; replace d9 := cell_up hw3 d9; have HW3 := Aside0.mk (below_step HW2.out hw3); clear hw3))
      all_goals go_ret
      all_goals exact ⟨by rw [← HR.out]; rfl, HW3.out⟩
end Go.Proofs.Ythopdoamajjojaa.BindS
