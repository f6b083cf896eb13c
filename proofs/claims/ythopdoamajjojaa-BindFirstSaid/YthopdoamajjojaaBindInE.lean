import Derived.Test.YthopdoamajjojaaBindIn2
namespace Go.Proofs.Ythopdoamajjojaa.BindS
open Go Go.RowKit Go.Proofs.YthopdoamajjojaaW.PrintWords Go.Proofs.YthopdoamajjojaaW.PrintLast Go.Proofs.YthopdoamajjojaaW.PrintMore
set_option linter.unusedVariables false
set_option linter.unusedSimpArgs false
set_option maxHeartbeats 16000000 in
set_option maxRecDepth 100000 in
theorem in_err {w : World} {cs : Array Value} {n0 version f0 : ByteArray} {eb e0 e1 e2 es : Value} {D : Array Value} (hp : Parts0 cs eb e0 e1 e2 es D) (l : List Int) (c : Int)
    (hl : ∀ W, Below w.heap.size w W → Calls Try.prog 13 #[eb, .agg #[e0, e1, e2], .agg D, es, .string n0] W fun e w' => ∃ A c', e = .returned (.tuple #[.slice A l.length c', .iface 97 (.int .i64 c)]) ∧ Kd.C (Kd.int .i64) w' A l.length l ∧ Below W.heap.size W w') :
    Calls Try.prog 48 #[.agg cs, .agg #[.string n0, .string version, .string f0]] w fun e w' => e = .returned (.tuple #[.int .i64 0, .iface 97 (.int .i64 c)]) ∧ Below w.heap.size w w' := by
  have HL := Aside0.mk hl
  have HP := Aside0.mk hp
  clear hl hp
  have hu127 := Try.underlying127
  have hu35 := Try.underlying35
  have hu32 := Try.underlying32
  have hu41 := Try.underlying41
  have hmf : ∀ (fn : Fn) (first cap : Array Value) (w : World), (Instr.makeFunc fn first cap).run Try.prog w = .ok (.func fn first cap) w := fun _ _ _ _ => rfl
  go_enter Try.func48, Try.ntmps48
  go_wp2_with (first
    | ((with_reducible refine gate_dst (N := 2) rfl ?_); refine box_event ?hg (N := 2) ?hd (cs := cs) (t := 127) ?hr ?_; (case hd => rfl); (case hg => rfl); (case hr => first | (go_simp; done) | (go_simp; rfl)); intro g hg w1 hb1 hw1; have HB := Aside0.mk hb1; have HW1 := Aside0.mk hw1; clear hg hb1 hw1)
    | ((with_reducible refine gate_dst (N := 3) rfl ?_); refine box_event ?hg (N := 3) ?hd (cs := #[.string n0, .string version, .string f0]) (t := 74) ?hr ?_; (case hd => rfl); (case hg => rfl); (case hr => first | (go_simp; done) | (go_simp; rfl)); intro g2 hg2 w2 hb2 hw2; have HC := Aside0.mk (show Caps w2 g g2 cs n0 version f0 from ⟨(hw2.block g (lt_of_block HB.out)).trans HB.out, hb2⟩); have k0 : w2.cell? ⟨g2, 0, none⟩ = some (.string n0) := (by rw [cell_of_row w2 g2 0 _ _ _ hb2]; rfl); have d0_ := (cell_of_row w2 g 0 _ _ _ HC.out.1).trans HP.out.h0; have d1_ := (cell_of_row w2 g 1 _ _ _ HC.out.1).trans HP.out.h1; have d2_ := (cell_of_row w2 g 2 _ _ _ HC.out.1).trans HP.out.h2; have d45_ := (cell_of_row w2 g 45 _ _ _ HC.out.1).trans HP.out.s; have d53_ := (cell_of_row w2 g 53 _ _ _ HC.out.1).trans HP.out.b; have HW2 := Aside0.mk (below_step HW1.out hw2); clear hg2 hb2 hw2 HB HW1)
    | ((with_reducible refine gate_ (.load 35 (.tmp 14)) rfl ?_); refine wpList_load_seg rfl 35 (.tmp 14) rfl g 4 rfl D (fun j v hv => (cell_of_row w2 g (4 + j) _ _ _ HC.out.1).trans (HP.out.d j v hv)) _ hu35 rfl (by rw [HP.out.dz]; exact info35) ?_)
    | (go_at_call 13; (with_reducible refine (HL.out _ HW2.out).mono ?_); rintro e w3 ⟨A3, c3, rfl, hrow, hw3⟩; have HW3 := Aside0.mk (below_step HW2.out hw3); clear hw3 hrow d0_ d1_ d2_ d45_ d53_ k0))
  go_ret2
  exact ⟨rfl, HW3.out⟩
end Go.Proofs.Ythopdoamajjojaa.BindS
