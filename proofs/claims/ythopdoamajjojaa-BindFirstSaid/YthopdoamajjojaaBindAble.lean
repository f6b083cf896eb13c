import Derived.Test.YthopdoamajjojaaBindDef
namespace Go.Proofs.Ythopdoamajjojaa.BindS
open Go Go.RowKit Go.Proofs.YthopdoamajjojaaW.PrintWords Go.Proofs.YthopdoamajjojaaW.PrintLast Go.Proofs.YthopdoamajjojaaW.PrintMore
set_option linter.unusedVariables false
set_option linter.unusedSimpArgs false
def ableF (bind type vis sect value : Int) : Bool :=
  (type == 0 || type == 1 || type == 2 || type == 6 || type == 10) && ((bind == 1 || bind == 2) && (vis == 0 || vis == 3) && (sect != 0) && ((value != 0) || type == 6 || sect == 65521))
set_option maxHeartbeats 8000000 in
set_option maxRecDepth 100000 in
theorem able_calls (c0 c6 : Value) (bind type vis sect value : Int) (w : World) :
    Calls Try.prog 71 #[.agg #[c0, .int .i64 bind, .int .i64 type, .int .i64 vis, .int .i64 sect, .int .u64 value, c6]] w fun e w' => e = .returned (.bool (ableF bind type vis sect value)) ∧ Below w.heap.size w w' := by
  obtain ⟨r, hr⟩ : ∃ r, r = ableF bind type vis sect value := ⟨_, rfl⟩
  rw [← hr]
  have HR := Aside0.mk hr
  clear hr
  go_enter Try.func71, Try.ntmps71
  go_wp2_with ((with_reducible refine gate_dst (N := 1) rfl ?_); refine box_event ?hg (N := 1) ?hd (cs := #[c0, .int .i64 bind, .int .i64 type, .int .i64 vis, .int .i64 sect, .int .u64 value, c6]) (t := 39) ?hr ?_; (case hd => rfl); (case hg => rfl); (case hr => first | (go_simp; done) | (go_simp; rfl)); intro g hg w1 hb1 hw1; have h1 : w1.cell? ⟨g, 1, none⟩ = some (.int .i64 bind) := (by rw [cell_of_row w1 g 1 _ _ _ hb1]; rfl); have h2 : w1.cell? ⟨g, 2, none⟩ = some (.int .i64 type) := (by rw [cell_of_row w1 g 2 _ _ _ hb1]; rfl); have h3 : w1.cell? ⟨g, 3, none⟩ = some (.int .i64 vis) := (by rw [cell_of_row w1 g 3 _ _ _ hb1]; rfl); have h4 : w1.cell? ⟨g, 4, none⟩ = some (.int .i64 sect) := (by rw [cell_of_row w1 g 4 _ _ _ hb1]; rfl); have h5 : w1.cell? ⟨g, 5, none⟩ = some (.int .u64 value) := (by rw [cell_of_row w1 g 5 _ _ _ hb1]; rfl); clear hg hb1)
  all_goals go_ret
  all_goals exact ⟨by rw [HR.out]; first | rfl | (simp [ableF]; done) | (simp [ableF, *]; done) | (clear HR h1 h2 h3 h4 h5 hw1; simp_all [ableF]; done), hw1⟩
end Go.Proofs.Ythopdoamajjojaa.BindS
