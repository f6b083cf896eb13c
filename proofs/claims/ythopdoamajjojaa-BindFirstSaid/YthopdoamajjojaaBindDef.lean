import Derived.Test.YthopdoamajjojaaProg
import Derived.Shelf.Bytes.SlIndexAt
import Derived.Lib.Hide
import Derived.Test.YthopdoamajjojaaWMore
import Derived.Test.YthopdoamajjojaaWNEv
import Derived.Test.YthopdoamajjojaaBoxes
import Derived.OneCell
namespace Go.Proofs.Ythopdoamajjojaa.BindS
open Go Go.RowKit Go.Proofs.YthopdoamajjojaaW.PrintWords Go.Proofs.YthopdoamajjojaaW.PrintLast Go.Proofs.YthopdoamajjojaaW.PrintMore
set_option linter.unusedVariables false
set_option linter.unusedSimpArgs false
def DefRow (w : World) (A : Option Addr) (ns : List ByteArray) : Prop :=
  ∀ i : Int, 0 ≤ i → i < (ns.length : Int) → ∃ ad c0 c1 c3, A = some ad ∧ w.cell? (ad.add (i.toNat * 4)) = some c0 ∧ w.cell? ⟨(ad.add (i.toNat * 4)).block, (ad.add (i.toNat * 4)).off + 1, none⟩ = some c1 ∧
    w.cell? ⟨(ad.add (i.toNat * 4)).block, (ad.add (i.toNat * 4)).off + 2, none⟩ = some (.string (rdOf ByteArray.empty ns i)) ∧ w.cell? ⟨(ad.add (i.toNat * 4)).block, (ad.add (i.toNat * 4)).off + 3, none⟩ = some c3
theorem drop_rdOf {α : Type} (d : α) {l : List α} {i : Int} (h0 : 0 ≤ i) (h1 : i < l.length) : l.drop i.toNat = rdOf d l i :: l.drop (i + 1).toNat := by
  obtain ⟨j, rfl⟩ := Int.eq_ofNat_of_zero_le h0
  have hj : j < l.length := by omega
  rw [show ((j : Int) + 1).toNat = j + 1 by omega, Int.toNat_natCast, List.drop_eq_getElem_cons hj]
  simp [rdOf, hj]
theorem cell_up {w w1 : World} (h : Below w.heap.size w w1) {a : Addr} {v : Value} (hc : w.cell? a = some v) : w1.cell? a = some v := (h.cell (World.block_lt_of_cell? w _ hc)).trans hc
theorem DefRow.up {w w1 : World} {A : Option Addr} {ns : List ByteArray} (h : DefRow w A ns) (hb : Below w.heap.size w w1) : DefRow w1 A ns := by
  intro i h0 h1
  obtain ⟨ad, c0, c1, c3, e, a, b, c, d⟩ := h i h0 h1
  exact ⟨ad, c0, c1, c3, e, cell_up hb a, cell_up hb b, cell_up hb c, cell_up hb d⟩
end Go.Proofs.Ythopdoamajjojaa.BindS
