/- bind.defines: whether a version is defined, or none is at all; over its closure, slices.ContainsFunc and slices.IndexFunc. -/
import Derived.Test.YthopdoamajjojaaProg
import Derived.Shelf.Bytes.SlIndexAt
import Derived.Lib.Hide
import Derived.Test.YthopdoamajjojaaWMore
import Derived.Test.YthopdoamajjojaaWNEv
import Derived.Test.YthopdoamajjojaaBoxes
import Derived.OneCell
namespace Go.Proofs.Ythopdoamajjojaa.BindS
open Go Go.RowKit Go.Proofs.YthopdoamajjojaaW.PrintWords Go.Proofs.YthopdoamajjojaaW.PrintLast Go.Proofs.YthopdoamajjojaaW.PrintMore
set_option linter.unusedVariables false
set_option linter.unusedSimpArgs false

set_option maxHeartbeats 8000000 in
theorem same_calls (c0 c1 c3 : Value) (s name : ByteArray) (b : Nat) (w : World) (hb : w.cell? ⟨b, 0, none⟩ = some (.string name)) :
    Calls Try.prog 74 #[.agg #[c0, c1, .string s, c3], .pointer (some ⟨b, 0, none⟩)] w fun e w' => e = .returned (.bool (s.toList == name.toList)) ∧ Below w.heap.size w w' := by
  go_enter Try.func74, Try.ntmps74
  go_wp2_with ((with_reducible refine gate_dst (N := 2) rfl ?_); refine box_event ?hg (N := 2) ?hd (cs := #[c0, c1, .string s, c3]) (t := 63) ?hr ?_; (case hd => rfl); (case hg => rfl); (case hr => first | (go_simp; done) | (go_simp; rfl)); intro g hg w1 hb1 hw1; have hb2 := (hw1.cell (World.block_lt_of_cell? w _ hb)).trans hb; have hs2 : w1.cell? ⟨g, 2, none⟩ = some (.string s) := (by rw [cell_of_row w1 g 2 _ _ _ hb1]; rfl); clear hg hb1 hb)
  go_ret
  exact ⟨rfl, hw1⟩
/-- where a name first stands, from i on; -1: nowhere -/
def idxS (name : ByteArray) : List ByteArray → Int → Int
  | [], _ => -1
  | s :: l, i => if (s.toList == name.toList) = true then i else idxS name l (i + 1)
/-- A row of definitions: of each its cells, with its name. -/
def DefRow (w : World) (A : Option Addr) (ns : List ByteArray) : Prop :=
  ∀ i : Int, 0 ≤ i → i < (ns.length : Int) → ∃ ad c0 c1 c3, A = some ad ∧ w.cell? (ad.add (i.toNat * 4)) = some c0 ∧ w.cell? ⟨(ad.add (i.toNat * 4)).block, (ad.add (i.toNat * 4)).off + 1, none⟩ = some c1 ∧
    w.cell? ⟨(ad.add (i.toNat * 4)).block, (ad.add (i.toNat * 4)).off + 2, none⟩ = some (.string (rdOf ByteArray.empty ns i)) ∧ w.cell? ⟨(ad.add (i.toNat * 4)).block, (ad.add (i.toNat * 4)).off + 3, none⟩ = some c3
theorem drop_rdOf {α : Type} (d : α) {l : List α} {i : Int} (h0 : 0 ≤ i) (h1 : i < l.length) : l.drop i.toNat = rdOf d l i :: l.drop (i + 1).toNat := by
  obtain ⟨j, rfl⟩ := Int.eq_ofNat_of_zero_le h0
  have hj : j < l.length := by omega
  rw [show ((j : Int) + 1).toNat = j + 1 by omega, Int.toNat_natCast, List.drop_eq_getElem_cons hj]
  simp [rdOf, hj]
theorem cell_up {w w1 : World} (h : Below w.heap.size w w1) {a : Addr} {v : Value} (hc : w.cell? a = some v) : w1.cell? a = some v := (h.cell (World.block_lt_of_cell? w _ hc)).trans hc
theorem DefRow.up {w w1 : World} {A : Option Addr} {ns : List ByteArray} (h : DefRow w A ns) (hb : Below w.heap.size w w1) : DefRow w1 A ns := by
  intro i h0 h1
  obtain ⟨ad, c0, c1, c3, e, a, b, c, d⟩ := h i h0 h1
  exact ⟨ad, c0, c1, c3, e, cell_up hb a, cell_up hb b, cell_up hb c, cell_up hb d⟩
set_option maxHeartbeats 8000000 in
set_option maxRecDepth 100000 in
theorem index_calls (A : Option Addr) (c : Nat) (ns : List ByteArray) (name : ByteArray) (b : Nat) (w : World) (hl : ns.length ≤ 9223372036854775807) (hr : DefRow w A ns) (hb : w.cell? ⟨b, 0, none⟩ = some (.string name)) :
    Calls Try.prog 78 #[.slice A ns.length c, .func (Fn.func 74) #[] #[.pointer (some ⟨b, 0, none⟩)]] w fun e w' => e = .returned (.int .i64 (idxS name ns 0)) ∧ Below w.heap.size w w' := by
  have HR := Aside0.mk hr
  have HB := Aside0.mk hb
  have HLN := Aside0.mk hl
  clear hr hb hl
  go_enter Try.func78, Try.ntmps78
  go_wp2
  go_loopg [8] ns.length (fun kq v8 w' => ∃ i : Int, v8 = .int .i64 i ∧ Aside0 (0 ≤ i ∧ i ≤ ns.length ∧ kq = ns.length - i.toNat) ∧ Aside0 (idxS name (ns.drop i.toNat) i = idxS name ns 0) ∧ Aside0 (Below w.heap.size w w'))
  case atStart => exact ⟨0, rfl, ⟨by omega⟩, ⟨rfl⟩, ⟨Below.refl _ _⟩⟩
  case round =>
    obtain ⟨i, rfl, HI, HX, HW⟩ := hrel
    have p1 := HI.out.1
    have hb := cell_up HW.out HB.out
    by_cases c4 : i < (ns.length : Int)
    · have q1 := c4
      have HV := Aside0.mk (show wrap64 (i + 1) = i + 1 by unfold wrap64; have := HI.out.1; have := HLN.out; omega)
      have HI2 : Aside0 (0 ≤ i + 1 ∧ i + 1 ≤ ns.length ∧ ns.length - (i + 1).toNat = ns.length - i.toNat - 1 ∧ ns.length - i.toNat - 1 < gk) := ⟨by have := HI.out; omega⟩
      have c4b0 : decide (i < (ns.length : Int)) = true := decide_eq_true c4
      obtain ⟨ad, d0, d1, d3, eA, g0, g1, g2, g3⟩ := (HR.out.up HW.out) i p1 q1
      subst eA
      have hx := HX.out
      rw [drop_rdOf ByteArray.empty p1 q1, idxS] at hx
      obtain ⟨s, hs⟩ : ∃ s, s = rdOf ByteArray.empty ns i := ⟨_, rfl⟩
      rw [← hs] at g2 hx
      clear hs c4 HX
      by_cases he : (s.toList == name.toList) = true
      · rw [if_pos he] at hx
        have HX := Aside0.mk hx
        clear hx
        replace p1 := eq_true p1
        replace q1 := eq_true q1
        go_wp2_with (go_at_call 74; (with_reducible refine (same_calls d0 d1 d3 s name b _ hb).mono ?_); rintro e w2 ⟨rfl, hw2⟩; rw [he])
        go_ret
        exact ⟨by rw [← HX.out]; rfl, below_then HW.out HW.out.size hw2⟩
      · rw [if_neg he] at hx
        have HX := Aside0.mk hx
        clear hx
        have he2 : (s.toList == name.toList) = false := by simpa using he
        clear he
        replace p1 := eq_true p1
        replace q1 := eq_true q1
        go_wp2_with (go_at_call 74; (with_reducible refine (same_calls d0 d1 d3 s name b _ hb).mono ?_); rintro e w2 ⟨rfl, hw2⟩; rw [he2]; have HW2 := Aside0.mk (below_then HW.out HW.out.size hw2); clear hw2)
        go_roundg (ns.length - i.toNat - 1)
        case measure => have := HI2.out; omega
        case rel => exact ⟨_, rfl, ⟨by rw [HV.out]; have := HI2.out; omega⟩, ⟨by rw [HV.out]; exact HX.out⟩, HW2⟩
    · have c4b0 : decide (i < (ns.length : Int)) = false := decide_eq_false c4
      have hi : ns.drop i.toNat = [] := List.drop_eq_nil_of_le (by have := HI.out; omega)
      have HX2 := Aside0.mk (show (-1 : Int) = idxS name ns 0 by have h := HX.out; rw [hi] at h; exact h)
      clear c4 hi HX
      go_wp2
      go_ret
      exact ⟨by rw [← HX2.out]; rfl, HW.out⟩
set_option maxHeartbeats 8000000 in
theorem contains_calls (A : Option Addr) (c : Nat) (ns : List ByteArray) (name : ByteArray) (b : Nat) (w : World) (hl : ns.length ≤ 9223372036854775807) (hr : DefRow w A ns) (hb : w.cell? ⟨b, 0, none⟩ = some (.string name)) :
    Calls Try.prog 73 #[.slice A ns.length c, .func (Fn.func 74) #[] #[.pointer (some ⟨b, 0, none⟩)]] w fun e w' => e = .returned (.bool (decide (0 ≤ idxS name ns 0))) ∧ Below w.heap.size w w' := by
  have HC := Aside0.mk (index_calls A c ns name b w hl hr hb)
  clear hr hb hl
  obtain ⟨x, hx⟩ : ∃ x, x = idxS name ns 0 := ⟨_, rfl⟩
  rw [← hx] at HC
  rw [← hx]
  clear hx
  go_enter Try.func73, Try.ntmps73
  go_wp2_with (go_at_call 78; (with_reducible refine HC.out.mono ?_); rintro e w2 ⟨rfl, hw2⟩)
  go_ret
  exact ⟨rfl, hw2⟩
/-- whether a version is defined, or none is at all -/
def definesF (ns : List ByteArray) (name : ByteArray) : Bool := if ns = [] then true else decide (0 ≤ idxS name ns 0)
set_option maxHeartbeats 8000000 in
theorem defines_calls (c0 c1 c3 : Value) (A : Option Addr) (c : Nat) (ns : List ByteArray) (name : ByteArray) (w : World) (hl : ns.length ≤ 9223372036854775807) (hr : DefRow w A ns) :
    Calls Try.prog 50 #[.agg #[c0, c1, .slice A ns.length c, c3], .string name] w fun e w' => e = .returned (.bool (definesF ns name)) ∧ Below w.heap.size w w' := by
  have HR := Aside0.mk hr
  have HL := Aside0.mk hl
  clear hr hl
  have hmf : ∀ (fn : Fn) (first cap : Array Value) (w : World), (Instr.makeFunc fn first cap).run Try.prog w = .ok (.func fn first cap) w := fun _ _ _ _ => rfl
  by_cases hn : ns = []
  · subst hn
    go_enter Try.func50, Try.ntmps50
    go_wp2_with (first
      | ((with_reducible refine gate_dst (N := 2) rfl ?_); refine box_event ?hg (N := 2) ?hd (cs := #[c0, c1, .slice A ([] : List ByteArray).length c, c3]) (t := 54) ?hr ?_; (case hd => rfl); (case hg => rfl); (case hr => first | (go_simp; done) | (go_simp; rfl)); intro g hg w1 hb1 hw1; have hs2 : w1.cell? ⟨g, 2, none⟩ = some (.slice A 0 c) := (by rw [cell_of_row w1 g 2 _ _ _ hb1]; rfl); have HW := Aside0.mk hw1; clear hg hb1 hw1)
      | ((with_reducible refine gate_dst (N := 3) rfl ?_); refine box_event ?hg (N := 3) ?hd (cs := #[.string name]) (t := 9) ?hr ?_; (case hd => rfl); (case hg => rfl); (case hr => first | (go_simp; done) | (go_simp; rfl)); intro g2 hg2 w2 hb2 hw2; replace hs2 := cell_up hw2 hs2; have HW2 := Aside0.mk (below_step HW.out hw2); clear hg2 hb2 hw2 HW))
    go_ret
    exact ⟨rfl, HW2.out⟩
  · have hp : 0 < ns.length := List.length_pos_iff.2 hn
    have hz : ((ns.length : Int) == 0) = false := by simp; exact hn
    have HD := Aside0.mk (show definesF ns name = decide (0 ≤ idxS name ns 0) by unfold definesF; rw [if_neg hn])
    clear hn hp
    go_enter Try.func50, Try.ntmps50
    go_wp2_with (first
      | ((with_reducible refine gate_dst (N := 2) rfl ?_); refine box_event ?hg (N := 2) ?hd (cs := #[c0, c1, .slice A ns.length c, c3]) (t := 54) ?hr ?_; (case hd => rfl); (case hg => rfl); (case hr => first | (go_simp; done) | (go_simp; rfl)); intro g hg w1 hb1 hw1; have hs2 : w1.cell? ⟨g, 2, none⟩ = some (.slice A ns.length c) := (by rw [cell_of_row w1 g 2 _ _ _ hb1]; rfl); have HW := Aside0.mk hw1; clear hg hb1 hw1)
      | ((with_reducible refine gate_dst (N := 3) rfl ?_); refine box_event ?hg (N := 3) ?hd (cs := #[.string name]) (t := 9) ?hr ?_; (case hd => rfl); (case hg => rfl); (case hr => first | (go_simp; done) | (go_simp; rfl)); intro g2 hg2 w2 hb2 hw2; replace hs2 := cell_up hw2 hs2; have HN := Aside0.mk (cell_of_one hb2); have HW2 := Aside0.mk (below_step HW.out hw2); clear hg2 hb2 hw2 HW)
      | (go_at_call 73; (with_reducible refine (contains_calls A c ns name g2 _ HL.out (HR.out.up HW2.out) HN.out).mono ?_); rintro e w3 ⟨rfl, hw3⟩; have HW3 := Aside0.mk (below_step HW2.out hw3); clear hw3))
    go_ret
    exact ⟨by rw [HD.out]; rfl, HW3.out⟩
end Go.Proofs.Ythopdoamajjojaa.BindS
