import Derived.Test.YthopdoamajjojaaBindIn
namespace Go.Proofs.Ythopdoamajjojaa.BindS
open Go Go.RowKit Go.Proofs.YthopdoamajjojaaW.PrintWords Go.Proofs.YthopdoamajjojaaW.PrintLast Go.Proofs.YthopdoamajjojaaW.PrintMore
set_option linter.unusedVariables false
set_option linter.unusedSimpArgs false
section
variable {P : Program}
theorem wpList_load_seg {ops : Array Oper} {rest : List Oper} {o : Oper} {a : Act} {w : World} {Q : Exit → Act → World → Prop} (hgd : o.guard = none) (ty : TypeId) (x : Operand) (ho : o.op = .load ty x)
    (g off : Nat) (hx : a.eval x = .pointer (some ⟨g, off, none⟩)) (vs : Array Value) (hc : ∀ j v, vs[j]? = some v → w.cell? ⟨g, off + j, none⟩ = some v) (d : TypeDesc)
    (hu : P.underlying ty = some d) (hd : (match d with | .struct _ | .array _ _ => true | _ => false) = true) (hi : (P.info? ty).map (·.size) = some vs.size)
    (h : wpList P ops Q rest (a.put o.dst (.agg vs)) w) : wpList P ops Q (o :: rest) a w := by
  refine wpList_plain hgd fun _ hK => ?_
  have hl : (loadCells ⟨g, off, none⟩ vs.toList.length).run P w = .ok vs.toList.toArray w :=
    run_loadCells_list (P := P) w ⟨g, off, none⟩ vs.toList (fun j v hv => by
      have hadd : (⟨g, off, none⟩ : Addr).add j = ⟨g, off + j, none⟩ := by unfold Addr.add; split <;> simp_all
      rw [hadd]
      exact hc j v (by simpa using hv))
  have hrun : (loadVar ty ⟨g, off, none⟩).run P w = .ok (.agg vs) w := by
    cases hq : P.info? ty with
    | none => simp [hq] at hi
    | some i =>
      have hs : i.size = vs.size := by simpa [hq] using hi
      have hagg : (isAgg ty).run P w = .ok true w := by
        unfold isAgg
        rw [Sem.run_bind, run_underlying hu w]
        cases d <;> simp_all
      simp only [Array.length_toList, Array.toArray_toList] at hl
      simp [loadVar, Sem.run_bind, hagg, sizeOf, typeInfo, hq, hs, hl]
  unfold Oper.wp execOp
  simp only [ho, hx, Instr.loadAt, Instr.sureAddr, Sem.run_bind, Sem.run_pure, Result.andThen_ok, hrun]
  exact hK _ _ h
end
theorem info35 : (Try.prog.info? 35).map (·.size) = some 37 := by kernel_rfl
structure Parts0 (cs : Array Value) (eb e0 e1 e2 es : Value) (D : Array Value) : Prop where
  b : cs[53]? = some eb
  h0 : cs[0]? = some e0
  h1 : cs[1]? = some e1
  h2 : cs[2]? = some e2
  s : cs[45]? = some es
  dz : D.size = 37
  d : ∀ j v, D[j]? = some v → cs[4 + j]? = some v
def inF (p : Int → Bool) (l : List Int) : Int := if idxP p l 0 < 0 then -1 else rd l (idxP p l 0)
section
variable {w : World} {cs : Array Value} {has : Bool} {ws : List Int} {ds : List (Int × Bool × ByteArray)} {ns : List (ByteArray × List (Int × ByteArray))} {ss : List Sm} {n0 version f0 : ByteArray} {eb e0 e1 e2 es : Value} {D : Array Value}
set_option maxHeartbeats 16000000 in
set_option maxRecDepth 100000 in
theorem in_ok (hh : Holds w cs has ws ds ns ss) (hp : Parts0 cs eb e0 e1 e2 es D) (l : List Int) (hin : ∀ x ∈ l, 0 ≤ x ∧ x < (ss.length : Int))
    (hl : ∀ W, Below w.heap.size w W → Calls Try.prog 13 #[eb, .agg #[e0, e1, e2], .agg D, es, .string n0] W fun e w' => ∃ A c, e = .returned (.tuple #[.slice A l.length c, .nilIface]) ∧ Kd.C (Kd.int .i64) w' A l.length l ∧ Below W.heap.size W w') :
    Calls Try.prog 48 #[.agg cs, .agg #[.string n0, .string version, .string f0]] w fun e w' => e = .returned (.tuple #[.int .i64 (inF (goodF has ws ds ns ss version) l), .nilIface]) ∧ Below w.heap.size w w' := by
  have HL := Aside0.mk hl
  have HH := Aside0.mk hh
  have HP := Aside0.mk hp
  have HIN := Aside0.mk hin
  have IC := Aside0.mk (fun (W : World) (hb : Below w.heap.size w W) (g g2 : Nat) (hc : Caps W g g2 cs n0 version f0) (A : Option Addr) (c : Nat) (hl : Kd.C (Kd.int .i64) W A l.length l) => indexg_calls (hh.up hb) hc A c l hl hin)
  obtain ⟨x, hx⟩ : ∃ x, x = idxP (goodF has ws ds ns ss version) l 0 := ⟨_, rfl⟩
  have HS := Aside0.mk (idxP_spec (goodF has ws ds ns ss version) l 0 (by omega))
  obtain ⟨r, hr⟩ : ∃ r, inF (goodF has ws ds ns ss version) l = r := ⟨_, rfl⟩
  rw [hr]
  unfold inF at hr
  rw [← hx] at IC HS hr
  have HR := Aside0.mk hr
  clear hl hh hp hin hx hr
  have hu127 := Try.underlying127
  have hu35 := Try.underlying35
  have hu32 := Try.underlying32
  have hmf : ∀ (fn : Fn) (first cap : Array Value) (w : World), (Instr.makeFunc fn first cap).run Try.prog w = .ok (.func fn first cap) w := fun _ _ _ _ => rfl
  by_cases hneg : x < 0
  · have hnb : decide (x < 0) = true := decide_eq_true hneg
    have HE := Aside0.mk (show (-1 : Int) = r by have h := HR.out; rw [if_pos hneg] at h; exact h)
    clear hneg HR HS
    go_enter Try.func48, Try.ntmps48
    go_wp2_with (first
      | ((with_reducible refine gate_dst (N := 2) rfl ?_); refine box_event ?hg (N := 2) ?hd (cs := cs) (t := 127) ?hr ?_; (case hd => rfl); (case hg => rfl); (case hr => first | (go_simp; done) | (go_simp; rfl)); intro g hg w1 hb1 hw1; have HB := Aside0.mk hb1; have HW1 := Aside0.mk hw1; clear hg hb1 hw1)
      | ((with_reducible refine gate_dst (N := 3) rfl ?_); refine box_event ?hg (N := 3) ?hd (cs := #[.string n0, .string version, .string f0]) (t := 74) ?hr ?_; (case hd => rfl); (case hg => rfl); (case hr => first | (go_simp; done) | (go_simp; rfl)); intro g2 hg2 w2 hb2 hw2; have HC := Aside0.mk (show Caps w2 g g2 cs n0 version f0 from ⟨(hw2.block g (lt_of_block HB.out)).trans HB.out, hb2⟩); have k0 : w2.cell? ⟨g2, 0, none⟩ = some (.string n0) := (by rw [cell_of_row w2 g2 0 _ _ _ hb2]; rfl); have d0_ := (cell_of_row w2 g 0 _ _ _ HC.out.1).trans HP.out.h0; have d1_ := (cell_of_row w2 g 1 _ _ _ HC.out.1).trans HP.out.h1; have d2_ := (cell_of_row w2 g 2 _ _ _ HC.out.1).trans HP.out.h2; have d45_ := (cell_of_row w2 g 45 _ _ _ HC.out.1).trans HP.out.s; have d53_ := (cell_of_row w2 g 53 _ _ _ HC.out.1).trans HP.out.b; have HW2 := Aside0.mk (below_step HW1.out hw2); clear hg2 hb2 hw2 HB HW1)
      | ((with_reducible refine gate_ (.load 35 (.tmp 14)) rfl ?_); refine wpList_load_seg rfl 35 (.tmp 14) rfl g 4 rfl D (fun j v hv => (cell_of_row w2 g (4 + j) _ _ _ HC.out.1).trans (HP.out.d j v hv)) _ hu35 rfl (by rw [HP.out.dz]; exact info35) ?_)
      | (go_at_call 13; (with_reducible refine (HL.out _ HW2.out).mono ?_); rintro e w3 ⟨A3, c3, rfl, hrow, hw3⟩; have HRW := Aside0.mk hrow; have HC3 := Aside0.mk (HC.out.up hw3); have HW3 := Aside0.mk (below_step HW2.out hw3); clear hw3 hrow d0_ d1_ d2_ d45_ d53_ k0)
      | (go_at_call 69; (with_reducible refine (IC.out _ HW3.out g g2 HC3.out A3 c3 HRW.out).mono ?_); rintro e w4 ⟨rfl, hw4⟩; have HW4 := Aside0.mk (below_step HW3.out hw4); clear hw4))
    go_ret2
    exact ⟨by rw [← HE.out]; rfl, HW4.out⟩
  · have hnb : decide (x < 0) = false := decide_eq_false hneg
    have HE := Aside0.mk (show rd l x = r by have h := HR.out; rw [if_neg hneg] at h; exact h)
    clear HR
    have P1 := Aside0.mk (show 0 ≤ x by omega)
    have Q1 := Aside0.mk (show x < (l.length : Int) by have := HS.out; omega)
    clear hneg
    obtain ⟨y, hy⟩ : ∃ y, y = rd l x := ⟨_, rfl⟩
    have p1 := eq_true P1.out
    have q1 := eq_true Q1.out
    go_enter Try.func48, Try.ntmps48
    go_wp2_with (first
      | ((with_reducible refine gate_dst (N := 2) rfl ?_); refine box_event ?hg (N := 2) ?hd (cs := cs) (t := 127) ?hr ?_; (case hd => rfl); (case hg => rfl); (case hr => first | (go_simp; done) | (go_simp; rfl)); intro g hg w1 hb1 hw1; have HB := Aside0.mk hb1; have HW1 := Aside0.mk hw1; clear hg hb1 hw1)
      | ((with_reducible refine gate_dst (N := 3) rfl ?_); refine box_event ?hg (N := 3) ?hd (cs := #[.string n0, .string version, .string f0]) (t := 74) ?hr ?_; (case hd => rfl); (case hg => rfl); (case hr => first | (go_simp; done) | (go_simp; rfl)); intro g2 hg2 w2 hb2 hw2; have HC := Aside0.mk (show Caps w2 g g2 cs n0 version f0 from ⟨(hw2.block g (lt_of_block HB.out)).trans HB.out, hb2⟩); have k0 : w2.cell? ⟨g2, 0, none⟩ = some (.string n0) := (by rw [cell_of_row w2 g2 0 _ _ _ hb2]; rfl); have d0_ := (cell_of_row w2 g 0 _ _ _ HC.out.1).trans HP.out.h0; have d1_ := (cell_of_row w2 g 1 _ _ _ HC.out.1).trans HP.out.h1; have d2_ := (cell_of_row w2 g 2 _ _ _ HC.out.1).trans HP.out.h2; have d45_ := (cell_of_row w2 g 45 _ _ _ HC.out.1).trans HP.out.s; have d53_ := (cell_of_row w2 g 53 _ _ _ HC.out.1).trans HP.out.b; have HW2 := Aside0.mk (below_step HW1.out hw2); clear hg2 hb2 hw2 HB HW1)
      | ((with_reducible refine gate_ (.load 35 (.tmp 14)) rfl ?_); refine wpList_load_seg rfl 35 (.tmp 14) rfl g 4 rfl D (fun j v hv => (cell_of_row w2 g (4 + j) _ _ _ HC.out.1).trans (HP.out.d j v hv)) _ hu35 rfl (by rw [HP.out.dz]; exact info35) ?_)
      | (go_at_call 13; (with_reducible refine (HL.out _ HW2.out).mono ?_); rintro e w3 ⟨A3, c3, rfl, hrow, hw3⟩; have HRW := Aside0.mk hrow; have HC3 := Aside0.mk (HC.out.up hw3); have HW3 := Aside0.mk (below_step HW2.out hw3); clear hw3 hrow d0_ d1_ d2_ d45_ d53_ k0)
      | (go_at_call 69; (with_reducible refine (IC.out _ HW3.out g g2 HC3.out A3 c3 HRW.out).mono ?_); rintro e w4 ⟨rfl, hw4⟩; have HW4 := Aside0.mk (below_step HW3.out hw4); obtain ⟨ad, eA, g0⟩ := Kd.at_int (Kd.C_below HRW.out hw4) x P1.out Q1.out; rw [← hy] at g0; subst eA; clear hw4))
    go_ret2
    exact ⟨by rw [← HE.out, ← hy]; rfl, HW4.out⟩
end
end Go.Proofs.Ythopdoamajjojaa.BindS
