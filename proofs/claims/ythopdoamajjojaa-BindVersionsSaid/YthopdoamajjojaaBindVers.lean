/- bind.Versions: the first version that isn't there. -/
import Derived.Test.YthopdoamajjojaaBindOne
import Derived.DataElems
import Derived.StillTailTactics
namespace Go.Proofs.Ythopdoamajjojaa.BindS
open Go Go.RowKit Go.Proofs.YthopdoamajjojaaW.PrintWords Go.Proofs.YthopdoamajjojaaW.PrintLast Go.Proofs.YthopdoamajjojaaW.PrintMore
set_option linter.unusedVariables false
set_option linter.unusedSimpArgs false
section
variable {P : Program}
theorem wpList_load_at {ops : Array Oper} {rest : List Oper} {o : Oper} {a : Act} {w : World} {Q : Exit → Act → World → Prop} (hgd : o.guard = none) (ty : TypeId) (x : Operand) (ho : o.op = .load ty x)
    (ad : Addr) (hx : a.eval x = .pointer (some ad)) (vs : List Value) (hc : ∀ j v, vs[j]? = some v → w.cell? (ad.add j) = some v) (d : TypeDesc)
    (hu : P.underlying ty = some d) (hd : (match d with | .struct _ | .array _ _ => true | _ => false) = true) (hi : (P.info? ty).map (·.size) = some vs.length)
    (h : wpList P ops Q rest (a.put o.dst (.agg vs.toArray)) w) : wpList P ops Q (o :: rest) a w := by
  refine wpList_plain hgd fun _ hK => ?_
  have hl : (loadCells ad vs.length).run P w = .ok vs.toArray w := run_loadCells_list (P := P) w ad vs hc
  have hrun : (loadVar ty ad).run P w = .ok (.agg vs.toArray) w := by
    cases hq : P.info? ty with
    | none => simp [hq] at hi
    | some i =>
      have hs : i.size = vs.length := by simpa [hq] using hi
      have hagg : (isAgg ty).run P w = .ok true w := by
        unfold isAgg
        rw [Sem.run_bind, run_underlying hu w]
        cases d <;> simp_all
      simp [loadVar, Sem.run_bind, hagg, sizeOf, typeInfo, hq, hs, hl]
  unfold Oper.wp execOp
  simp only [ho, hx, Instr.loadAt, Instr.sureAddr, Sem.run_bind, Sem.run_pure, Result.andThen_ok, hrun]
  exact hK _ _ h
end
/-- a need: its file, its versions (weak, name) -/
abbrev Nd := ByteArray × List (Bool × ByteArray)
/-- an object: its name, its needs, the names that it defines -/
abbrev OV := ByteArray × List Nd × List ByteArray
def nd0 : Nd := (ByteArray.empty, [])
def ax0 : Bool × ByteArray := (false, ByteArray.empty)
def ov0 : OV := (ByteArray.empty, [], [])
def AxRow (w : World) (A : Option Addr) (vs : List (Bool × ByteArray)) : Prop :=
  ∀ i : Int, 0 ≤ i → i < (vs.length : Int) → ∃ ad i0, A = some ad ∧ w.cell? (ad.add (i.toNat * 3)) = some (.int .i64 i0) ∧ w.cell? ⟨(ad.add (i.toNat * 3)).block, (ad.add (i.toNat * 3)).off + 1, none⟩ = some (.bool (rdOf ax0 vs i).1) ∧
    w.cell? ⟨(ad.add (i.toNat * 3)).block, (ad.add (i.toNat * 3)).off + 2, none⟩ = some (.string (rdOf ax0 vs i).2)
def NdRow (w : World) (A : Option Addr) (ns : List Nd) : Prop :=
  ∀ i : Int, 0 ≤ i → i < (ns.length : Int) → ∃ ad B c, A = some ad ∧ w.cell? (ad.add (i.toNat * 2)) = some (.string (rdOf nd0 ns i).1) ∧ w.cell? ⟨(ad.add (i.toNat * 2)).block, (ad.add (i.toNat * 2)).off + 1, none⟩ = some (.slice B (rdOf nd0 ns i).2.length c) ∧
    AxRow w B (rdOf nd0 ns i).2 ∧ (rdOf nd0 ns i).2.length ≤ 9223372036854775807
structure OkV (w : World) (c : List Value) (o : OV) : Prop where
  len : c.length = 54
  one : ∀ u ∈ c, u.oneCell' = true
  so : c[41]? = some (.string o.1)
  ve : ∃ h Ao lo co Ad cd An cn, c[46]? = some (.bool h) ∧ c[47]? = some (.slice Ao lo co) ∧ c[48]? = some (.slice Ad o.2.2.length cd) ∧ c[49]? = some (.slice An o.2.1.length cn) ∧ DefRow w Ad o.2.2 ∧ NdRow w An o.2.1
  ln : o.2.1.length ≤ 9223372036854775807
  ld : o.2.2.length ≤ 9223372036854775807
def ORow (w : World) (A : Option Addr) (os : List OV) : Prop :=
  ∀ i : Int, 0 ≤ i → i < (os.length : Int) → ∃ ad c, A = some ad ∧ (∀ j u, c[j]? = some u → w.cell? (ad.add (i.toNat * 54 + j)) = some u) ∧ OkV w c (rdOf ov0 os i)
section
variable {w w1 : World} {A : Option Addr}
theorem AxRow.up {vs : List (Bool × ByteArray)} (h : AxRow w A vs) (hb : Below w.heap.size w w1) : AxRow w1 A vs := by
  intro i h0 h1
  obtain ⟨ad, i0, e, a, b, c⟩ := h i h0 h1
  exact ⟨ad, i0, e, cell_up hb a, cell_up hb b, cell_up hb c⟩
theorem NdRow.up {ns : List Nd} (h : NdRow w A ns) (hb : Below w.heap.size w w1) : NdRow w1 A ns := by
  intro i h0 h1
  obtain ⟨ad, B, c, e, a, b, r, l⟩ := h i h0 h1
  exact ⟨ad, B, c, e, cell_up hb a, cell_up hb b, r.up hb, l⟩
theorem OkV.up {c : List Value} {o : OV} (h : OkV w c o) (hb : Below w.heap.size w w1) : OkV w1 c o := by
  obtain ⟨a, b, s, ⟨h0, Ao, lo, co, Ad, cd, An, cn, c1, c2, c3, c4, d, n⟩, l1, l2⟩ := h
  exact ⟨a, b, s, ⟨h0, Ao, lo, co, Ad, cd, An, cn, c1, c2, c3, c4, d.up hb, n.up hb⟩, l1, l2⟩
theorem ORow.up {os : List OV} (h : ORow w A os) (hb : Below w.heap.size w w1) : ORow w1 A os := by
  intro i h0 h1
  obtain ⟨ad, c, e, a, k⟩ := h i h0 h1
  exact ⟨ad, c, e, fun j u hu => cell_up hb (a j u hu), k.up hb⟩
end
def atF (names : List ByteArray) (file : ByteArray) : List OV → Int → Int
  | [], _ => -1
  | o :: r, k => if ((decide (k < (names.length : Int)) && ((rdOf ByteArray.empty names k).toList == file.toList)) || (o.1.toList == file.toList)) = true then k else atF names file r (k + 1)
def auxF (P : ByteArray → Bool) : List (Bool × ByteArray) → Option ByteArray
  | [] => none
  | x :: r => if x.1 = false ∧ P x.2 = false then some x.2 else auxF P r
def provF (os : List OV) (k : Int) (nm : ByteArray) : Bool := if k < 0 then false else definesF (rdOf ov0 os k).2.2 nm
def needF (os : List OV) (names : List ByteArray) : List Nd → Option (ByteArray × ByteArray)
  | [] => none
  | n :: r => match auxF (provF os (atF names n.1 os 0)) n.2 with
    | some nm => some (nm, n.1)
    | none => needF os names r
def versF (os : List OV) (names : List ByteArray) : List OV → Int → Option (Int × ByteArray × ByteArray)
  | [], _ => none
  | o :: r, i => match needF os names o.2.1 with
    | some x => some (i, x.1, x.2)
    | none => versF os names r (i + 1)
def outV : Option (Int × ByteArray × ByteArray) → Value
  | none => .tuple #[.int .i64 0, .agg #[.string ⟨#[]⟩, .string ⟨#[]⟩, .string ⟨#[]⟩], .bool true]
  | some x => .tuple #[.int .i64 x.1, .agg #[.string ⟨#[]⟩, .string x.2.1, .string x.2.2], .bool false]
theorem store_big {ops : Array Oper} {rest : List Oper} {o : Oper} {a : Act} {w : World} {Q : Exit → Act → World → Prop} (hgd : o.guard = none) (hd : o.dst = none) (p v : Tmp) (ho : o.op = .store 127 (.tmp p) (.tmp v)) (g : Nat) (cL : List Value)
    (hx : a.eval (.tmp p) = .pointer (some ⟨g, 0, none⟩)) (hv : a.eval (.tmp v) = .agg cL.toArray) (hg : w.heap[g]? = some (.cells objZ 127 (0, 0))) (h1 : cL.length = 54) (h2 : ∀ u ∈ cL, u.oneCell' = true)
    (h : ∀ w1, w1.heap[g]? = some (.cells cL.toArray 127 (0, 0)) → (∀ B w0, Below B w0 w → B ≤ g → Below B w0 w1) → wpList Try.prog ops Q rest a w1) : wpList Try.prog ops Q (o :: rest) a w := by
  refine wpList_store_rowTo hgd 127 (.tmp p) (.tmp v) ho hd g cL.toArray hx hv 127 objZ hg ?_ ?_ ?_ (h _ (setRow_heap _ _ _ _ _ _ hg) fun B w0 hb hB => below_setRow hb hB _)
  · rw [List.size_toArray, h1]; exact info127
  · show objZ.size = cL.length; rw [h1]; rfl
  · rw [List.all_toArray, List.all_eq_true]; exact h2
theorem info74 : (Try.prog.info? 74).map (·.size) = some 3 := by kernel_rfl
set_option maxHeartbeats 16000000 in
set_option maxRecDepth 100000 in
theorem versions_calls (A : Option Addr) (c : Nat) (N : Option Addr) (nc : Nat) (os : List OV) (names : List ByteArray) (w : World) (ho : ORow w A os) (hn : Kd.string.C w N names.length names) (hlo : os.length ≤ 9223372036854775807) :
    Calls Try.prog 27 #[.slice A os.length c, .slice N names.length nc] w fun e w' => e = .returned (outV (versF os names os 0)) ∧ Below w.heap.size w w' := by
  obtain ⟨r, hr⟩ : ∃ r, versF os names os 0 = r := ⟨_, rfl⟩
  rw [hr]
  have HF := Aside0.mk hr
  have HO := Aside0.mk ho
  have HN := Aside0.mk hn
  have HLO := Aside0.mk hlo
  clear hr ho hn hlo
  have hu54 := Try.underlying54
  have hu63 := Try.underlying63
  have hu66 := Try.underlying66
  have hu68 := Try.underlying68
  have hu74 := Try.underlying74
  have hu127 := Try.underlying127
  go_enter Try.func27, Try.ntmps27
  go_wp2_with ((with_reducible refine gate_dst (N := 5) rfl ?_); refine box_event ?hg (N := 5) ?hd (cs := #[.string ⟨#[]⟩, .string ⟨#[]⟩, .string ⟨#[]⟩]) (t := 74) ?hr ?_; (case hd => rfl); (case hg => rfl); (case hr => first | (go_simp; done) | (go_simp; rfl)); intro g5 hg w1 hb hw; have G5 := Aside0.mk (show w.heap.size ≤ g5 by omega); have B5 := Aside0.mk hb; have HW1 := Aside0.mk hw; clear hg hb hw)
  go_loopg [17] os.length (fun kq v17 w' => ∃ i : Int, v17 = .int .i64 i ∧ Aside0 (0 ≤ i ∧ i ≤ os.length ∧ kq = os.length - i.toNat) ∧ Aside0 (versF os names (os.drop i.toNat) i = r) ∧ Aside0 (Below w1.heap.size w1 w'))
  case atStart => exact ⟨0, rfl, ⟨by omega⟩, ⟨HF.out⟩, ⟨Below.refl _ _⟩⟩
  case round =>
    obtain ⟨i, rfl, HI, HX, HW⟩ := hrel
    have p1 := HI.out.1
    by_cases c4 : i < (os.length : Int)
    · have q1 := c4
      have HV := Aside0.mk (show wrap64 (i + 1) = i + 1 by unfold wrap64; have := HI.out.1; have := HLO.out; omega)
      have HI2 : Aside0 (0 ≤ i + 1 ∧ i + 1 ≤ os.length ∧ os.length - (i + 1).toNat = os.length - i.toNat - 1 ∧ os.length - i.toNat - 1 < gk) := ⟨by have := HI.out; omega⟩
      have c4b0 : decide (i < (os.length : Int)) = true := decide_eq_true c4
      obtain ⟨ad, cL, eA, hcell, hok⟩ := ((HO.out.up HW1.out).up HW.out) i p1 q1
      subst eA
      have hx := HX.out
      rw [drop_rdOf ov0 p1 q1, versF] at hx
      obtain ⟨so, nds, dfs, hro⟩ : ∃ so nds dfs, rdOf ov0 os i = (so, nds, dfs) := ⟨_, _, _, rfl⟩
      rw [hro] at hok hx
      simp only at hx
      have HXX := Aside0.mk hx
      have HCL := Aside0.mk hcell
      obtain ⟨z1, z2, z3, ⟨hh, Ao, lo, co, Ad, cd, An, cn, z46, z47, z48, z49, zd, zn⟩, zl, zl2⟩ := hok
      have Z1 := Aside0.mk z1
      have Z2 := Aside0.mk z2
      have Z49 := Aside0.mk z49
      have ZN := Aside0.mk zn
      have ZL := Aside0.mk zl
      simp only at Z49 ZN ZL
      clear hro c4 HX hx hcell z1 z2 z3 z46 z47 z48 z49 zd zn zl zl2 HF
      have HPI := Aside0.mk (And.intro p1 q1)
      replace p1 := eq_true p1
      replace q1 := eq_true q1
      go_wp2_with (first
        | ((with_reducible refine gate_ (.load 127 (.tmp 20)) rfl ?_); refine wpList_load_at rfl 127 (.tmp 20) rfl (ad.add (i.toNat * 54)) rfl cL (fun j v hv => by rw [Addr.add_add]; exact HCL.out j v hv) _ hu127 rfl (by rw [Z1.out]; exact info127) ?_)
        | ((with_reducible refine gate_dst (N := 8) rfl ?_); refine box_event ?hg (N := 8) ?hd (cs := objZ) (t := 127) ?hr ?_; (case hd => rfl); (case hg => rfl); (case hr => first | (go_simp; done) | (go_simp; rfl)); intro g8 hg wa hb hw; have BA := Aside0.mk hb; have GA := Aside0.mk (show wr.heap.size ≤ g8 by omega); have HWA := Aside0.mk hw; clear hg hb hw)
        | ((with_reducible refine gate_store (t := 127) (p := 8) rfl ?_); refine store_big rfl rfl 8 21 rfl g8 cL rfl rfl BA.out Z1.out Z2.out ?_; intro w8 hb hf; have hw := hf _ _ HWA.out GA.out; have k49 : w8.cell? ⟨g8, 49, none⟩ = some (.slice An nds.length cn) := ((cell_of_row w8 g8 49 _ _ _ hb).trans (by rw [List.getElem?_toArray]; exact Z49.out)); have HW8 := Aside0.mk (below_step HW.out hw); have HN8 := Aside0.mk ((ZN.out.up hw)); clear hb hf hw HW ZN HCL BA GA HWA))
      clear k49
      go_loopg [26] nds.length (fun kq v26 w' => ∃ j : Int, v26 = .int .i64 j ∧ Aside0 (0 ≤ j ∧ j ≤ nds.length ∧ kq = nds.length - j.toNat) ∧ Aside0 (needF os names (nds.drop j.toNat) = needF os names nds) ∧ Aside0 (Below w8.heap.size w8 w'))
      case atStart => exact ⟨0, rfl, ⟨by omega⟩, ⟨rfl⟩, ⟨Below.refl _ _⟩⟩
      case round =>
        obtain ⟨j, rfl, HJ, HY, HWJ⟩ := hrel
        have p2 := HJ.out.1
        by_cases c5 : j < (nds.length : Int)
        · have q2 := c5
          have HV2 := Aside0.mk (show wrap64 (j + 1) = j + 1 by unfold wrap64; have := HJ.out.1; have := ZL.out; omega)
          have HJ2 : Aside0 (0 ≤ j + 1 ∧ j + 1 ≤ nds.length ∧ nds.length - (j + 1).toNat = nds.length - j.toNat - 1 ∧ nds.length - j.toNat - 1 < gk) := ⟨by have := HJ.out; omega⟩
          have c5b0 : decide (j < (nds.length : Int)) = true := decide_eq_true c5
          obtain ⟨ad2, B, cb, eB, g0, g1, hra, hla⟩ := (HN8.out.up HWJ.out) j p2 q2
          subst eB
          have hy := HY.out
          rw [drop_rdOf nd0 p2 q2, needF] at hy
          obtain ⟨f1, f2, hds⟩ : ∃ f1 f2, rdOf nd0 nds j = (f1, f2) := ⟨_, _, rfl⟩
          rw [hds] at g0 g1 hy hra hla
          simp only at g0 g1 hy hra hla
          obtain ⟨at_, hat⟩ : ∃ a, atF names f1 os 0 = a := ⟨_, rfl⟩
          rw [hat] at hy
          have HAT := Aside0.mk hat
          have HYY := Aside0.mk hy
          have HAR := Aside0.mk hra
          have HLA := Aside0.mk hla
          clear hds c5 HY hy hra hla hat
          replace p2 := eq_true p2
          replace q2 := eq_true q2
          go_wp2_with ((with_reducible refine gate_dst (N := 10) rfl ?_); refine box_event2 ?hg (N := 10) ?hd (cs := #[.string f1, .slice B f2.length cb]) (t := 66) (zs := #[.string ⟨#[]⟩, .slice none 0 0]) ?hr rfl rfl rfl (fun _ => rfl) (fun _ => rfl) (by kernel_rfl) ?hz (by first | kernel_rfl | rfl) ?_; (case hd => rfl); (case hg => rfl); (case hr => first | (go_simp; done) | (go_simp; rfl)); (case hz => rfl); intro g10 hg w10 hb hw; have K0 := Aside0.mk (show w10.cell? ⟨g10, 0, none⟩ = some (.string f1) by rw [cell_of_row w10 g10 0 _ _ _ hb]; rfl); have K1 := Aside0.mk (show w10.cell? ⟨g10, 1, none⟩ = some (.slice B f2.length cb) by rw [cell_of_row w10 g10 1 _ _ _ hb]; rfl); have HW10 := Aside0.mk (below_step HWJ.out hw); have HR10 := Aside0.mk (HAR.out.up hw); clear hg hb hw g0 g1 HWJ HAR)
          have HO10 := Aside0.mk ((HO.out.up HW1.out).up (below_step HW8.out HW10.out))
          have HN10 := Aside0.mk (Kd.C_below (Kd.C_below HN.out HW1.out) (below_step HW8.out HW10.out))
          go_loopg [11, 32] os.length (fun kq v11 v32 w' => ∃ k : Int, v11 = .int .i64 (-1) ∧ v32 = .int .i64 k ∧ Aside0 (0 ≤ k ∧ k ≤ os.length ∧ kq = os.length - k.toNat) ∧ Aside0 (atF names f1 (os.drop k.toNat) k = at_) ∧ Aside0 (Below w10.heap.size w10 w'))
          case atStart => exact ⟨0, rfl, rfl, ⟨by omega⟩, ⟨HAT.out⟩, ⟨Below.refl _ _⟩⟩
          case round =>
            obtain ⟨k, rfl, rfl, HK, HZ, HWK⟩ := hrel
            have p3 := HK.out.1
            by_cases c6 : k < (os.length : Int)
            · have q3 := c6
              have HV3 := Aside0.mk (show wrap64 (k + 1) = k + 1 by unfold wrap64; have := HK.out.1; have := HLO.out; omega)
              have HK2 : Aside0 (0 ≤ k + 1 ∧ k + 1 ≤ os.length ∧ os.length - (k + 1).toNat = os.length - k.toNat - 1 ∧ os.length - k.toNat - 1 < gk) := ⟨by have := HK.out; omega⟩
              have c6b0 : decide (k < (os.length : Int)) = true := decide_eq_true c6
              obtain ⟨adk, cK, eK, hcK, hokK⟩ := (HO10.out.up HWK.out) k p3 q3
              obtain rfl : ad = adk := by injection eK
              clear eK
              have hz := HZ.out
              rw [drop_rdOf ov0 p3 q3, atF] at hz
              obtain ⟨so2, nds2, dfs2, hro2⟩ : ∃ so nds dfs, rdOf ov0 os k = (so, nds, dfs) := ⟨_, _, _, rfl⟩
              have HRO := Aside0.mk hro2
              rw [hro2] at hokK hz
              simp only at hz
              have HZZ := Aside0.mk hz
              have m41 : wr.cell? ⟨(ad.add (k.toNat * 54)).block, (ad.add (k.toNat * 54)).off + 41, none⟩ = some (.string so2) := by rw [← add_field _ _ 41 (by omega)]; exact hcK 41 _ hokK.so
              have k0 := cell_up HWK.out K0.out
              obtain ⟨zz1, zz2, zz3, ⟨vh, vAo, vlo, vco, vAd, vcd, vAn, vcn, y46, y47, y48, y49, yd, yn⟩, zzl, HLD2_⟩ := hokK
              have M46 := Aside0.mk (show wr.cell? ⟨(ad.add (k.toNat * 54)).block, (ad.add (k.toNat * 54)).off + 46, none⟩ = some (.bool vh) by rw [← add_field _ _ 46 (by omega)]; exact hcK 46 _ y46)
              have M47 := Aside0.mk (show wr.cell? ⟨(ad.add (k.toNat * 54)).block, (ad.add (k.toNat * 54)).off + 47, none⟩ = some (.slice vAo vlo vco) by rw [← add_field _ _ 47 (by omega)]; exact hcK 47 _ y47)
              have M48 := Aside0.mk (show wr.cell? ⟨(ad.add (k.toNat * 54)).block, (ad.add (k.toNat * 54)).off + 48, none⟩ = some (.slice vAd dfs2.length vcd) by rw [← add_field _ _ 48 (by omega)]; exact hcK 48 _ y48)
              have M49 := Aside0.mk (show wr.cell? ⟨(ad.add (k.toNat * 54)).block, (ad.add (k.toNat * 54)).off + 49, none⟩ = some (.slice vAn nds2.length vcn) by rw [← add_field _ _ 49 (by omega)]; exact hcK 49 _ y49)
              have HDR2 := Aside0.mk (show DefRow wr vAd dfs2 from yd)
              have HLD2 := Aside0.mk (show dfs2.length ≤ 9223372036854775807 from HLD2_)
              clear hcK zz1 zz2 zz3 y46 y47 y48 y49 yd yn zzl HLD2_ hz hro2 c6 HZ
              have HPK := Aside0.mk (And.intro p3 q3)
              replace p3 := eq_true p3
              replace q3 := eq_true q3
              by_cases c7 : k < (names.length : Int)
              · have c7b0 : decide (k < (names.length : Int)) = true := decide_eq_true c7
                obtain ⟨adn, eN, n0_⟩ := Kd.at_string (Kd.C_below HN10.out HWK.out) k HPK.out.1 c7
                obtain ⟨nk, hnk⟩ : ∃ nk, rdOf ByteArray.empty names k = nk := ⟨_, rfl⟩
                rw [hnk] at n0_
                have hz := HZZ.out
                rw [hnk, c7b0, Bool.true_and] at hz
                have HZ3 := Aside0.mk hz
                subst eN
                have q4 := eq_true c7
                clear hz hnk c7 HZZ
                rcases h1 : (nk.toList == f1.toList) with _ | _
                · rcases h2 : (so2.toList == f1.toList) with _ | _
                  · have hz := HZ3.out
                    rw [h1, h2] at hz
                    have HZ4 := Aside0.mk (show atF names f1 (os.drop (k + 1).toNat) (k + 1) = at_ from hz)
                    clear hz HZ3
                    go_wp2
                    go_quiet (fail)
                    go_wp2
                    go_roundg (os.length - k.toNat - 1)
                    case measure => have := HK2.out; omega
                    case rel => exact ⟨_, rfl, rfl, ⟨by rw [HV3.out]; have := HK2.out; omega⟩, ⟨by rw [HV3.out]; exact HZ4.out⟩, ⟨pw_below_drewN HWK.out _⟩⟩
                  · have hz := HZ3.out
                    rw [h1, h2] at hz
                    obtain rfl : k = at_ := by simpa using hz
                    clear hz HZ3
                    go_wp2
                    go_quiet (fail)
                    have HWX := Aside0.mk (pw_below_drewN HWK.out nq)
                    have k0 := cell_up HWX.out K0.out
                    have k1 := cell_up HWX.out K1.out
                    have K0x := Aside0.mk k0
                    replace M46 := Aside0.mk (cell_up (pw_below_drewN (Below.refl _ _) nq) M46.out)
                    replace M47 := Aside0.mk (cell_up (pw_below_drewN (Below.refl _ _) nq) M47.out)
                    replace M48 := Aside0.mk (cell_up (pw_below_drewN (Below.refl _ _) nq) M48.out)
                    replace M49 := Aside0.mk (cell_up (pw_below_drewN (Below.refl _ _) nq) M49.out)
                    replace HDR2 := Aside0.mk (HDR2.out.up (pw_below_drewN (Below.refl _ _) nq))
                    generalize wr.drewN nq = wx at HWX k0 k1 K0x M46 M47 M48 M49 HDR2 ⊢
                    have HPA := Aside0.mk HPK.out.1
                    have HROA := HRO
                    have HND := HYY
                    go_wp2
                    clear k1
                    go_loopg [63] f2.length (fun kq v63 w' => ∃ m : Int, v63 = .int .i64 m ∧ Aside0 (0 ≤ m ∧ m ≤ f2.length ∧ kq = f2.length - m.toNat) ∧ Aside0 (auxF (provF os k) (f2.drop m.toNat) = auxF (provF os k) f2) ∧ Aside0 (Below wx.heap.size wx w'))
                    case atStart => exact ⟨0, rfl, ⟨by omega⟩, ⟨rfl⟩, ⟨Below.refl _ _⟩⟩
                    case round =>
                      obtain ⟨m, rfl, HM, HU, HWM⟩ := hrel
                      have p5 := HM.out.1
                      by_cases c8 : m < (f2.length : Int)
                      · have q5 := c8
                        have HV4 := Aside0.mk (show wrap64 (m + 1) = m + 1 by unfold wrap64; have := HM.out.1; have := HLA.out; omega)
                        have HM2 : Aside0 (0 ≤ m + 1 ∧ m + 1 ≤ f2.length ∧ f2.length - (m + 1).toNat = f2.length - m.toNat - 1 ∧ f2.length - m.toNat - 1 < gk) := ⟨by have := HM.out; omega⟩
                        have c8b0 : decide (m < (f2.length : Int)) = true := decide_eq_true c8
                        obtain ⟨ad3, i0, eB3, a0, a1, a2⟩ := ((HR10.out.up HWX.out).up HWM.out) m p5 q5
                        subst eB3
                        have hu := HU.out
                        rw [drop_rdOf ax0 p5 q5, auxF] at hu
                        obtain ⟨wk, nm, hax⟩ : ∃ wk nm, rdOf ax0 f2 m = (wk, nm) := ⟨_, _, rfl⟩
                        rw [hax] at a1 a2 hu
                        simp only at a1 a2 hu
                        have HUU := Aside0.mk hu
                        have k0 := cell_up HWM.out K0x.out
                        clear hax c8 HU hu
                        replace p5 := eq_true p5
                        replace q5 := eq_true q5
                        cases wk with
                        | true =>
                          have hu := HUU.out
                          rw [if_neg (fun h => by cases h.1)] at hu
                          have HFX2 := Aside0.mk hu
                          clear hu HUU
                          go_wp2_with ((with_reducible refine gate_dst (N := 14) rfl ?_); refine box_event2 ?hg (N := 14) ?hd (cs := #[.int .i64 i0, .bool true, .string nm]) (t := 68) (zs := #[.int .i64 0, .bool false, .string ⟨#[]⟩]) ?hr rfl rfl rfl (fun _ => rfl) (fun _ => rfl) (by kernel_rfl) ?hz (by first | kernel_rfl | rfl) ?_; (case hd => rfl); (case hg => rfl); (case hr => first | (go_simp; done) | (go_simp; rfl)); (case hz => rfl); intro g14 hg w14 hb hw; have e1 : w14.cell? ⟨g14, 1, none⟩ = some (.bool true) := (by rw [cell_of_row w14 g14 1 _ _ _ hb]; rfl); have e2 : w14.cell? ⟨g14, 2, none⟩ = some (.string nm) := (by rw [cell_of_row w14 g14 2 _ _ _ hb]; rfl); replace k0 := cell_up hw k0; have HW14 := Aside0.mk (below_step HWM.out hw);  clear hg hb hw a0 a1 a2 HWM)
                          try simp only [Act.put, List.setIfInBounds_toArray, List.set_cons_succ, List.set_cons_zero]
                          have HWE := HW14
                          clear HW14
                          go_quiet (fail)
                          go_wp2
                          go_roundg (f2.length - m.toNat - 1)
                          case measure => have := HM2.out; omega
                          case rel => exact ⟨_, rfl, ⟨by rw [HV4.out]; have := HM2.out; omega⟩, ⟨by rw [HV4.out]; exact HFX2.out⟩, ⟨by first | exact HWE.out | exact pw_below_drewN HWE.out _ | exact below_drew1 HWE.out⟩⟩
                        | false =>
                          obtain ⟨bd, hbd⟩ : ∃ bd, definesF dfs2 nm = bd := ⟨_, rfl⟩
                          have HDC := Aside0.mk (fun (W : World) (hb : Below wx.heap.size wx W) => show Calls Try.prog 50 #[.agg #[.bool vh, .slice vAo vlo vco, .slice vAd dfs2.length vcd, .slice vAn nds2.length vcn], .string nm] W fun e w' => e = .returned (.bool bd) ∧ Below W.heap.size W w' from hbd ▸ defines_calls (.bool vh) (.slice vAo vlo vco) (.slice vAn nds2.length vcn) vAd vcd dfs2 nm W HLD2.out ((HDR2.out).up hb))
                          have HPB := Aside0.mk (show provF os k nm = bd by unfold provF; rw [if_neg (by have := HPA.out; omega), HROA.out]; exact hbd)
                          clear hbd
                          have kb : decide (k < 0) = false := decide_eq_false (by have := HPA.out; omega)
                          have m46 := cell_up HWM.out M46.out
                          have m47 := cell_up HWM.out M47.out
                          have m48 := cell_up HWM.out M48.out
                          have m49 := cell_up HWM.out M49.out
                          go_wp2_with ((with_reducible refine gate_dst (N := 14) rfl ?_); refine box_event2 ?hg (N := 14) ?hd (cs := #[.int .i64 i0, .bool false, .string nm]) (t := 68) (zs := #[.int .i64 0, .bool false, .string ⟨#[]⟩]) ?hr rfl rfl rfl (fun _ => rfl) (fun _ => rfl) (by kernel_rfl) ?hz (by first | kernel_rfl | rfl) ?_; (case hd => rfl); (case hg => rfl); (case hr => first | (go_simp; done) | (go_simp; rfl)); (case hz => rfl); intro g14 hg w14 hb hw; have e1 : w14.cell? ⟨g14, 1, none⟩ = some (.bool false) := (by rw [cell_of_row w14 g14 1 _ _ _ hb]; rfl); have e2 : w14.cell? ⟨g14, 2, none⟩ = some (.string nm) := (by rw [cell_of_row w14 g14 2 _ _ _ hb]; rfl); replace k0 := cell_up hw k0; have HW14 := Aside0.mk (below_step HWM.out hw); replace m46 := cell_up hw m46; replace m47 := cell_up hw m47; replace m48 := cell_up hw m48; replace m49 := cell_up hw m49; clear hg hb hw a0 a1 a2 HWM)
                          try simp only [Act.put, List.setIfInBounds_toArray, List.set_cons_succ, List.set_cons_zero]
                          have HWE := HW14
                          clear HW14
                          cases bd with
                          | true =>
                            have hu := HUU.out
                            rw [if_neg (fun h => by rw [HPB.out] at h; cases h.2)] at hu
                            have HFX2 := Aside0.mk hu
                            clear hu HUU HPB
                            go_still_tail 14, (by kernel_rfl)
                            change wpList _ _ _ _ _ w14.drew
                            have hD : Below w14.heap.size w14 w14.drew := below_drew1 (Below.refl _ _)
                            have HWF := Aside0.mk (below_step HWE.out hD)
                            replace e2 := cell_up hD e2
                            replace k0 := cell_up hD k0
                            clear HWE m46 m47 m48 m49 e1
                            generalize w14.drew = w15 at HWF e2 k0 hD ⊢
                            clear hD
                            go_wp2_with (go_at_call 50; (with_reducible refine (HDC.out _ HWF.out).mono ?_); rintro e w16 ⟨rfl, hw⟩; have HWE := Aside0.mk (below_step HWF.out hw); replace k0 := cell_up hw k0; replace e2 := cell_up hw e2; clear hw HWF)
                            go_roundg (f2.length - m.toNat - 1)
                            case measure => have := HM2.out; omega
                            case rel => exact ⟨_, rfl, ⟨by rw [HV4.out]; have := HM2.out; omega⟩, ⟨by rw [HV4.out]; exact HFX2.out⟩, ⟨by first | exact HWE.out | exact pw_below_drewN HWE.out _ | exact below_drew1 HWE.out⟩⟩
                          | false =>
                            have hu := HUU.out
                            first | rw [if_pos (show (True ∧ provF os k nm = false) from ⟨trivial, HPB.out⟩)] at hu | rw [if_pos (show (false = false ∧ provF os k nm = false) from ⟨rfl, HPB.out⟩)] at hu
                            have HFX := Aside0.mk hu.symm
                            clear hu HUU HPB
                            go_still_tail 14, (by kernel_rfl)
                            change wpList _ _ _ _ _ w14.drew
                            have hD : Below w14.heap.size w14 w14.drew := below_drew1 (Below.refl _ _)
                            have HWF := Aside0.mk (below_step HWE.out hD)
                            replace e2 := cell_up hD e2
                            replace k0 := cell_up hD k0
                            clear HWE m46 m47 m48 m49 e1
                            generalize w14.drew = w15 at HWF e2 k0 hD ⊢
                            clear hD
                            go_wp2_with (go_at_call 50; (with_reducible refine (HDC.out _ HWF.out).mono ?_); rintro e w16 ⟨rfl, hw⟩; have HWE := Aside0.mk (below_step HWF.out hw); replace k0 := cell_up hw k0; replace e2 := cell_up hw e2; clear hw HWF)
                            obtain ⟨wz, hwz⟩ : ∃ wz : World, wz = w16 := ⟨_, rfl⟩
                            rw [← hwz] at HWE k0 e2 ⊢
                            clear hwz
                            have hnd := HND.out
                            rw [show auxF (provF os k) f2 = some nm from HFX.out] at hnd
                            have hvs := HXX.out
                            rw [show needF os names nds = some (nm, f1) from hnd.symm] at hvs
                            have HOUT := Aside0.mk (show some (i, nm, f1) = r from hvs)
                            clear hnd hvs
                            have HWR := Aside0.mk (below_step HW1.out (below_step HW8.out (below_step HW10.out (below_step HWX.out HWE.out))))
                            have B5e := Aside0.mk (((below_step HW8.out (below_step HW10.out (below_step HWX.out HWE.out))).block g5 (lt_of_block B5.out)).trans B5.out)
                            go_wp2
                            go_still_tail 7, (by kernel_rfl)
                            change wpList _ _ _ _ _ wz.drew
                            have hD : Below wz.heap.size wz wz.drew := below_drew1 (Below.refl _ _)
                            have B5z := Aside0.mk ((hD.block g5 (lt_of_block B5e.out)).trans B5e.out)
                            clear hD
                            have HWZ := Aside0.mk (below_drew1 HWR.out)
                            generalize wz.drew = wy at B5z HWZ ⊢
                            go_wp2_with ((with_reducible refine gate_store (t := 74) (p := 5) rfl ?_); refine wpList_store_rowTo rfl 74 (.tmp 5) (.tmp 90) rfl rfl g5 #[.string ⟨#[]⟩, .string nm, .string f1] rfl rfl 74 _ B5z.out info74 (by kernel_rfl) (by kernel_rfl) ?_)
                            refine bodyPost_ret (v := .tuple #[.int .i64 i, .agg #[.string ⟨#[]⟩, .string nm, .string f1], .bool false]) (results_list (rs := [.tmp 4, .cell 5 74, .tmp 6]) (vs := [.int .i64 i, .agg #[.string ⟨#[]⟩, .string nm, .string f1], .bool false]) rfl (by simp) (.tmp (.cell g5 74 #[.string ⟨#[]⟩, .string nm, .string f1] (0, 0) _ rfl (setRow_heap _ _ _ _ _ _ B5z.out) hu74 rfl info74 (.tmp .nil)))) rfl ?_
                            exact ⟨by rw [← HOUT.out]; rfl, below_setRow HWZ.out G5.out _⟩
                      · have c8b0 : decide (m < (f2.length : Int)) = false := decide_eq_false c8
                        have hm : f2.drop m.toNat = [] := List.drop_eq_nil_of_le (by have := HM.out; omega)
                        have hu := HU.out
                        rw [hm] at hu
                        have hnd := HND.out
                        rw [show auxF (provF os k) f2 = none from hu.symm] at hnd
                        have HND2 := Aside0.mk (show needF os names (nds.drop (j + 1).toNat) = needF os names nds from hnd)
                        have HWL := Aside0.mk (below_step HW10.out (below_step HWX.out HWM.out))
                        clear c8 hm hu HU hnd HND
                        go_wp2
                        go_roundg (nds.length - j.toNat - 1)
                        case measure => have := HJ2.out; omega
                        case rel => exact ⟨_, rfl, ⟨by rw [HV2.out]; have := HJ2.out; omega⟩, ⟨by rw [HV2.out]; exact HND2.out⟩, HWL⟩
                · have hz := HZ3.out
                  rw [h1, Bool.true_or] at hz
                  obtain rfl : k = at_ := by simpa using hz
                  clear hz HZ3
                  go_wp2
                  go_quiet (fail)
                  have HWX := Aside0.mk (pw_below_drewN HWK.out nq)
                  have k0 := cell_up HWX.out K0.out
                  have k1 := cell_up HWX.out K1.out
                  have K0x := Aside0.mk k0
                  replace M46 := Aside0.mk (cell_up (pw_below_drewN (Below.refl _ _) nq) M46.out)
                  replace M47 := Aside0.mk (cell_up (pw_below_drewN (Below.refl _ _) nq) M47.out)
                  replace M48 := Aside0.mk (cell_up (pw_below_drewN (Below.refl _ _) nq) M48.out)
                  replace M49 := Aside0.mk (cell_up (pw_below_drewN (Below.refl _ _) nq) M49.out)
                  replace HDR2 := Aside0.mk (HDR2.out.up (pw_below_drewN (Below.refl _ _) nq))
                  generalize wr.drewN nq = wx at HWX k0 k1 K0x M46 M47 M48 M49 HDR2 ⊢
                  have HPA := Aside0.mk HPK.out.1
                  have HROA := HRO
                  have HND := HYY
                  go_wp2
                  clear k1
                  go_loopg [63] f2.length (fun kq v63 w' => ∃ m : Int, v63 = .int .i64 m ∧ Aside0 (0 ≤ m ∧ m ≤ f2.length ∧ kq = f2.length - m.toNat) ∧ Aside0 (auxF (provF os k) (f2.drop m.toNat) = auxF (provF os k) f2) ∧ Aside0 (Below wx.heap.size wx w'))
                  case atStart => exact ⟨0, rfl, ⟨by omega⟩, ⟨rfl⟩, ⟨Below.refl _ _⟩⟩
                  case round =>
                    obtain ⟨m, rfl, HM, HU, HWM⟩ := hrel
                    have p5 := HM.out.1
                    by_cases c8 : m < (f2.length : Int)
                    · have q5 := c8
                      have HV4 := Aside0.mk (show wrap64 (m + 1) = m + 1 by unfold wrap64; have := HM.out.1; have := HLA.out; omega)
                      have HM2 : Aside0 (0 ≤ m + 1 ∧ m + 1 ≤ f2.length ∧ f2.length - (m + 1).toNat = f2.length - m.toNat - 1 ∧ f2.length - m.toNat - 1 < gk) := ⟨by have := HM.out; omega⟩
                      have c8b0 : decide (m < (f2.length : Int)) = true := decide_eq_true c8
                      obtain ⟨ad3, i0, eB3, a0, a1, a2⟩ := ((HR10.out.up HWX.out).up HWM.out) m p5 q5
                      subst eB3
                      have hu := HU.out
                      rw [drop_rdOf ax0 p5 q5, auxF] at hu
                      obtain ⟨wk, nm, hax⟩ : ∃ wk nm, rdOf ax0 f2 m = (wk, nm) := ⟨_, _, rfl⟩
                      rw [hax] at a1 a2 hu
                      simp only at a1 a2 hu
                      have HUU := Aside0.mk hu
                      have k0 := cell_up HWM.out K0x.out
                      clear hax c8 HU hu
                      replace p5 := eq_true p5
                      replace q5 := eq_true q5
                      cases wk with
                      | true =>
                        have hu := HUU.out
                        rw [if_neg (fun h => by cases h.1)] at hu
                        have HFX2 := Aside0.mk hu
                        clear hu HUU
                        go_wp2_with ((with_reducible refine gate_dst (N := 14) rfl ?_); refine box_event2 ?hg (N := 14) ?hd (cs := #[.int .i64 i0, .bool true, .string nm]) (t := 68) (zs := #[.int .i64 0, .bool false, .string ⟨#[]⟩]) ?hr rfl rfl rfl (fun _ => rfl) (fun _ => rfl) (by kernel_rfl) ?hz (by first | kernel_rfl | rfl) ?_; (case hd => rfl); (case hg => rfl); (case hr => first | (go_simp; done) | (go_simp; rfl)); (case hz => rfl); intro g14 hg w14 hb hw; have e1 : w14.cell? ⟨g14, 1, none⟩ = some (.bool true) := (by rw [cell_of_row w14 g14 1 _ _ _ hb]; rfl); have e2 : w14.cell? ⟨g14, 2, none⟩ = some (.string nm) := (by rw [cell_of_row w14 g14 2 _ _ _ hb]; rfl); replace k0 := cell_up hw k0; have HW14 := Aside0.mk (below_step HWM.out hw);  clear hg hb hw a0 a1 a2 HWM)
                        try simp only [Act.put, List.setIfInBounds_toArray, List.set_cons_succ, List.set_cons_zero]
                        have HWE := HW14
                        clear HW14
                        go_quiet (fail)
                        go_wp2
                        go_roundg (f2.length - m.toNat - 1)
                        case measure => have := HM2.out; omega
                        case rel => exact ⟨_, rfl, ⟨by rw [HV4.out]; have := HM2.out; omega⟩, ⟨by rw [HV4.out]; exact HFX2.out⟩, ⟨by first | exact HWE.out | exact pw_below_drewN HWE.out _ | exact below_drew1 HWE.out⟩⟩
                      | false =>
                        obtain ⟨bd, hbd⟩ : ∃ bd, definesF dfs2 nm = bd := ⟨_, rfl⟩
                        have HDC := Aside0.mk (fun (W : World) (hb : Below wx.heap.size wx W) => show Calls Try.prog 50 #[.agg #[.bool vh, .slice vAo vlo vco, .slice vAd dfs2.length vcd, .slice vAn nds2.length vcn], .string nm] W fun e w' => e = .returned (.bool bd) ∧ Below W.heap.size W w' from hbd ▸ defines_calls (.bool vh) (.slice vAo vlo vco) (.slice vAn nds2.length vcn) vAd vcd dfs2 nm W HLD2.out ((HDR2.out).up hb))
                        have HPB := Aside0.mk (show provF os k nm = bd by unfold provF; rw [if_neg (by have := HPA.out; omega), HROA.out]; exact hbd)
                        clear hbd
                        have kb : decide (k < 0) = false := decide_eq_false (by have := HPA.out; omega)
                        have m46 := cell_up HWM.out M46.out
                        have m47 := cell_up HWM.out M47.out
                        have m48 := cell_up HWM.out M48.out
                        have m49 := cell_up HWM.out M49.out
                        go_wp2_with ((with_reducible refine gate_dst (N := 14) rfl ?_); refine box_event2 ?hg (N := 14) ?hd (cs := #[.int .i64 i0, .bool false, .string nm]) (t := 68) (zs := #[.int .i64 0, .bool false, .string ⟨#[]⟩]) ?hr rfl rfl rfl (fun _ => rfl) (fun _ => rfl) (by kernel_rfl) ?hz (by first | kernel_rfl | rfl) ?_; (case hd => rfl); (case hg => rfl); (case hr => first | (go_simp; done) | (go_simp; rfl)); (case hz => rfl); intro g14 hg w14 hb hw; have e1 : w14.cell? ⟨g14, 1, none⟩ = some (.bool false) := (by rw [cell_of_row w14 g14 1 _ _ _ hb]; rfl); have e2 : w14.cell? ⟨g14, 2, none⟩ = some (.string nm) := (by rw [cell_of_row w14 g14 2 _ _ _ hb]; rfl); replace k0 := cell_up hw k0; have HW14 := Aside0.mk (below_step HWM.out hw); replace m46 := cell_up hw m46; replace m47 := cell_up hw m47; replace m48 := cell_up hw m48; replace m49 := cell_up hw m49; clear hg hb hw a0 a1 a2 HWM)
                        try simp only [Act.put, List.setIfInBounds_toArray, List.set_cons_succ, List.set_cons_zero]
                        have HWE := HW14
                        clear HW14
                        cases bd with
                        | true =>
                          have hu := HUU.out
                          rw [if_neg (fun h => by rw [HPB.out] at h; cases h.2)] at hu
                          have HFX2 := Aside0.mk hu
                          clear hu HUU HPB
                          go_still_tail 14, (by kernel_rfl)
                          change wpList _ _ _ _ _ w14.drew
                          have hD : Below w14.heap.size w14 w14.drew := below_drew1 (Below.refl _ _)
                          have HWF := Aside0.mk (below_step HWE.out hD)
                          replace e2 := cell_up hD e2
                          replace k0 := cell_up hD k0
                          clear HWE m46 m47 m48 m49 e1
                          generalize w14.drew = w15 at HWF e2 k0 hD ⊢
                          clear hD
                          go_wp2_with (go_at_call 50; (with_reducible refine (HDC.out _ HWF.out).mono ?_); rintro e w16 ⟨rfl, hw⟩; have HWE := Aside0.mk (below_step HWF.out hw); replace k0 := cell_up hw k0; replace e2 := cell_up hw e2; clear hw HWF)
                          go_roundg (f2.length - m.toNat - 1)
                          case measure => have := HM2.out; omega
                          case rel => exact ⟨_, rfl, ⟨by rw [HV4.out]; have := HM2.out; omega⟩, ⟨by rw [HV4.out]; exact HFX2.out⟩, ⟨by first | exact HWE.out | exact pw_below_drewN HWE.out _ | exact below_drew1 HWE.out⟩⟩
                        | false =>
                          have hu := HUU.out
                          first | rw [if_pos (show (True ∧ provF os k nm = false) from ⟨trivial, HPB.out⟩)] at hu | rw [if_pos (show (false = false ∧ provF os k nm = false) from ⟨rfl, HPB.out⟩)] at hu
                          have HFX := Aside0.mk hu.symm
                          clear hu HUU HPB
                          go_still_tail 14, (by kernel_rfl)
                          change wpList _ _ _ _ _ w14.drew
                          have hD : Below w14.heap.size w14 w14.drew := below_drew1 (Below.refl _ _)
                          have HWF := Aside0.mk (below_step HWE.out hD)
                          replace e2 := cell_up hD e2
                          replace k0 := cell_up hD k0
                          clear HWE m46 m47 m48 m49 e1
                          generalize w14.drew = w15 at HWF e2 k0 hD ⊢
                          clear hD
                          go_wp2_with (go_at_call 50; (with_reducible refine (HDC.out _ HWF.out).mono ?_); rintro e w16 ⟨rfl, hw⟩; have HWE := Aside0.mk (below_step HWF.out hw); replace k0 := cell_up hw k0; replace e2 := cell_up hw e2; clear hw HWF)
                          obtain ⟨wz, hwz⟩ : ∃ wz : World, wz = w16 := ⟨_, rfl⟩
                          rw [← hwz] at HWE k0 e2 ⊢
                          clear hwz
                          have hnd := HND.out
                          rw [show auxF (provF os k) f2 = some nm from HFX.out] at hnd
                          have hvs := HXX.out
                          rw [show needF os names nds = some (nm, f1) from hnd.symm] at hvs
                          have HOUT := Aside0.mk (show some (i, nm, f1) = r from hvs)
                          clear hnd hvs
                          have HWR := Aside0.mk (below_step HW1.out (below_step HW8.out (below_step HW10.out (below_step HWX.out HWE.out))))
                          have B5e := Aside0.mk (((below_step HW8.out (below_step HW10.out (below_step HWX.out HWE.out))).block g5 (lt_of_block B5.out)).trans B5.out)
                          go_wp2
                          go_still_tail 7, (by kernel_rfl)
                          change wpList _ _ _ _ _ wz.drew
                          have hD : Below wz.heap.size wz wz.drew := below_drew1 (Below.refl _ _)
                          have B5z := Aside0.mk ((hD.block g5 (lt_of_block B5e.out)).trans B5e.out)
                          clear hD
                          have HWZ := Aside0.mk (below_drew1 HWR.out)
                          generalize wz.drew = wy at B5z HWZ ⊢
                          go_wp2_with ((with_reducible refine gate_store (t := 74) (p := 5) rfl ?_); refine wpList_store_rowTo rfl 74 (.tmp 5) (.tmp 90) rfl rfl g5 #[.string ⟨#[]⟩, .string nm, .string f1] rfl rfl 74 _ B5z.out info74 (by kernel_rfl) (by kernel_rfl) ?_)
                          refine bodyPost_ret (v := .tuple #[.int .i64 i, .agg #[.string ⟨#[]⟩, .string nm, .string f1], .bool false]) (results_list (rs := [.tmp 4, .cell 5 74, .tmp 6]) (vs := [.int .i64 i, .agg #[.string ⟨#[]⟩, .string nm, .string f1], .bool false]) rfl (by simp) (.tmp (.cell g5 74 #[.string ⟨#[]⟩, .string nm, .string f1] (0, 0) _ rfl (setRow_heap _ _ _ _ _ _ B5z.out) hu74 rfl info74 (.tmp .nil)))) rfl ?_
                          exact ⟨by rw [← HOUT.out]; rfl, below_setRow HWZ.out G5.out _⟩
                    · have c8b0 : decide (m < (f2.length : Int)) = false := decide_eq_false c8
                      have hm : f2.drop m.toNat = [] := List.drop_eq_nil_of_le (by have := HM.out; omega)
                      have hu := HU.out
                      rw [hm] at hu
                      have hnd := HND.out
                      rw [show auxF (provF os k) f2 = none from hu.symm] at hnd
                      have HND2 := Aside0.mk (show needF os names (nds.drop (j + 1).toNat) = needF os names nds from hnd)
                      have HWL := Aside0.mk (below_step HW10.out (below_step HWX.out HWM.out))
                      clear c8 hm hu HU hnd HND
                      go_wp2
                      go_roundg (nds.length - j.toNat - 1)
                      case measure => have := HJ2.out; omega
                      case rel => exact ⟨_, rfl, ⟨by rw [HV2.out]; have := HJ2.out; omega⟩, ⟨by rw [HV2.out]; exact HND2.out⟩, HWL⟩
              · have c7b0 : decide (k < (names.length : Int)) = false := decide_eq_false c7
                have hz := HZZ.out
                rw [c7b0, Bool.false_and, Bool.false_or] at hz
                have HZ3 := Aside0.mk hz
                clear hz c7 HZZ
                rcases h2 : (so2.toList == f1.toList) with _ | _
                · have hz := HZ3.out
                  rw [h2] at hz
                  have HZ4 := Aside0.mk (show atF names f1 (os.drop (k + 1).toNat) (k + 1) = at_ from hz)
                  clear hz HZ3
                  go_wp2
                  go_quiet (fail)
                  go_wp2
                  go_roundg (os.length - k.toNat - 1)
                  case measure => have := HK2.out; omega
                  case rel => exact ⟨_, rfl, rfl, ⟨by rw [HV3.out]; have := HK2.out; omega⟩, ⟨by rw [HV3.out]; exact HZ4.out⟩, ⟨pw_below_drewN HWK.out _⟩⟩
                · have hz := HZ3.out
                  rw [h2] at hz
                  obtain rfl : k = at_ := by simpa using hz
                  clear hz HZ3
                  go_wp2
                  go_quiet (fail)
                  have HWX := Aside0.mk (pw_below_drewN HWK.out nq)
                  have k0 := cell_up HWX.out K0.out
                  have k1 := cell_up HWX.out K1.out
                  have K0x := Aside0.mk k0
                  replace M46 := Aside0.mk (cell_up (pw_below_drewN (Below.refl _ _) nq) M46.out)
                  replace M47 := Aside0.mk (cell_up (pw_below_drewN (Below.refl _ _) nq) M47.out)
                  replace M48 := Aside0.mk (cell_up (pw_below_drewN (Below.refl _ _) nq) M48.out)
                  replace M49 := Aside0.mk (cell_up (pw_below_drewN (Below.refl _ _) nq) M49.out)
                  replace HDR2 := Aside0.mk (HDR2.out.up (pw_below_drewN (Below.refl _ _) nq))
                  generalize wr.drewN nq = wx at HWX k0 k1 K0x M46 M47 M48 M49 HDR2 ⊢
                  have HPA := Aside0.mk HPK.out.1
                  have HROA := HRO
                  have HND := HYY
                  go_wp2
                  clear k1
                  go_loopg [63] f2.length (fun kq v63 w' => ∃ m : Int, v63 = .int .i64 m ∧ Aside0 (0 ≤ m ∧ m ≤ f2.length ∧ kq = f2.length - m.toNat) ∧ Aside0 (auxF (provF os k) (f2.drop m.toNat) = auxF (provF os k) f2) ∧ Aside0 (Below wx.heap.size wx w'))
                  case atStart => exact ⟨0, rfl, ⟨by omega⟩, ⟨rfl⟩, ⟨Below.refl _ _⟩⟩
                  case round =>
                    obtain ⟨m, rfl, HM, HU, HWM⟩ := hrel
                    have p5 := HM.out.1
                    by_cases c8 : m < (f2.length : Int)
                    · have q5 := c8
                      have HV4 := Aside0.mk (show wrap64 (m + 1) = m + 1 by unfold wrap64; have := HM.out.1; have := HLA.out; omega)
                      have HM2 : Aside0 (0 ≤ m + 1 ∧ m + 1 ≤ f2.length ∧ f2.length - (m + 1).toNat = f2.length - m.toNat - 1 ∧ f2.length - m.toNat - 1 < gk) := ⟨by have := HM.out; omega⟩
                      have c8b0 : decide (m < (f2.length : Int)) = true := decide_eq_true c8
                      obtain ⟨ad3, i0, eB3, a0, a1, a2⟩ := ((HR10.out.up HWX.out).up HWM.out) m p5 q5
                      subst eB3
                      have hu := HU.out
                      rw [drop_rdOf ax0 p5 q5, auxF] at hu
                      obtain ⟨wk, nm, hax⟩ : ∃ wk nm, rdOf ax0 f2 m = (wk, nm) := ⟨_, _, rfl⟩
                      rw [hax] at a1 a2 hu
                      simp only at a1 a2 hu
                      have HUU := Aside0.mk hu
                      have k0 := cell_up HWM.out K0x.out
                      clear hax c8 HU hu
                      replace p5 := eq_true p5
                      replace q5 := eq_true q5
                      cases wk with
                      | true =>
                        have hu := HUU.out
                        rw [if_neg (fun h => by cases h.1)] at hu
                        have HFX2 := Aside0.mk hu
                        clear hu HUU
                        go_wp2_with ((with_reducible refine gate_dst (N := 14) rfl ?_); refine box_event2 ?hg (N := 14) ?hd (cs := #[.int .i64 i0, .bool true, .string nm]) (t := 68) (zs := #[.int .i64 0, .bool false, .string ⟨#[]⟩]) ?hr rfl rfl rfl (fun _ => rfl) (fun _ => rfl) (by kernel_rfl) ?hz (by first | kernel_rfl | rfl) ?_; (case hd => rfl); (case hg => rfl); (case hr => first | (go_simp; done) | (go_simp; rfl)); (case hz => rfl); intro g14 hg w14 hb hw; have e1 : w14.cell? ⟨g14, 1, none⟩ = some (.bool true) := (by rw [cell_of_row w14 g14 1 _ _ _ hb]; rfl); have e2 : w14.cell? ⟨g14, 2, none⟩ = some (.string nm) := (by rw [cell_of_row w14 g14 2 _ _ _ hb]; rfl); replace k0 := cell_up hw k0; have HW14 := Aside0.mk (below_step HWM.out hw);  clear hg hb hw a0 a1 a2 HWM)
                        try simp only [Act.put, List.setIfInBounds_toArray, List.set_cons_succ, List.set_cons_zero]
                        have HWE := HW14
                        clear HW14
                        go_quiet (fail)
                        go_wp2
                        go_roundg (f2.length - m.toNat - 1)
                        case measure => have := HM2.out; omega
                        case rel => exact ⟨_, rfl, ⟨by rw [HV4.out]; have := HM2.out; omega⟩, ⟨by rw [HV4.out]; exact HFX2.out⟩, ⟨by first | exact HWE.out | exact pw_below_drewN HWE.out _ | exact below_drew1 HWE.out⟩⟩
                      | false =>
                        obtain ⟨bd, hbd⟩ : ∃ bd, definesF dfs2 nm = bd := ⟨_, rfl⟩
                        have HDC := Aside0.mk (fun (W : World) (hb : Below wx.heap.size wx W) => show Calls Try.prog 50 #[.agg #[.bool vh, .slice vAo vlo vco, .slice vAd dfs2.length vcd, .slice vAn nds2.length vcn], .string nm] W fun e w' => e = .returned (.bool bd) ∧ Below W.heap.size W w' from hbd ▸ defines_calls (.bool vh) (.slice vAo vlo vco) (.slice vAn nds2.length vcn) vAd vcd dfs2 nm W HLD2.out ((HDR2.out).up hb))
                        have HPB := Aside0.mk (show provF os k nm = bd by unfold provF; rw [if_neg (by have := HPA.out; omega), HROA.out]; exact hbd)
                        clear hbd
                        have kb : decide (k < 0) = false := decide_eq_false (by have := HPA.out; omega)
                        have m46 := cell_up HWM.out M46.out
                        have m47 := cell_up HWM.out M47.out
                        have m48 := cell_up HWM.out M48.out
                        have m49 := cell_up HWM.out M49.out
                        go_wp2_with ((with_reducible refine gate_dst (N := 14) rfl ?_); refine box_event2 ?hg (N := 14) ?hd (cs := #[.int .i64 i0, .bool false, .string nm]) (t := 68) (zs := #[.int .i64 0, .bool false, .string ⟨#[]⟩]) ?hr rfl rfl rfl (fun _ => rfl) (fun _ => rfl) (by kernel_rfl) ?hz (by first | kernel_rfl | rfl) ?_; (case hd => rfl); (case hg => rfl); (case hr => first | (go_simp; done) | (go_simp; rfl)); (case hz => rfl); intro g14 hg w14 hb hw; have e1 : w14.cell? ⟨g14, 1, none⟩ = some (.bool false) := (by rw [cell_of_row w14 g14 1 _ _ _ hb]; rfl); have e2 : w14.cell? ⟨g14, 2, none⟩ = some (.string nm) := (by rw [cell_of_row w14 g14 2 _ _ _ hb]; rfl); replace k0 := cell_up hw k0; have HW14 := Aside0.mk (below_step HWM.out hw); replace m46 := cell_up hw m46; replace m47 := cell_up hw m47; replace m48 := cell_up hw m48; replace m49 := cell_up hw m49; clear hg hb hw a0 a1 a2 HWM)
                        try simp only [Act.put, List.setIfInBounds_toArray, List.set_cons_succ, List.set_cons_zero]
                        have HWE := HW14
                        clear HW14
                        cases bd with
                        | true =>
                          have hu := HUU.out
                          rw [if_neg (fun h => by rw [HPB.out] at h; cases h.2)] at hu
                          have HFX2 := Aside0.mk hu
                          clear hu HUU HPB
                          go_still_tail 14, (by kernel_rfl)
                          change wpList _ _ _ _ _ w14.drew
                          have hD : Below w14.heap.size w14 w14.drew := below_drew1 (Below.refl _ _)
                          have HWF := Aside0.mk (below_step HWE.out hD)
                          replace e2 := cell_up hD e2
                          replace k0 := cell_up hD k0
                          clear HWE m46 m47 m48 m49 e1
                          generalize w14.drew = w15 at HWF e2 k0 hD ⊢
                          clear hD
                          go_wp2_with (go_at_call 50; (with_reducible refine (HDC.out _ HWF.out).mono ?_); rintro e w16 ⟨rfl, hw⟩; have HWE := Aside0.mk (below_step HWF.out hw); replace k0 := cell_up hw k0; replace e2 := cell_up hw e2; clear hw HWF)
                          go_roundg (f2.length - m.toNat - 1)
                          case measure => have := HM2.out; omega
                          case rel => exact ⟨_, rfl, ⟨by rw [HV4.out]; have := HM2.out; omega⟩, ⟨by rw [HV4.out]; exact HFX2.out⟩, ⟨by first | exact HWE.out | exact pw_below_drewN HWE.out _ | exact below_drew1 HWE.out⟩⟩
                        | false =>
                          have hu := HUU.out
                          first | rw [if_pos (show (True ∧ provF os k nm = false) from ⟨trivial, HPB.out⟩)] at hu | rw [if_pos (show (false = false ∧ provF os k nm = false) from ⟨rfl, HPB.out⟩)] at hu
                          have HFX := Aside0.mk hu.symm
                          clear hu HUU HPB
                          go_still_tail 14, (by kernel_rfl)
                          change wpList _ _ _ _ _ w14.drew
                          have hD : Below w14.heap.size w14 w14.drew := below_drew1 (Below.refl _ _)
                          have HWF := Aside0.mk (below_step HWE.out hD)
                          replace e2 := cell_up hD e2
                          replace k0 := cell_up hD k0
                          clear HWE m46 m47 m48 m49 e1
                          generalize w14.drew = w15 at HWF e2 k0 hD ⊢
                          clear hD
                          go_wp2_with (go_at_call 50; (with_reducible refine (HDC.out _ HWF.out).mono ?_); rintro e w16 ⟨rfl, hw⟩; have HWE := Aside0.mk (below_step HWF.out hw); replace k0 := cell_up hw k0; replace e2 := cell_up hw e2; clear hw HWF)
                          obtain ⟨wz, hwz⟩ : ∃ wz : World, wz = w16 := ⟨_, rfl⟩
                          rw [← hwz] at HWE k0 e2 ⊢
                          clear hwz
                          have hnd := HND.out
                          rw [show auxF (provF os k) f2 = some nm from HFX.out] at hnd
                          have hvs := HXX.out
                          rw [show needF os names nds = some (nm, f1) from hnd.symm] at hvs
                          have HOUT := Aside0.mk (show some (i, nm, f1) = r from hvs)
                          clear hnd hvs
                          have HWR := Aside0.mk (below_step HW1.out (below_step HW8.out (below_step HW10.out (below_step HWX.out HWE.out))))
                          have B5e := Aside0.mk (((below_step HW8.out (below_step HW10.out (below_step HWX.out HWE.out))).block g5 (lt_of_block B5.out)).trans B5.out)
                          go_wp2
                          go_still_tail 7, (by kernel_rfl)
                          change wpList _ _ _ _ _ wz.drew
                          have hD : Below wz.heap.size wz wz.drew := below_drew1 (Below.refl _ _)
                          have B5z := Aside0.mk ((hD.block g5 (lt_of_block B5e.out)).trans B5e.out)
                          clear hD
                          have HWZ := Aside0.mk (below_drew1 HWR.out)
                          generalize wz.drew = wy at B5z HWZ ⊢
                          go_wp2_with ((with_reducible refine gate_store (t := 74) (p := 5) rfl ?_); refine wpList_store_rowTo rfl 74 (.tmp 5) (.tmp 90) rfl rfl g5 #[.string ⟨#[]⟩, .string nm, .string f1] rfl rfl 74 _ B5z.out info74 (by kernel_rfl) (by kernel_rfl) ?_)
                          refine bodyPost_ret (v := .tuple #[.int .i64 i, .agg #[.string ⟨#[]⟩, .string nm, .string f1], .bool false]) (results_list (rs := [.tmp 4, .cell 5 74, .tmp 6]) (vs := [.int .i64 i, .agg #[.string ⟨#[]⟩, .string nm, .string f1], .bool false]) rfl (by simp) (.tmp (.cell g5 74 #[.string ⟨#[]⟩, .string nm, .string f1] (0, 0) _ rfl (setRow_heap _ _ _ _ _ _ B5z.out) hu74 rfl info74 (.tmp .nil)))) rfl ?_
                          exact ⟨by rw [← HOUT.out]; rfl, below_setRow HWZ.out G5.out _⟩
                    · have c8b0 : decide (m < (f2.length : Int)) = false := decide_eq_false c8
                      have hm : f2.drop m.toNat = [] := List.drop_eq_nil_of_le (by have := HM.out; omega)
                      have hu := HU.out
                      rw [hm] at hu
                      have hnd := HND.out
                      rw [show auxF (provF os k) f2 = none from hu.symm] at hnd
                      have HND2 := Aside0.mk (show needF os names (nds.drop (j + 1).toNat) = needF os names nds from hnd)
                      have HWL := Aside0.mk (below_step HW10.out (below_step HWX.out HWM.out))
                      clear c8 hm hu HU hnd HND
                      go_wp2
                      go_roundg (nds.length - j.toNat - 1)
                      case measure => have := HJ2.out; omega
                      case rel => exact ⟨_, rfl, ⟨by rw [HV2.out]; have := HJ2.out; omega⟩, ⟨by rw [HV2.out]; exact HND2.out⟩, HWL⟩
            · have c6b0 : decide (k < (os.length : Int)) = false := decide_eq_false c6
              have hk : os.drop k.toNat = [] := List.drop_eq_nil_of_le (by have := HK.out; omega)
              have hz := HZ.out
              rw [hk] at hz
              have HNO := Aside0.mk (show ∀ nm, provF os at_ nm = false by intro nm; rw [show at_ = -1 from hz.symm]; rfl)
              have HWX := HWK
              have k1 := cell_up HWX.out K1.out
              have K0x := Aside0.mk (cell_up HWX.out K0.out)
              have HND := HYY
              clear c6 hk hz HZ HWK
              go_wp2
              clear k1
              go_loopg [63] f2.length (fun kq v63 w' => ∃ m : Int, v63 = .int .i64 m ∧ Aside0 (0 ≤ m ∧ m ≤ f2.length ∧ kq = f2.length - m.toNat) ∧ Aside0 (auxF (provF os at_) (f2.drop m.toNat) = auxF (provF os at_) f2) ∧ Aside0 (Below wr.heap.size wr w'))
              case atStart => exact ⟨0, rfl, ⟨by omega⟩, ⟨rfl⟩, ⟨Below.refl _ _⟩⟩
              case round =>
                obtain ⟨m, rfl, HM, HU, HWM⟩ := hrel
                have p5 := HM.out.1
                by_cases c8 : m < (f2.length : Int)
                · have q5 := c8
                  have HV4 := Aside0.mk (show wrap64 (m + 1) = m + 1 by unfold wrap64; have := HM.out.1; have := HLA.out; omega)
                  have HM2 : Aside0 (0 ≤ m + 1 ∧ m + 1 ≤ f2.length ∧ f2.length - (m + 1).toNat = f2.length - m.toNat - 1 ∧ f2.length - m.toNat - 1 < gk) := ⟨by have := HM.out; omega⟩
                  have c8b0 : decide (m < (f2.length : Int)) = true := decide_eq_true c8
                  obtain ⟨ad3, i0, eB3, a0, a1, a2⟩ := ((HR10.out.up HWX.out).up HWM.out) m p5 q5
                  subst eB3
                  have hu := HU.out
                  rw [drop_rdOf ax0 p5 q5, auxF] at hu
                  obtain ⟨wk, nm, hax⟩ : ∃ wk nm, rdOf ax0 f2 m = (wk, nm) := ⟨_, _, rfl⟩
                  rw [hax] at a1 a2 hu
                  simp only at a1 a2 hu
                  have HUU := Aside0.mk hu
                  have k0 := cell_up HWM.out K0x.out
                  clear hax c8 HU hu
                  replace p5 := eq_true p5
                  replace q5 := eq_true q5
                  cases wk with
                  | true =>
                    have hu := HUU.out
                    rw [if_neg (fun h => by cases h.1)] at hu
                    have HFX2 := Aside0.mk hu
                    clear hu HUU
                    go_wp2_with ((with_reducible refine gate_dst (N := 14) rfl ?_); refine box_event2 ?hg (N := 14) ?hd (cs := #[.int .i64 i0, .bool true, .string nm]) (t := 68) (zs := #[.int .i64 0, .bool false, .string ⟨#[]⟩]) ?hr rfl rfl rfl (fun _ => rfl) (fun _ => rfl) (by kernel_rfl) ?hz (by first | kernel_rfl | rfl) ?_; (case hd => rfl); (case hg => rfl); (case hr => first | (go_simp; done) | (go_simp; rfl)); (case hz => rfl); intro g14 hg w14 hb hw; have e1 : w14.cell? ⟨g14, 1, none⟩ = some (.bool true) := (by rw [cell_of_row w14 g14 1 _ _ _ hb]; rfl); have e2 : w14.cell? ⟨g14, 2, none⟩ = some (.string nm) := (by rw [cell_of_row w14 g14 2 _ _ _ hb]; rfl); replace k0 := cell_up hw k0; have HW14 := Aside0.mk (below_step HWM.out hw);  clear hg hb hw a0 a1 a2 HWM)
                    try simp only [Act.put, List.setIfInBounds_toArray, List.set_cons_succ, List.set_cons_zero]
                    have HWE := HW14
                    clear HW14
                    go_quiet (fail)
                    go_wp2
                    go_roundg (f2.length - m.toNat - 1)
                    case measure => have := HM2.out; omega
                    case rel => exact ⟨_, rfl, ⟨by rw [HV4.out]; have := HM2.out; omega⟩, ⟨by rw [HV4.out]; exact HFX2.out⟩, ⟨by first | exact HWE.out | exact pw_below_drewN HWE.out _ | exact below_drew1 HWE.out⟩⟩
                  | false =>
                    have hp : provF os at_ nm = false ∨ True := .inr trivial
                    have hu := HUU.out
                    first | rw [if_pos (show (True ∧ provF os at_ nm = false) from ⟨trivial, HNO.out nm⟩)] at hu | rw [if_pos (show (false = false ∧ provF os at_ nm = false) from ⟨rfl, HNO.out nm⟩)] at hu
                    have HFX := Aside0.mk hu.symm
                    clear hu HUU hp
                    go_wp2_with ((with_reducible refine gate_dst (N := 14) rfl ?_); refine box_event2 ?hg (N := 14) ?hd (cs := #[.int .i64 i0, .bool false, .string nm]) (t := 68) (zs := #[.int .i64 0, .bool false, .string ⟨#[]⟩]) ?hr rfl rfl rfl (fun _ => rfl) (fun _ => rfl) (by kernel_rfl) ?hz (by first | kernel_rfl | rfl) ?_; (case hd => rfl); (case hg => rfl); (case hr => first | (go_simp; done) | (go_simp; rfl)); (case hz => rfl); intro g14 hg w14 hb hw; have e1 : w14.cell? ⟨g14, 1, none⟩ = some (.bool false) := (by rw [cell_of_row w14 g14 1 _ _ _ hb]; rfl); have e2 : w14.cell? ⟨g14, 2, none⟩ = some (.string nm) := (by rw [cell_of_row w14 g14 2 _ _ _ hb]; rfl); replace k0 := cell_up hw k0; have HW14 := Aside0.mk (below_step HWM.out hw);  clear hg hb hw a0 a1 a2 HWM)
                    try simp only [Act.put, List.setIfInBounds_toArray, List.set_cons_succ, List.set_cons_zero]
                    have HWE := Aside0.mk (HW14.out)
                    clear HW14
                    go_quiet (fail)
                    have HWE2 := Aside0.mk (pw_below_drewN HWE.out nq)
                    clear HWE
                    have HWE := HWE2
                    clear HWE2
                    have hD : Below w14.heap.size w14 (w14.drewN nq) := pw_below_drewN (Below.refl _ _) nq
                    replace k0 := cell_up hD k0
                    replace e2 := cell_up hD e2
                    clear hD
                    obtain ⟨wz, hwz⟩ : ∃ wz : World, wz = w14.drewN nq := ⟨_, rfl⟩
                    rw [← hwz] at HWE k0 e2 ⊢
                    clear hwz
                    have hnd := HND.out
                    rw [show auxF (provF os at_) f2 = some nm from HFX.out] at hnd
                    have hvs := HXX.out
                    rw [show needF os names nds = some (nm, f1) from hnd.symm] at hvs
                    have HOUT := Aside0.mk (show some (i, nm, f1) = r from hvs)
                    clear hnd hvs
                    have HWR := Aside0.mk (below_step HW1.out (below_step HW8.out (below_step HW10.out (below_step HWX.out HWE.out))))
                    have B5e := Aside0.mk (((below_step HW8.out (below_step HW10.out (below_step HWX.out HWE.out))).block g5 (lt_of_block B5.out)).trans B5.out)
                    go_wp2
                    go_still_tail 7, (by kernel_rfl)
                    change wpList _ _ _ _ _ wz.drew
                    have hD : Below wz.heap.size wz wz.drew := below_drew1 (Below.refl _ _)
                    have B5z := Aside0.mk ((hD.block g5 (lt_of_block B5e.out)).trans B5e.out)
                    clear hD
                    have HWZ := Aside0.mk (below_drew1 HWR.out)
                    generalize wz.drew = wy at B5z HWZ ⊢
                    go_wp2_with ((with_reducible refine gate_store (t := 74) (p := 5) rfl ?_); refine wpList_store_rowTo rfl 74 (.tmp 5) (.tmp 90) rfl rfl g5 #[.string ⟨#[]⟩, .string nm, .string f1] rfl rfl 74 _ B5z.out info74 (by kernel_rfl) (by kernel_rfl) ?_)
                    refine bodyPost_ret (v := .tuple #[.int .i64 i, .agg #[.string ⟨#[]⟩, .string nm, .string f1], .bool false]) (results_list (rs := [.tmp 4, .cell 5 74, .tmp 6]) (vs := [.int .i64 i, .agg #[.string ⟨#[]⟩, .string nm, .string f1], .bool false]) rfl (by simp) (.tmp (.cell g5 74 #[.string ⟨#[]⟩, .string nm, .string f1] (0, 0) _ rfl (setRow_heap _ _ _ _ _ _ B5z.out) hu74 rfl info74 (.tmp .nil)))) rfl ?_
                    exact ⟨by rw [← HOUT.out]; rfl, below_setRow HWZ.out G5.out _⟩
                · have c8b0 : decide (m < (f2.length : Int)) = false := decide_eq_false c8
                  have hm : f2.drop m.toNat = [] := List.drop_eq_nil_of_le (by have := HM.out; omega)
                  have hu := HU.out
                  rw [hm] at hu
                  have hnd := HND.out
                  rw [show auxF (provF os at_) f2 = none from hu.symm] at hnd
                  have HND2 := Aside0.mk (show needF os names (nds.drop (j + 1).toNat) = needF os names nds from hnd)
                  have HWL := Aside0.mk (below_step HW10.out (below_step HWX.out HWM.out))
                  clear c8 hm hu HU hnd HND
                  go_wp2
                  go_roundg (nds.length - j.toNat - 1)
                  case measure => have := HJ2.out; omega
                  case rel => exact ⟨_, rfl, ⟨by rw [HV2.out]; have := HJ2.out; omega⟩, ⟨by rw [HV2.out]; exact HND2.out⟩, HWL⟩
        · have c5b0 : decide (j < (nds.length : Int)) = false := decide_eq_false c5
          have hj : nds.drop j.toNat = [] := List.drop_eq_nil_of_le (by have := HJ.out; omega)
          have hy := HY.out
          rw [hj] at hy
          have HXN := Aside0.mk (show versF os names (os.drop (i + 1).toNat) (i + 1) = r by have h := HXX.out; rw [show needF os names nds = none from hy.symm] at h; exact h)
          have HWL := Aside0.mk (below_step HW8.out HWJ.out)
          clear c5 hj hy HY HXX
          go_wp2
          go_roundg (os.length - i.toNat - 1)
          case measure => have := HI2.out; omega
          case rel => exact ⟨_, rfl, ⟨by rw [HV.out]; have := HI2.out; omega⟩, ⟨by rw [HV.out]; exact HXN.out⟩, HWL⟩
    · have c4b0 : decide (i < (os.length : Int)) = false := decide_eq_false c4
      have hi : os.drop i.toNat = [] := List.drop_eq_nil_of_le (by have := HI.out; omega)
      have hx := HX.out
      rw [hi] at hx
      have HOUT := Aside0.mk (show none = r from hx)
      have B5z := Aside0.mk ((HW.out.block g5 (lt_of_block B5.out)).trans B5.out)
      have HWZ := Aside0.mk (below_step HW1.out HW.out)
      clear c4 hi hx HX
      go_wp2_with ((with_reducible refine gate_store (t := 74) (p := 5) rfl ?_); refine wpList_store_rowTo rfl 74 (.tmp 5) (.tmp 94) rfl rfl g5 #[.string ⟨#[]⟩, .string ⟨#[]⟩, .string ⟨#[]⟩] rfl rfl 74 _ B5z.out info74 (by kernel_rfl) (by kernel_rfl) ?_)
      refine bodyPost_ret (v := .tuple #[.int .i64 0, .agg #[.string ⟨#[]⟩, .string ⟨#[]⟩, .string ⟨#[]⟩], .bool true]) (results_list (rs := [.tmp 4, .cell 5 74, .tmp 6]) (vs := [.int .i64 0, .agg #[.string ⟨#[]⟩, .string ⟨#[]⟩, .string ⟨#[]⟩], .bool true]) rfl (by simp) (.tmp (.cell g5 74 #[.string ⟨#[]⟩, .string ⟨#[]⟩, .string ⟨#[]⟩] (0, 0) _ rfl (setRow_heap _ _ _ _ _ _ B5z.out) hu74 rfl info74 (.tmp .nil)))) rfl ?_
      exact ⟨by rw [← HOUT.out]; rfl, below_setRow HWZ.out G5.out _⟩
end Go.Proofs.Ythopdoamajjojaa.BindS
