import Derived.Test.YthopdoamajjojaaBindDef
namespace Go.Proofs.Ythopdoamajjojaa.BindS
open Go Go.RowKit Go.Proofs.YthopdoamajjojaaW.PrintWords Go.Proofs.YthopdoamajjojaaW.PrintLast Go.Proofs.YthopdoamajjojaaW.PrintMore
set_option linter.unusedVariables false
set_option linter.unusedSimpArgs false
structure Cells (cs : Array Value) (has : Bool) (Ao Ad An : Option Addr) (lo ld ln co cd cn : Nat) : Prop where
  sz : cs.size = 54
  c46 : cs[46]? = some (.bool has)
  c47 : cs[47]? = some (.slice Ao lo co)
  c48 : cs[48]? = some (.slice Ad ld cd)
  c49 : cs[49]? = some (.slice An ln cn)
def wordF (has : Bool) (ws : List Int) (sym : Int) : Int × Bool := if has = true ∧ sym < (ws.length : Int) then (rd ws sym, true) else (0, false)
set_option maxHeartbeats 8000000 in
set_option maxRecDepth 100000 in
theorem word_calls (cs : Array Value) (has : Bool) (Ao Ad An : Option Addr) (ld ln co cd cn : Nat) (ws : List Int) (hc : Cells cs has Ao Ad An ws.length ld ln co cd cn) (sym : Int) (w : World) (h0 : 0 ≤ sym) (hw : Kd.C (Kd.int .i64) w Ao ws.length ws) :
    Calls Try.prog 76 #[.agg cs, .int .i64 sym] w fun e w' => e = .returned (.tuple #[.int .i64 (wordF has ws sym).1, .bool (wordF has ws sym).2]) ∧ Below w.heap.size w w' := by
  have HC := Aside0.mk hc
  have HW := Aside0.mk hw
  have H0 := Aside0.mk h0
  clear hc hw h0
  by_cases hh : has = true
  · by_cases hs : sym < (ws.length : Int)
    · have e : wordF has ws sym = (rd ws sym, true) := by unfold wordF; rw [if_pos ⟨hh, hs⟩]
      rw [e]
      clear e
      subst hh
      have H1 := Aside0.mk hs
      have c4b0 : decide ((ws.length : Int) ≤ sym) = false := decide_eq_false (by omega)
      clear hs
      obtain ⟨x, hx⟩ : ∃ x, x = rd ws sym := ⟨_, rfl⟩
      rw [← hx]
      obtain ⟨ad, e153, hxc⟩ := Kd.at_int HW.out sym H0.out H1.out
      rw [← hx] at hxc
      subst e153
      clear hx
      have p1 := eq_true H0.out
      have q1 := eq_true H1.out
      go_enter Try.func76, Try.ntmps76
      go_wp2_with ((with_reducible refine gate_dst (N := 2) rfl ?_); refine box_event ?hg (N := 2) ?hd (cs := cs) (t := 127) ?hr ?_; (case hd => rfl); (case hg => rfl); (case hr => first | (go_simp; done) | (go_simp; rfl)); intro g hg w1 hb1 hw1; have h46 := (cell_of_row w1 g 46 _ _ _ hb1).trans HC.out.c46; have h47 := (cell_of_row w1 g 47 _ _ _ hb1).trans HC.out.c47; replace hxc := cell_up hw1 hxc; clear hg hb1)
      go_ret2
      exact ⟨rfl, hw1⟩
    · have e : wordF has ws sym = (0, false) := by unfold wordF; rw [if_neg (fun h => hs h.2)]
      rw [e]
      clear e
      subst hh
      have c4b0 : decide ((ws.length : Int) ≤ sym) = true := decide_eq_true (by omega)
      clear hs
      go_enter Try.func76, Try.ntmps76
      go_wp2_with ((with_reducible refine gate_dst (N := 2) rfl ?_); refine box_event ?hg (N := 2) ?hd (cs := cs) (t := 127) ?hr ?_; (case hd => rfl); (case hg => rfl); (case hr => first | (go_simp; done) | (go_simp; rfl)); intro g hg w1 hb1 hw1; have h46 := (cell_of_row w1 g 46 _ _ _ hb1).trans HC.out.c46; have h47 := (cell_of_row w1 g 47 _ _ _ hb1).trans HC.out.c47; clear hg hb1)
      go_ret2
      exact ⟨rfl, hw1⟩
  · have e : wordF has ws sym = (0, false) := by unfold wordF; rw [if_neg (fun h => hh h.1)]
    rw [e]
    clear e
    obtain rfl : has = false := by simpa using hh
    clear hh
    go_enter Try.func76, Try.ntmps76
    go_wp2_with ((with_reducible refine gate_dst (N := 2) rfl ?_); refine box_event ?hg (N := 2) ?hd (cs := cs) (t := 127) ?hr ?_; (case hd => rfl); (case hg => rfl); (case hr => first | (go_simp; done) | (go_simp; rfl)); intro g hg w1 hb1 hw1; have h46 := (cell_of_row w1 g 46 _ _ _ hb1).trans HC.out.c46; have h47 := (cell_of_row w1 g 47 _ _ _ hb1).trans HC.out.c47; clear hg hb1)
    go_ret2
    exact ⟨rfl, hw1⟩
def namedD (index : Int) : List (Int × Bool × ByteArray) → Option ByteArray
  | [] => none
  | d :: l => if d.1 = index ∧ ¬ (index = 1 ∧ d.2.1 = true) then some d.2.2 else namedD index l
def namedA (index : Int) : List (Int × ByteArray) → Option ByteArray
  | [] => none
  | a :: l => if a.1 = index then some a.2 else namedA index l
def namedN (index : Int) : List (ByteArray × List (Int × ByteArray)) → Option (ByteArray × ByteArray)
  | [] => none
  | n :: l => match namedA index n.2 with
    | some a => some (a, n.1)
    | none => namedN index l
def namedF (ds : List (Int × Bool × ByteArray)) (ns : List (ByteArray × List (Int × ByteArray))) (index : Int) : ByteArray × ByteArray × Bool :=
  match namedD index ds with
  | some d => (d, ⟨#[]⟩, true)
  | none => match namedN index ns with
    | some x => (x.1, x.2, true)
    | none => (⟨#[]⟩, ⟨#[]⟩, false)
def d0 : Int × Bool × ByteArray := (0, false, ByteArray.empty)
def a0 : Int × ByteArray := (0, ByteArray.empty)
def n0 : ByteArray × List (Int × ByteArray) := (ByteArray.empty, [])
def DRow (w : World) (A : Option Addr) (ds : List (Int × Bool × ByteArray)) : Prop :=
  ∀ i : Int, 0 ≤ i → i < (ds.length : Int) → ∃ ad A3 n3 c3, A = some ad ∧ w.cell? (ad.add (i.toNat * 4)) = some (.int .i64 (rdOf d0 ds i).1) ∧ w.cell? ⟨(ad.add (i.toNat * 4)).block, (ad.add (i.toNat * 4)).off + 1, none⟩ = some (.bool (rdOf d0 ds i).2.1) ∧
    w.cell? ⟨(ad.add (i.toNat * 4)).block, (ad.add (i.toNat * 4)).off + 2, none⟩ = some (.string (rdOf d0 ds i).2.2) ∧ w.cell? ⟨(ad.add (i.toNat * 4)).block, (ad.add (i.toNat * 4)).off + 3, none⟩ = some (.slice A3 n3 c3)
def ARow (w : World) (A : Option Addr) (vs : List (Int × ByteArray)) : Prop :=
  ∀ i : Int, 0 ≤ i → i < (vs.length : Int) → ∃ ad b1, A = some ad ∧ w.cell? (ad.add (i.toNat * 3)) = some (.int .i64 (rdOf a0 vs i).1) ∧ w.cell? ⟨(ad.add (i.toNat * 3)).block, (ad.add (i.toNat * 3)).off + 1, none⟩ = some (.bool b1) ∧
    w.cell? ⟨(ad.add (i.toNat * 3)).block, (ad.add (i.toNat * 3)).off + 2, none⟩ = some (.string (rdOf a0 vs i).2)
def NRow (w : World) (A : Option Addr) (ns : List (ByteArray × List (Int × ByteArray))) : Prop :=
  ∀ i : Int, 0 ≤ i → i < (ns.length : Int) → ∃ ad B c, A = some ad ∧ w.cell? (ad.add (i.toNat * 2)) = some (.string (rdOf n0 ns i).1) ∧ w.cell? ⟨(ad.add (i.toNat * 2)).block, (ad.add (i.toNat * 2)).off + 1, none⟩ = some (.slice B (rdOf n0 ns i).2.length c) ∧
    ARow w B (rdOf n0 ns i).2 ∧ (rdOf n0 ns i).2.length ≤ 9223372036854775807
section
variable {w w1 : World} {A : Option Addr}
theorem DRow.up {ds : List (Int × Bool × ByteArray)} (h : DRow w A ds) (hb : Below w.heap.size w w1) : DRow w1 A ds := by
  intro i h0 h1
  obtain ⟨ad, A3, n3, c3, e, a, b, c, d⟩ := h i h0 h1
  exact ⟨ad, A3, n3, c3, e, cell_up hb a, cell_up hb b, cell_up hb c, cell_up hb d⟩
theorem ARow.up {ds : List (Int × ByteArray)} (h : ARow w A ds) (hb : Below w.heap.size w w1) : ARow w1 A ds := by
  intro i h0 h1
  obtain ⟨ad, c1, e, a, b, c⟩ := h i h0 h1
  exact ⟨ad, c1, e, cell_up hb a, cell_up hb b, cell_up hb c⟩
theorem NRow.up {ds : List (ByteArray × List (Int × ByteArray))} (h : NRow w A ds) (hb : Below w.heap.size w w1) : NRow w1 A ds := by
  intro i h0 h1
  obtain ⟨ad, B, c, e, a, b, r, l⟩ := h i h0 h1
  exact ⟨ad, B, c, e, cell_up hb a, cell_up hb b, r.up hb, l⟩
end
set_option maxHeartbeats 16000000 in
set_option maxRecDepth 100000 in
theorem named_calls (c0 c1 : Value) (Ad An : Option Addr) (cd cn : Nat) (ds : List (Int × Bool × ByteArray)) (ns : List (ByteArray × List (Int × ByteArray))) (index : Int) (w : World) (hd : DRow w Ad ds) (hn : NRow w An ns) (hld : ds.length ≤ 9223372036854775807) (hln : ns.length ≤ 9223372036854775807) :
    Calls Try.prog 77 #[.agg #[c0, c1, .slice Ad ds.length cd, .slice An ns.length cn], .int .i64 index] w fun e w' => e = .returned (.tuple #[.string (namedF ds ns index).1, .string (namedF ds ns index).2.1, .bool (namedF ds ns index).2.2]) ∧ Below w.heap.size w w' := by
  obtain ⟨r1, r2, r3, hr⟩ : ∃ r1 r2 r3, namedF ds ns index = (r1, r2, r3) := ⟨_, _, _, rfl⟩
  rw [hr]
  have HF := Aside0.mk hr
  have HD := Aside0.mk hd
  have HN := Aside0.mk hn
  have HLD := Aside0.mk hld
  have HLN := Aside0.mk hln
  clear hr hd hn hld hln
  have hu54 := Try.underlying54
  have hu63 := Try.underlying63
  have hu66 := Try.underlying66
  have hu68 := Try.underlying68
  go_enter Try.func77, Try.ntmps77
  go_wp2_with ((with_reducible refine gate_dst (N := 2) rfl ?_); refine box_event ?hg (N := 2) ?hd (cs := #[c0, c1, .slice Ad ds.length cd, .slice An ns.length cn]) (t := 54) ?hr ?_; (case hd => rfl); (case hg => rfl); (case hr => first | (go_simp; done) | (go_simp; rfl)); intro g hg w1 hb1 hw1; have h2 : w1.cell? ⟨g, 2, none⟩ = some (.slice Ad ds.length cd) := (by rw [cell_of_row w1 g 2 _ _ _ hb1]; rfl); have h3 : w1.cell? ⟨g, 3, none⟩ = some (.slice An ns.length cn) := (by rw [cell_of_row w1 g 3 _ _ _ hb1]; rfl); have H3 := Aside0.mk h3; have HW1 := Aside0.mk hw1; clear hg hb1 h3 hw1)
  clear h2
  go_loopg [16] ds.length (fun kq v16 w' => ∃ i : Int, v16 = .int .i64 i ∧ Aside0 (0 ≤ i ∧ i ≤ ds.length ∧ kq = ds.length - i.toNat) ∧ Aside0 (namedD index (ds.drop i.toNat) = namedD index ds) ∧ Aside0 (Below w1.heap.size w1 w'))
  case atStart => exact ⟨0, rfl, ⟨by omega⟩, ⟨rfl⟩, ⟨Below.refl _ _⟩⟩
  case round =>
    obtain ⟨i, rfl, HI, HX, HW⟩ := hrel
    have p1 := HI.out.1
    by_cases c4 : i < (ds.length : Int)
    · have q1 := c4
      have HV := Aside0.mk (show wrap64 (i + 1) = i + 1 by unfold wrap64; have := HI.out.1; have := HLD.out; omega)
      have HI2 : Aside0 (0 ≤ i + 1 ∧ i + 1 ≤ ds.length ∧ ds.length - (i + 1).toNat = ds.length - i.toNat - 1 ∧ ds.length - i.toNat - 1 < gk) := ⟨by have := HI.out; omega⟩
      have c4b0 : decide (i < (ds.length : Int)) = true := decide_eq_true c4
      obtain ⟨ad, A3, n3, c3, eA, g0, g1, g2, g3⟩ := ((HD.out.up HW1.out).up HW.out) i p1 q1
      subst eA
      have hx := HX.out
      rw [drop_rdOf d0 p1 q1, namedD] at hx
      obtain ⟨d1, d2, d3, hds⟩ : ∃ d1 d2 d3, rdOf d0 ds i = (d1, d2, d3) := ⟨_, _, _, rfl⟩
      rw [hds] at g0 g1 g2 hx
      simp only at g0 g1 g2 hx
      have HXX := Aside0.mk hx
      clear hds c4 HX hx
      replace p1 := eq_true p1
      replace q1 := eq_true q1
      rcases hq : (d1 == index) with _ | _
      · have a2 : ¬ (d1 = index ∧ ¬ (index = 1 ∧ d2 = true)) := fun b => by rw [b.1] at hq; simp at hq
        have hxx := HXX.out
        rw [if_neg a2] at hxx
        have HXX2 := Aside0.mk hxx
        clear hxx a2
        go_wp2_with ((with_reducible refine gate_dst (N := 8) rfl ?_); refine box_event2 ?hg (N := 8) ?hd (cs := #[.int .i64 d1, .bool d2, .string d3, .slice A3 n3 c3]) (t := 63) (zs := #[.int .i64 0, .bool false, .string ⟨#[]⟩, .slice none 0 0]) ?hr rfl rfl rfl (fun _ => rfl) (fun _ => rfl) (by kernel_rfl) ?hz (by first | kernel_rfl | rfl) ?_; (case hd => rfl); (case hg => rfl); (case hr => first | (go_simp; done) | (go_simp; rfl)); (case hz => rfl); intro g8 hg8 w8 hb8 hw8; have k0 : w8.cell? ⟨g8, 0, none⟩ = some (.int .i64 d1) := (by rw [cell_of_row w8 g8 0 _ _ _ hb8]; rfl); have k1 : w8.cell? ⟨g8, 1, none⟩ = some (.bool d2) := (by rw [cell_of_row w8 g8 1 _ _ _ hb8]; rfl); have k2 : w8.cell? ⟨g8, 2, none⟩ = some (.string d3) := (by rw [cell_of_row w8 g8 2 _ _ _ hb8]; rfl); have HW8 := Aside0.mk (below_step HW.out hw8); clear hg8 hb8 hw8 g0 g1 g2 g3 HW)
        go_roundg (ds.length - i.toNat - 1)
        case measure => have := HI2.out; omega
        case rel => exact ⟨_, rfl, ⟨by rw [HV.out]; have := HI2.out; omega⟩, ⟨by rw [HV.out]; exact HXX2.out⟩, HW8⟩
      · have a1 : d1 = index := by simpa using hq
        rcases hz : (index == 1) with _ | _
        · have a2 : ¬ (index = 1 ∧ d2 = true) := fun b => by rw [b.1] at hz; simp at hz
          have hxx := HXX.out
          rw [if_pos ⟨a1, a2⟩] at hxx
          have hf := HF.out
          unfold namedF at hf
          rw [← hxx] at hf
          simp only [Prod.mk.injEq] at hf
          obtain ⟨h1, h2, h3⟩ := hf
          have HE := Aside0.mk (And.intro h1 (And.intro h2 h3))
          clear h1 h2 h3 hxx a1 a2
          go_wp2_with ((with_reducible refine gate_dst (N := 8) rfl ?_); refine box_event2 ?hg (N := 8) ?hd (cs := #[.int .i64 d1, .bool d2, .string d3, .slice A3 n3 c3]) (t := 63) (zs := #[.int .i64 0, .bool false, .string ⟨#[]⟩, .slice none 0 0]) ?hr rfl rfl rfl (fun _ => rfl) (fun _ => rfl) (by kernel_rfl) ?hz (by first | kernel_rfl | rfl) ?_; (case hd => rfl); (case hg => rfl); (case hr => first | (go_simp; done) | (go_simp; rfl)); (case hz => rfl); intro g8 hg8 w8 hb8 hw8; have k0 : w8.cell? ⟨g8, 0, none⟩ = some (.int .i64 d1) := (by rw [cell_of_row w8 g8 0 _ _ _ hb8]; rfl); have k1 : w8.cell? ⟨g8, 1, none⟩ = some (.bool d2) := (by rw [cell_of_row w8 g8 1 _ _ _ hb8]; rfl); have k2 : w8.cell? ⟨g8, 2, none⟩ = some (.string d3) := (by rw [cell_of_row w8 g8 2 _ _ _ hb8]; rfl); have HW8 := Aside0.mk (below_step HW.out hw8); clear hg8 hb8 hw8 g0 g1 g2 g3 HW)
          go_ret3
          exact ⟨by rw [← HE.out.1, ← HE.out.2.1, ← HE.out.2.2]; rfl, below_step HW1.out HW8.out⟩
        · cases d2 with
          | false =>
            have a2 : ¬ (index = 1 ∧ false = true) := fun b => by cases b.2
            have hxx := HXX.out
            rw [if_pos ⟨a1, a2⟩] at hxx
            have hf := HF.out
            unfold namedF at hf
            rw [← hxx] at hf
            simp only [Prod.mk.injEq] at hf
            obtain ⟨h1, h2, h3⟩ := hf
            have HE := Aside0.mk (And.intro h1 (And.intro h2 h3))
            clear h1 h2 h3 hxx a1 a2
            go_wp2_with ((with_reducible refine gate_dst (N := 8) rfl ?_); refine box_event2 ?hg (N := 8) ?hd (cs := #[.int .i64 d1, .bool false, .string d3, .slice A3 n3 c3]) (t := 63) (zs := #[.int .i64 0, .bool false, .string ⟨#[]⟩, .slice none 0 0]) ?hr rfl rfl rfl (fun _ => rfl) (fun _ => rfl) (by kernel_rfl) ?hz (by first | kernel_rfl | rfl) ?_; (case hd => rfl); (case hg => rfl); (case hr => first | (go_simp; done) | (go_simp; rfl)); (case hz => rfl); intro g8 hg8 w8 hb8 hw8; have k0 : w8.cell? ⟨g8, 0, none⟩ = some (.int .i64 d1) := (by rw [cell_of_row w8 g8 0 _ _ _ hb8]; rfl); have k1 : w8.cell? ⟨g8, 1, none⟩ = some (.bool false) := (by rw [cell_of_row w8 g8 1 _ _ _ hb8]; rfl); have k2 : w8.cell? ⟨g8, 2, none⟩ = some (.string d3) := (by rw [cell_of_row w8 g8 2 _ _ _ hb8]; rfl); have HW8 := Aside0.mk (below_step HW.out hw8); clear hg8 hb8 hw8 g0 g1 g2 g3 HW)
            go_ret3
            exact ⟨by rw [← HE.out.1, ← HE.out.2.1, ← HE.out.2.2]; rfl, below_step HW1.out HW8.out⟩
          | true =>
            have a2 : ¬ (d1 = index ∧ ¬ (index = 1 ∧ true = true)) := fun b => b.2 ⟨by simpa using hz, rfl⟩
            clear a1
            have hxx := HXX.out
            rw [if_neg a2] at hxx
            have HXX2 := Aside0.mk hxx
            clear hxx a2
            go_wp2_with ((with_reducible refine gate_dst (N := 8) rfl ?_); refine box_event2 ?hg (N := 8) ?hd (cs := #[.int .i64 d1, .bool true, .string d3, .slice A3 n3 c3]) (t := 63) (zs := #[.int .i64 0, .bool false, .string ⟨#[]⟩, .slice none 0 0]) ?hr rfl rfl rfl (fun _ => rfl) (fun _ => rfl) (by kernel_rfl) ?hz (by first | kernel_rfl | rfl) ?_; (case hd => rfl); (case hg => rfl); (case hr => first | (go_simp; done) | (go_simp; rfl)); (case hz => rfl); intro g8 hg8 w8 hb8 hw8; have k0 : w8.cell? ⟨g8, 0, none⟩ = some (.int .i64 d1) := (by rw [cell_of_row w8 g8 0 _ _ _ hb8]; rfl); have k1 : w8.cell? ⟨g8, 1, none⟩ = some (.bool true) := (by rw [cell_of_row w8 g8 1 _ _ _ hb8]; rfl); have k2 : w8.cell? ⟨g8, 2, none⟩ = some (.string d3) := (by rw [cell_of_row w8 g8 2 _ _ _ hb8]; rfl); have HW8 := Aside0.mk (below_step HW.out hw8); clear hg8 hb8 hw8 g0 g1 g2 g3 HW)
            go_roundg (ds.length - i.toNat - 1)
            case measure => have := HI2.out; omega
            case rel => exact ⟨_, rfl, ⟨by rw [HV.out]; have := HI2.out; omega⟩, ⟨by rw [HV.out]; exact HXX2.out⟩, HW8⟩
    · have c4b0 : decide (i < (ds.length : Int)) = false := decide_eq_false c4
      have hi : ds.drop i.toNat = [] := List.drop_eq_nil_of_le (by have := HI.out; omega)
      have hx := HX.out
      rw [hi] at hx
      have HX2 := Aside0.mk (show namedD index ds = none from hx.symm)
      have HFN : Aside0 ((match namedN index ns with | some x => (x.1, x.2, true) | none => ((⟨#[]⟩ : ByteArray), (⟨#[]⟩ : ByteArray), false)) = (r1, r2, r3)) := ⟨by have h := HF.out; unfold namedF at h; rw [HX2.out] at h; exact h⟩
      have h3 := cell_up HW.out H3.out
      clear c4 hi HX hx HX2 HF HI HD HLD
      have HWO := Aside0.mk (below_step HW1.out HW.out)
      clear HW1 HW H3
      obtain ⟨wo, hwo⟩ : ∃ wo : World, wo = wr := ⟨_, rfl⟩
      rw [← hwo] at HWO
      go_wp2
      rw [← hwo]
      clear h3 hwo
      go_loopg [39] ns.length (fun kq v39 w' => ∃ i : Int, v39 = .int .i64 i ∧ Aside0 (0 ≤ i ∧ i ≤ ns.length ∧ kq = ns.length - i.toNat) ∧ Aside0 (namedN index (ns.drop i.toNat) = namedN index ns) ∧ Aside0 (Below wo.heap.size wo w'))
      case atStart => exact ⟨0, rfl, ⟨by omega⟩, ⟨rfl⟩, ⟨Below.refl _ _⟩⟩
      case round =>
        obtain ⟨i, rfl, HI, HX, HW⟩ := hrel
        have p1 := HI.out.1
        by_cases c4 : i < (ns.length : Int)
        · have q1 := c4
          have HV := Aside0.mk (show wrap64 (i + 1) = i + 1 by unfold wrap64; have := HI.out.1; have := HLN.out; omega)
          have HI2 : Aside0 (0 ≤ i + 1 ∧ i + 1 ≤ ns.length ∧ ns.length - (i + 1).toNat = ns.length - i.toNat - 1 ∧ ns.length - i.toNat - 1 < gk) := ⟨by have := HI.out; omega⟩
          have c4b0 : decide (i < (ns.length : Int)) = true := decide_eq_true c4
          obtain ⟨ad, B, cb, eA, g0, g1, hra, hla⟩ := ((HN.out.up HWO.out).up HW.out) i p1 q1
          subst eA
          have hx := HX.out
          rw [drop_rdOf n0 p1 q1, namedN] at hx
          obtain ⟨f1, f2, hds⟩ : ∃ f1 f2, rdOf n0 ns i = (f1, f2) := ⟨_, _, rfl⟩
          rw [hds] at g0 g1 hx hra hla
          simp only at g0 g1 hx hra hla
          have HXX := Aside0.mk hx
          have HAR := Aside0.mk hra
          have HLA := Aside0.mk hla
          clear hds c4 HX hx hra hla
          replace p1 := eq_true p1
          replace q1 := eq_true q1
          go_wp2_with ((with_reducible refine gate_dst (N := 10) rfl ?_); refine box_event2 ?hg (N := 10) ?hd (cs := #[.string f1, .slice B f2.length cb]) (t := 66) (zs := #[.string ⟨#[]⟩, .slice none 0 0]) ?hr rfl rfl rfl (fun _ => rfl) (fun _ => rfl) (by kernel_rfl) ?hz (by first | kernel_rfl | rfl) ?_; (case hd => rfl); (case hg => rfl); (case hr => first | (go_simp; done) | (go_simp; rfl)); (case hz => rfl); intro g8 hg8 w8 hb8 hw8; have K0 := Aside0.mk (show w8.cell? ⟨g8, 0, none⟩ = some (.string f1) by rw [cell_of_row w8 g8 0 _ _ _ hb8]; rfl); have k1 : w8.cell? ⟨g8, 1, none⟩ = some (.slice B f2.length cb) := (by rw [cell_of_row w8 g8 1 _ _ _ hb8]; rfl); have HW8 := Aside0.mk (below_step HW.out hw8); have HR8 := Aside0.mk (HAR.out.up hw8); clear hg8 hb8 hw8 g0 g1 HW HAR)
          clear k1
          obtain ⟨wm, hwm⟩ : ∃ wm : World, wm = w8 := ⟨_, rfl⟩
          rw [← hwm]
          rw [← hwm] at K0 HW8 HR8
          clear hwm
          go_loopg [46] f2.length (fun kq v46 w' => ∃ j : Int, v46 = .int .i64 j ∧ Aside0 (0 ≤ j ∧ j ≤ f2.length ∧ kq = f2.length - j.toNat) ∧ Aside0 (namedA index (f2.drop j.toNat) = namedA index f2) ∧ Aside0 (Below wm.heap.size wm w'))
          case atStart => exact ⟨0, rfl, ⟨by omega⟩, ⟨rfl⟩, ⟨Below.refl _ _⟩⟩
          case round =>
            obtain ⟨j, rfl, HJ, HY, HWI⟩ := hrel
            have p2 := HJ.out.1
            by_cases c5 : j < (f2.length : Int)
            · have q2 := c5
              have HV2 := Aside0.mk (show wrap64 (j + 1) = j + 1 by unfold wrap64; have := HJ.out.1; have := HLA.out; omega)
              have HJ2 : Aside0 (0 ≤ j + 1 ∧ j + 1 ≤ f2.length ∧ f2.length - (j + 1).toNat = f2.length - j.toNat - 1 ∧ f2.length - j.toNat - 1 < gk) := ⟨by have := HJ.out; omega⟩
              have c5b0 : decide (j < (f2.length : Int)) = true := decide_eq_true c5
              obtain ⟨ad2, b1, eB, q0, q1_, q2_⟩ := (HR8.out.up HWI.out) j p2 q2
              subst eB
              have hy := HY.out
              rw [drop_rdOf a0 p2 q2, namedA] at hy
              obtain ⟨e1, e2, hes⟩ : ∃ e1 e2, rdOf a0 f2 j = (e1, e2) := ⟨_, _, rfl⟩
              rw [hes] at q0 q2_ hy
              simp only at q0 q2_ hy
              have HYY := Aside0.mk hy
              have k0 := cell_up HWI.out K0.out
              clear hes c5 HY hy
              replace p2 := eq_true p2
              replace q2 := eq_true q2
              rcases hq : (e1 == index) with _ | _
              · have a1 : ¬ e1 = index := fun b => by rw [b] at hq; simp at hq
                have hyy := HYY.out
                rw [if_neg a1] at hyy
                have HYY2 := Aside0.mk hyy
                clear hyy a1
                go_wp2_with ((with_reducible refine gate_dst (N := 12) rfl ?_); refine box_event2 ?hg (N := 12) ?hd (cs := #[.int .i64 e1, .bool b1, .string e2]) (t := 68) (zs := #[.int .i64 0, .bool false, .string ⟨#[]⟩]) ?hr rfl rfl rfl (fun _ => rfl) (fun _ => rfl) (by kernel_rfl) ?hz (by first | kernel_rfl | rfl) ?_; (case hd => rfl); (case hg => rfl); (case hr => first | (go_simp; done) | (go_simp; rfl)); (case hz => rfl); intro g9 hg9 w9 hb9 hw9; have m0 : w9.cell? ⟨g9, 0, none⟩ = some (.int .i64 e1) := (by rw [cell_of_row w9 g9 0 _ _ _ hb9]; rfl); have m2 : w9.cell? ⟨g9, 2, none⟩ = some (.string e2) := (by rw [cell_of_row w9 g9 2 _ _ _ hb9]; rfl); replace k0 := cell_up hw9 k0; have HW9 := Aside0.mk (below_step HWI.out hw9); clear hg9 hb9 hw9 q0 q1_ q2_ HWI)
                go_roundg (f2.length - j.toNat - 1)
                case measure => have := HJ2.out; omega
                case rel => exact ⟨_, rfl, ⟨by rw [HV2.out]; have := HJ2.out; omega⟩, ⟨by rw [HV2.out]; exact HYY2.out⟩, HW9⟩
              · have a1 : e1 = index := by simpa using hq
                have hyy := HYY.out
                rw [if_pos a1] at hyy
                have hxx := HXX.out
                rw [← hyy] at hxx
                simp only at hxx
                have hf := HFN.out
                rw [← hxx] at hf
                simp only [Prod.mk.injEq] at hf
                obtain ⟨h1, h2, h3⟩ := hf
                have HE := Aside0.mk (And.intro h1 (And.intro h2 h3))
                clear h1 h2 h3 hxx hyy a1
                go_wp2_with ((with_reducible refine gate_dst (N := 12) rfl ?_); refine box_event2 ?hg (N := 12) ?hd (cs := #[.int .i64 e1, .bool b1, .string e2]) (t := 68) (zs := #[.int .i64 0, .bool false, .string ⟨#[]⟩]) ?hr rfl rfl rfl (fun _ => rfl) (fun _ => rfl) (by kernel_rfl) ?hz (by first | kernel_rfl | rfl) ?_; (case hd => rfl); (case hg => rfl); (case hr => first | (go_simp; done) | (go_simp; rfl)); (case hz => rfl); intro g9 hg9 w9 hb9 hw9; have m0 : w9.cell? ⟨g9, 0, none⟩ = some (.int .i64 e1) := (by rw [cell_of_row w9 g9 0 _ _ _ hb9]; rfl); have m2 : w9.cell? ⟨g9, 2, none⟩ = some (.string e2) := (by rw [cell_of_row w9 g9 2 _ _ _ hb9]; rfl); replace k0 := cell_up hw9 k0; have HW9 := Aside0.mk (below_step HWI.out hw9); clear hg9 hb9 hw9 q0 q1_ q2_ HWI)
                go_quiet (fail)
                try go_wp2
                go_ret3
                exact ⟨by rw [← HE.out.1, ← HE.out.2.1, ← HE.out.2.2]; rfl, below_step HWO.out (below_step HW8.out (by first | exact HW9.out | exact pw_below_drewN HW9.out _))⟩
            · have c5b0 : decide (j < (f2.length : Int)) = false := decide_eq_false c5
              have hj : f2.drop j.toNat = [] := List.drop_eq_nil_of_le (by have := HJ.out; omega)
              have hy := HY.out
              rw [hj] at hy
              have HNX := Aside0.mk (show namedN index (ns.drop (i + 1).toNat) = namedN index ns by have h := HXX.out; rw [show namedA index f2 = none from hy.symm] at h; exact h)
              have HW9 := Aside0.mk (below_step HW8.out HWI.out)
              clear c5 hj hy HY HXX
              go_wp2
              go_roundg (ns.length - i.toNat - 1)
              case measure => have := HI2.out; omega
              case rel => exact ⟨_, rfl, ⟨by rw [HV.out]; have := HI2.out; omega⟩, ⟨by rw [HV.out]; exact HNX.out⟩, HW9⟩
        · have c4b0 : decide (i < (ns.length : Int)) = false := decide_eq_false c4
          have hi : ns.drop i.toNat = [] := List.drop_eq_nil_of_le (by have := HI.out; omega)
          have hx := HX.out
          rw [hi] at hx
          have hf := HFN.out
          rw [show namedN index ns = none from hx.symm] at hf
          simp only [Prod.mk.injEq] at hf
          obtain ⟨f1, f2, f3⟩ := hf
          have HE := Aside0.mk (And.intro f1 (And.intro f2 f3))
          clear c4 hi hx HX HFN f1 f2 f3
          go_wp2
          go_ret3
          exact ⟨by rw [← HE.out.1, ← HE.out.2.1, ← HE.out.2.2]; rfl, below_step HWO.out HW.out⟩
end Go.Proofs.Ythopdoamajjojaa.BindS
