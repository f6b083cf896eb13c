import Derived.Test.YthopdoamajjojaaBindFits
import Derived.Test.YthopdoamajjojaaBindAble
import Derived.Test.YthopdoamajjojaaWGuard
namespace Go.Proofs.Ythopdoamajjojaa.BindS
open Go Go.RowKit Go.Proofs.YthopdoamajjojaaW.PrintWords Go.Proofs.YthopdoamajjojaaW.PrintLast Go.Proofs.YthopdoamajjojaaW.PrintMore
set_option linter.unusedVariables false
set_option linter.unusedSimpArgs false
abbrev Sm := Int × Int × Int × Int × Int
def s0 : Sm := (0, 0, 0, 0, 0)
def SRow (w : World) (A : Option Addr) (ss : List Sm) : Prop :=
  ∀ i : Int, 0 ≤ i → i < (ss.length : Int) → ∃ ad b0 z6, A = some ad ∧ w.cell? (ad.add (i.toNat * 7)) = some (.string b0) ∧ w.cell? ⟨(ad.add (i.toNat * 7)).block, (ad.add (i.toNat * 7)).off + 1, none⟩ = some (.int .i64 (rdOf s0 ss i).1) ∧
    w.cell? ⟨(ad.add (i.toNat * 7)).block, (ad.add (i.toNat * 7)).off + 2, none⟩ = some (.int .i64 (rdOf s0 ss i).2.1) ∧ w.cell? ⟨(ad.add (i.toNat * 7)).block, (ad.add (i.toNat * 7)).off + 3, none⟩ = some (.int .i64 (rdOf s0 ss i).2.2.1) ∧
    w.cell? ⟨(ad.add (i.toNat * 7)).block, (ad.add (i.toNat * 7)).off + 4, none⟩ = some (.int .i64 (rdOf s0 ss i).2.2.2.1) ∧ w.cell? ⟨(ad.add (i.toNat * 7)).block, (ad.add (i.toNat * 7)).off + 5, none⟩ = some (.int .u64 (rdOf s0 ss i).2.2.2.2) ∧
    w.cell? ⟨(ad.add (i.toNat * 7)).block, (ad.add (i.toNat * 7)).off + 6, none⟩ = some (.int .u64 z6)
theorem SRow.up {w w1 : World} {A : Option Addr} {ds : List Sm} (h : SRow w A ds) (hb : Below w.heap.size w w1) : SRow w1 A ds := by
  intro i h0 h1
  obtain ⟨ad, b0, z6, e, a, b, c, d, f, g, k⟩ := h i h0 h1
  exact ⟨ad, b0, z6, e, cell_up hb a, cell_up hb b, cell_up hb c, cell_up hb d, cell_up hb f, cell_up hb g, cell_up hb k⟩
structure Holds (w : World) (cs : Array Value) (has : Bool) (ws : List Int) (ds : List (Int × Bool × ByteArray)) (ns : List (ByteArray × List (Int × ByteArray))) (ss : List Sm) : Prop where
  ex : ∃ Ao Ad An co cd cn, Cells cs has Ao Ad An ws.length ds.length ns.length co cd cn ∧ Kd.C (Kd.int .i64) w Ao ws.length ws ∧ DRow w Ad ds ∧ NRow w An ns
  sy : ∃ As k, cs[45]? = some (.slice As ss.length k) ∧ SRow w As ss
  sz : cs.size = 54
  ld : ds.length ≤ 9223372036854775807
  ln : ns.length ≤ 9223372036854775807
theorem Holds.up {w w1 : World} {cs : Array Value} {has : Bool} {ws : List Int} {ds : List (Int × Bool × ByteArray)} {ns : List (ByteArray × List (Int × ByteArray))} {ss : List Sm} (h : Holds w cs has ws ds ns ss) (hb : Below w.heap.size w w1) : Holds w1 cs has ws ds ns ss := by
  obtain ⟨⟨Ao, Ad, An, co, cd, cn, a, b, c, d⟩, ⟨As, k, e, f⟩, g, i, j⟩ := h
  exact ⟨⟨Ao, Ad, An, co, cd, cn, a, Kd.C_below b hb, c.up hb, d.up hb⟩, ⟨As, k, e, f.up hb⟩, g, i, j⟩
def goodF (has : Bool) (ws : List Int) (ds : List (Int × Bool × ByteArray)) (ns : List (ByteArray × List (Int × ByteArray))) (ss : List Sm) (version : ByteArray) (sym : Int) : Bool :=
  ableF (rdOf s0 ss sym).1 (rdOf s0 ss sym).2.1 (rdOf s0 ss sym).2.2.1 (rdOf s0 ss sym).2.2.2.1 (rdOf s0 ss sym).2.2.2.2 && fitsF has ws ds ns sym version
def Caps (w : World) (g g2 : Nat) (cs : Array Value) (n0 version f0 : ByteArray) : Prop := w.heap[g]? = some (.cells cs 127 (0, 0)) ∧ w.heap[g2]? = some (.cells #[.string n0, .string version, .string f0] 74 (0, 0))
theorem Caps.up {w w1 : World} {g g2 : Nat} {cs : Array Value} {n0 version f0 : ByteArray} (h : Caps w g g2 cs n0 version f0) (hb : Below w.heap.size w w1) : Caps w1 g g2 cs n0 version f0 :=
  ⟨(hb.block g (lt_of_block h.1)).trans h.1, (hb.block g2 (lt_of_block h.2)).trans h.2⟩
section
variable {w : World} {cs : Array Value} {has : Bool} {ws : List Int} {ds : List (Int × Bool × ByteArray)} {ns : List (ByteArray × List (Int × ByteArray))} {ss : List Sm} {n0 version f0 : ByteArray} {g g2 : Nat}
set_option maxHeartbeats 16000000 in
set_option maxRecDepth 100000 in
theorem good_calls (hh : Holds w cs has ws ds ns ss) (hc : Caps w g g2 cs n0 version f0) (sym : Int) (h0 : 0 ≤ sym) (h1 : sym < (ss.length : Int)) :
    Calls Try.prog 70 #[.int .i64 sym, .pointer (some ⟨g, 0, none⟩), .pointer (some ⟨g2, 0, none⟩)] w fun e w' => e = .returned (.bool (goodF has ws ds ns ss version sym)) ∧ Below w.heap.size w w' := by
  obtain ⟨r, hr⟩ : ∃ r, goodF has ws ds ns ss version sym = r := ⟨_, rfl⟩
  rw [hr]
  unfold goodF at hr
  obtain ⟨As, k, hk, hs⟩ := hh.sy
  obtain ⟨⟨Ao, Ad, An, co, cd, cn, a, b, c, d⟩, _, _, hl1, hl2⟩ := hh
  have HSZ := Aside0.mk a.sz
  have FC := Aside0.mk (fun (W : World) (hb : Below w.heap.size w W) => fits_calls cs has Ao Ad An co cd cn ws ds ns a sym n0 version f0 W h0 (Kd.C_below b hb) (c.up hb) (d.up hb) hl1 hl2)
  have HC := Aside0.mk hc
  obtain ⟨ad, b0, z6, e, q0, q1, q2, q3, q4, q5, q6⟩ := hs sym h0 h1
  subst e
  obtain ⟨v1, v2, v3, v4, v5, hv⟩ : ∃ v1 v2 v3 v4 v5, rdOf s0 ss sym = (v1, v2, v3, v4, v5) := ⟨_, _, _, _, _, rfl⟩
  rw [hv] at q1 q2 q3 q4 q5 hr
  simp only at q1 q2 q3 q4 q5 hr
  have AC := Aside0.mk (fun (W : World) => able_calls (.string b0) (.int .u64 z6) v1 v2 v3 v4 v5 W)
  obtain ⟨f, hf⟩ : ∃ f, fitsF has ws ds ns sym version = f := ⟨_, rfl⟩
  rw [hf] at hr FC
  have p1 := eq_true h0
  have p2 := eq_true h1
  have c45 : w.cell? ⟨g, 45, none⟩ = some (.slice (some ad) ss.length k) := (cell_of_row w g 45 _ _ _ hc.1).trans hk
  have hu127 := Try.underlying127
  have hu74 := Try.underlying74
  clear hf hv a b c d hl1 hl2 hs hc hk h0 h1
  rcases hab : ableF v1 v2 v3 v4 v5 with _ | _
  · rw [hab] at hr AC
    have HR := Aside0.mk hr
    clear hr hab
    go_enter Try.func70, Try.ntmps70
    go_wp2_with (go_at_call 71; (with_reducible refine (AC.out _).mono ?_); rintro e w3 ⟨rfl, hw3⟩; have HW3 := Aside0.mk hw3; clear hw3)
    go_ret
    exact ⟨by rw [← HR.out]; rfl, HW3.out⟩
  · rw [hab] at hr AC
    have HR := Aside0.mk hr
    clear hr hab
    go_enter Try.func70, Try.ntmps70
    go_wp2_with (first
      | (go_at_call 71; (with_reducible refine (AC.out _).mono ?_); rintro e w3 ⟨rfl, hw3⟩; have HC3 := Aside0.mk (HC.out.up hw3); have t0 := cell_of_row w3 g2 0 _ _ _ HC3.out.2; have t1 := cell_of_row w3 g2 1 _ _ _ HC3.out.2; have t2 := cell_of_row w3 g2 2 _ _ _ HC3.out.2; simp only [List.getElem?_toArray, List.getElem?_cons_succ, List.getElem?_cons_zero] at t0 t1 t2; have HW3 := Aside0.mk hw3; clear hw3)
      | ((with_reducible refine gate_ (.load 127 (.tmp 1)) rfl ?_); refine gate_guard (by rfl) ?_; refine wpList_load_row rfl 127 (.tmp 1) rfl g rfl 127 cs (0, 0) _ HC3.out.1 hu127 rfl (by rw [HSZ.out]; exact info127) ?_)
      | (go_at_call 72; (with_reducible refine (FC.out _ HW3.out).mono ?_); rintro e w4 ⟨rfl, hw4⟩; have HW4 := Aside0.mk (below_step HW3.out hw4); clear hw4))
    go_ret
    exact ⟨by rw [← HR.out]; rfl, HW4.out⟩
def idxP (p : Int → Bool) : List Int → Int → Int
  | [], _ => -1
  | x :: l, i => if p x = true then i else idxP p l (i + 1)
set_option maxHeartbeats 16000000 in
set_option maxRecDepth 100000 in
theorem indexg_calls (hh : Holds w cs has ws ds ns ss) (hc : Caps w g g2 cs n0 version f0) (A : Option Addr) (c : Nat) (l : List Int) (hl : Kd.C (Kd.int .i64) w A l.length l) (hin : ∀ x ∈ l, 0 ≤ x ∧ x < (ss.length : Int)) :
    Calls Try.prog 69 #[.slice A l.length c, .func (Fn.func 70) #[] #[.pointer (some ⟨g, 0, none⟩), .pointer (some ⟨g2, 0, none⟩)]] w fun e w' => e = .returned (.int .i64 (idxP (goodF has ws ds ns ss version) l 0)) ∧ Below w.heap.size w w' := by
  obtain ⟨P, hP⟩ : ∃ P, P = goodF has ws ds ns ss version := ⟨_, rfl⟩
  have GC := Aside0.mk (fun (W : World) (hb : Below w.heap.size w W) (sym : Int) (h0 : 0 ≤ sym) (h1 : sym < (ss.length : Int)) => good_calls (hh.up hb) (hc.up hb) sym h0 h1)
  rw [← hP] at GC
  rw [← hP]
  have HR := Aside0.mk hl
  have HLN := Aside0.mk hl.2.1
  have HIN := Aside0.mk hin
  clear hh hc hl hin hP
  go_enter Try.func69, Try.ntmps69
  go_wp2
  go_loopg [8] l.length (fun kq v8 w' => ∃ i : Int, v8 = .int .i64 i ∧ Aside0 (0 ≤ i ∧ i ≤ l.length ∧ kq = l.length - i.toNat) ∧ Aside0 (idxP P (l.drop i.toNat) i = idxP P l 0) ∧ Aside0 (Below w.heap.size w w'))
  case atStart => exact ⟨0, rfl, ⟨by omega⟩, ⟨rfl⟩, ⟨Below.refl _ _⟩⟩
  case round =>
    obtain ⟨i, rfl, HI, HX, HW⟩ := hrel
    have p1 := HI.out.1
    by_cases c4 : i < (l.length : Int)
    · have q1 := c4
      have HV := Aside0.mk (show wrap64 (i + 1) = i + 1 by unfold wrap64; have := HI.out.1; have := HLN.out; omega)
      have HI2 : Aside0 (0 ≤ i + 1 ∧ i + 1 ≤ l.length ∧ l.length - (i + 1).toNat = l.length - i.toNat - 1 ∧ l.length - i.toNat - 1 < gk) := ⟨by have := HI.out; omega⟩
      have c4b0 : decide (i < (l.length : Int)) = true := decide_eq_true c4
      obtain ⟨ad, eA, g0⟩ := Kd.at_int (Kd.C_below HR.out HW.out) i p1 q1
      subst eA
      have hx := HX.out
      have hd : l.drop i.toNat = rd l i :: l.drop (i + 1).toNat := drop_rdOf 0 p1 q1
      have hm : rd l i ∈ l := by
        obtain ⟨j, rfl⟩ := Int.eq_ofNat_of_zero_le p1
        have hj : j < l.length := by omega
        have : rd l (j : Int) = l[j] := by simp [rd, hj]
        rw [this]; exact List.getElem_mem _
      rw [hd, idxP] at hx
      obtain ⟨x, hxx⟩ : ∃ x, x = rd l i := ⟨_, rfl⟩
      rw [← hxx] at g0 hx hm
      have HGC := Aside0.mk (GC.out _ HW.out x (HIN.out x hm).1 (HIN.out x hm).2)
      clear hxx hd hm c4 HX
      rcases he : P x with _ | _
      · rw [he, if_neg (by decide)] at hx
        rw [he] at HGC
        have HX := Aside0.mk hx
        clear hx he
        replace p1 := eq_true p1
        replace q1 := eq_true q1
        go_wp2_with (go_at_call 70; (with_reducible refine HGC.out.mono ?_); rintro e w2 ⟨rfl, hw2⟩; have HW2 := Aside0.mk (below_step HW.out hw2); clear hw2)
        go_roundg (l.length - i.toNat - 1)
        case measure => have := HI2.out; omega
        case rel => exact ⟨_, rfl, ⟨by rw [HV.out]; have := HI2.out; omega⟩, ⟨by rw [HV.out]; exact HX.out⟩, HW2⟩
      · rw [he, if_pos rfl] at hx
        rw [he] at HGC
        have HX := Aside0.mk hx
        clear hx he
        replace p1 := eq_true p1
        replace q1 := eq_true q1
        go_wp2_with (go_at_call 70; (with_reducible refine HGC.out.mono ?_); rintro e w2 ⟨rfl, hw2⟩; have HW2 := Aside0.mk (below_step HW.out hw2); clear hw2)
        go_ret
        exact ⟨by rw [← HX.out]; rfl, HW2.out⟩
    · have c4b0 : decide (i < (l.length : Int)) = false := decide_eq_false c4
      have hi : l.drop i.toNat = [] := List.drop_eq_nil_of_le (by have := HI.out; omega)
      have HX2 := Aside0.mk (show (-1 : Int) = idxP P l 0 by have h := HX.out; rw [hi] at h; exact h)
      clear c4 hi HX
      go_wp2
      go_ret
      exact ⟨by rw [← HX2.out]; rfl, HW.out⟩
theorem idxP_spec (p : Int → Bool) : ∀ (l : List Int) (i : Int), 0 ≤ i → idxP p l i = -1 ∨ (i ≤ idxP p l i ∧ idxP p l i < i + l.length) := by
  intro l
  induction l with
  | nil => intro i _; exact .inl rfl
  | cons x l ih =>
    intro i hi
    unfold idxP
    split
    · exact .inr ⟨by omega, by simp; omega⟩
    · rcases ih (i + 1) (by omega) with h | h
      · exact .inl h
      · exact .inr ⟨by omega, by simp; omega⟩
end
end Go.Proofs.Ythopdoamajjojaa.BindS
