import Derived.Test.YthopdoamajjojaaBindLook
import Derived.Test.YthopdoamajjojaaQBindFx5
import Derived.Test.YthopdoamajjojaaQBindFx10
namespace Go.Proofs.Ythopdoamajjojaa.BindS
open Go Go.RowKit Go.Proofs.YthopdoamajjojaaW.PrintWords Go.Proofs.YthopdoamajjojaaW.PrintLast Go.Proofs.YthopdoamajjojaaW.PrintMore QBindF
set_option linter.unusedVariables false
set_option linter.unusedSimpArgs false
def bytesL : List Int := [1,0,0,0, 2,0,0,0, 1,0,0,0, 0,0,0,0, 0,0,0,0, 0,0,0,0]
def progsL : List S29 := [⟨1,0,0,256,24,0,0⟩]
def symsL : List S39 := [⟨⟨#[]⟩,0,0,0,0,0,0⟩, ⟨⟨#[102]⟩,1,2,0,7,16,0⟩]
theorem sysv1 : hash_file_sysv.f 40 bytesL 0 0 progsL 256 = some ([1], [0, 0], none) := by kernel_rfl
theorem look1 : hash_first_look.f 40 [1] [0, 0] symsL ⟨#[102]⟩ = some ([1], none) := by kernel_rfl
theorem row_C {α : Type} {d : Kd α} {w : World} {g t : Nat} {cs : Array Value} {xs : List α} (hb : w.heap[g]? = some (.cells cs t (0, 0))) (hm : xs.length ≤ 9223372036854775807)
    (hr : ∀ j p, xs[j]? = some p → ∃ c, c.length = d.sz ∧ d.K w p c ∧ ∀ i u, c[i]? = some u → cs[j * d.sz + i]? = some u) : d.C w (some ⟨g, 0, none⟩) xs.length xs := by
  refine ⟨rfl, hm, fun _ => ⟨_, rfl, fun j p hj => ?_⟩⟩
  obtain ⟨c, h1, h2, h3⟩ := hr j p hj
  refine ⟨c, h1, h2, fun i u hu => ?_⟩
  have hadd : (⟨g, 0, none⟩ : Addr).add (j * d.sz + i) = ⟨g, j * d.sz + i, none⟩ := by unfold Addr.add; split <;> simp_all
  rw [hadd, cell_of_row w g _ _ _ _ hb]
  exact h3 i u hu
theorem int_C {w : World} {g t : Nat} {k : IntKind} {cs : Array Value} {xs : List Int} (hb : w.heap[g]? = some (.cells cs t (0, 0))) (hm : xs.length ≤ 9223372036854775807)
    (hc : cs = (xs.map (Value.int k)).toArray) : (Kd.int k).C w (some ⟨g, 0, none⟩) xs.length xs := by
  refine row_C hb hm fun j p hj => ⟨[.int k p], rfl, rfl, fun i u hu => ?_⟩
  match i, hu with
  | 0, hu =>
    obtain rfl : Value.int k p = u := by simpa using hu
    subst hc
    show (List.map (Value.int k) xs).toArray[j * 1 + 0]? = _
    simp [hj]
theorem progs_C {w : World} {g : Nat} (hb : w.heap[g]? = some (.cells progs1 29 (0, 0))) : Kd.C k29 w (some ⟨g, 0, none⟩) progsL.length progsL := by
  refine row_C hb (by decide) fun j p hj => ?_
  match j, hj with
  | 0, hj =>
    obtain rfl : (⟨1,0,0,256,24,0,0⟩ : S29) = p := by simpa [progsL] using hj
    refine ⟨_, rfl, k29_mk w _, fun i u hu => ?_⟩
    show progs1[0 * 7 + i]? = some u
    rw [Nat.zero_mul, Nat.zero_add, ← hu]
    exact List.getElem?_toArray ..
  | j + 1, hj => simp [progsL] at hj
theorem syms_C {w : World} {g : Nat} (hb : w.heap[g]? = some (.cells syms1 39 (0, 0))) : Kd.C k39 w (some ⟨g, 0, none⟩) symsL.length symsL := by
  refine row_C hb (by decide) fun j p hj => ?_
  match j, hj with
  | 0, hj =>
    obtain rfl : (⟨⟨#[]⟩,0,0,0,0,0,0⟩ : S39) = p := by simpa [symsL] using hj
    refine ⟨_, rfl, k39_mk w _, fun i u hu => ?_⟩
    show syms1[0 * 7 + i]? = some u
    match i, hu with
    | 0, hu => exact hu
    | 1, hu => exact hu
    | 2, hu => exact hu
    | 3, hu => exact hu
    | 4, hu => exact hu
    | 5, hu => exact hu
    | 6, hu => exact hu
    | n + 7, hu => simp at hu
  | 1, hj =>
    obtain rfl : (⟨⟨#[102]⟩,1,2,0,7,16,0⟩ : S39) = p := by simpa [symsL] using hj
    refine ⟨_, rfl, k39_mk w _, fun i u hu => ?_⟩
    show syms1[1 * 7 + i]? = some u
    match i, hu with
    | 0, hu => exact hu
    | 1, hu => exact hu
    | 2, hu => exact hu
    | 3, hu => exact hu
    | 4, hu => exact hu
    | 5, hu => exact hu
    | 6, hu => exact hu
    | n + 7, hu => simp at hu
  | j + 2, hj => simp [symsL] at hj
def smOf (s : S39) : Sm := (s.f1, s.f2, s.f3, s.f4, s.f5)
theorem sRow_of {w : World} {A : Option Addr} {xs : List S39} (h : Kd.C k39 w A xs.length xs) : SRow w A (xs.map smOf) := by
  intro i h0 h1
  rw [List.length_map] at h1
  have hlt : i.toNat < xs.length := by omega
  have hr : rdOf s0 (xs.map smOf) i = smOf (rd_T39 xs i) := by
    unfold rdOf rd_T39
    simp [hlt]
  rw [hr]
  obtain ⟨ad, e, a, b, c, d, f, g, k⟩ := at_T39 h i h0 h1
  exact ⟨ad, _, _, e, a, b, c, d, f, g, k⟩
def ss1 : List Sm := symsL.map smOf
section
variable {w : World} {gB gP gS : Nat} {b : Bool} {x y : Value}
theorem sysvIs (hB : w.heap[gB]? = some (.cells bytes1 5 (0, 0))) (hP : w.heap[gP]? = some (.cells progs1 29 (0, 0))) : SysvIs w (some ⟨gB, 0, none⟩) (some ⟨gP, 0, none⟩) 24 24 1 1 := by
  intro W hW
  have cB : (Kd.int .u8).C W (some ⟨gB, 0, none⟩) bytesL.length bytesL := int_C ((hW.block gB (lt_of_block hB)).trans hB) (by decide) rfl
  have cP := progs_C ((hW.block gP (lt_of_block hP)).trans hP)
  refine (hash_file_sysv.calls 40 (some ⟨gB, 0, none⟩) 24 bytesL 0 0 (some ⟨gP, 0, none⟩) 1 progsL 256 [1] [0, 0] none W cB (by decide) cP (by decide) sysv1).mono ?_
  rintro e w' ⟨v0, v1, rfl, ⟨A1, c1, rfl, l1, f1⟩, ⟨A2, c2, rfl, l2, f2⟩, hb⟩
  exact ⟨A1, 1, c1, A2, 2, c2, rfl, Kd.F_now f1, Kd.F_now f2, rfl, rfl, l1, l2, hb⟩
theorem find1_calls {ws : List Int} {ds : List (Int × Bool × ByteArray)} {version f0 : ByteArray} {r : Int} (hB : w.heap[gB]? = some (.cells bytes1 5 (0, 0))) (hP : w.heap[gP]? = some (.cells progs1 29 (0, 0))) (hS : w.heap[gS]? = some (.cells syms1 39 (0, 0)))
    {Ao Ad : Option Addr} {co cd : Nat} (hw : (Kd.int .i64).C w Ao ws.length ws) (hd : DRow w Ad ds) (hld : ds.length ≤ 9223372036854775807) (hr : inF (goodF b ws ds [] ss1 version) [1] = r) :
    Calls Try.prog 48 #[.agg (obj3 gB gP gS b (.slice Ao ws.length co) (.slice Ad ds.length cd)), .agg #[.string ⟨#[102]⟩, .string version, .string f0]] w fun e w' => e = .returned (.tuple #[.int .i64 r, .nilIface]) ∧ Below w.heap.size w w' := by
  subst hr
  have hH : Holds w (obj3 gB gP gS b (.slice Ao ws.length co) (.slice Ad ds.length cd)) b ws ds [] ss1 := ⟨⟨Ao, Ad, none, co, cd, 0, ⟨rfl, rfl, rfl, rfl, rfl⟩, hw, hd, fun i h0 h1 => absurd h1 (by simp; omega)⟩, ⟨some ⟨gS, 0, none⟩, 2, rfl, sRow_of (syms_C hS)⟩, rfl, hld, by decide⟩
  have hPt : Parts0 (obj3 gB gP gS b (.slice Ao ws.length co) (.slice Ad ds.length cd)) (.slice (some ⟨gB, 0, none⟩) 24 24) (.int .i64 0) (.int .u64 0) (.slice (some ⟨gP, 0, none⟩) 1 1) (.slice (some ⟨gS, 0, none⟩) 2 2) dyn1 := by
    refine ⟨rfl, rfl, rfl, rfl, rfl, rfl, fun j v hv => ?_⟩
    have hj : j < 37 := by
      rcases Nat.lt_or_ge j 37 with h | h
      · exact h
      · rw [Array.getElem?_eq_none (by show 37 ≤ j; exact h)] at hv; cases hv
    rw [← hv]
    have hall : ∀ j, j < 37 → (obj3 gB gP gS b (.slice Ao ws.length co) (.slice Ad ds.length cd))[4 + j]? = dyn1[j]? := by
      intro j hj
      iterate 37 (rcases j with _ | j; · rfl)
      omega
    exact hall j hj
  refine in_ok hH hPt [1] (by intro x hx; obtain rfl : x = 1 := (by simpa using hx); exact ⟨by decide, by decide⟩) fun W hW => ?_
  have hS2 := (hW.block gS (lt_of_block hS)).trans hS
  refine look1_calls (sysvIs ((hW.block gB (lt_of_block hB)).trans hB) ((hW.block gP (lt_of_block hP)).trans hP)) fun V hV A1 c1 A2 c2 h1 h2 l1 l2 => ?_
  refine (hash_first_look.calls 40 A1 c1 [1] A2 c2 [0, 0] (some ⟨gS, 0, none⟩) 2 symsL ⟨#[102]⟩ [1] none V h1 l1 h2 l2 (syms_C ((hV.block gS (lt_of_block hS2)).trans hS2)) (by decide) look1).mono ?_
  rintro e w' ⟨v0, rfl, ho, hb⟩
  obtain ⟨A, c, rfl⟩ := Kd.R_slice ho
  exact ⟨A, c, rfl, (Kd.R_reads' ho).2.2, hb⟩
end
def ds1 : List (Int × Bool × ByteArray) := [(2, false, ⟨#[86, 49]⟩)]
def defs1 : Array Value := #[.int .i64 2, .bool false, .string ⟨#[86, 49]⟩, .slice none 0 0]
theorem dRow1 {w : World} {g : Nat} (hb : w.heap[g]? = some (.cells defs1 63 (0, 0))) : DRow w (some ⟨g, 0, none⟩) ds1 := by
  intro i h0 h1
  obtain rfl : i = 0 := by have : (ds1.length : Int) = 1 := rfl; omega
  exact ⟨⟨g, 0, none⟩, none, 0, 0, rfl, (cell_of_row w g 0 _ _ _ hb).trans rfl, (cell_of_row w g 1 _ _ _ hb).trans rfl, (cell_of_row w g 2 _ _ _ hb).trans rfl, (cell_of_row w g 3 _ _ _ hb).trans rfl⟩
theorem noC (w : World) : (Kd.int .i64).C w none ([] : List Int).length [] := ⟨rfl, by decide, fun h => absurd h (by simp)⟩
theorem noD (w : World) : DRow w none [] := fun i h0 h1 => absurd h1 (by simp; omega)
set_option maxHeartbeats 16000000 in
set_option maxRecDepth 100000 in
theorem up_calls (w : World) : Calls Try.prog 25 #[] w fun e w' => e = .returned (.bool true) ∧ Below w.heap.size w w' := by
  go_enter Try.func25, Try.ntmps25
  go_wp2_with (first
    | ((with_reducible refine gate_dst (N := 13) rfl ?_); refine row_event ?hg (N := 13) ?hd (cs := defs1) (t := 63) (n := 1) ?hr ?_; (case hg => rfl); (case hd => rfl); (case hr => first | (go_simp; done) | (go_simp; rfl)); intro gD hg w1 hb hw; have HD := Aside0.mk hb; have HW := Aside0.mk hw; clear hg hb hw)
    | (go_at_call 49; (with_reducible refine (one_calls none none 0 0 0 0 w1).mono ?_); rintro e w2 ⟨gB1, gP1, gS1, rfl, hB, hP, hS, hw⟩; have F1 := Aside0.mk (And.intro hB (And.intro hP hS)); replace HD := Aside0.mk ((hw.block gD (lt_of_block HD.out)).trans HD.out); replace HW := Aside0.mk (below_step HW.out hw); clear hB hP hS hw)
    | (go_at_call 48; refine (find1_calls (w := w2) (gB := gB1) (gP := gP1) (gS := gS1) (b := false) (ws := []) (ds := []) (Ao := none) (Ad := none) (co := 0) (cd := 0) (version := ⟨#[86, 57]⟩) (f0 := ⟨#[]⟩) (r := 1) F1.out.1 F1.out.2.1 F1.out.2.2 (noC _) (noD _) (by decide) (by kernel_rfl)).mono ?_; rintro e w3 ⟨rfl, hw⟩; replace HD := Aside0.mk ((hw.block gD (lt_of_block HD.out)).trans HD.out); replace HW := Aside0.mk (below_step HW.out hw); clear hw F1)
    | ((with_reducible refine gate_dst (N := 21) rfl ?_); refine row_event ?hg (N := 21) ?hd (cs := #[.int .i64 0, .int .i64 2]) (t := 3) (n := 2) ?hr ?_; (case hg => rfl); (case hd => rfl); (case hr => first | (go_simp; done) | (go_simp; rfl)); intro gV2 hg w4 hb hw; have HV2 := Aside0.mk hb; replace HD := Aside0.mk ((hw.block gD (lt_of_block HD.out)).trans HD.out); replace HW := Aside0.mk (below_step HW.out hw); clear hg hb hw)
    | (go_at_call 49; (with_reducible refine (one_calls (some ⟨gV2, 0, none⟩) (some ⟨gD, 0, none⟩) 2 1 2 1 w4).mono ?_); rintro e w5 ⟨gB2, gP2, gS2, rfl, hB, hP, hS, hw⟩; have F2 := Aside0.mk (And.intro hB (And.intro hP hS)); replace HD := Aside0.mk ((hw.block gD (lt_of_block HD.out)).trans HD.out); replace HV2 := Aside0.mk ((hw.block gV2 (lt_of_block HV2.out)).trans HV2.out); replace HW := Aside0.mk (below_step HW.out hw); clear hB hP hS hw)
    | (go_at_call 48; refine (find1_calls (w := w5) (gB := gB2) (gP := gP2) (gS := gS2) (b := true) (ws := [0, 2]) (ds := ds1) (Ao := some ⟨gV2, 0, none⟩) (Ad := some ⟨gD, 0, none⟩) (co := 2) (cd := 1) (version := ⟨#[86, 49]⟩) (f0 := ⟨#[]⟩) (r := 1) F2.out.1 F2.out.2.1 F2.out.2.2 (int_C HV2.out (by decide) rfl) (dRow1 HD.out) (by decide) (by kernel_rfl)).mono ?_; rintro e w6 ⟨rfl, hw⟩; replace HD := Aside0.mk ((hw.block gD (lt_of_block HD.out)).trans HD.out); replace HW := Aside0.mk (below_step HW.out hw); clear hw F2)
    | ((with_reducible refine gate_dst (N := 29) rfl ?_); refine row_event ?hg (N := 29) ?hd (cs := #[.int .i64 0, .int .i64 2]) (t := 3) (n := 2) ?hr ?_; (case hg => rfl); (case hd => rfl); (case hr => first | (go_simp; done) | (go_simp; rfl)); intro gV3 hg w7 hb hw; have HV3 := Aside0.mk hb; replace HD := Aside0.mk ((hw.block gD (lt_of_block HD.out)).trans HD.out); replace HW := Aside0.mk (below_step HW.out hw); clear hg hb hw)
    | (go_at_call 49; (with_reducible refine (one_calls (some ⟨gV3, 0, none⟩) (some ⟨gD, 0, none⟩) 2 1 2 1 w7).mono ?_); rintro e w8 ⟨gB3, gP3, gS3, rfl, hB, hP, hS, hw⟩; have F3 := Aside0.mk (And.intro hB (And.intro hP hS)); replace HD := Aside0.mk ((hw.block gD (lt_of_block HD.out)).trans HD.out); replace HV3 := Aside0.mk ((hw.block gV3 (lt_of_block HV3.out)).trans HV3.out); replace HW := Aside0.mk (below_step HW.out hw); clear hB hP hS hw)
    | (go_at_call 48; refine (find1_calls (w := w8) (gB := gB3) (gP := gP3) (gS := gS3) (b := true) (ws := [0, 2]) (ds := ds1) (Ao := some ⟨gV3, 0, none⟩) (Ad := some ⟨gD, 0, none⟩) (co := 2) (cd := 1) (version := ⟨#[86, 57]⟩) (f0 := ⟨#[]⟩) (r := (-1)) F3.out.1 F3.out.2.1 F3.out.2.2 (int_C HV3.out (by decide) rfl) (dRow1 HD.out) (by decide) (by kernel_rfl)).mono ?_; rintro e w9 ⟨rfl, hw⟩; replace HD := Aside0.mk ((hw.block gD (lt_of_block HD.out)).trans HD.out); replace HW := Aside0.mk (below_step HW.out hw); clear hw F3)
    | ((with_reducible refine gate_dst (N := 37) rfl ?_); refine row_event ?hg (N := 37) ?hd (cs := #[.int .i64 0, .int .i64 32770]) (t := 3) (n := 2) ?hr ?_; (case hg => rfl); (case hd => rfl); (case hr => first | (go_simp; done) | (go_simp; rfl)); intro gV4 hg w10 hb hw; have HV4 := Aside0.mk hb; replace HD := Aside0.mk ((hw.block gD (lt_of_block HD.out)).trans HD.out); replace HW := Aside0.mk (below_step HW.out hw); clear hg hb hw)
    | (go_at_call 49; (with_reducible refine (one_calls (some ⟨gV4, 0, none⟩) (some ⟨gD, 0, none⟩) 2 1 2 1 w10).mono ?_); rintro e w11 ⟨gB4, gP4, gS4, rfl, hB, hP, hS, hw⟩; have F4 := Aside0.mk (And.intro hB (And.intro hP hS)); replace HD := Aside0.mk ((hw.block gD (lt_of_block HD.out)).trans HD.out); replace HV4 := Aside0.mk ((hw.block gV4 (lt_of_block HV4.out)).trans HV4.out); replace HW := Aside0.mk (below_step HW.out hw); clear hB hP hS hw)
    | (go_at_call 48; refine (find1_calls (w := w11) (gB := gB4) (gP := gP4) (gS := gS4) (b := true) (ws := [0, 32770]) (ds := ds1) (Ao := some ⟨gV4, 0, none⟩) (Ad := some ⟨gD, 0, none⟩) (co := 2) (cd := 1) (version := ⟨#[]⟩) (f0 := ⟨#[]⟩) (r := (-1)) F4.out.1 F4.out.2.1 F4.out.2.2 (int_C HV4.out (by decide) rfl) (dRow1 HD.out) (by decide) (by kernel_rfl)).mono ?_; rintro e w12 ⟨rfl, hw⟩; replace HD := Aside0.mk ((hw.block gD (lt_of_block HD.out)).trans HD.out); replace HW := Aside0.mk (below_step HW.out hw); clear hw F4)
    | ((with_reducible refine gate_dst (N := 45) rfl ?_); refine row_event ?hg (N := 45) ?hd (cs := #[.int .i64 0, .int .i64 1]) (t := 3) (n := 2) ?hr ?_; (case hg => rfl); (case hd => rfl); (case hr => first | (go_simp; done) | (go_simp; rfl)); intro gV5 hg w13 hb hw; have HV5 := Aside0.mk hb; replace HD := Aside0.mk ((hw.block gD (lt_of_block HD.out)).trans HD.out); replace HW := Aside0.mk (below_step HW.out hw); clear hg hb hw)
    | (go_at_call 49; (with_reducible refine (one_calls (some ⟨gV5, 0, none⟩) (some ⟨gD, 0, none⟩) 2 1 2 1 w13).mono ?_); rintro e w14 ⟨gB5, gP5, gS5, rfl, hB, hP, hS, hw⟩; have F5 := Aside0.mk (And.intro hB (And.intro hP hS)); replace HD := Aside0.mk ((hw.block gD (lt_of_block HD.out)).trans HD.out); replace HV5 := Aside0.mk ((hw.block gV5 (lt_of_block HV5.out)).trans HV5.out); replace HW := Aside0.mk (below_step HW.out hw); clear hB hP hS hw)
    | (go_at_call 48; refine (find1_calls (w := w14) (gB := gB5) (gP := gP5) (gS := gS5) (b := true) (ws := [0, 1]) (ds := ds1) (Ao := some ⟨gV5, 0, none⟩) (Ad := some ⟨gD, 0, none⟩) (co := 2) (cd := 1) (version := ⟨#[86, 57]⟩) (f0 := ⟨#[]⟩) (r := 1) F5.out.1 F5.out.2.1 F5.out.2.2 (int_C HV5.out (by decide) rfl) (dRow1 HD.out) (by decide) (by kernel_rfl)).mono ?_; rintro e w15 ⟨rfl, hw⟩; replace HD := Aside0.mk ((hw.block gD (lt_of_block HD.out)).trans HD.out); replace HW := Aside0.mk (below_step HW.out hw); clear hw F5))
  go_ret
  exact ⟨rfl, HW.out⟩
end Go.Proofs.Ythopdoamajjojaa.BindS
