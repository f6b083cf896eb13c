import Derived.Test.YthopdoamajjojaaBindFind
import Derived.Test.YthopdoamajjojaaBoxes
import Derived.Deep.CutRange
import Derived.Test.YthopdoamajjojaaWEqStruct
namespace Go.Proofs.Ythopdoamajjojaa.BindF
open Go Go.RowKit Go.Proofs.YthopdoamajjojaaW.PrintWords Go.Proofs.YthopdoamajjojaaW.PrintLast Go.Proofs.YthopdoamajjojaaW.PrintMore
set_option linter.unusedSimpArgs false
set_option linter.unusedVariables false
theorem below_set {B : Nat} {w0 w : World} (hb : Below B w0 w) {a : Addr} (ha : B ≤ a.block) (u : Value) : Below B w0 (w.setCell a u) :=
  hb.trans ⟨rfl, rfl, rfl, by simp [World.setCell], fun k hk => Below.heap_setCell _ _ _ _ (by omega)⟩
theorem findF_one (n : Nat) (R : Res) (e : Int) (rest : List Int) : (findF n R [e] = (-1, -1, none) ∧ findF n R (e :: rest) = findF n R rest) ∨ (findF n R (e :: rest) = findF n R [e] ∧ ((∃ c, (findF n R [e]).2.2 = some c) ∨ ((findF n R [e]).2.2 = none ∧ 0 ≤ (findF n R [e]).1))) := by
  simp only [findF]
  by_cases h : e < 0 ∨ (n : Int) ≤ e
  · simp [h]
  · simp only [h, if_false]
    cases hq : (R e.toNat).2 with
    | some c => exact .inr ⟨rfl, .inl ⟨c, rfl⟩⟩
    | none =>
      simp only
      by_cases k : 0 ≤ (R e.toNat).1
      · simp only [k, if_true]; exact .inr ⟨trivial, .inr ⟨trivial, by omega⟩⟩
      · simp only [k, if_false]; exact .inl ⟨trivial, trivial⟩
theorem info3 : (Try.prog.info? 3).map (fun i => (i.zero, i.size, i.bytes)) = some (some (.int .i64 0), 1, 8) := by kernel_rfl
structure FS2 (g5 g8 : Nat) (n0 ver f0 : ByteArray) (po pq : Int) (w : World) (W : World) : Prop where
  b5 : W.heap[g5]? = some (.cells #[.string n0, .string ver, .string f0] 74 (0, 0))
  b8 : W.heap[g8]? = some (.cells #[.int .i64 po, .int .i64 pq] 76 (0, 0))
  lw : Below w.heap.size w W
theorem FS2.up {g5 g8 : Nat} {n0 ver f0 : ByteArray} {po pq : Int} {w W W2 : World} (h : FS2 g5 g8 n0 ver f0 po pq w W) (hb : Below W.heap.size W W2) : FS2 g5 g8 n0 ver f0 po pq w W2 :=
  ⟨(hb.block _ (lt_of_block h.b5)).trans h.b5, (hb.block _ (lt_of_block h.b8)).trans h.b8, below_step h.lw hb⟩
theorem FS2.want {g5 g8 : Nat} {n0 ver f0 : ByteArray} {po pq : Int} {w W : World} (h : FS2 g5 g8 n0 ver f0 po pq w W) : ∀ j v, ([.string n0, .string ver, .string f0] : List Value)[j]? = some v → W.cell? ((⟨g5, 0, none⟩ : Addr).add j) = some v := by
  intro j v hv
  have e : (⟨g5, 0, none⟩ : Addr).add j = ⟨g5, j, none⟩ := by unfold Addr.add; split <;> simp_all
  rw [e, cell_of_row W g5 j _ _ _ h.b5]
  simpa using hv
set_option maxHeartbeats 16000000 in
set_option maxRecDepth 100000 in
theorem first_calls (w : World) (A : Option Addr) (n c : Nat) (B : Option Addr) (cb : Nat) (s : List Int) (n0 ver f0 : ByteArray) (R : Res) (code : Option Int → Int) (hl : n ≤ 9223372036854775807) (hcb : s.length ≤ cb) (hf : FRow w A n #[.string n0, .string ver, .string f0] R) (hs : Kd.C (Kd.int .i64) w B s.length s)
    (hup : ∀ W : World, Calls Try.prog 25 #[] W fun e w' => e = .returned (.bool true) ∧ Below W.heap.size W w') (hcode : ∀ (e : Option Int) (W : World), Calls Try.prog 21 #[eW e] W fun e' w' => e' = .returned (.int .i64 (code e)) ∧ Below W.heap.size W w') :
    Calls Try.prog 8 #[.slice A n c, .slice B s.length cb, .agg #[.string n0, .string ver, .string f0]] w fun e w' => e = .returned (.bool true) ∧ Below w.heap.size w w' := by
  refine calls_aside fun Post HP => ?_
  have HF := Aside0.mk hf
  have HS := Aside0.mk hs
  have HL := Aside0.mk (And.intro hl (And.intro hcb hs.2.1))
  have H3 := Aside0.mk (fun (W : World) (hb : Below w.heap.size w W) (B' : Option Addr) (c' : Nat) (e : Int) (hC : Kd.C (Kd.int .i64) W B' 1 [e]) => show Calls Try.prog 26 #[.slice A n c, .slice B' 1 c', .agg #[.string n0, .string ver, .string f0]] W fun e' w' => e' = .returned (.tuple #[.agg #[.int .i64 (findF n R [e]).1, .int .i64 (findF n R [e]).2.1], eW (findF n R [e]).2.2]) ∧ Below W.heap.size W w' from find_calls W A n c B' c' [e] n0 ver f0 R hl (hf.up hb) hC)
  have HUP := Aside0.mk hup
  have HCO := Aside0.mk hcode
  obtain ⟨⟨po, pq, pe⟩, hres⟩ : ∃ res, findF n R s = res := ⟨_, rfl⟩
  obtain ⟨ve, hve⟩ : ∃ ve, eW pe = ve := ⟨_, rfl⟩
  have HVE := Aside0.mk hve
  have HR := Aside0.mk hres
  have H1 := Aside0.mk (fun (W : World) (hb : Below w.heap.size w W) => find_calls W A n c B cb s n0 ver f0 R hl (hf.up hb) (Kd.C_below hs hb))
  have H2 := Aside0.mk (fun (W : World) (hb : Below w.heap.size w W) => show Calls Try.prog 26 #[.slice A n c, .slice none 0 0, .agg #[.string n0, .string ver, .string f0]] W fun e w' => e = .returned (.tuple #[.agg #[.int .i64 (-1), .int .i64 (-1)], .nilIface]) ∧ Below W.heap.size W w' from find_calls W A n c none 0 [] n0 ver f0 R hl (hf.up hb) (Kd.C_nil _ _))
  rw [hres] at H1
  simp only [hve] at H1
  clear hf hs hl hup hcode hres hve hcb
  have hu76 := Try.underlying76
  have hu74 := Try.underlying74
  have hu41 := Try.underlying41
  go_enter Try.func8, Try.ntmps8
  go_upto_region 6 with (first
    | ((with_reducible refine gate_dst (N := 5) rfl ?_); refine box_event ?hg (N := 5) ?hd (cs := #[.string n0, .string ver, .string f0]) (t := 74) ?hr ?_; (case hd => rfl); (case hg => rfl); (case hr => first | (go_simp; done) | (go_simp; rfl)); intro g5 eg w1 hb hw; have B5 := Aside0.mk hb; have Q1 := Aside0.mk hw; clear eg hb hw)
    | (go_at_call 25; (with_reducible refine (HUP.out _).mono ?_); rintro e w2 ⟨rfl, hw⟩; have C5 := Aside0.mk ((hw.block _ (lt_of_block B5.out)).trans B5.out); have Q2 := Aside0.mk (below_step Q1.out hw); clear hw B5)
    | ((with_reducible refine gate_ (.load 74 (.tmp 5)) rfl ?_); refine wpList_load_row rfl 74 (.tmp 5) rfl g5 rfl 74 _ (0, 0) _ C5.out Try.underlying74 rfl (by rw [info74]; rfl) ?_)
    | (go_at_call 26; (with_reducible refine (H1.out _ Q2.out).mono ?_); rintro e w3 ⟨rfl, hw⟩; have D5 := Aside0.mk ((hw.block _ (lt_of_block C5.out)).trans C5.out); have Q3 := Aside0.mk (below_step Q2.out hw); clear hw C5 H1)
    | ((with_reducible refine gate_dst (N := 8) rfl ?_); refine box_event2 ?hga (N := 8) ?hda (cs := #[.int .i64 po, .int .i64 pq]) (t := 76) (zs := #[.int .i64 0, .int .i64 0]) ?hra rfl rfl rfl (fun _ => rfl) (fun _ => rfl) (by kernel_rfl) ?hza (by first | kernel_rfl | rfl) ?_; (case hda => rfl); (case hga => rfl); (case hra => first | (go_simp; done) | (go_simp; rfl)); (case hza => rfl); intro g8 eg w4 hb hw; have B8 := Aside0.mk hb; have E5 := Aside0.mk ((hw.block _ (lt_of_block D5.out)).trans D5.out); have Q4 := Aside0.mk (below_step Q3.out hw); clear eg hb hw D5)
    | ((with_reducible refine gate_ (.load 74 (.tmp 5)) rfl ?_); refine wpList_load_row rfl 74 (.tmp 5) rfl g5 rfl 74 _ (0, 0) _ E5.out Try.underlying74 rfl (by rw [info74]; rfl) ?_)
    | (go_at_call 26; (with_reducible refine (H2.out _ Q4.out).mono ?_); rintro e w5 ⟨rfl, hw⟩; have F5 := Aside0.mk ((hw.block _ (lt_of_block E5.out)).trans E5.out); have C8 := Aside0.mk ((hw.block _ (lt_of_block B8.out)).trans B8.out); have Q5 := Aside0.mk (below_step Q4.out hw); clear hw E5 B8 H2)
    | ((with_reducible refine gate_dst (N := 10) rfl ?_); refine box_event2 ?hgb (N := 10) ?hdb (cs := #[.int .i64 (-1), .int .i64 (-1)]) (t := 76) (zs := #[.int .i64 0, .int .i64 0]) ?hrb rfl rfl rfl (fun _ => rfl) (fun _ => rfl) (by kernel_rfl) ?hzb (by first | kernel_rfl | rfl) ?_; (case hdb => rfl); (case hgb => rfl); (case hrb => first | (go_simp; done) | (go_simp; rfl)); (case hzb => rfl); intro g10 eg w6 hb hw; have G5 := Aside0.mk ((hw.block _ (lt_of_block F5.out)).trans F5.out); have D8 := Aside0.mk ((hw.block _ (lt_of_block C8.out)).trans C8.out); have Q6 := Aside0.mk (below_step Q5.out hw); have y0 := (cell_of_row _ g10 0 _ _ _ hb).trans (show (#[.int .i64 (-1), .int .i64 (-1)] : Array Value)[0]? = some (.int .i64 (-1)) from rfl); have y1 := (cell_of_row _ g10 1 _ _ _ hb).trans (show (#[.int .i64 (-1), .int .i64 (-1)] : Array Value)[1]? = some (.int .i64 (-1)) from rfl); clear eg hb hw F5 C8))
  have HW := Aside0.mk (FS2.mk G5.out D8.out Q6.out)
  clear y0 y1 G5 D8 Q1 Q2 Q3 Q4 Q5 Q6
  go_wp2
  go_loopg [12] s.length (fun kq v12 w' => ∃ (x : Int) (i : Nat), v12 = .int .i64 x ∧ Aside0 (x = (i : Int) ∧ i ≤ s.length ∧ kq = s.length - i) ∧ Aside0 (findF n R (s.drop i) = (po, pq, pe)) ∧ Aside0 (FS2 g5 g8 n0 ver f0 po pq w w'))
  case atStart => exact ⟨0, 0, rfl, ⟨by omega⟩, HR, HW⟩
  case round =>
    clear HR HW
    obtain ⟨x, i, rfl, HI, HR, HW⟩ := hrel
    have hxi := HI.out.1
    by_cases c4 : x < (s.length : Int)
    · have c4b0 : decide (x < (s.length : Int)) = true := decide_eq_true c4
      have HIL := Aside0.mk (show i < s.length by omega)
      obtain ⟨x1, hx1⟩ : ∃ x1, wrap64 (x + 1) = x1 := ⟨_, rfl⟩
      have hx1w : IntKind.i64.wrap (x + 1) = x1 := (i64_w _).trans hx1
      have HX1 := Aside0.mk (show x1 = (i : Int) + 1 by rw [← hx1, hxi]; have := HL.out.2.2; unfold wrap64; omega)
      obtain ⟨e, he⟩ : ∃ e, s[i]'HIL.out = e := ⟨_, rfl⟩
      obtain ⟨B', c', hcut, hCe⟩ : ∃ B' c', (∀ W : World, (Instr.slice 37 (.slice B s.length cb) (some (.int .i64 x)) (some (.int .i64 x1)) none).run Try.prog W = .ok (.slice B' 1 c') W) ∧ ∀ W, Below w.heap.size w W → Kd.C (Kd.int .i64) W B' 1 [e] := by
        obtain ⟨i0, hi0, _, hsz, _⟩ := info_parts info3
        have hcut := cut_mid (P := Try.prog) 37 3 .i64 .i64 Try.underlying37 hi0 1 hsz B s.length cb (i : Int) ((i + 1 : Nat) : Int) (by omega) (by omega) (by have := HIL.out; omega) HL.out.2.1
        refine ⟨_, _, fun W => by rw [HX1.out, hxi, show (1 : Nat) = (i + 1) - i by omega]; exact hcut W, fun W hb => ?_⟩
        have h := Kd.C_mid (Kd.C_below HS.out hb) (show i ≤ i + 1 by omega) (show i + 1 ≤ s.length from HIL.out) HL.out.2.1
        rw [show (s.take (i + 1)).drop i = [e] by rw [List.take_succ_eq_append_getElem HIL.out, he, List.drop_left' (by simp; have := HIL.out; omega)]] at h
        exact h
      have HCE := Aside0.mk hCe
      have hr := HR.out
      rw [List.drop_eq_getElem_cons HIL.out, he] at hr
      obtain ⟨⟨qo, qq, qe⟩, hq⟩ : ∃ q, findF n R [e] = q := ⟨_, rfl⟩
      obtain ⟨vq, hvq⟩ : ∃ vq, eW qe = vq := ⟨_, rfl⟩
      have HVQ := Aside0.mk hvq
      have ho := findF_one n R e (s.drop (i + 1))
      rw [hr, hq] at ho
      have HO := Aside0.mk ho
      have HC3 := Aside0.mk (fun (W : World) (hb : Below w.heap.size w W) => H3.out W hb B' c' e (HCE.out W hb))
      rw [hq] at HC3
      simp only [hvq] at HC3
      clear c4 hxi he hCe hr hq hvq ho HR
      go_upto_region 9 with (fail)
      go_cut [13, 14] from 47 to 57 (fun v13 v14 wc => ∃ g, v13 = .pointer (some ⟨g, 0, none⟩) ∧ v14 = vq ∧ Aside0 (FS2 g5 g8 n0 ver f0 po pq w wc ∧ wc.heap[g]? = some (.cells #[.int .i64 qo, .int .i64 qq] 76 (0, 0))))
      case first =>
        have hHeld : FS2 g5 g8 n0 ver f0 po pq w (World.drew _) := HW.out.up (below_drew1 (Below.refl _ _))
        refine wp_region_held (S := FS2 g5 g8 n0 ver f0 po pq w) (by kernel_rfl) ?_
        refine wpAnyH_take (i := 0) (v := .slice A n c) rfl (by kernel_rfl) (by kernel_rfl) (by kernel_rfl) (fun _ _ _ h => h) (.inl ⟨by rfl, fun w hSw => by first | (go_simp; done) | (go_simp; with_reducible rfl) | rfl⟩) hHeld ?_
        try simp only [Act.put, List.setIfInBounds_toArray, List.set_cons_zero, List.set_cons_succ]
        refine wpAnyH_take (i := 1) (v := .slice B s.length cb) rfl (by kernel_rfl) (by kernel_rfl) (by kernel_rfl) (fun _ _ _ h => h) (.inl ⟨by rfl, fun w hSw => by first | (go_simp; done) | (go_simp; with_reducible rfl) | rfl⟩) hHeld ?_
        try simp only [Act.put, List.setIfInBounds_toArray, List.set_cons_zero, List.set_cons_succ]
        refine wpAnyH_take (i := 2) (v := .int .i64 x) rfl (by kernel_rfl) (by kernel_rfl) (by kernel_rfl) (fun _ _ _ h => h) (.inl ⟨by rfl, fun w hSw => by first | (go_simp; done) | (go_simp; with_reducible rfl) | rfl⟩) hHeld ?_
        try simp only [Act.put, List.setIfInBounds_toArray, List.set_cons_zero, List.set_cons_succ]
        refine wpAnyH_take (i := 3) (v := .int .i64 x) rfl (by kernel_rfl) (by kernel_rfl) (by kernel_rfl) (fun _ _ _ h => h) (.inl ⟨by rfl, fun w hSw => by first | (go_simp; done) | (go_simp; with_reducible rfl) | rfl⟩) hHeld ?_
        try simp only [Act.put, List.setIfInBounds_toArray, List.set_cons_zero, List.set_cons_succ]
        refine wpAnyH_take (i := 4) (v := .int .i64 x1) rfl (by kernel_rfl) (by kernel_rfl) (by kernel_rfl) (fun _ _ _ h => h) (.inl ⟨by rfl, fun w hSw => by first | (go_simp; done) | (go_simp; with_reducible rfl) | rfl⟩) hHeld ?_
        try simp only [Act.put, List.setIfInBounds_toArray, List.set_cons_zero, List.set_cons_succ]
        refine wpAnyH_take (i := 5) (v := .slice B' 1 c') rfl (by kernel_rfl) (by kernel_rfl) (by kernel_rfl) (fun _ _ _ h => h) (.inl ⟨by rfl, fun w hSw => by first | (go_simp; done) | (go_simp; with_reducible rfl) | rfl⟩) hHeld ?_
        try simp only [Act.put, List.setIfInBounds_toArray, List.set_cons_zero, List.set_cons_succ]
        refine wpAnyH_take (i := 6) (v := .agg #[.string n0, .string ver, .string f0]) rfl (by kernel_rfl) (by kernel_rfl) (by kernel_rfl) (fun _ _ _ h => h) (yieldsIf_load_at (by rfl) 74 (.tmp 5) rfl ⟨g5, 0, none⟩ rfl [.string n0, .string ver, .string f0] (fun w hS => hS.want) _ hu74 rfl info74) hHeld ?_
        try simp only [Act.put, List.setIfInBounds_toArray, List.set_cons_zero, List.set_cons_succ]
        refine wpAnyH_ready (rs := [7, 11]) (by kernel_rfl) (by simp) ?_
        refine AllReadyH.cons rfl (fun K hK => ?_) (AllReadyH.cons rfl (fun K hK => ?_) AllReadyH.nil)
        ·
          go_simp
          refine (HC3.out _ hHeld.lw).mono ?_
          rintro e' w3 ⟨rfl, hw⟩
          refine hK.out _ _ (hHeld.up hw) (fun hHeld => ?_)
          clear hK K
          refine wpAnyH_take (i := 8) (v := .tuple #[.agg #[.int .i64 qo, .int .i64 qq], vq]) rfl (by kernel_rfl) (by kernel_rfl) (by kernel_rfl) (fun _ _ _ h => h) (.inl ⟨by rfl, fun w hSw => by first | (go_simp; done) | (go_simp; with_reducible rfl) | rfl⟩) hHeld ?_
          try simp only [Act.put, List.setIfInBounds_toArray, List.set_cons_zero, List.set_cons_succ]
          refine wpAnyH_take (i := 9) (v := .agg #[.int .i64 qo, .int .i64 qq]) rfl (by kernel_rfl) (by kernel_rfl) (by kernel_rfl) (fun _ _ _ h => h) (.inl ⟨by rfl, fun w hSw => by first | (go_simp; done) | (go_simp; with_reducible rfl) | rfl⟩) hHeld ?_
          try simp only [Act.put, List.setIfInBounds_toArray, List.set_cons_zero, List.set_cons_succ]
          refine wpAnyH_take (i := 10) (v := vq) rfl (by kernel_rfl) (by kernel_rfl) (by kernel_rfl) (fun _ _ _ h => h) (.inl ⟨by rfl, fun w hSw => by first | (go_simp; done) | (go_simp; with_reducible rfl) | rfl⟩) hHeld ?_
          try simp only [Act.put, List.setIfInBounds_toArray, List.set_cons_zero, List.set_cons_succ]
          have h3 := hHeld
          refine wpAnyH_ready (rs := [11]) (by kernel_rfl) (by simp) ?_
          refine AllReadyH.cons rfl (fun K hK => ?_) AllReadyH.nil
          go_simp
          refine hK.out _ _ (hHeld.up (below_alloc (Below.refl _ _) _)) (fun hHeld => ?_)
          clear hK K
          refine wpAnyH_ready (rs := [12]) (by kernel_rfl) (by simp) ?_
          refine AllReadyH.cons rfl (fun K hK => ?_) AllReadyH.nil
          go_simp
          refine hK.out _ _ (h3.up (below_alloc (Below.refl _ _) _)) (fun hHeld => ?_)
          clear hK K
          refine wpAnyH_take (i := 13) (v := vq) rfl (by kernel_rfl) (by kernel_rfl) (by kernel_rfl) (fun _ _ _ h => h) (.inl ⟨by rfl, fun w hSw => by first | (go_simp; done) | (go_simp; with_reducible rfl) | rfl⟩) hHeld ?_
          try simp only [Act.put, List.setIfInBounds_toArray, List.set_cons_zero, List.set_cons_succ]
          refine wpAnyH_done (by kernel_rfl) ?_ _
          try simp only [List.getElem_toArray, List.getElem_cons_succ, List.getElem_cons_zero, Act.put, List.setIfInBounds_toArray, List.set_cons_zero, List.set_cons_succ]
          go_wp2
          go_meet
          case rel => exact ⟨w3.heap.size, rfl, rfl, ⟨hHeld, heap_alloc_new _ _⟩⟩
        ·
          go_simp
          have h0 := hHeld
          refine hK.out _ _ (h0.up (below_alloc (Below.refl _ _) _)) (fun hHeld => ?_)
          clear hK K
          refine wpAnyH_ready (rs := [7]) (by kernel_rfl) (by simp) ?_
          refine AllReadyH.cons rfl (fun K hK => ?_) AllReadyH.nil
          go_simp
          refine (HC3.out _ hHeld.lw).mono ?_
          rintro e' w3 ⟨rfl, hw⟩
          have hb := (hw.block _ (lt_of_block (heap_alloc_new _ _))).trans (heap_alloc_new _ _)
          refine hK.out _ _ (hHeld.up hw) (fun hHeld => ?_)
          clear hK K
          refine wpAnyH_take (i := 8) (v := .tuple #[.agg #[.int .i64 qo, .int .i64 qq], vq]) rfl (by kernel_rfl) (by kernel_rfl) (by kernel_rfl) (fun _ _ _ h => h) (.inl ⟨by rfl, fun w hSw => by first | (go_simp; done) | (go_simp; with_reducible rfl) | rfl⟩) hHeld ?_
          try simp only [Act.put, List.setIfInBounds_toArray, List.set_cons_zero, List.set_cons_succ]
          refine wpAnyH_take (i := 9) (v := .agg #[.int .i64 qo, .int .i64 qq]) rfl (by kernel_rfl) (by kernel_rfl) (by kernel_rfl) (fun _ _ _ h => h) (.inl ⟨by rfl, fun w hSw => by first | (go_simp; done) | (go_simp; with_reducible rfl) | rfl⟩) hHeld ?_
          try simp only [Act.put, List.setIfInBounds_toArray, List.set_cons_zero, List.set_cons_succ]
          refine wpAnyH_take (i := 10) (v := vq) rfl (by kernel_rfl) (by kernel_rfl) (by kernel_rfl) (fun _ _ _ h => h) (.inl ⟨by rfl, fun w hSw => by first | (go_simp; done) | (go_simp; with_reducible rfl) | rfl⟩) hHeld ?_
          try simp only [Act.put, List.setIfInBounds_toArray, List.set_cons_zero, List.set_cons_succ]
          have z0 := (cell_of_row _ _ 0 _ _ _ hb).trans (show (#[.int .i64 0, .int .i64 0] : Array Value)[0]? = some (.int .i64 0) from rfl)
          have z1 := (cell_of_row _ _ 1 _ _ _ hb).trans (show (#[.int .i64 0, .int .i64 0] : Array Value)[1]? = some (.int .i64 0) from rfl)
          have f0_ := blk_frozen hb 0
          have f1_ := blk_frozen hb 1
          refine wpAnyH_ready (rs := [12]) (by kernel_rfl) (by simp) ?_
          refine AllReadyH.cons rfl (fun K hK => ?_) AllReadyH.nil
          go_simp
          have hb2 := heap_setCell_same _ _ 1 _ _ (.int .i64 qq) (heap_setCell_same _ _ 0 _ _ (.int .i64 qo) hb)
          refine hK.out _ _ (FS2.mk ?_ ?_ ?_) (fun hHeld => ?_)
          · exact (Below.heap_setCell _ _ _ _ (Nat.ne_of_lt (lt_of_block h0.b5))).trans ((Below.heap_setCell _ _ _ _ (Nat.ne_of_lt (lt_of_block h0.b5))).trans hHeld.b5)
          · exact (Below.heap_setCell _ _ _ _ (Nat.ne_of_lt (lt_of_block h0.b8))).trans ((Below.heap_setCell _ _ _ _ (Nat.ne_of_lt (lt_of_block h0.b8))).trans hHeld.b8)
          · exact below_set (below_set hHeld.lw h0.lw.size _) h0.lw.size _
          clear hK K
          refine wpAnyH_take (i := 13) (v := vq) rfl (by kernel_rfl) (by kernel_rfl) (by kernel_rfl) (fun _ _ _ h => h) (.inl ⟨by rfl, fun w hSw => by first | (go_simp; done) | (go_simp; with_reducible rfl) | rfl⟩) hHeld ?_
          try simp only [Act.put, List.setIfInBounds_toArray, List.set_cons_zero, List.set_cons_succ]
          refine wpAnyH_done (by kernel_rfl) ?_ _
          try simp only [List.getElem_toArray, List.getElem_cons_succ, List.getElem_cons_zero, Act.put, List.setIfInBounds_toArray, List.set_cons_zero, List.set_cons_succ]
          go_wp2
          go_meet
          case rel => exact ⟨_, rfl, rfl, ⟨hHeld, hb2⟩⟩
      case rest =>
        clear HW HC3
        obtain ⟨g13, rfl, rfl, HW⟩ := hcut
        have y0 := (cell_of_row _ g13 0 _ _ _ HW.out.2).trans (show (#[.int .i64 qo, .int .i64 qq] : Array Value)[0]? = some (.int .i64 qo) from rfl)
        have y1 := (cell_of_row _ g13 1 _ _ _ HW.out.2).trans (show (#[.int .i64 qo, .int .i64 qq] : Array Value)[1]? = some (.int .i64 qq) from rfl)
        have u0 := (cell_of_row _ g8 0 _ _ _ HW.out.1.b8).trans (show (#[.int .i64 po, .int .i64 pq] : Array Value)[0]? = some (.int .i64 po) from rfl)
        have u1 := (cell_of_row _ g8 1 _ _ _ HW.out.1.b8).trans (show (#[.int .i64 po, .int .i64 pq] : Array Value)[1]? = some (.int .i64 pq) from rfl)
        have HVQ2 := HVQ.out
        rcases qe with _ | c2
        · rw [show eW none = .nilIface from rfl] at HVQ2
          subst HVQ2
          by_cases k3 : 0 ≤ qo
          · have k3b : decide (0 ≤ qo) = true := decide_eq_true k3
            have hpq : po = qo ∧ pq = qq ∧ pe = none := by
              rcases HO.out with h | h
              · simp only [Prod.mk.injEq] at h; omega
              · simp only [Prod.mk.injEq] at h; exact h.1
            obtain ⟨rfl, rfl, rfl⟩ := hpq
            have hve := HVE.out
            rw [show eW none = .nilIface from rfl] at hve
            subst hve
            clear k3
            go_wp2
            exact HP.out _ _ ⟨rfl, HW.out.1.lw⟩
          · have k3b : decide (0 ≤ qo) = false := decide_eq_false k3
            have HR := Aside0.mk (show findF n R (s.drop (i + 1)) = (po, pq, pe) by
              rcases HO.out with h | h
              · exact h.2.symm
              · rcases h.2 with ⟨c, hc⟩ | hc
                · cases hc
                · exact absurd hc.2 k3)
            clear k3
            go_wp2
            go_roundg (s.length - (i + 1))
            case measure => have := HIL.out; have := HI.out; omega
            case rel => exact ⟨x1, i + 1, by first | rfl | rw [hx1], ⟨by have := HIL.out; have := HI.out; have := HX1.out; omega⟩, HR, ⟨HW.out.1⟩⟩
        · rw [show eW (some c2) = .iface 97 (.int .i64 c2) from rfl] at HVQ2
          subst HVQ2
          have hpq : pe = some c2 := by
            rcases HO.out with h | h
            · simp only [Prod.mk.injEq] at h; exact absurd h.1.2.2 (by simp)
            · simp only [Prod.mk.injEq] at h; exact h.1.2.2
          subst hpq
          have hve := HVE.out
          rw [show eW (some c2) = .iface 97 (.int .i64 c2) from rfl] at hve
          subst hve
          obtain ⟨kc, hkc⟩ : ∃ kc, code (some c2) = kc := ⟨_, rfl⟩
          have HC2 := Aside0.mk (fun (W : World) => show Calls Try.prog 21 #[.iface 97 (.int .i64 c2)] W fun e' w' => e' = .returned (.int .i64 kc) ∧ Below W.heap.size W w' from by rw [← hkc]; exact HCO.out (some c2) W)
          have HB := Aside0.mk HW.out.1.lw
          clear hkc HW y0 y1 u0 u1
          go_wp2_with (go_at_call 21; (with_reducible refine (HC2.out _).mono ?_); rintro e' w5 ⟨rfl, hw⟩; have hB := below_step HB.out hw; clear HB; have HB := Aside0.mk hB; clear hB hw)
          exact HP.out _ _ ⟨by simp, HB.out⟩
    · have c4b0 : decide (x < (s.length : Int)) = false := decide_eq_false c4
      have hd : s.drop i = [] := List.drop_eq_nil_of_le (by have := HI.out; omega)
      have hr := HR.out
      rw [hd] at hr
      simp only [findF, Prod.mk.injEq] at hr
      obtain ⟨rfl, rfl, rfl⟩ := hr
      have hve := HVE.out
      rw [show eW none = .nilIface from rfl] at hve
      subst hve
      have u0 := (cell_of_row _ g8 0 _ _ _ HW.out.b8).trans (show (#[.int .i64 (-1), .int .i64 (-1)] : Array Value)[0]? = some (.int .i64 (-1)) from rfl)
      clear c4 hxi hd HI HR
      go_wp2
      exact HP.out _ _ ⟨rfl, HW.out.lw⟩
end Go.Proofs.Ythopdoamajjojaa.BindF
