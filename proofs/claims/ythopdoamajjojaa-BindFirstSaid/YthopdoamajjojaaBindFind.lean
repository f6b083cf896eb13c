import Derived.Test.YthopdoamajjojaaQBindFx0
import Derived.StillTailTactics
import Derived.DataElems
import Derived.Deep.RegionHeld3
import Derived.Deep.RegionWith
import Derived.Laws.ResultCell
namespace Go.Proofs.Ythopdoamajjojaa.BindF
open Go Go.RowKit Go.Proofs.YthopdoamajjojaaW.PrintWords Go.Proofs.YthopdoamajjojaaW.PrintLast Go.Proofs.YthopdoamajjojaaW.PrintMore
set_option linter.unusedSimpArgs false
set_option linter.unusedVariables false
theorem cell_up {w w1 : World} (h : Below w.heap.size w w1) {a : Addr} {v : Value} (hc : w.cell? a = some v) : w1.cell? a = some v := (h.cell (World.block_lt_of_cell? w _ hc)).trans hc
theorem calls_aside {P : Program} {f : FuncId} {args : Array Value} {w : World} {Q : Ending → World → Prop} (h : ∀ Post : Ending → World → Prop, Aside0 (∀ e w', Q e w' → Post e w') → Calls P f args w Post) : Calls P f args w Q := h Q ⟨fun _ _ h => h⟩
theorem info127 : (Try.prog.info? 127).map (·.size) = some 54 := by kernel_rfl
theorem info76 : (Try.prog.info? 76).map (·.size) = some 2 := by kernel_rfl
theorem info74 : (Try.prog.info? 74).map (·.size) = some 3 := by kernel_rfl
theorem results_crt {P : Program} {fn : Func} {p u : Tmp} {ty : TypeId} (h : fn.results = #[.cell p ty, .tmp u]) (tmps : Array Value) (w : World) (g : Nat) (t : TypeId) (cs : Array Value) (d : TypeDesc)
    (hp : tmps.getD p undef = .pointer (some ⟨g, 0, none⟩)) (hg : w.heap[g]? = some (.cells cs t (0, 0)))
    (hu : P.underlying ty = some d) (hd : (match d with | .struct _ | .array _ _ => true | _ => false) = true) (hi : (P.info? ty).map (·.size) = some cs.size) :
    (results fn tmps).run P w = .ok (.tuple #[.agg cs, tmps.getD u undef]) w := by
  have hp' : tmps[p]?.getD undef = .pointer (some ⟨g, 0, none⟩) := by simpa using hp
  rw [results_cell_tmp h]
  simp [hp', asAddr, run_loadVar_row w g t ty cs (0, 0) d hg hu hd hi, Result.andThen]
section
variable {P : Program}
end
section
variable {P : Program} {ops : Array Oper} {w : World}
end
theorem store_row_ev {P : Program} {ops : Array Oper} {rest : List Oper} {o : Oper} {a : Act} {w : World} {Q : Exit → Act → World → Prop} (hgd : o.guard = none) (hd : o.dst = none) (ty : TypeId) (x y : Operand) (ho : o.op = .store ty x y) (g : Nat) (cells : Array Value)
    (hx : a.eval x = .pointer (some ⟨g, 0, none⟩)) (hy : a.eval y = .agg cells) (t : TypeId) (old : Array Value) (hg : w.heap[g]? = some (.cells old t (0, 0))) (hi : (P.info? ty).map (·.size) = some cells.size) (hold : old.size = cells.size) (h1 : cells.all (·.oneCell') = true)
    (h : ∀ w1, w1.heap[g]? = some (.cells cells t (0, 0)) → (∀ B w0, Below B w0 w → B ≤ g → Below B w0 w1) → (∀ k, k ≠ g → w1.heap[k]? = w.heap[k]?) → wpList P ops Q rest a w1) : wpList P ops Q (o :: rest) a w :=
  wpList_store_rowTo hgd ty x y ho hd g cells hx hy t old hg hi hold h1 (h _ (setRow_heap _ _ _ _ _ _ hg) (fun B w0 hb hB => hb.trans ⟨rfl, rfl, rfl, by simp [World.setRow], fun k hk => setRow_other w g k cells (by omega)⟩) (fun k hk => setRow_other w g k cells hk))
section
variable {P : Program}
theorem yieldsIf_load_at {ops : Array Oper} {S : World → Prop} {o : Oper} {a : Act} (hw : Region.wanted o (yielded ops a.tmps) = true) (ty : TypeId) (x : Operand) (ho : o.op = .load ty x)
    (ad : Addr) (hx : a.eval x = .pointer (some ad)) (vs : List Value) (hS : ∀ w, S w → ∀ j v, vs[j]? = some v → w.cell? (ad.add j) = some v) (d : TypeDesc)
    (hu : P.underlying ty = some d) (hd : (match d with | .struct _ | .array _ _ => true | _ => false) = true) (hi : (P.info? ty).map (·.size) = some vs.length) : YieldsIf P ops S o (.agg vs.toArray) a :=
  .inl ⟨hw, fun w hw' => by
    have hl : (loadCells ad vs.length).run P w = .ok vs.toArray w := run_loadCells_list (P := P) w ad vs (hS w hw')
    have hrun : (loadVar ty ad).run P w = .ok (.agg vs.toArray) w := by
      cases hq : P.info? ty with
      | none => simp [hq] at hi
      | some i =>
        have hs : i.size = vs.length := by simpa [hq] using hi
        have hagg : (isAgg ty).run P w = .ok true w := by
          unfold isAgg
          rw [Sem.run_bind, run_underlying hu w]
          cases d <;> simp_all
        simp [loadVar, Sem.run_bind, hagg, sizeOf, typeInfo, hq, hs, hl]
    unfold execOp
    simp only [ho, hx, Instr.loadAt, Instr.sureAddr, Sem.run_bind, Sem.run_pure, Result.andThen_ok, hrun]⟩
end
structure FS (g5 g6 : Nat) (n0 ver f0 : ByteArray) (ad : Addr) (cs : List Value) (w : World) (W : World) : Prop where
  c : ∀ k v, cs[k]? = some v → W.cell? (ad.add k) = some v
  b5 : W.heap[g5]? = some (.cells #[.string n0, .string ver, .string f0] 74 (0, 0))
  b6 : W.heap[g6]? = some (.cells #[.int .i64 0, .int .i64 0] 76 (0, 0))
  lw : Below w.heap.size w W
theorem FS.want {g5 g6 : Nat} {n0 ver f0 : ByteArray} {ad : Addr} {cs : List Value} {w W : World} (h : FS g5 g6 n0 ver f0 ad cs w W) : ∀ j v, ([.string n0, .string ver, .string f0] : List Value)[j]? = some v → W.cell? ((⟨g5, 0, none⟩ : Addr).add j) = some v := by
  intro j v hv
  have e : (⟨g5, 0, none⟩ : Addr).add j = ⟨g5, j, none⟩ := by unfold Addr.add; split <;> simp_all
  rw [e, cell_of_row W g5 j _ _ _ h.b5]
  simpa using hv
def eW : Option Int → Value
  | none => .nilIface
  | some c => .iface 97 (.int .i64 c)
abbrev Res := Nat → Int × Option Int
def findF (n : Nat) (R : Res) : List Int → Int × Int × Option Int
  | [] => (-1, -1, none)
  | x :: s => if x < 0 ∨ (n : Int) ≤ x then findF n R s else
      match (R x.toNat).2 with
      | some c => (0, 0, some c)
      | none => if 0 ≤ (R x.toNat).1 then (x, (R x.toNat).1, none) else findF n R s
def FRow (w : World) (A : Option Addr) (n : Nat) (wv : Array Value) (R : Res) : Prop :=
  ∀ j : Nat, j < n → ∃ (ad : Addr) (cs : List Value), A = some ad ∧ cs.length = 54 ∧ (∀ k v, cs[k]? = some v → w.cell? ((ad.add (j * 54)).add k) = some v) ∧ ∀ W, Below w.heap.size w W → Calls Try.prog 48 #[.agg cs.toArray, .agg wv] W fun e w' => e = .returned (.tuple #[.int .i64 (R j).1, eW (R j).2]) ∧ Below W.heap.size W w'
theorem FRow.up {w w1 : World} {A : Option Addr} {n : Nat} {wv : Array Value} {R : Res} (h : FRow w A n wv R) (hb : Below w.heap.size w w1) : FRow w1 A n wv R := by
  intro j hj
  obtain ⟨ad, cs, e, hl, hc, hI⟩ := h j hj
  exact ⟨ad, cs, e, hl, fun k v hv => cell_up hb (hc k v hv), fun W hW => hI W (below_step hb hW)⟩
set_option maxHeartbeats 16000000 in
set_option maxRecDepth 100000 in
theorem find_calls (w : World) (A : Option Addr) (n c : Nat) (B : Option Addr) (cb : Nat) (s : List Int) (n0 ver f0 : ByteArray) (R : Res) (hl : n ≤ 9223372036854775807) (hf : FRow w A n #[.string n0, .string ver, .string f0] R) (hs : Kd.C (Kd.int .i64) w B s.length s) :
    Calls Try.prog 26 #[.slice A n c, .slice B s.length cb, .agg #[.string n0, .string ver, .string f0]] w fun e w' => e = .returned (.tuple #[.agg #[.int .i64 (findF n R s).1, .int .i64 (findF n R s).2.1], eW (findF n R s).2.2]) ∧ Below w.heap.size w w' := by
  refine calls_aside fun Post HP => ?_
  have HF := Aside0.mk hf
  have HS := Aside0.mk hs
  have HL := Aside0.mk (And.intro hl hs.2.1)
  obtain ⟨res, hres⟩ : ∃ res, findF n R s = res := ⟨_, rfl⟩
  rw [hres] at HP
  have HR := Aside0.mk hres
  clear hf hs hl hres
  have hu127 := Try.underlying127
  have hu76 := Try.underlying76
  have hu74 := Try.underlying74
  go_enter Try.func26, Try.ntmps26
  go_wp2_with (first
    | ((with_reducible refine gate_dst (N := 5) rfl ?_); refine box_event ?hg (N := 5) ?hd (cs := #[.string n0, .string ver, .string f0]) (t := 74) ?hr ?_; (case hd => rfl); (case hg => rfl); (case hr => first | (go_simp; done) | (go_simp; rfl)); intro g5 eg w1 hb hw; have B5 := Aside0.mk hb; have Q1 := Aside0.mk hw; clear eg hb hw)
    | ((with_reducible refine gate_dst (N := 6) rfl ?_); refine box_event ?hg6 (N := 6) ?hd6 (cs := #[.int .i64 0, .int .i64 0]) (t := 76) ?hr6 ?_; (case hd6 => rfl); (case hg6 => rfl); (case hr6 => first | (go_simp; done) | (go_simp; rfl)); intro g6 eg w2 hb hw; have C5 := Aside0.mk ((hw.block _ (lt_of_block B5.out)).trans B5.out); have B6 := Aside0.mk hb; have Q2 := Aside0.mk (below_step Q1.out hw); have N6 := Aside0.mk (show w.heap.size ≤ g6 by have := Q1.out.size; omega); clear eg hb hw B5))
  go_loopg [14] s.length (fun kq v14 w' => ∃ (x : Int) (i : Nat), v14 = .int .i64 x ∧ Aside0 (x = (i : Int) ∧ i ≤ s.length ∧ kq = s.length - i) ∧ Aside0 (findF n R (s.drop i) = res) ∧ Aside0 (w'.heap[g5]? = some (.cells #[.string n0, .string ver, .string f0] 74 (0, 0)) ∧ w'.heap[g6]? = some (.cells #[.int .i64 0, .int .i64 0] 76 (0, 0)) ∧ Below w.heap.size w w'))
  case atStart => exact ⟨0, 0, rfl, ⟨by omega⟩, ⟨HR.out⟩, ⟨C5.out, B6.out, Q2.out⟩⟩
  case round =>
    clear HR C5 B6 Q1 Q2
    obtain ⟨x, i, rfl, HI, HR, HW⟩ := hrel
    have hxi := HI.out.1
    by_cases c4 : x < (s.length : Int)
    · have c4b0 : decide (x < (s.length : Int)) = true := decide_eq_true c4
      have HIL := Aside0.mk (show i < s.length by omega)
      have hv : wrap64 (x + 1) = x + 1 := by have := HL.out.2; unfold wrap64; omega
      have HV := Aside0.mk hv
      clear hv
      have p1 : (0 : Int) ≤ x := by omega
      obtain ⟨ad, eA, g0⟩ := Kd.at_int (Kd.C_below HS.out HW.out.2.2) x p1 c4
      obtain ⟨e, he⟩ : ∃ e, rd s x = e := ⟨_, rfl⟩
      have hee : s[i]'HIL.out = e := by rw [← he, hxi]; simp [rd, HIL.out]
      rw [he] at g0
      have hr := HR.out
      rw [List.drop_eq_getElem_cons HIL.out, hee, findF] at hr
      subst eA
      have q1 := eq_true c4
      replace p1 := eq_true p1
      clear c4 hxi he hee HR
      by_cases k1 : e < 0
      · rw [if_pos (.inl k1)] at hr
        have HR := Aside0.mk hr
        have k1b : decide (e < 0) = true := decide_eq_true k1
        clear hr k1
        go_wp2
        go_roundg (s.length - (i + 1))
        case measure => have := HIL.out; have := HI.out; omega
        case rel => exact ⟨x + 1, i + 1, by first | rfl | rw [HV.out], ⟨by have := HIL.out; have := HI.out; omega⟩, HR, HW⟩
      by_cases k2 : (n : Int) ≤ e
      · rw [if_pos (.inr k2)] at hr
        have HR := Aside0.mk hr
        have k1b : decide (e < 0) = false := decide_eq_false k1
        have k2b : decide ((n : Int) ≤ e) = true := decide_eq_true k2
        clear hr k1 k2
        go_wp2
        go_roundg (s.length - (i + 1))
        case measure => have := HIL.out; have := HI.out; omega
        case rel => exact ⟨x + 1, i + 1, by first | rfl | rw [HV.out], ⟨by have := HIL.out; have := HI.out; omega⟩, HR, HW⟩
      rw [if_neg (fun h => h.elim k1 k2)] at hr
      have HEN := Aside0.mk (show 0 ≤ e ∧ e < (n : Int) by omega)
      have k1b : decide (e < 0) = false := decide_eq_false k1
      have k2b : decide ((n : Int) ≤ e) = false := decide_eq_false k2
      have p2 : (0 : Int) ≤ e := by omega
      have q2 : e < (n : Int) := by omega
      obtain ⟨ad2, cs, eB, hcl, hcc, hIn⟩ := (HF.out.up HW.out.2.2) e.toNat (by omega)
      subst eB
      obtain ⟨⟨r1, r2⟩, hrr⟩ : ∃ rr, R e.toNat = rr := ⟨_, rfl⟩
      rw [hrr] at hr hIn
      obtain ⟨v2, hv2⟩ : ∃ v2, eW r2 = v2 := ⟨_, rfl⟩
      have HV2 := Aside0.mk hv2
      simp only at hr hIn
      rw [hv2] at hIn
      have HRR := Aside0.mk hr
      have HCL := Aside0.mk hcl
      have HCC := Aside0.mk hcc
      have HIN := Aside0.mk hIn
      replace p2 := eq_true p2
      replace q2 := eq_true q2
      clear k1 k2 hrr hcl hcc hIn hv2 hr
      have w0 := cell_of_row _ g5 0 _ _ _ HW.out.1
      have w1 := cell_of_row _ g5 1 _ _ _ HW.out.1
      have w2 := cell_of_row _ g5 2 _ _ _ HW.out.1
      simp only [List.getElem?_toArray, List.getElem?_cons_succ, List.getElem?_cons_zero] at w0 w1 w2
      go_upto_region 5 with (fail)
      have hHeld : FS g5 g6 n0 ver f0 (ad2.add (e.toNat * 54)) cs w (World.drew _) := ⟨fun k v hv => cell_up (below_drew1 (Below.refl _ _)) (HCC.out k v hv), HW.out.1, HW.out.2.1, below_drew1 HW.out.2.2⟩
      refine wp_region_held (S := FS g5 g6 n0 ver f0 (ad2.add (e.toNat * 54)) cs w) (by kernel_rfl) ?_
      refine wpAnyH_take (i := 0) (v := .slice (some ad2) n c) rfl (by kernel_rfl) (by kernel_rfl) (by kernel_rfl) (fun _ _ _ h => h) (.inl ⟨by rfl, fun w hSw => by first | rfl | (go_simp; done) | (go_simp; with_reducible rfl)⟩) hHeld ?_
      try simp only [Act.put, List.setIfInBounds_toArray, List.set_cons_zero, List.set_cons_succ]
      refine wpAnyH_take (i := 1) (v := .int .i64 e) rfl (by kernel_rfl) (by kernel_rfl) (by kernel_rfl) (fun _ _ _ h => h) (.inl ⟨by rfl, fun w hSw => by first | rfl | (go_simp; done) | (go_simp; with_reducible rfl)⟩) hHeld ?_
      try simp only [Act.put, List.setIfInBounds_toArray, List.set_cons_zero, List.set_cons_succ]
      refine wpAnyH_take (i := 2) (v := .pointer (some (ad2.add (e.toNat * 54)))) rfl (by kernel_rfl) (by kernel_rfl) (by kernel_rfl) (fun _ _ _ h => h) (.inl ⟨by rfl, fun w hSw => by first | rfl | (go_simp; done) | (go_simp; with_reducible rfl)⟩) hHeld ?_
      try simp only [Act.put, List.setIfInBounds_toArray, List.set_cons_zero, List.set_cons_succ]
      refine wpAnyH_take (i := 3) (v := .agg cs.toArray) rfl (by kernel_rfl) (by kernel_rfl) (by kernel_rfl) (fun _ _ _ h => h) (yieldsIf_load_at (by rfl) 127 (.tmp 29) rfl (ad2.add (e.toNat * 54)) rfl cs (fun w hS => hS.c) _ hu127 rfl (by rw [HCL.out]; exact info127)) hHeld ?_
      try simp only [Act.put, List.setIfInBounds_toArray, List.set_cons_zero, List.set_cons_succ]
      refine wpAnyH_take (i := 4) (v := .agg #[.string n0, .string ver, .string f0]) rfl (by kernel_rfl) (by kernel_rfl) (by kernel_rfl) (fun _ _ _ h => h) (yieldsIf_load_at (by rfl) 74 (.tmp 5) rfl ⟨g5, 0, none⟩ rfl [.string n0, .string ver, .string f0] (fun w hS => hS.want) _ hu74 rfl info74) hHeld ?_
      try simp only [Act.put, List.setIfInBounds_toArray, List.set_cons_zero, List.set_cons_succ]
      refine wpAnyH_ready (rs := [5]) (by kernel_rfl) (by simp) ?_
      refine AllReadyH.cons rfl (fun K hK => ?_) AllReadyH.nil
      go_simp
      refine (HIN.out _ (below_drew1 (Below.refl _ _))).mono ?_
      rintro e' w3 ⟨rfl, hw⟩
      refine hK.out _ _ ⟨fun k v hv => cell_up hw (hHeld.c k v hv), (hw.block _ (lt_of_block hHeld.b5)).trans hHeld.b5, (hw.block _ (lt_of_block hHeld.b6)).trans hHeld.b6, below_step hHeld.lw hw⟩ (fun hHeld => ?_)
      clear hK K hw
      refine wpAnyH_take (i := 6) (v := .tuple #[.int .i64 r1, v2]) rfl (by kernel_rfl) (by kernel_rfl) (by kernel_rfl) (fun _ _ _ h => h) (.inl ⟨by rfl, fun w hSw => by first | rfl | (go_simp; done) | (go_simp; with_reducible rfl)⟩) hHeld ?_
      try simp only [Act.put, List.setIfInBounds_toArray, List.set_cons_zero, List.set_cons_succ]
      refine wpAnyH_take (i := 7) (v := .int .i64 r1) rfl (by kernel_rfl) (by kernel_rfl) (by kernel_rfl) (fun _ _ _ h => h) (.inl ⟨by rfl, fun w hSw => by first | rfl | (go_simp; done) | (go_simp; with_reducible rfl)⟩) hHeld ?_
      try simp only [Act.put, List.setIfInBounds_toArray, List.set_cons_zero, List.set_cons_succ]
      refine wpAnyH_take (i := 8) (v := v2) rfl (by kernel_rfl) (by kernel_rfl) (by kernel_rfl) (fun _ _ _ h => h) (.inl ⟨by rfl, fun w hSw => by first | rfl | (go_simp; done) | (go_simp; with_reducible rfl)⟩) hHeld ?_
      try simp only [Act.put, List.setIfInBounds_toArray, List.set_cons_zero, List.set_cons_succ]
      refine wpAnyH_take (i := 9) (v := .int .i64 r1) rfl (by kernel_rfl) (by kernel_rfl) (by kernel_rfl) (fun _ _ _ h => h) (.inl ⟨by rfl, fun w hSw => by first | rfl | (go_simp; done) | (go_simp; with_reducible rfl)⟩) hHeld ?_
      try simp only [Act.put, List.setIfInBounds_toArray, List.set_cons_zero, List.set_cons_succ]
      refine wpAnyH_take (i := 10) (v := v2) rfl (by kernel_rfl) (by kernel_rfl) (by kernel_rfl) (fun _ _ _ h => h) (.inl ⟨by rfl, fun w hSw => by first | rfl | (go_simp; done) | (go_simp; with_reducible rfl)⟩) hHeld ?_
      try simp only [Act.put, List.setIfInBounds_toArray, List.set_cons_zero, List.set_cons_succ]
      refine wpAnyH_done (by kernel_rfl) ?_ _
      have HH := Aside0.mk hHeld
      clear hHeld
      try simp only [List.getElem_toArray, List.getElem_cons_succ, List.getElem_cons_zero, Act.put, List.setIfInBounds_toArray, List.set_cons_zero, List.set_cons_succ]
      clear w0 w1 w2 HW HCL HCC HIN
      have HV3 := HV2.out
      rcases r2 with _ | c2
      · rw [show eW none = .nilIface from rfl] at HV3
        subst HV3
        have hr := HRR.out
        by_cases k3 : 0 ≤ r1
        · rw [if_pos k3] at hr
          have HR := Aside0.mk hr
          have k3b : decide (0 ≤ r1) = true := decide_eq_true k3
          clear hr k3 HRR
          go_wp2_with (first
            | ((with_reducible refine gate_store (t := 76) (p := 6) rfl ?_); refine store_row_ev rfl rfl 76 (.tmp 6) (.tmp 43) rfl g6 #[.int .i64 e, .int .i64 r1] rfl rfl 76 _ HH.out.b6 (by kernel_rfl) rfl (by kernel_rfl) ?_; intro w5 hb hf hk_; have B6 := Aside0.mk hb; have Q6 := Aside0.mk (hf _ _ HH.out.lw N6.out); have y0 := cell_of_row _ g6 0 _ _ _ hb; have y1 := cell_of_row _ g6 1 _ _ _ hb; simp only [List.getElem?_toArray, List.getElem?_cons_succ, List.getElem?_cons_zero] at y0 y1; clear hb hf hk_))
          ((try simp only [Exit.inBlock, Exit.then]); refine bodyPost_ret (results_crt rfl _ _ g6 76 _ _ rfl B6.out hu76 rfl info76) rfl ?_)
          exact HP.out _ _ ⟨by rw [← HR.out]; rfl, Q6.out⟩
        · rw [if_neg k3] at hr
          have HR := Aside0.mk hr
          have k3b : decide (0 ≤ r1) = false := decide_eq_false k3
          clear hr k3 HRR
          go_wp2
          go_roundg (s.length - (i + 1))
          case measure => have := HIL.out; have := HI.out; omega
          case rel => exact ⟨x + 1, i + 1, by first | rfl | rw [HV.out], ⟨by have := HIL.out; have := HI.out; omega⟩, HR, ⟨HH.out.b5, HH.out.b6, HH.out.lw⟩⟩
      · rw [show eW (some c2) = .iface 97 (.int .i64 c2) from rfl] at HV3
        subst HV3
        have hr := HRR.out
        have HR := Aside0.mk (show ((0, 0, some c2) : Int × Int × Option Int) = res from hr)
        clear hr HRR
        go_wp2_with ((with_reducible refine gate_store (t := 76) (p := 6) rfl ?_); refine store_row_ev rfl rfl 76 (.tmp 6) (.tmp 37) rfl g6 #[.int .i64 0, .int .i64 0] rfl rfl 76 _ HH.out.b6 (by kernel_rfl) rfl (by kernel_rfl) ?_; intro w5 hb hf hk_; have B6 := Aside0.mk hb; have Q6 := Aside0.mk (hf _ _ HH.out.lw N6.out); have y0 := cell_of_row _ g6 0 _ _ _ hb; have y1 := cell_of_row _ g6 1 _ _ _ hb; simp only [List.getElem?_toArray, List.getElem?_cons_succ, List.getElem?_cons_zero] at y0 y1; clear hb hf hk_)
        ((try simp only [Exit.inBlock, Exit.then]); refine bodyPost_ret (results_crt rfl _ _ g6 76 _ _ rfl B6.out hu76 rfl info76) rfl ?_)
        exact HP.out _ _ ⟨by rw [← HR.out]; rfl, Q6.out⟩
    · have c4b0 : decide (x < (s.length : Int)) = false := decide_eq_false c4
      have hd : s.drop i = [] := List.drop_eq_nil_of_le (by have := HI.out; omega)
      have hr := HR.out
      rw [hd, findF] at hr
      have HR2 := Aside0.mk hr
      have HH := Aside0.mk (And.intro HW.out.2.1 HW.out.2.2)
      clear c4 hxi hd hr HR HI HW
      go_wp2_with ((with_reducible refine gate_store (t := 76) (p := 6) rfl ?_); refine store_row_ev rfl rfl 76 (.tmp 6) (.tmp 45) rfl g6 #[.int .i64 (-1), .int .i64 (-1)] rfl rfl 76 _ HH.out.1 (by kernel_rfl) rfl (by kernel_rfl) ?_; intro w5 hb hf hk_; have B6 := Aside0.mk hb; have Q6 := Aside0.mk (hf _ _ HH.out.2 N6.out); have y0 := cell_of_row _ g6 0 _ _ _ hb; have y1 := cell_of_row _ g6 1 _ _ _ hb; simp only [List.getElem?_toArray, List.getElem?_cons_succ, List.getElem?_cons_zero] at y0 y1; clear hb hf hk_)
      ((try simp only [Exit.inBlock, Exit.then]); refine bodyPost_ret (results_crt rfl _ _ g6 76 _ _ rfl B6.out hu76 rfl info76) rfl ?_)
      exact HP.out _ _ ⟨by rw [← HR2.out]; rfl, Q6.out⟩
end Go.Proofs.Ythopdoamajjojaa.BindF
