import Derived.Test.YthopdoamajjojaaVersNeeds
namespace Go.Proofs.Ythopdoamajjojaa.VersS
open Go Go.RowKit Go.Proofs.Ythopdoamajjojaa.QVers Go.Proofs.Ythopdoamajjojaa.VersSpec Go.Proofs.YthopdoamajjojaaW.PrintWords Go.Proofs.YthopdoamajjojaaW.PrintLast Go.Proofs.YthopdoamajjojaaW.PrintMore
open TextFacts (textS u64_in)
set_option linter.unusedSimpArgs false
set_option linter.unusedVariables false
def ofS (T ws : List Int) : Nat → Nat → List Int → Except Int (List Int)
  | 0, _, acc => .ok acc
  | n + 1, i, acc =>
    if num ((ws.take (2 * i + 2)).drop (2 * i)) % 32768 > 1 ∧ num ((ws.take (2 * i + 2)).drop (2 * i)) % 32768 ∉ T then .error 3
    else ofS T ws n (i + 1) (acc ++ [num ((ws.take (2 * i + 2)).drop (2 * i))])
abbrev Vs := Bool × List Int × List Df × List Nd
def readV (b : List Int) (ps : List S29) (tab sz versym verdef defnum verneed neednum n : Int) : Except Int Vs :=
  if n < 0 then .error 1 else if n > 4096 then .error 2 else if versym = 0 then .ok (false, [], [], [])
  else if (strS b ps tab sz).2 ≠ 0 then .error (strS b ps tab sz).2
  else match slc b ps versym (2 * n) with
    | none => .error 4
    | some ws =>
      match (if verdef = 0 then .ok ([], []) else defsT b ps (strS b ps tab sz).1 defnum verdef []) with
      | .error c => .error c
      | .ok d =>
        match (if verneed = 0 then .ok ([], d.2) else needsT b ps (strS b ps tab sz).1 neednum verneed d.2) with
        | .error c => .error c
        | .ok nd =>
          match ofS nd.2 ws n.toNat 0 [] with
          | .error c => .error c
          | .ok l => .ok (true, l, d.1, nd.1)
def ReadP (w : World) (res : Except Int Vs) (e : Ending) (w' : World) : Prop :=
  match res with
  | .error c => e = .returned (.tuple #[.agg #[.bool false, .slice none 0 0, .slice none 0 0, .slice none 0 0], .iface 97 (.int .i64 c)]) ∧ Below w.heap.size w w'
  | .ok x => ∃ v1 v2 v3, e = .returned (.tuple #[.agg #[.bool x.1, v1, v2, v3], .nilIface]) ∧ Kd.R (Kd.int .i64) 3 w' w.heap.size (fun _ => True) v1 x.2.1 ∧ Kd.R kDf 63 w' w.heap.size (fun _ => True) v2 x.2.2.1 ∧ Kd.R kNd 66 w' w.heap.size (fun _ => True) v3 x.2.2.2 ∧ Below w.heap.size w w'
theorem info54 : (Try.prog.info? 54).map (·.size) = some 4 := by kernel_rfl
theorem info35 : (Try.prog.info? 35).map (·.size) = some 37 := by kernel_rfl
theorem info32 : (Try.prog.info? 32).map (·.size) = some 3 := by kernel_rfl
theorem store_row_ev {P : Program} {ops : Array Oper} {rest : List Oper} {o : Oper} {a : Act} {w : World} {Q : Exit → Act → World → Prop} (hgd : o.guard = none) (hd : o.dst = none) (ty : TypeId) (x y : Operand) (ho : o.op = .store ty x y) (g : Nat) (cells : Array Value)
    (hx : a.eval x = .pointer (some ⟨g, 0, none⟩)) (hy : a.eval y = .agg cells) (t : TypeId) (old : Array Value) (hg : w.heap[g]? = some (.cells old t (0, 0))) (hi : (P.info? ty).map (·.size) = some cells.size) (hold : old.size = cells.size) (h1 : cells.all (·.oneCell') = true)
    (h : ∀ w1, w1.heap[g]? = some (.cells cells t (0, 0)) → (∀ B w0, Below B w0 w → B ≤ g → Below B w0 w1) → (∀ k, k ≠ g → w1.heap[k]? = w.heap[k]?) → wpList P ops Q rest a w1) : wpList P ops Q (o :: rest) a w :=
  wpList_store_rowTo hgd ty x y ho hd g cells hx hy t old hg hi hold h1 (h _ (setRow_heap _ _ _ _ _ _ hg) (fun B w0 hb hB => hb.trans ⟨rfl, rfl, rfl, by simp [World.setRow], fun k hk => setRow_other w g k cells (by omega)⟩) (fun k hk => setRow_other w g k cells hk))
theorem map_event {P : Program} {ops : Array Oper} {rest : List Oper} {o : Oper} {a : Act} {w : World} {Q : Exit → Act → World → Prop} (hgd : o.guard = none) (ho : o.op = .makeMap 102 none)
    (h : ∀ m, m = w.heap.size → ∀ w1, w1 = w.alloc (.map #[] 0) → wpList P ops Q rest (a.put o.dst (.map (some m))) w1) : wpList P ops Q (o :: rest) a w :=
  Kd.event_run hgd (by simp [execOp, ho, run_makeMap, Sem.run_bind, Result.andThen_ok]) (h _ rfl _ rfl)
def StrC (w : World) (A0 : Option Addr) (c0 : Nat) (b : List Int) (h0 h1 : Int) (A1 : Option Addr) (c1 : Nat) (ps : List S29) (dc : Array Value) (tab sz : Int) : Prop :=
  ∀ w1, Below w.heap.size w w1 → Calls Try.prog 35 #[.slice A0 b.length c0, .agg #[.int .i64 h0, .int .u64 h1, .slice A1 ps.length c1], .agg dc] w1 fun e w2 => ∃ v, e = .returned (.tuple #[v, errW (errOf (strS b ps tab sz).2)]) ∧ Kd.V (Kd.int .u8) 5 w2 w1.heap.size (fun k => w1.heap.size ≤ k) v (strS b ps tab sz).1 ∧ Below w1.heap.size w1 w2
theorem info3 : (Try.prog.info? 3).map (fun i => (i.zero, i.size, i.bytes)) = some (some (.int .i64 0), 1, 8) := by kernel_rfl
def SlcC (w : World) (A0 : Option Addr) (c0 : Nat) (b : List Int) (h0 h1 : Int) (A1 : Option Addr) (c1 : Nat) (ps : List S29) : Prop :=
  ∀ (a n : Int), (0 ≤ a ∧ a ≤ 18446744073709551615) → 0 ≤ n → n ≤ 4294967296 → ∀ w1, Below w.heap.size w w1 → Calls Try.prog 36 #[.slice A0 b.length c0, .agg #[.int .i64 h0, .int .u64 h1, .slice A1 ps.length c1], .int .u64 a, .int .u64 n] w1 fun e w2 => ∃ v, e = .returned (.tuple #[v, errW (slcR (slc b ps a n)).2]) ∧ Kd.V (Kd.int .u8) 5 w2 w1.heap.size (fun k => w1.heap.size ≤ k) v (slcR (slc b ps a n)).1 ∧ Below w1.heap.size w1 w2
structure DynOk (dc : Array Value) (versym verdef defnum verneed neednum : Int) : Prop where
  size : dc.size = 37
  one : dc.all (·.oneCell') = true
  c26 : dc[26]? = some (.int .u64 versym)
  c28 : dc[28]? = some (.int .u64 verdef)
  c29 : dc[29]? = some (.int .u64 defnum)
  c30 : dc[30]? = some (.int .u64 verneed)
  c31 : dc[31]? = some (.int .u64 neednum)
theorem ReadP.err {w w' : World} {c : Int} {e : Ending} (he : e = .returned (.tuple #[.agg #[.bool false, .slice none 0 0, .slice none 0 0, .slice none 0 0], .iface 97 (.int .i64 c)])) (hb : Below w.heap.size w w') : ReadP w (.error c) e w' := ⟨he, hb⟩
theorem defs_err {w0 w : World} {r : Rc} {T : List Int} (h : Rdr w0 r w T) (G : Gd r) (addr n : Int) (ha : 0 ≤ addr ∧ addr ≤ 18446744073709551615) (hn : 0 ≤ n ∧ n ≤ 18446744073709551615) (hT : T.length ≤ 100000) {c : Int} (hq : defsT r.b r.ps r.ss n addr T = .error c) :
    Calls Try.prog 37 #[.pointer (some ⟨r.p, 0, none⟩), .int .u64 addr, .int .u64 n] w fun e w' => e = .returned (.tuple #[.slice none 0 0, .iface 97 (.int .i64 c)]) ∧ Below w0.heap.size w0 w' ∧ w.grownBy w' (some r.m) := by
  have h := defs_calls h G addr n ha hn hT
  rw [hq] at h
  exact h
theorem defs_ok {w0 w : World} {r : Rc} {T : List Int} (h : Rdr w0 r w T) (G : Gd r) (addr n : Int) (ha : 0 ≤ addr ∧ addr ≤ 18446744073709551615) (hn : 0 ≤ n ∧ n ≤ 18446744073709551615) (hT : T.length ≤ 100000) {l : List Df × List Int} (hq : defsT r.b r.ps r.ss n addr T = .ok l) :
    Calls Try.prog 37 #[.pointer (some ⟨r.p, 0, none⟩), .int .u64 addr, .int .u64 n] w fun e w' => ∃ v, e = .returned (.tuple #[v, .nilIface]) ∧ Kd.R kDf 63 w' w.heap.size (fun k => k ≠ r.m) v l.1 ∧ Rdr w0 r w' l.2 ∧ w.grownBy w' (some r.m) := by
  have h := defs_calls h G addr n ha hn hT
  rw [hq] at h
  exact h
theorem needs_err {w0 w : World} {r : Rc} {T : List Int} (h : Rdr w0 r w T) (G : Gd r) (addr n : Int) (ha : 0 ≤ addr ∧ addr ≤ 18446744073709551615) (hn : 0 ≤ n ∧ n ≤ 18446744073709551615) (hT : T.length ≤ 1000) {c : Int} (hq : needsT r.b r.ps r.ss n addr T = .error c) :
    Calls Try.prog 38 #[.pointer (some ⟨r.p, 0, none⟩), .int .u64 addr, .int .u64 n] w fun e w' => e = .returned (.tuple #[.slice none 0 0, .iface 97 (.int .i64 c)]) ∧ Below w0.heap.size w0 w' ∧ w.grownBy w' (some r.m) := by
  have h := needs_calls h G addr n ha hn hT
  rw [hq] at h
  exact h
theorem needs_ok {w0 w : World} {r : Rc} {T : List Int} (h : Rdr w0 r w T) (G : Gd r) (addr n : Int) (ha : 0 ≤ addr ∧ addr ≤ 18446744073709551615) (hn : 0 ≤ n ∧ n ≤ 18446744073709551615) (hT : T.length ≤ 1000) {l : List Nd × List Int} (hq : needsT r.b r.ps r.ss n addr T = .ok l) :
    Calls Try.prog 38 #[.pointer (some ⟨r.p, 0, none⟩), .int .u64 addr, .int .u64 n] w fun e w' => ∃ v, e = .returned (.tuple #[v, .nilIface]) ∧ Kd.R kNd 66 w' w.heap.size (fun k => k ≠ r.m) v l.1 ∧ Rdr w0 r w' l.2 ∧ w.grownBy w' (some r.m) := by
  have h := needs_calls h G addr n ha hn hT
  rw [hq] at h
  exact h
theorem defsS_len {b : List Int} {ps : List S29} {ss : List Int} : ∀ (n : Nat) (a y : Int) (T : List Int) (acc : List Df) (l : List Df × List Int), defsS b ps ss n a y T acc = .ok l → l.2.length = T.length + n
  | 0, _, _, T, acc, l, h => by
    simp only [defsS] at h
    injection h with h
    rw [← h]; rfl
  | n + 1, a, y, T, acc, l, h => by
    simp only [defsS] at h
    split at h
    · cases h
    · split at h
      · cases h
      · split at h
        · cases h
        · split at h
          · cases h
          · split at h
            · cases h
            · split at h
              · cases h
              · split at h
                · cases h
                · have := defsS_len n _ _ _ _ l h
                  rw [this, List.length_cons]
                  omega
theorem defsT_len {b : List Int} {ps : List S29} {ss : List Int} {n a : Int} {l : List Df × List Int} (h : defsT b ps ss n a [] = .ok l) : l.2.length ≤ 64 := by
  unfold defsT at h
  split at h
  · cases h
  · have := defsS_len _ _ _ _ _ _ h
    simp only [List.length_nil] at this
    omega
theorem Rdr.set {w0 w : World} {r : Rc} {T : List Int} {g : Nat} (h : Rdr w0 r w T) (h0 : w0.heap.size ≤ g) (hp : g ≠ r.p) (hm : g ≠ r.m) (j : Nat) (u : Value) : Rdr w0 r (w.setCell ⟨g, j, none⟩ u) T :=
  ⟨h.hb, h.lb, h.hp, h.lp, h.hs, h.ls, (Below.heap_setCell _ _ _ _ (fun e => hp e.symm)).trans h.box, h.p0, h.m0, Below.setCell h.hw (p := ⟨g, j, none⟩) h0 u, h.map.set (fun e => hm e.symm) j u⟩
theorem Rdr.but {w0 w w1 : World} {r : Rc} {T : List Int} {g : Nat} (h : Rdr w0 r w T) (h0 : w0.heap.size ≤ g) (hp : g ≠ r.p) (hm : g ≠ r.m) (hg : w.grownBy w1 (some g)) : Rdr w0 r w1 T :=
  ⟨h.hb, h.lb, h.hp, h.lp, h.hs, h.ls, (hg.block _ (lt_of_block h.box) (fun e => hp (by injection e with e; exact e.symm))).trans h.box, h.p0, h.m0, h.hw.grown hg h.hw.size (fun k e => by injection e with e; omega), h.map.keep (hg.block _ h.map.lt (fun e => hm (by injection e with e; exact e.symm)))⟩
theorem R_but {α : Type} {d : Kd α} {e base g t : Nat} {ok : Nat → Prop} {v : Value} {xs : List α} {w w1 : World} {cells : Array Value} (h : d.R e w base ok v xs) (hb : w.heap[g]? = some (.cells cells t (0, 0))) (ht : ∀ q, q ∈ e :: d.E → q ≠ t) (hg : w.grownBy w1 (some g)) : d.R e w1 base ok v xs :=
  Kd.R_mono (Kd.R_grown (Kd.R_types h hb ht) hg (fun k hk e => hk.2 (by injection e))) (fun k hk => hk.1)
theorem R_keep8 {α : Type} {d : Kd α} {e base g : Nat} {ok : Nat → Prop} {v : Value} {xs : List α} {w w1 : World} (h : d.R e w base ok v xs) (hk : ∀ k, k ≠ g → w1.heap[k]? = w.heap[k]?) (hg : g < base) : d.R e w1 base ok v xs :=
  Kd.R_mono (Kd.R_move (Kd.R_bound h) (fun k hb => hk k (by have := hb.2.1; omega))) (fun k hb => hb.1)
theorem and_i64 (a : Int) (ha : 0 ≤ a ∧ a ≤ 65535) : Go.bits BinOp.and IntKind.i64 a 32767 = a % 32768 := by
  obtain ⟨n, rfl⟩ := Int.eq_ofNat_of_zero_le ha.1
  have hn : n < 2 ^ 64 := by have := ha.2; omega
  have e1 : n % 2 ^ IntKind.i64.bits = n := Nat.mod_eq_of_lt hn
  have e2 : 32767 % 2 ^ IntKind.i64.bits = 32767 := Nat.mod_eq_of_lt (by decide)
  have e3 : n &&& 32767 = n % 2 ^ 15 := Nat.and_two_pow_sub_one_eq_mod n 15
  rw [show (32767 : Int) = ((32767 : Nat) : Int) from rfl]
  simp only [bits, BitVec.ofInt_natCast, BitVec.toNat_and, BitVec.toNat_ofNat, e1, e2, e3]
  have : IntKind.i64.wrap ((n % 2 ^ 15 : Nat) : Int) = wrap64 ((n % 2 ^ 15 : Nat) : Int) := i64_w _
  rw [this, w64 _ (by omega) (by omega)]
  simp
theorem num_two {l : List Int} (h8 : ∀ x ∈ l, 0 ≤ x ∧ x ≤ 255) (hl : l.length = 2) : 0 ≤ num l ∧ num l ≤ 65535 := by
  have := num_in l h8
  rw [hl] at this
  have e : (256 : Int) ^ 2 = 65536 := by decide
  omega
set_option maxHeartbeats 16000000 in
set_option maxRecDepth 100000 in
theorem read_calls (w : World) (A0 : Option Addr) (c0 : Nat) (b : List Int) (h0 h1 : Int) (A1 : Option Addr) (c1 : Nat) (ps : List S29) (dc : Array Value) (tab sz versym verdef defnum verneed neednum n : Int)
    (hb : Kd.C (Kd.int .u8) w A0 b.length b) (hcb : b.length ≤ c0) (hp : Kd.C k29 w A1 ps.length ps) (hcp : ps.length ≤ c1) (hd : DynOk dc versym verdef defnum verneed neednum)
    (hS : StrC w A0 c0 b h0 h1 A1 c1 ps dc tab sz) (hL : SlcC w A0 c0 b h0 h1 A1 c1 ps) (b8 : ∀ x ∈ b, 0 ≤ x ∧ x ≤ 255) (bl : b.length ≤ 9223372036854775807) (pl : ps.length ≤ 9223372036854775807) (po : ∀ p ∈ ps, okP p)
    (r26 : 0 ≤ versym ∧ versym ≤ 18446744073709551615) (r28 : 0 ≤ verdef ∧ verdef ≤ 18446744073709551615) (r29 : 0 ≤ defnum ∧ defnum ≤ 18446744073709551615) (r30 : 0 ≤ verneed ∧ verneed ≤ 18446744073709551615) (r31 : 0 ≤ neednum ∧ neednum ≤ 18446744073709551615) (rsz : 0 ≤ sz) (hn : -9223372036854775808 ≤ n ∧ n ≤ 9223372036854775807) :
    Calls Try.prog 18 #[.slice A0 b.length c0, .agg #[.int .i64 h0, .int .u64 h1, .slice A1 ps.length c1], .agg dc, .int .i64 n] w (ReadP w (readV b ps tab sz versym verdef defnum verneed neednum n)) := by
  refine calls_aside fun Post HP => ?_
  obtain ⟨res, hres⟩ : ∃ res, readV b ps tab sz versym verdef defnum verneed neednum n = res := ⟨_, rfl⟩
  rw [hres] at HP
  unfold StrC at hS
  unfold SlcC at hL
  have HD := Aside0.mk hd
  have HS := Aside0.mk hS
  have HL := Aside0.mk hL
  have HBC := Aside0.mk (And.intro hb hcb)
  have HPC := Aside0.mk (And.intro hp hcp)
  have HB8 := Aside0.mk b8
  have HBL := Aside0.mk (And.intro bl pl)
  have HPO := Aside0.mk po
  have R26 := Aside0.mk r26
  have R28 := Aside0.mk r28
  have R29 := Aside0.mk r29
  have R30 := Aside0.mk r30
  have R31 := Aside0.mk r31
  have RSZ := Aside0.mk rsz
  have HN := Aside0.mk hn
  clear hb hcb hp hcp hd hS hL b8 bl pl po r26 r28 r29 r30 r31 rsz hn
  have hu32 := Try.underlying32
  have hu35 := Try.underlying35
  have hu54 := Try.underlying54
  have hu24 := Try.underlying24
  have hu104 := Try.underlying104
  have hu37 := Try.underlying37
  by_cases ca : n < 0
  · have cab : decide (n < 0) = true := decide_eq_true ca
    rw [readV, if_pos ca] at hres
    have HR := Aside0.mk hres
    clear hres ca
    go_enter Try.func18, Try.ntmps18
    go_wp2_with (first
      | ((with_reducible refine gate_dst (N := 5) rfl ?_); refine box_event ?hg (N := 5) ?hd (cs := #[.int .i64 h0, .int .u64 h1, .slice A1 ps.length c1]) (t := 32) ?hr ?_; (case hd => rfl); (case hg => rfl); (case hr => first | (go_simp; done) | (go_simp; rfl)); intro g5 eg w1 hb hw; have B5 := Aside0.mk hb; have Q1 := Aside0.mk hw; clear eg hb hw)
      | ((with_reducible refine gate_dst (N := 6) rfl ?_); refine box_event ?hg (N := 6) ?hd (cs := dc) (t := 35) ?hr ?_; (case hd => rfl); (case hg => rfl); (case hr => first | (go_simp; done) | (go_simp; rfl)); intro g6 eg w2 hb hw; have B6 := Aside0.mk hb; have Q2 := Aside0.mk hw; clear eg hb hw)
      | ((with_reducible refine gate_dst (N := 8) rfl ?_); refine box_event ?hg (N := 8) ?hd (cs := #[.bool false, .slice none 0 0, .slice none 0 0, .slice none 0 0]) (t := 54) ?hr ?_; (case hd => rfl); (case hg => rfl); (case hr => first | (go_simp; done) | (go_simp; rfl)); intro g8 eg w3 hb hw; have B8 := Aside0.mk hb; have Q3 := Aside0.mk (below_step (below_step Q1.out Q2.out) hw); have GE8 := Aside0.mk (show w.heap.size ≤ g8 by rw [eg]; exact (below_step Q1.out Q2.out).size); have b5 := Aside0.mk ((hw.block _ (Nat.lt_of_lt_of_le (lt_of_block B5.out) Q2.out.size)).trans ((Q2.out.block _ (lt_of_block B5.out)).trans B5.out)); have b6 := Aside0.mk ((hw.block _ (lt_of_block B6.out)).trans B6.out); have k26 : w3.cell? ⟨g6, 26, none⟩ = some (.int .u64 versym) := (cell_of_row w3 g6 26 _ _ _ b6.out).trans HD.out.c26; clear eg hb hw B5 B6)
      | ((with_reducible refine gate_store (t := 54) (p := 8) rfl ?_); refine store_row_ev rfl rfl 54 (.tmp 8) (.tmp 21) rfl g8 #[.bool false, .slice none 0 0, .slice none 0 0, .slice none 0 0] rfl rfl 54 _ B8.out (by kernel_rfl) rfl (by kernel_rfl) ?_; intro w4 hb hf hk_; have BZ := Aside0.mk hb; have QZ := Aside0.mk (hf _ _ Q3.out GE8.out); clear hb hf hk_))
    refine bodyPost_ret (v := .tuple #[.agg #[.bool false, .slice none 0 0, .slice none 0 0, .slice none 0 0], .iface 97 (.int .i64 1)]) (results_list (rs := [.cell 8 54, .tmp 9]) (vs := [.agg #[.bool false, .slice none 0 0, .slice none 0 0, .slice none 0 0], .iface 97 (.int .i64 1)]) rfl (by simp) (.cell g8 54 #[.bool false, .slice none 0 0, .slice none 0 0, .slice none 0 0] (0, 0) _ rfl BZ.out hu54 rfl info54 (.tmp .nil))) rfl ?_
    refine HP.out _ _ ?_
    rw [← HR.out]
    exact ReadP.err rfl QZ.out
  have cab : decide (n < 0) = false := decide_eq_false ca
  rw [readV, if_neg ca] at hres
  by_cases cb : n > 4096
  · have cbb : decide (n > 4096) = true := decide_eq_true cb
    rw [if_pos cb] at hres
    have HR := Aside0.mk hres
    clear hres ca cb
    go_enter Try.func18, Try.ntmps18
    go_wp2_with (first
      | ((with_reducible refine gate_dst (N := 5) rfl ?_); refine box_event ?hg (N := 5) ?hd (cs := #[.int .i64 h0, .int .u64 h1, .slice A1 ps.length c1]) (t := 32) ?hr ?_; (case hd => rfl); (case hg => rfl); (case hr => first | (go_simp; done) | (go_simp; rfl)); intro g5 eg w1 hb hw; have B5 := Aside0.mk hb; have Q1 := Aside0.mk hw; clear eg hb hw)
      | ((with_reducible refine gate_dst (N := 6) rfl ?_); refine box_event ?hg (N := 6) ?hd (cs := dc) (t := 35) ?hr ?_; (case hd => rfl); (case hg => rfl); (case hr => first | (go_simp; done) | (go_simp; rfl)); intro g6 eg w2 hb hw; have B6 := Aside0.mk hb; have Q2 := Aside0.mk hw; clear eg hb hw)
      | ((with_reducible refine gate_dst (N := 8) rfl ?_); refine box_event ?hg (N := 8) ?hd (cs := #[.bool false, .slice none 0 0, .slice none 0 0, .slice none 0 0]) (t := 54) ?hr ?_; (case hd => rfl); (case hg => rfl); (case hr => first | (go_simp; done) | (go_simp; rfl)); intro g8 eg w3 hb hw; have B8 := Aside0.mk hb; have Q3 := Aside0.mk (below_step (below_step Q1.out Q2.out) hw); have GE8 := Aside0.mk (show w.heap.size ≤ g8 by rw [eg]; exact (below_step Q1.out Q2.out).size); have b5 := Aside0.mk ((hw.block _ (Nat.lt_of_lt_of_le (lt_of_block B5.out) Q2.out.size)).trans ((Q2.out.block _ (lt_of_block B5.out)).trans B5.out)); have b6 := Aside0.mk ((hw.block _ (lt_of_block B6.out)).trans B6.out); have k26 : w3.cell? ⟨g6, 26, none⟩ = some (.int .u64 versym) := (cell_of_row w3 g6 26 _ _ _ b6.out).trans HD.out.c26; clear eg hb hw B5 B6)
      | ((with_reducible refine gate_store (t := 54) (p := 8) rfl ?_); refine store_row_ev rfl rfl 54 (.tmp 8) (.tmp 26) rfl g8 #[.bool false, .slice none 0 0, .slice none 0 0, .slice none 0 0] rfl rfl 54 _ B8.out (by kernel_rfl) rfl (by kernel_rfl) ?_; intro w4 hb hf hk_; have BZ := Aside0.mk hb; have QZ := Aside0.mk (hf _ _ Q3.out GE8.out); clear hb hf hk_))
    refine bodyPost_ret (v := .tuple #[.agg #[.bool false, .slice none 0 0, .slice none 0 0, .slice none 0 0], .iface 97 (.int .i64 2)]) (results_list (rs := [.cell 8 54, .tmp 9]) (vs := [.agg #[.bool false, .slice none 0 0, .slice none 0 0, .slice none 0 0], .iface 97 (.int .i64 2)]) rfl (by simp) (.cell g8 54 #[.bool false, .slice none 0 0, .slice none 0 0, .slice none 0 0] (0, 0) _ rfl BZ.out hu54 rfl info54 (.tmp .nil))) rfl ?_
    refine HP.out _ _ ?_
    rw [← HR.out]
    exact ReadP.err rfl QZ.out
  have cbb : decide (n > 4096) = false := decide_eq_false cb
  rw [if_neg cb] at hres
  have HNP := Aside0.mk (show 0 ≤ n ∧ n ≤ 4096 by omega)
  clear ca cb
  by_cases cc : versym = 0
  · have ccb : (versym == 0) = true := beq_t cc
    rw [if_pos cc] at hres
    have HR := Aside0.mk hres
    clear hres cc
    go_enter Try.func18, Try.ntmps18
    go_wp2_with (first
      | ((with_reducible refine gate_dst (N := 5) rfl ?_); refine box_event ?hg (N := 5) ?hd (cs := #[.int .i64 h0, .int .u64 h1, .slice A1 ps.length c1]) (t := 32) ?hr ?_; (case hd => rfl); (case hg => rfl); (case hr => first | (go_simp; done) | (go_simp; rfl)); intro g5 eg w1 hb hw; have B5 := Aside0.mk hb; have Q1 := Aside0.mk hw; clear eg hb hw)
      | ((with_reducible refine gate_dst (N := 6) rfl ?_); refine box_event ?hg (N := 6) ?hd (cs := dc) (t := 35) ?hr ?_; (case hd => rfl); (case hg => rfl); (case hr => first | (go_simp; done) | (go_simp; rfl)); intro g6 eg w2 hb hw; have B6 := Aside0.mk hb; have Q2 := Aside0.mk hw; clear eg hb hw)
      | ((with_reducible refine gate_dst (N := 8) rfl ?_); refine box_event ?hg (N := 8) ?hd (cs := #[.bool false, .slice none 0 0, .slice none 0 0, .slice none 0 0]) (t := 54) ?hr ?_; (case hd => rfl); (case hg => rfl); (case hr => first | (go_simp; done) | (go_simp; rfl)); intro g8 eg w3 hb hw; have B8 := Aside0.mk hb; have Q3 := Aside0.mk (below_step (below_step Q1.out Q2.out) hw); have GE8 := Aside0.mk (show w.heap.size ≤ g8 by rw [eg]; exact (below_step Q1.out Q2.out).size); have b5 := Aside0.mk ((hw.block _ (Nat.lt_of_lt_of_le (lt_of_block B5.out) Q2.out.size)).trans ((Q2.out.block _ (lt_of_block B5.out)).trans B5.out)); have b6 := Aside0.mk ((hw.block _ (lt_of_block B6.out)).trans B6.out); have k26 : w3.cell? ⟨g6, 26, none⟩ = some (.int .u64 versym) := (cell_of_row w3 g6 26 _ _ _ b6.out).trans HD.out.c26; clear eg hb hw B5 B6)
      | ((with_reducible refine gate_store (t := 54) (p := 8) rfl ?_); refine store_row_ev rfl rfl 54 (.tmp 8) (.tmp 32) rfl g8 #[.bool false, .slice none 0 0, .slice none 0 0, .slice none 0 0] rfl rfl 54 _ B8.out (by kernel_rfl) rfl (by kernel_rfl) ?_; intro w4 hb hf hk_; have BZ := Aside0.mk hb; have QZ := Aside0.mk (hf _ _ Q3.out GE8.out); clear hb hf hk_))
    refine bodyPost_ret (v := .tuple #[.agg #[.bool false, .slice none 0 0, .slice none 0 0, .slice none 0 0], .nilIface]) (results_list (rs := [.cell 8 54, .tmp 9]) (vs := [.agg #[.bool false, .slice none 0 0, .slice none 0 0, .slice none 0 0], .nilIface]) rfl (by simp) (.cell g8 54 #[.bool false, .slice none 0 0, .slice none 0 0, .slice none 0 0] (0, 0) _ rfl BZ.out hu54 rfl info54 (.tmp .nil))) rfl ?_
    refine HP.out _ _ ?_
    rw [← HR.out]
    exact ⟨_, _, _, rfl, Kd.R_nil _ _ _ _ _, Kd.R_nil _ _ _ _ _, Kd.R_nil _ _ _ _ _, QZ.out⟩
  have ccb : (versym == 0) = false := beq_f cc
  rw [if_neg cc] at hres
  clear cc
  by_cases cs : (strS b ps tab sz).2 = 0
  case neg =>
    rw [if_pos cs] at hres
    have HR := Aside0.mk hres
    have HCS := Aside0.mk cs
    clear hres cs
    go_enter Try.func18, Try.ntmps18
    go_wp2_with (first
      | ((with_reducible refine gate_dst (N := 5) rfl ?_); refine box_event ?hg (N := 5) ?hd (cs := #[.int .i64 h0, .int .u64 h1, .slice A1 ps.length c1]) (t := 32) ?hr ?_; (case hd => rfl); (case hg => rfl); (case hr => first | (go_simp; done) | (go_simp; rfl)); intro g5 eg w1 hb hw; have B5 := Aside0.mk hb; have Q1 := Aside0.mk hw; clear eg hb hw)
      | ((with_reducible refine gate_dst (N := 6) rfl ?_); refine box_event ?hg (N := 6) ?hd (cs := dc) (t := 35) ?hr ?_; (case hd => rfl); (case hg => rfl); (case hr => first | (go_simp; done) | (go_simp; rfl)); intro g6 eg w2 hb hw; have B6 := Aside0.mk hb; have Q2 := Aside0.mk hw; clear eg hb hw)
      | ((with_reducible refine gate_dst (N := 8) rfl ?_); refine box_event ?hg (N := 8) ?hd (cs := #[.bool false, .slice none 0 0, .slice none 0 0, .slice none 0 0]) (t := 54) ?hr ?_; (case hd => rfl); (case hg => rfl); (case hr => first | (go_simp; done) | (go_simp; rfl)); intro g8 eg w3 hb hw; have B8 := Aside0.mk hb; have Q3 := Aside0.mk (below_step (below_step Q1.out Q2.out) hw); have GE8 := Aside0.mk (show w.heap.size ≤ g8 by rw [eg]; exact (below_step Q1.out Q2.out).size); have b5 := Aside0.mk ((hw.block _ (Nat.lt_of_lt_of_le (lt_of_block B5.out) Q2.out.size)).trans ((Q2.out.block _ (lt_of_block B5.out)).trans B5.out)); have b6 := Aside0.mk ((hw.block _ (lt_of_block B6.out)).trans B6.out); have k26 : w3.cell? ⟨g6, 26, none⟩ = some (.int .u64 versym) := (cell_of_row w3 g6 26 _ _ _ b6.out).trans HD.out.c26; clear eg hb hw B5 B6)
      | ((with_reducible refine gate_ (.load 32 (.tmp 5)) rfl ?_); refine wpList_load_row rfl 32 (.tmp 5) rfl g5 rfl 32 _ (0, 0) _ b5.out Try.underlying32 rfl (by rw [info32]; rfl) ?_)
      | ((with_reducible refine gate_ (.load 35 (.tmp 6)) rfl ?_); refine wpList_load_row rfl 35 (.tmp 6) rfl g6 rfl 35 _ (0, 0) _ b6.out Try.underlying35 rfl (by rw [info35, HD.out.size]) ?_)
      | (go_at_call 35; (with_reducible refine (HS.out _ Q3.out).mono ?_); rintro e w4 ⟨vS, rfl, hV, hw⟩; obtain ⟨AS, cS, eS⟩ := Kd.V_slice hV; subst eS; have HVS := Aside0.mk hV; have Q4 := Aside0.mk (below_step Q3.out hw); have b5_ := Aside0.mk ((hw.block _ (lt_of_block b5.out)).trans b5.out); have b6_ := Aside0.mk ((hw.block _ (lt_of_block b6.out)).trans b6.out); have b8_ := Aside0.mk ((hw.block _ (lt_of_block B8.out)).trans B8.out); have k26_ : w4.cell? ⟨g6, 26, none⟩ = some (.int .u64 versym) := (cell_of_row w4 g6 26 _ _ _ b6_.out).trans HD.out.c26; clear hV hw k26; rw [errOf_some HCS.out, errW_some])
      | ((with_reducible refine gate_store (t := 54) (p := 8) rfl ?_); refine store_row_ev rfl rfl 54 (.tmp 8) (.tmp 42) rfl g8 #[.bool false, .slice none 0 0, .slice none 0 0, .slice none 0 0] rfl rfl 54 _ (b8_.out) (by kernel_rfl) rfl (by kernel_rfl) ?_; intro wz hb hf hk_; have BZ := Aside0.mk hb; have QZ := Aside0.mk (hf _ _ (Q4.out) GE8.out); clear hb hf hk_))
    refine bodyPost_ret (v := .tuple #[.agg #[.bool false, .slice none 0 0, .slice none 0 0, .slice none 0 0], .iface 97 (.int .i64 (strS b ps tab sz).2)]) (results_list (rs := [.cell 8 54, .tmp 9]) (vs := [.agg #[.bool false, .slice none 0 0, .slice none 0 0, .slice none 0 0], .iface 97 (.int .i64 (strS b ps tab sz).2)]) rfl (by simp) (.cell g8 54 #[.bool false, .slice none 0 0, .slice none 0 0, .slice none 0 0] (0, 0) _ rfl BZ.out hu54 rfl info54 (.tmp .nil))) rfl ?_
    refine HP.out _ _ ?_
    rw [← HR.out]
    exact ReadP.err rfl QZ.out
  rw [if_neg (fun h => h cs)] at hres
  have hss := strS_ok cs
  obtain ⟨ss, hsE⟩ : ∃ y, (strS b ps tab sz).1 = y := ⟨_, rfl⟩
  have HCS := Aside0.mk cs
  have HSE := Aside0.mk hsE
  rw [hsE] at hres hss
  have HSS := Aside0.mk (show (∀ x ∈ ss, 0 ≤ x ∧ x ≤ 255) ∧ ss.length ≤ 140737488351232 from by
    have h := slc_len HPO.out RSZ.out hss.1
    exact ⟨fun x hx => HB8.out x (h.2.2 x hx), by have := hss.2.2; omega⟩)
  have hn1 : IntKind.u64.wrap n = n := u64_in n HNP.out.1 (by have := HNP.out; omega)
  have hn2 : IntKind.u64.wrap (2 * n) = 2 * n := u64_in (2 * n) (by have := HNP.out; omega) (by have := HNP.out; omega)
  clear cs hsE hss
  cases hw_ : slc b ps versym (2 * n) with
  | none =>
    rw [hw_] at hres
    have HR := Aside0.mk (show (Except.error 4 : Except Int Vs) = res from hres)
    have HWE := Aside0.mk hw_
    clear hres hw_
    go_enter Try.func18, Try.ntmps18
    go_wp2_with (first
      | ((with_reducible refine gate_dst (N := 5) rfl ?_); refine box_event ?hg (N := 5) ?hd (cs := #[.int .i64 h0, .int .u64 h1, .slice A1 ps.length c1]) (t := 32) ?hr ?_; (case hd => rfl); (case hg => rfl); (case hr => first | (go_simp; done) | (go_simp; rfl)); intro g5 eg w1 hb hw; have B5 := Aside0.mk hb; have Q1 := Aside0.mk hw; clear eg hb hw)
      | ((with_reducible refine gate_dst (N := 6) rfl ?_); refine box_event ?hg (N := 6) ?hd (cs := dc) (t := 35) ?hr ?_; (case hd => rfl); (case hg => rfl); (case hr => first | (go_simp; done) | (go_simp; rfl)); intro g6 eg w2 hb hw; have B6 := Aside0.mk hb; have Q2 := Aside0.mk hw; clear eg hb hw)
      | ((with_reducible refine gate_dst (N := 8) rfl ?_); refine box_event ?hg (N := 8) ?hd (cs := #[.bool false, .slice none 0 0, .slice none 0 0, .slice none 0 0]) (t := 54) ?hr ?_; (case hd => rfl); (case hg => rfl); (case hr => first | (go_simp; done) | (go_simp; rfl)); intro g8 eg w3 hb hw; have B8 := Aside0.mk hb; have Q3 := Aside0.mk (below_step (below_step Q1.out Q2.out) hw); have GE8 := Aside0.mk (show w.heap.size ≤ g8 by rw [eg]; exact (below_step Q1.out Q2.out).size); have b5 := Aside0.mk ((hw.block _ (Nat.lt_of_lt_of_le (lt_of_block B5.out) Q2.out.size)).trans ((Q2.out.block _ (lt_of_block B5.out)).trans B5.out)); have b6 := Aside0.mk ((hw.block _ (lt_of_block B6.out)).trans B6.out); have k26 : w3.cell? ⟨g6, 26, none⟩ = some (.int .u64 versym) := (cell_of_row w3 g6 26 _ _ _ b6.out).trans HD.out.c26; clear eg hb hw B5 B6)
      | ((with_reducible refine gate_ (.load 32 (.tmp 5)) rfl ?_); refine wpList_load_row rfl 32 (.tmp 5) rfl g5 rfl 32 _ (0, 0) _ b5.out Try.underlying32 rfl (by rw [info32]; rfl) ?_)
      | ((with_reducible refine gate_ (.load 35 (.tmp 6)) rfl ?_); refine wpList_load_row rfl 35 (.tmp 6) rfl g6 rfl 35 _ (0, 0) _ b6.out Try.underlying35 rfl (by rw [info35, HD.out.size]) ?_)
      | (go_at_call 35; (with_reducible refine (HS.out _ Q3.out).mono ?_); rintro e w4 ⟨vS, rfl, hV, hw⟩; obtain ⟨AS, cS, eS⟩ := Kd.V_slice hV; subst eS; have HVS := Aside0.mk hV; have Q4 := Aside0.mk (below_step Q3.out hw); have b5_ := Aside0.mk ((hw.block _ (lt_of_block b5.out)).trans b5.out); have b6_ := Aside0.mk ((hw.block _ (lt_of_block b6.out)).trans b6.out); have b8_ := Aside0.mk ((hw.block _ (lt_of_block B8.out)).trans B8.out); have k26_ : w4.cell? ⟨g6, 26, none⟩ = some (.int .u64 versym) := (cell_of_row w4 g6 26 _ _ _ b6_.out).trans HD.out.c26; clear hV hw k26; rw [errOf_none HCS.out, errW_none])
      | ((with_reducible refine gate_ (.load 32 (.tmp 5)) rfl ?_); refine wpList_load_row rfl 32 (.tmp 5) rfl g5 rfl 32 _ (0, 0) _ b5_.out Try.underlying32 rfl (by rw [info32]; rfl) ?_)
      | (go_at_call 36; (with_reducible refine (HL.out versym (2 * n) R26.out (by have := HNP.out; omega) (by have := HNP.out; omega) _ Q4.out).mono ?_); rintro e w5 ⟨vW, rfl, hV, hw⟩; obtain ⟨AW, cW, eW⟩ := Kd.V_slice hV; subst eW; have HVW := Aside0.mk hV; have Q5 := Aside0.mk (below_step Q4.out hw); have HVS5 := Aside0.mk (Kd.V_below HVS.out hw); have c5 := Aside0.mk ((hw.block _ (lt_of_block b5_.out)).trans b5_.out); have c6 := Aside0.mk ((hw.block _ (lt_of_block b6_.out)).trans b6_.out); have c8 := Aside0.mk ((hw.block _ (lt_of_block b8_.out)).trans b8_.out); clear hV hw k26_; rw [HWE.out, show errW (slcR none).2 = .iface 97 (.int .i64 4) from rfl])
      | ((with_reducible refine gate_store (t := 54) (p := 8) rfl ?_); refine store_row_ev rfl rfl 54 (.tmp 8) (.tmp 57) rfl g8 #[.bool false, .slice none 0 0, .slice none 0 0, .slice none 0 0] rfl rfl 54 _ (c8.out) (by kernel_rfl) rfl (by kernel_rfl) ?_; intro wz hb hf hk_; have BZ := Aside0.mk hb; have QZ := Aside0.mk (hf _ _ (Q5.out) GE8.out); clear hb hf hk_))
    refine bodyPost_ret (v := .tuple #[.agg #[.bool false, .slice none 0 0, .slice none 0 0, .slice none 0 0], .iface 97 (.int .i64 4)]) (results_list (rs := [.cell 8 54, .tmp 9]) (vs := [.agg #[.bool false, .slice none 0 0, .slice none 0 0, .slice none 0 0], .iface 97 (.int .i64 4)]) rfl (by simp) (.cell g8 54 #[.bool false, .slice none 0 0, .slice none 0 0, .slice none 0 0] (0, 0) _ rfl BZ.out hu54 rfl info54 (.tmp .nil))) rfl ?_
    refine HP.out _ _ ?_
    rw [← HR.out]
    exact ReadP.err rfl QZ.out
  | some ws =>
    rw [hw_] at hres
    have HWE := Aside0.mk hw_
    have HWL := Aside0.mk (slc_len HPO.out (by have := HNP.out; omega) hw_)
    simp only at hres
    have HR := Aside0.mk hres
    clear hres hw_
    have HW8 := Aside0.mk (fun x hx => HB8.out x (HWL.out.2.2 x hx))
    by_cases cd : verdef = 0
    · have cdb : (verdef == 0) = true := beq_t cd
      have cdb2 : (verdef != 0) = false := by rw [bne, cdb]; rfl
      have hres := HR.out
      rw [if_pos cd] at hres
      simp only at hres
      have HTL := Aside0.mk (show ([] : List Int).length ≤ 64 by simp)
      clear cd HR
      by_cases ce : verneed = 0
      · have ceb : (verneed == 0) = true := beq_t ce
        have ceb2 : (verneed != 0) = false := by rw [bne, ceb]; rfl
        rw [if_pos ce] at hres
        simp only at hres
        obtain ⟨ro, hro⟩ : ∃ y, ofS [] ws n.toNat 0 [] = y := ⟨_, rfl⟩
        rw [hro] at hres
        have HRO := Aside0.mk hro
        have HRES := Aside0.mk hres
        clear ce hres hro
        go_enter Try.func18, Try.ntmps18
        go_wp2_with (first
          | ((with_reducible refine gate_dst (N := 5) rfl ?_); refine box_event ?hg (N := 5) ?hd (cs := #[.int .i64 h0, .int .u64 h1, .slice A1 ps.length c1]) (t := 32) ?hr ?_; (case hd => rfl); (case hg => rfl); (case hr => first | (go_simp; done) | (go_simp; rfl)); intro g5 eg w1 hb hw; have B5 := Aside0.mk hb; have Q1 := Aside0.mk hw; clear eg hb hw)
          | ((with_reducible refine gate_dst (N := 6) rfl ?_); refine box_event ?hg (N := 6) ?hd (cs := dc) (t := 35) ?hr ?_; (case hd => rfl); (case hg => rfl); (case hr => first | (go_simp; done) | (go_simp; rfl)); intro g6 eg w2 hb hw; have B6 := Aside0.mk hb; have Q2 := Aside0.mk hw; clear eg hb hw)
          | ((with_reducible refine gate_dst (N := 8) rfl ?_); refine box_event ?hg (N := 8) ?hd (cs := #[.bool false, .slice none 0 0, .slice none 0 0, .slice none 0 0]) (t := 54) ?hr ?_; (case hd => rfl); (case hg => rfl); (case hr => first | (go_simp; done) | (go_simp; rfl)); intro g8 eg w3 hb hw; have B8 := Aside0.mk hb; have Q3 := Aside0.mk (below_step (below_step Q1.out Q2.out) hw); have GE8 := Aside0.mk (show w.heap.size ≤ g8 by rw [eg]; exact (below_step Q1.out Q2.out).size); have b5 := Aside0.mk ((hw.block _ (Nat.lt_of_lt_of_le (lt_of_block B5.out) Q2.out.size)).trans ((Q2.out.block _ (lt_of_block B5.out)).trans B5.out)); have b6 := Aside0.mk ((hw.block _ (lt_of_block B6.out)).trans B6.out); have k26 : w3.cell? ⟨g6, 26, none⟩ = some (.int .u64 versym) := (cell_of_row w3 g6 26 _ _ _ b6.out).trans HD.out.c26; clear eg hb hw B5 B6)
          | ((with_reducible refine gate_ (.load 32 (.tmp 5)) rfl ?_); refine wpList_load_row rfl 32 (.tmp 5) rfl g5 rfl 32 _ (0, 0) _ b5.out Try.underlying32 rfl (by rw [info32]; rfl) ?_)
          | ((with_reducible refine gate_ (.load 35 (.tmp 6)) rfl ?_); refine wpList_load_row rfl 35 (.tmp 6) rfl g6 rfl 35 _ (0, 0) _ b6.out Try.underlying35 rfl (by rw [info35, HD.out.size]) ?_)
          | (go_at_call 35; (with_reducible refine (HS.out _ Q3.out).mono ?_); rintro e w4 ⟨vS, rfl, hV, hw⟩; rw [HSE.out] at hV; obtain ⟨AS, cS, eS⟩ := Kd.V_slice hV; subst eS; have HVS := Aside0.mk hV; have Q4 := Aside0.mk (below_step Q3.out hw); have b5_ := Aside0.mk ((hw.block _ (lt_of_block b5.out)).trans b5.out); have b6_ := Aside0.mk ((hw.block _ (lt_of_block b6.out)).trans b6.out); have b8_ := Aside0.mk ((hw.block _ (lt_of_block B8.out)).trans B8.out); have k26_ : w4.cell? ⟨g6, 26, none⟩ = some (.int .u64 versym) := (cell_of_row w4 g6 26 _ _ _ b6_.out).trans HD.out.c26; clear hV hw k26; rw [errOf_none HCS.out, errW_none])
          | ((with_reducible refine gate_ (.load 32 (.tmp 5)) rfl ?_); refine wpList_load_row rfl 32 (.tmp 5) rfl g5 rfl 32 _ (0, 0) _ b5_.out Try.underlying32 rfl (by rw [info32]; rfl) ?_)
          | (go_at_call 36; (with_reducible refine (HL.out versym (2 * n) R26.out (by have := HNP.out; omega) (by have := HNP.out; omega) _ Q4.out).mono ?_); rintro e w5 ⟨vW, rfl, hV, hw⟩; rw [HWE.out] at hV; change Kd.V (Kd.int .u8) 5 w5 w4.heap.size (fun k => w4.heap.size ≤ k) vW ws at hV; obtain ⟨AW, cW, eW⟩ := Kd.V_slice hV; subst eW; have HVW5 := Aside0.mk hV; have Q5 := Aside0.mk (below_step Q4.out hw); have HVS5 := Aside0.mk (Kd.V_below HVS.out hw); have c5 := Aside0.mk ((hw.block _ (lt_of_block b5_.out)).trans b5_.out); have c6 := Aside0.mk ((hw.block _ (lt_of_block b6_.out)).trans b6_.out); have c8 := Aside0.mk ((hw.block _ (lt_of_block b8_.out)).trans b8_.out); clear hV hw k26_; rw [HWE.out, show errW (slcR (some ws)).2 = .nilIface from rfl])
          | ((with_reducible refine gate_ (.load 32 (.tmp 5)) rfl ?_); refine wpList_load_row rfl 32 (.tmp 5) rfl g5 rfl 32 _ (0, 0) _ c5.out Try.underlying32 rfl (by rw [info32]; rfl) ?_)
          | ((with_reducible refine gate_ (.makeMap 102 none) rfl ?_); refine map_event rfl rfl ?_; intro m em w6 ew6; have Q6 := Aside0.mk (show Below w5.heap.size w5 w6 by rw [ew6]; exact below_alloc (Below.refl _ _) _); have HM6 := Aside0.mk (show MapSet w6 m [] by rw [ew6, em]; exact MapSet.made w5); have GM := Aside0.mk (show w5.heap.size ≤ m by rw [em]; exact Nat.le_refl _); clear em ew6)
          | ((with_reducible refine gate_dst (N := 64) rfl ?_); refine box_event ?hg (N := 64) ?hd (cs := #[.slice A0 b.length c0, .int .i64 h0, .int .u64 h1, .slice A1 ps.length c1, .slice AS ss.length cS, .map (some m)]) (t := 104) ?hr ?_; (case hd => rfl); (case hg => rfl); (case hr => first | (go_simp; done) | (go_simp; rfl)); intro p ep w7 hb hw; have Q7 := Aside0.mk (below_step Q6.out hw); have HR7 := Aside0.mk (show Rdr w5 (Rc.mk p m A0 c0 b h0 h1 A1 c1 ps AS cS ss) w7 [] from ⟨Kd.C_below HBC.out.1 Q5.out, HBC.out.2, Kd.C_below HPC.out.1 Q5.out, HPC.out.2, (Kd.V_reads' HVS5.out).2.2, (Kd.V_reads' HVS5.out).2.1, hb, by rw [ep]; exact Q6.out.size, GM.out, below_step Q6.out hw, HM6.out.below hw⟩); have HGd := Aside0.mk (show Gd (Rc.mk p m A0 c0 b h0 h1 A1 c1 ps AS cS ss) from ⟨HB8.out, HBL.out.1, HBL.out.2, HPO.out, HSS.out.1, HSS.out.2⟩); clear ep hb hw)
          | ((with_reducible refine gate_dst (N := 14) rfl ?_); refine box_event2 ?hg (N := 14) ?hd (cs := #[.bool true, .slice none 0 0, .slice none 0 0, .slice none 0 0]) (t := 54) (zs := #[.bool false, .slice none 0 0, .slice none 0 0, .slice none 0 0]) ?hr rfl rfl rfl (fun _ => rfl) (fun _ => rfl) (by kernel_rfl) ?hz (by first | kernel_rfl | rfl) ?_; (case hd => rfl); (case hg => rfl); (case hr => first | (go_simp; done) | (go_simp; rfl)); (case hz => rfl); intro g eg w8 hb hw; have HR8 := Aside0.mk (HR7.out.up hw); have BV8 := Aside0.mk hb; have HGN := Aside0.mk (show w5.heap.size ≤ g ∧ g ≠ p ∧ g ≠ m ∧ g < w8.heap.size from by have h1 := lt_of_block HR7.out.box; have h2 := HR7.out.map.lt; have h3 := HR7.out.hw.size; have h4 := lt_of_block hb; have h1 : p < w7.heap.size := h1; have h2 : m < w7.heap.size := h2; omega); have k28 : w8.cell? ⟨g6, 28, none⟩ = some (.int .u64 verdef) := (cell_of_row w8 g6 28 _ _ _ ((HR8.out.hw.block _ (lt_of_block c6.out)).trans c6.out)).trans HD.out.c28; have k29 : w8.cell? ⟨g6, 29, none⟩ = some (.int .u64 defnum) := (cell_of_row w8 g6 29 _ _ _ ((HR8.out.hw.block _ (lt_of_block c6.out)).trans c6.out)).trans HD.out.c29; have k30 : w8.cell? ⟨g6, 30, none⟩ = some (.int .u64 verneed) := (cell_of_row w8 g6 30 _ _ _ ((HR8.out.hw.block _ (lt_of_block c6.out)).trans c6.out)).trans HD.out.c30; have k31 : w8.cell? ⟨g6, 31, none⟩ = some (.int .u64 neednum) := (cell_of_row w8 g6 31 _ _ _ ((HR8.out.hw.block _ (lt_of_block c6.out)).trans c6.out)).trans HD.out.c31; clear eg hb hw))
        go_loopg [101] n.toNat (fun kq v101 w' => ∃ (i : Int) (acc : List Int) (vO : Value), v101 = .int .i64 i ∧ Aside0 (0 ≤ i ∧ i ≤ n ∧ kq = (n - i).toNat) ∧ Aside0 (ofS [] ws (n - i).toNat i.toNat acc = ro) ∧ Aside0 (w'.heap[g]? = some (.cells #[.bool true, vO, .slice none 0 0, .slice none 0 0] 54 (0, 0)) ∧ Kd.R (Kd.int .i64) 3 w' w8.heap.size (fun _ => True) vO acc ∧ w8.grownBy w' (some g) ∧ acc.length ≤ i.toNat))
        case atStart => exact ⟨0, [], .slice none 0 0, rfl, ⟨by have := HNP.out; omega⟩, ⟨by rw [Int.sub_zero]; exact HRO.out⟩, ⟨BV8.out, Kd.R_nil _ _ _ _ _, grown_refl _ _, by simp⟩⟩
        case round =>
          obtain ⟨i, acc, vO, rfl, HI, HX, HW⟩ := hrel
          obtain ⟨AO, cO, eO⟩ := Kd.R_slice HW.out.2.1
          subst eO
          have HRW := Aside0.mk (HR8.out.but HGN.out.1 HGN.out.2.1 HGN.out.2.2.1 HW.out.2.2.1)
          by_cases c4 : i < n
          · have c4b0 : decide (i < n) = true := decide_eq_true c4
            obtain ⟨k, hk⟩ : ∃ k, (n - i).toNat = k + 1 := ⟨(n - i).toNat - 1, by omega⟩
            have hx := HX.out
            rw [hk, ofS] at hx
            have HK := Aside0.mk hk
            have HC4 := Aside0.mk c4
            clear hk c4 HX
            have hwl := (Kd.V_reads' HVW5.out)
            obtain ⟨AI, cI, hcutI, hnumI⟩ := cut_mid_num rfl hwl.2.2 hwl.2.1 HW8.out (2 * i) (2 * i + 2) (2 * i.toNat) (2 * i.toNat + 2) 2 (by have := HI.out; omega) (by have := HI.out; omega) (by omega) (by have := HI.out; have := HC4.out; have := HWL.out.1; omega) (by omega) (by decide)
            obtain ⟨WD, hWD⟩ : ∃ y, num ((ws.take (2 * i.toNat + 2)).drop (2 * i.toNat)) = y := ⟨_, rfl⟩
            have hwr := num_two (l := (ws.take (2 * i.toNat + 2)).drop (2 * i.toNat)) (fun x hx => HW8.out x (List.mem_of_mem_take (List.mem_of_mem_drop hx))) (by have := HI.out; have := HC4.out; have := HWL.out.1; simp; omega)
            rw [hWD] at hwr hnumI
            simp only [hWD] at hx
            have HWR := Aside0.mk hwr
            have HNUMI := Aside0.mk hnumI
            obtain ⟨XX, hXX⟩ : ∃ y, WD % 32768 = y := ⟨_, rfl⟩
            simp only [hXX] at hx
            have hand : Go.bits BinOp.and IntKind.i64 WD 32767 = XX := by rw [and_i64 WD HWR.out]; exact hXX
            have hc1 : wrap64 WD = WD := w64 _ (by have := HWR.out; omega) (by have := HWR.out; omega)
            have hc2 : IntKind.i64.wrap WD = WD := (i64_w WD).trans hc1
            have h2i : wrap64 (2 * i) = 2 * i := w64 _ (by have := HI.out; omega) (by have := HI.out; have := HNP.out; omega)
            have h2i2 : wrap64 (2 * i + 2) = 2 * i + 2 := w64 _ (by have := HI.out; omega) (by have := HI.out; have := HNP.out; omega)
            have HVI := Aside0.mk (show wrap64 (i + 1) = i + 1 from w64 _ (by have := HI.out; omega) (by have := HI.out; have := HNP.out; omega))
            have HXR := Aside0.mk (show 0 ≤ XX ∧ XX ≤ 32767 by omega)
            have HWF := Aside0.mk (wf_i64 (a := XX) (by have := HXR.out; omega) (by have := HXR.out; omega))
            have HX2 := Aside0.mk hx
            clear hx hwl hnumI hWD hwr hXX
            by_cases cx : XX > 1
            · have cxb : decide (XX > 1) = true := decide_eq_true cx
              by_cases cm : XX ∈ []
              · have hx := HX2.out
                rw [if_neg (fun h => h.2 cm)] at hx
                have HX3 := Aside0.mk hx
                have HCM := Aside0.mk cm
                clear hx HX2 cx cm
                go_wp2_with (first
                  | (go_at_call 39; (with_reducible refine (HNUMI.out _ HRW.out.hw).mono ?_); rintro e w13 ⟨rfl, hd⟩; have hw_ := below_drawn hd; have HR13 := Aside0.mk (HRW.out.up hw_); have HB13 := Aside0.mk ((hw_.block _ (lt_of_block HW.out.1)).trans HW.out.1); have HO13 := Aside0.mk (Kd.R_below HW.out.2.1 hw_); have HG13 := Aside0.mk (grown_below HW.out.2.2.1 hw_); have k1 : w13.cell? ⟨g, 1, none⟩ = some (.slice AO acc.length cO) := (cell_of_row w13 g 1 _ _ _ HB13.out).trans rfl; have k5 : w13.cell? ⟨p, 5, none⟩ = some (.map (some m)) := HR13.out.c5; have hlook : (Instr.lookup 102 (.map (some m)) (.int .i64 XX) false).run Try.prog w13 = .ok (.bool true) w13 := (look_set HR13.out.map XX HWF.out).trans (by rw [decide_eq_true HCM.out]); clear hd hw_)
                  | ((with_reducible refine gate_builtin (b := .append) (xs := #[.tmp 129, .tmp 131]) rfl ?_); at_builtin; refine Kd.R_append (Kd.int .i64) (w0 := w13) w8.heap.size rfl (.tmp 129) (.tmp 131) 37 3 (.int .i64 0) 8 rfl Try.underlying37 info3 rfl (by decide) (by omega) (.slice AO acc.length cO) acc WD [.int .i64 WD] (fun _ => True) (fun _ => False) rfl rfl ?aP (fun _ hk => hk.elim) ?aF ?aO ?aB ?aS ?aL ?_; (case aP => exact rfl); (case aF => exact fun _ _ => trivial); (case aO => exact HO13.out); (case aB => exact Below.refl _ _); (case aS => exact HG13.out.size); (case aL => have := HW.out.2.2.2; have := HI.out; have := HNP.out; omega); intro v14 w14 ho hb hg hat; obtain ⟨A14, c14, e14⟩ := Kd.R_slice ho; subst e14; have HO14 := Aside0.mk ho; have hne := fun (e : some g = (Value.slice AO acc.length cO).ownBlock) => (show False from by obtain ⟨_, hown⟩ := Kd.R_own HO13.out; have h1 := own_base hown g e.symm; have h2 := lt_of_block BV8.out; omega); have HB14 := Aside0.mk ((hg.block _ (lt_of_block HB13.out) hne).trans HB13.out); have HG14 := Aside0.mk (grown_own HG13.out HO13.out hg); have hcg : w14.cell? ⟨g, 1, none⟩ = some (.slice AO acc.length cO) := (cell_of_row w14 g 1 _ _ _ HB14.out).trans rfl; have hfg := blk_frozen HB14.out 1; clear ho hb hg hat hne k1)
                  | ((with_reducible refine gate_store (t := 37) (p := 133) rfl ?_); refine store_event (t := 37) (p := 133) (v := ?vo1) (w1 := (w14.setCell ⟨g, 1, none⟩ (.slice A14 (acc ++ [WD]).length c14))) ?hg ?ho ?hn ?hr ?_; (case ho => rfl); (case hg => rfl); (case hn => rfl); (case hr => first | (go_simp; done) | (go_simp; rfl)); intro w15 ew; have HB15 := Aside0.mk (show w15.heap[g]? = some (.cells #[.bool true, .slice A14 (acc ++ [WD]).length c14, .slice none 0 0, .slice none 0 0] 54 (0, 0)) by rw [ew]; exact blk_set HB14.out 1 _); have HO15 := Aside0.mk (show Kd.R (Kd.int .i64) 3 w15 w8.heap.size (fun _ => True) (.slice A14 (acc ++ [WD]).length c14) (acc ++ [WD]) by rw [ew]; exact R_low HO14.out (lt_of_block BV8.out) 1 _); have HG15 := Aside0.mk (show w8.grownBy w15 (some g) by rw [ew]; exact ⟨HG14.out.os, HG14.out.tape, HG14.out.output, by simpa [World.setCell] using HG14.out.size, fun k hk hm => (Below.heap_setCell _ _ _ _ (fun e => hm (by rw [e]))).trans (HG14.out.block k hk hm)⟩); clear ew hcg hfg))
                go_roundg (n - (i + 1)).toNat
                case measure => have := HI.out; have := HC4.out; omega
                case rel => exact ⟨i + 1, acc ++ [WD], _, by rw [HVI.out], ⟨by have := HI.out; have := HC4.out; omega⟩, ⟨by rw [show (n - (i + 1)).toNat = k by have := HK.out; omega, show (i + 1).toNat = i.toNat + 1 by have := HI.out; omega]; exact HX3.out⟩, ⟨HB15.out, HO15.out, HG15.out, by have := HW.out.2.2.2; have := HI.out; simp; omega⟩⟩
              · have hx := HX2.out
                rw [if_pos ⟨cx, cm⟩] at hx
                have HX3 := Aside0.mk hx
                have HCM := Aside0.mk cm
                clear hx HX2 cx cm
                go_wp2_with (first
                  | (go_at_call 39; (with_reducible refine (HNUMI.out _ HRW.out.hw).mono ?_); rintro e w13 ⟨rfl, hd⟩; have hw_ := below_drawn hd; have HR13 := Aside0.mk (HRW.out.up hw_); have HB13 := Aside0.mk ((hw_.block _ (lt_of_block HW.out.1)).trans HW.out.1); have HO13 := Aside0.mk (Kd.R_below HW.out.2.1 hw_); have HG13 := Aside0.mk (grown_below HW.out.2.2.1 hw_); have k1 : w13.cell? ⟨g, 1, none⟩ = some (.slice AO acc.length cO) := (cell_of_row w13 g 1 _ _ _ HB13.out).trans rfl; have k5 : w13.cell? ⟨p, 5, none⟩ = some (.map (some m)) := HR13.out.c5; have hlook : (Instr.lookup 102 (.map (some m)) (.int .i64 XX) false).run Try.prog w13 = .ok (.bool false) w13 := (look_set HR13.out.map XX HWF.out).trans (by rw [decide_eq_false HCM.out]); clear hd hw_)
                  | ((with_reducible refine gate_store (t := 54) (p := 8) rfl ?_); refine store_row_ev rfl rfl 54 (.tmp 8) (.tmp 126) rfl g8 #[.bool false, .slice none 0 0, .slice none 0 0, .slice none 0 0] rfl rfl 54 _ ((HR13.out.hw.block _ (lt_of_block c8.out)).trans c8.out) (by kernel_rfl) rfl (by kernel_rfl) ?_; intro wz hb hf hk_; have BZ := Aside0.mk hb; have QZ := Aside0.mk (hf _ _ (below_step Q5.out HR13.out.hw) GE8.out); clear hb hf hk_))
                refine bodyPost_ret (v := .tuple #[.agg #[.bool false, .slice none 0 0, .slice none 0 0, .slice none 0 0], .iface 97 (.int .i64 3)]) (results_list (rs := [.cell 8 54, .tmp 9]) (vs := [.agg #[.bool false, .slice none 0 0, .slice none 0 0, .slice none 0 0], .iface 97 (.int .i64 3)]) rfl (by simp) (.cell g8 54 #[.bool false, .slice none 0 0, .slice none 0 0, .slice none 0 0] (0, 0) _ rfl BZ.out hu54 rfl info54 (.tmp .nil))) rfl ?_
                refine HP.out _ _ ?_
                have hR3 := HRES.out
                rw [← HX3.out] at hR3
                have hR4 : (Except.error 3 : Except Int Vs) = res := hR3
                rw [← hR4]
                exact ReadP.err rfl QZ.out
            · have cxb : decide (XX > 1) = false := decide_eq_false cx
              have hx := HX2.out
              rw [if_neg (fun h => cx h.1)] at hx
              have HX3 := Aside0.mk hx
              clear hx HX2 cx
              go_wp2_with (first
                | (go_at_call 39; (with_reducible refine (HNUMI.out _ HRW.out.hw).mono ?_); rintro e w13 ⟨rfl, hd⟩; have hw_ := below_drawn hd; have HR13 := Aside0.mk (HRW.out.up hw_); have HB13 := Aside0.mk ((hw_.block _ (lt_of_block HW.out.1)).trans HW.out.1); have HO13 := Aside0.mk (Kd.R_below HW.out.2.1 hw_); have HG13 := Aside0.mk (grown_below HW.out.2.2.1 hw_); have k1 : w13.cell? ⟨g, 1, none⟩ = some (.slice AO acc.length cO) := (cell_of_row w13 g 1 _ _ _ HB13.out).trans rfl; clear hd hw_)
                | ((with_reducible refine gate_builtin (b := .append) (xs := #[.tmp 129, .tmp 131]) rfl ?_); at_builtin; refine Kd.R_append (Kd.int .i64) (w0 := w13) w8.heap.size rfl (.tmp 129) (.tmp 131) 37 3 (.int .i64 0) 8 rfl Try.underlying37 info3 rfl (by decide) (by omega) (.slice AO acc.length cO) acc WD [.int .i64 WD] (fun _ => True) (fun _ => False) rfl rfl ?aP (fun _ hk => hk.elim) ?aF ?aO ?aB ?aS ?aL ?_; (case aP => exact rfl); (case aF => exact fun _ _ => trivial); (case aO => exact HO13.out); (case aB => exact Below.refl _ _); (case aS => exact HG13.out.size); (case aL => have := HW.out.2.2.2; have := HI.out; have := HNP.out; omega); intro v14 w14 ho hb hg hat; obtain ⟨A14, c14, e14⟩ := Kd.R_slice ho; subst e14; have HO14 := Aside0.mk ho; have hne := fun (e : some g = (Value.slice AO acc.length cO).ownBlock) => (show False from by obtain ⟨_, hown⟩ := Kd.R_own HO13.out; have h1 := own_base hown g e.symm; have h2 := lt_of_block BV8.out; omega); have HB14 := Aside0.mk ((hg.block _ (lt_of_block HB13.out) hne).trans HB13.out); have HG14 := Aside0.mk (grown_own HG13.out HO13.out hg); have hcg : w14.cell? ⟨g, 1, none⟩ = some (.slice AO acc.length cO) := (cell_of_row w14 g 1 _ _ _ HB14.out).trans rfl; have hfg := blk_frozen HB14.out 1; clear ho hb hg hat hne k1)
                | ((with_reducible refine gate_store (t := 37) (p := 133) rfl ?_); refine store_event (t := 37) (p := 133) (v := ?vo2) (w1 := (w14.setCell ⟨g, 1, none⟩ (.slice A14 (acc ++ [WD]).length c14))) ?hg ?ho ?hn ?hr ?_; (case ho => rfl); (case hg => rfl); (case hn => rfl); (case hr => first | (go_simp; done) | (go_simp; rfl)); intro w15 ew; have HB15 := Aside0.mk (show w15.heap[g]? = some (.cells #[.bool true, .slice A14 (acc ++ [WD]).length c14, .slice none 0 0, .slice none 0 0] 54 (0, 0)) by rw [ew]; exact blk_set HB14.out 1 _); have HO15 := Aside0.mk (show Kd.R (Kd.int .i64) 3 w15 w8.heap.size (fun _ => True) (.slice A14 (acc ++ [WD]).length c14) (acc ++ [WD]) by rw [ew]; exact R_low HO14.out (lt_of_block BV8.out) 1 _); have HG15 := Aside0.mk (show w8.grownBy w15 (some g) by rw [ew]; exact ⟨HG14.out.os, HG14.out.tape, HG14.out.output, by simpa [World.setCell] using HG14.out.size, fun k hk hm => (Below.heap_setCell _ _ _ _ (fun e => hm (by rw [e]))).trans (HG14.out.block k hk hm)⟩); clear ew hcg hfg))
              go_roundg (n - (i + 1)).toNat
              case measure => have := HI.out; have := HC4.out; omega
              case rel => exact ⟨i + 1, acc ++ [WD], _, by rw [HVI.out], ⟨by have := HI.out; have := HC4.out; omega⟩, ⟨by rw [show (n - (i + 1)).toNat = k by have := HK.out; omega, show (i + 1).toNat = i.toNat + 1 by have := HI.out; omega]; exact HX3.out⟩, ⟨HB15.out, HO15.out, HG15.out, by have := HW.out.2.2.2; have := HI.out; simp; omega⟩⟩
          · have c4b0 : decide (i < n) = false := decide_eq_false c4
            have hi : (n - i).toNat = 0 := by omega
            have hx := HX.out
            rw [hi, ofS] at hx
            have hR3 := HRES.out
            rw [← hx] at hR3
            have HR3 := Aside0.mk (show (Except.ok (true, acc, [], []) : Except Int Vs) = res from hR3)
            clear hx hi c4 HX hR3
            go_wp2_with (first
              | ((with_reducible refine gate_ (.load 54 (.tmp 14)) rfl ?_); refine wpList_load_row rfl 54 (.tmp 14) rfl g rfl 54 _ (0, 0) _ HW.out.1 Try.underlying54 rfl (by rw [info54]; rfl) ?_)
              | ((with_reducible refine gate_store (t := 54) (p := 8) rfl ?_); refine store_row_ev rfl rfl 54 (.tmp 8) (.tmp 135) rfl g8 #[.bool true, .slice AO acc.length cO, .slice none 0 0, .slice none 0 0] rfl rfl 54 _ ((HRW.out.hw.block _ (lt_of_block c8.out)).trans c8.out) (by kernel_rfl) rfl (by kernel_rfl) ?_; intro wz hb hf hk_; have BZ := Aside0.mk hb; have QZ := Aside0.mk (hf _ _ (below_step Q5.out HRW.out.hw) GE8.out); have HKZ := Aside0.mk hk_; clear hb hf hk_))
            refine bodyPost_ret (v := .tuple #[.agg #[.bool true, .slice AO acc.length cO, .slice none 0 0, .slice none 0 0], .nilIface]) (results_list (rs := [.cell 8 54, .tmp 9]) (vs := [.agg #[.bool true, .slice AO acc.length cO, .slice none 0 0, .slice none 0 0], .nilIface]) rfl (by simp) (.cell g8 54 #[.bool true, .slice AO acc.length cO, .slice none 0 0, .slice none 0 0] (0, 0) _ rfl BZ.out hu54 rfl (by rw [info54]; rfl) (.tmp .nil))) rfl ?_
            refine HP.out _ _ ?_
            rw [← HR3.out]
            have hs5 := Q5.out.size
            have hs8 := HR8.out.hw.size
            have hsN := HR8.out.hw.size
            have hg8 := lt_of_block c8.out
            have hNB : w5.heap.size ≤ w8.heap.size := by have := HR8.out.hw.size; omega
            exact ⟨_, _, _, rfl, Kd.R_lower (R_keep8 HW.out.2.1 HKZ.out (by omega)) (by omega), Kd.R_mono (Kd.R_lower (R_keep8 (R_but (Kd.R_nil kDf 63 w8 w8.heap.size (fun k => k ≠ m)) BV8.out (by decide) HW.out.2.2.1) HKZ.out (by omega)) (by omega)) (fun _ _ => trivial), Kd.R_mono (Kd.R_lower (R_keep8 (R_but (Kd.R_nil kNd 66 w8 w8.heap.size (fun k => k ≠ m)) BV8.out (by decide) HW.out.2.2.1) HKZ.out (by omega)) (by omega)) (fun _ _ => trivial), QZ.out⟩
      · have ceb : (verneed == 0) = false := beq_f ce
        have ceb2 : (verneed != 0) = true := by rw [bne, ceb]; rfl
        rw [if_neg ce] at hres
        clear ce
        cases hq2 : needsT b ps ss neednum verneed [] with
        | error cE =>
          rw [hq2] at hres
          have HR3 := Aside0.mk (show (Except.error cE : Except Int Vs) = res from hres)
          have HQ2 := Aside0.mk hq2
          clear hres hq2
          go_enter Try.func18, Try.ntmps18
          go_wp2_with (first
            | ((with_reducible refine gate_dst (N := 5) rfl ?_); refine box_event ?hg (N := 5) ?hd (cs := #[.int .i64 h0, .int .u64 h1, .slice A1 ps.length c1]) (t := 32) ?hr ?_; (case hd => rfl); (case hg => rfl); (case hr => first | (go_simp; done) | (go_simp; rfl)); intro g5 eg w1 hb hw; have B5 := Aside0.mk hb; have Q1 := Aside0.mk hw; clear eg hb hw)
            | ((with_reducible refine gate_dst (N := 6) rfl ?_); refine box_event ?hg (N := 6) ?hd (cs := dc) (t := 35) ?hr ?_; (case hd => rfl); (case hg => rfl); (case hr => first | (go_simp; done) | (go_simp; rfl)); intro g6 eg w2 hb hw; have B6 := Aside0.mk hb; have Q2 := Aside0.mk hw; clear eg hb hw)
            | ((with_reducible refine gate_dst (N := 8) rfl ?_); refine box_event ?hg (N := 8) ?hd (cs := #[.bool false, .slice none 0 0, .slice none 0 0, .slice none 0 0]) (t := 54) ?hr ?_; (case hd => rfl); (case hg => rfl); (case hr => first | (go_simp; done) | (go_simp; rfl)); intro g8 eg w3 hb hw; have B8 := Aside0.mk hb; have Q3 := Aside0.mk (below_step (below_step Q1.out Q2.out) hw); have GE8 := Aside0.mk (show w.heap.size ≤ g8 by rw [eg]; exact (below_step Q1.out Q2.out).size); have b5 := Aside0.mk ((hw.block _ (Nat.lt_of_lt_of_le (lt_of_block B5.out) Q2.out.size)).trans ((Q2.out.block _ (lt_of_block B5.out)).trans B5.out)); have b6 := Aside0.mk ((hw.block _ (lt_of_block B6.out)).trans B6.out); have k26 : w3.cell? ⟨g6, 26, none⟩ = some (.int .u64 versym) := (cell_of_row w3 g6 26 _ _ _ b6.out).trans HD.out.c26; clear eg hb hw B5 B6)
            | ((with_reducible refine gate_ (.load 32 (.tmp 5)) rfl ?_); refine wpList_load_row rfl 32 (.tmp 5) rfl g5 rfl 32 _ (0, 0) _ b5.out Try.underlying32 rfl (by rw [info32]; rfl) ?_)
            | ((with_reducible refine gate_ (.load 35 (.tmp 6)) rfl ?_); refine wpList_load_row rfl 35 (.tmp 6) rfl g6 rfl 35 _ (0, 0) _ b6.out Try.underlying35 rfl (by rw [info35, HD.out.size]) ?_)
            | (go_at_call 35; (with_reducible refine (HS.out _ Q3.out).mono ?_); rintro e w4 ⟨vS, rfl, hV, hw⟩; rw [HSE.out] at hV; obtain ⟨AS, cS, eS⟩ := Kd.V_slice hV; subst eS; have HVS := Aside0.mk hV; have Q4 := Aside0.mk (below_step Q3.out hw); have b5_ := Aside0.mk ((hw.block _ (lt_of_block b5.out)).trans b5.out); have b6_ := Aside0.mk ((hw.block _ (lt_of_block b6.out)).trans b6.out); have b8_ := Aside0.mk ((hw.block _ (lt_of_block B8.out)).trans B8.out); have k26_ : w4.cell? ⟨g6, 26, none⟩ = some (.int .u64 versym) := (cell_of_row w4 g6 26 _ _ _ b6_.out).trans HD.out.c26; clear hV hw k26; rw [errOf_none HCS.out, errW_none])
            | ((with_reducible refine gate_ (.load 32 (.tmp 5)) rfl ?_); refine wpList_load_row rfl 32 (.tmp 5) rfl g5 rfl 32 _ (0, 0) _ b5_.out Try.underlying32 rfl (by rw [info32]; rfl) ?_)
            | (go_at_call 36; (with_reducible refine (HL.out versym (2 * n) R26.out (by have := HNP.out; omega) (by have := HNP.out; omega) _ Q4.out).mono ?_); rintro e w5 ⟨vW, rfl, hV, hw⟩; rw [HWE.out] at hV; change Kd.V (Kd.int .u8) 5 w5 w4.heap.size (fun k => w4.heap.size ≤ k) vW ws at hV; obtain ⟨AW, cW, eW⟩ := Kd.V_slice hV; subst eW; have HVW5 := Aside0.mk hV; have Q5 := Aside0.mk (below_step Q4.out hw); have HVS5 := Aside0.mk (Kd.V_below HVS.out hw); have c5 := Aside0.mk ((hw.block _ (lt_of_block b5_.out)).trans b5_.out); have c6 := Aside0.mk ((hw.block _ (lt_of_block b6_.out)).trans b6_.out); have c8 := Aside0.mk ((hw.block _ (lt_of_block b8_.out)).trans b8_.out); clear hV hw k26_; rw [HWE.out, show errW (slcR (some ws)).2 = .nilIface from rfl])
            | ((with_reducible refine gate_ (.load 32 (.tmp 5)) rfl ?_); refine wpList_load_row rfl 32 (.tmp 5) rfl g5 rfl 32 _ (0, 0) _ c5.out Try.underlying32 rfl (by rw [info32]; rfl) ?_)
            | ((with_reducible refine gate_ (.makeMap 102 none) rfl ?_); refine map_event rfl rfl ?_; intro m em w6 ew6; have Q6 := Aside0.mk (show Below w5.heap.size w5 w6 by rw [ew6]; exact below_alloc (Below.refl _ _) _); have HM6 := Aside0.mk (show MapSet w6 m [] by rw [ew6, em]; exact MapSet.made w5); have GM := Aside0.mk (show w5.heap.size ≤ m by rw [em]; exact Nat.le_refl _); clear em ew6)
            | ((with_reducible refine gate_dst (N := 64) rfl ?_); refine box_event ?hg (N := 64) ?hd (cs := #[.slice A0 b.length c0, .int .i64 h0, .int .u64 h1, .slice A1 ps.length c1, .slice AS ss.length cS, .map (some m)]) (t := 104) ?hr ?_; (case hd => rfl); (case hg => rfl); (case hr => first | (go_simp; done) | (go_simp; rfl)); intro p ep w7 hb hw; have Q7 := Aside0.mk (below_step Q6.out hw); have HR7 := Aside0.mk (show Rdr w5 (Rc.mk p m A0 c0 b h0 h1 A1 c1 ps AS cS ss) w7 [] from ⟨Kd.C_below HBC.out.1 Q5.out, HBC.out.2, Kd.C_below HPC.out.1 Q5.out, HPC.out.2, (Kd.V_reads' HVS5.out).2.2, (Kd.V_reads' HVS5.out).2.1, hb, by rw [ep]; exact Q6.out.size, GM.out, below_step Q6.out hw, HM6.out.below hw⟩); have HGd := Aside0.mk (show Gd (Rc.mk p m A0 c0 b h0 h1 A1 c1 ps AS cS ss) from ⟨HB8.out, HBL.out.1, HBL.out.2, HPO.out, HSS.out.1, HSS.out.2⟩); clear ep hb hw)
            | ((with_reducible refine gate_dst (N := 14) rfl ?_); refine box_event2 ?hg (N := 14) ?hd (cs := #[.bool true, .slice none 0 0, .slice none 0 0, .slice none 0 0]) (t := 54) (zs := #[.bool false, .slice none 0 0, .slice none 0 0, .slice none 0 0]) ?hr rfl rfl rfl (fun _ => rfl) (fun _ => rfl) (by kernel_rfl) ?hz (by first | kernel_rfl | rfl) ?_; (case hd => rfl); (case hg => rfl); (case hr => first | (go_simp; done) | (go_simp; rfl)); (case hz => rfl); intro g eg w8 hb hw; have HR8 := Aside0.mk (HR7.out.up hw); have BV8 := Aside0.mk hb; have HGN := Aside0.mk (show w5.heap.size ≤ g ∧ g ≠ p ∧ g ≠ m ∧ g < w8.heap.size from by have h1 := lt_of_block HR7.out.box; have h2 := HR7.out.map.lt; have h3 := HR7.out.hw.size; have h4 := lt_of_block hb; have h1 : p < w7.heap.size := h1; have h2 : m < w7.heap.size := h2; omega); have k28 : w8.cell? ⟨g6, 28, none⟩ = some (.int .u64 verdef) := (cell_of_row w8 g6 28 _ _ _ ((HR8.out.hw.block _ (lt_of_block c6.out)).trans c6.out)).trans HD.out.c28; have k29 : w8.cell? ⟨g6, 29, none⟩ = some (.int .u64 defnum) := (cell_of_row w8 g6 29 _ _ _ ((HR8.out.hw.block _ (lt_of_block c6.out)).trans c6.out)).trans HD.out.c29; have k30 : w8.cell? ⟨g6, 30, none⟩ = some (.int .u64 verneed) := (cell_of_row w8 g6 30 _ _ _ ((HR8.out.hw.block _ (lt_of_block c6.out)).trans c6.out)).trans HD.out.c30; have k31 : w8.cell? ⟨g6, 31, none⟩ = some (.int .u64 neednum) := (cell_of_row w8 g6 31 _ _ _ ((HR8.out.hw.block _ (lt_of_block c6.out)).trans c6.out)).trans HD.out.c31; clear eg hb hw)
            | (go_at_call 38; (with_reducible refine (needs_err (r := (Rc.mk p m A0 c0 b h0 h1 A1 c1 ps AS cS ss)) HR8.out HGd.out verneed neednum R30.out R31.out (Nat.le_trans HTL.out (by decide)) HQ2.out).mono ?_); rintro e w11 ⟨rfl, hl11, hg11⟩; have hb11 := (hg11.block g HGN.out.2.2.2 (fun e => HGN.out.2.2.1 (by injection e))).trans BV8.out; have BV11 := Aside0.mk hb11; have hcg : w11.cell? ⟨g, 3, none⟩ = some (.slice none 0 0) := (cell_of_row w11 g 3 _ _ _ hb11).trans rfl; have hfg := blk_frozen hb11 3; have HLO11 := Aside0.mk hl11; clear hb11 hl11 hg11 k30 k31)
            | ((with_reducible refine gate_store (t := 52) (p := 95) rfl ?_); refine store_event (t := 52) (p := 95) (v := ?vo3) (w1 := (w11.setCell ⟨g, 3, none⟩ (.slice none 0 0))) ?hg ?ho ?hn ?hr ?_; (case ho => rfl); (case hg => rfl); (case hn => rfl); (case hr => first | (go_simp; done) | (go_simp; rfl)); intro wN ewN; have HLON := Aside0.mk (show Below w5.heap.size w5 wN by rw [ewN]; exact Below.setCell HLO11.out (p := ⟨g, 3, none⟩) HGN.out.1 _); clear ewN hcg hfg)
            | ((with_reducible refine gate_store (t := 54) (p := 8) rfl ?_); refine store_row_ev rfl rfl 54 (.tmp 8) (.tmp 98) rfl g8 #[.bool false, .slice none 0 0, .slice none 0 0, .slice none 0 0] rfl rfl 54 _ ((HLON.out.block _ (lt_of_block c8.out)).trans c8.out) (by kernel_rfl) rfl (by kernel_rfl) ?_; intro wz hb hf hk_; have BZ := Aside0.mk hb; have QZ := Aside0.mk (hf _ _ (below_step Q5.out HLON.out) GE8.out); clear hb hf hk_))
          refine bodyPost_ret (v := .tuple #[.agg #[.bool false, .slice none 0 0, .slice none 0 0, .slice none 0 0], .iface 97 (.int .i64 cE)]) (results_list (rs := [.cell 8 54, .tmp 9]) (vs := [.agg #[.bool false, .slice none 0 0, .slice none 0 0, .slice none 0 0], .iface 97 (.int .i64 cE)]) rfl (by simp) (.cell g8 54 #[.bool false, .slice none 0 0, .slice none 0 0, .slice none 0 0] (0, 0) _ rfl BZ.out hu54 rfl info54 (.tmp .nil))) rfl ?_
          refine HP.out _ _ ?_
          rw [← HR3.out]
          exact ReadP.err rfl QZ.out
        | ok nd =>
          rw [hq2] at hres
          simp only at hres
          have HQ2 := Aside0.mk hq2
          obtain ⟨ro, hro⟩ : ∃ y, ofS nd.2 ws n.toNat 0 [] = y := ⟨_, rfl⟩
          rw [hro] at hres
          have HRO := Aside0.mk hro
          have HRES := Aside0.mk hres
          clear hres hro hq2
          go_enter Try.func18, Try.ntmps18
          go_wp2_with (first
            | ((with_reducible refine gate_dst (N := 5) rfl ?_); refine box_event ?hg (N := 5) ?hd (cs := #[.int .i64 h0, .int .u64 h1, .slice A1 ps.length c1]) (t := 32) ?hr ?_; (case hd => rfl); (case hg => rfl); (case hr => first | (go_simp; done) | (go_simp; rfl)); intro g5 eg w1 hb hw; have B5 := Aside0.mk hb; have Q1 := Aside0.mk hw; clear eg hb hw)
            | ((with_reducible refine gate_dst (N := 6) rfl ?_); refine box_event ?hg (N := 6) ?hd (cs := dc) (t := 35) ?hr ?_; (case hd => rfl); (case hg => rfl); (case hr => first | (go_simp; done) | (go_simp; rfl)); intro g6 eg w2 hb hw; have B6 := Aside0.mk hb; have Q2 := Aside0.mk hw; clear eg hb hw)
            | ((with_reducible refine gate_dst (N := 8) rfl ?_); refine box_event ?hg (N := 8) ?hd (cs := #[.bool false, .slice none 0 0, .slice none 0 0, .slice none 0 0]) (t := 54) ?hr ?_; (case hd => rfl); (case hg => rfl); (case hr => first | (go_simp; done) | (go_simp; rfl)); intro g8 eg w3 hb hw; have B8 := Aside0.mk hb; have Q3 := Aside0.mk (below_step (below_step Q1.out Q2.out) hw); have GE8 := Aside0.mk (show w.heap.size ≤ g8 by rw [eg]; exact (below_step Q1.out Q2.out).size); have b5 := Aside0.mk ((hw.block _ (Nat.lt_of_lt_of_le (lt_of_block B5.out) Q2.out.size)).trans ((Q2.out.block _ (lt_of_block B5.out)).trans B5.out)); have b6 := Aside0.mk ((hw.block _ (lt_of_block B6.out)).trans B6.out); have k26 : w3.cell? ⟨g6, 26, none⟩ = some (.int .u64 versym) := (cell_of_row w3 g6 26 _ _ _ b6.out).trans HD.out.c26; clear eg hb hw B5 B6)
            | ((with_reducible refine gate_ (.load 32 (.tmp 5)) rfl ?_); refine wpList_load_row rfl 32 (.tmp 5) rfl g5 rfl 32 _ (0, 0) _ b5.out Try.underlying32 rfl (by rw [info32]; rfl) ?_)
            | ((with_reducible refine gate_ (.load 35 (.tmp 6)) rfl ?_); refine wpList_load_row rfl 35 (.tmp 6) rfl g6 rfl 35 _ (0, 0) _ b6.out Try.underlying35 rfl (by rw [info35, HD.out.size]) ?_)
            | (go_at_call 35; (with_reducible refine (HS.out _ Q3.out).mono ?_); rintro e w4 ⟨vS, rfl, hV, hw⟩; rw [HSE.out] at hV; obtain ⟨AS, cS, eS⟩ := Kd.V_slice hV; subst eS; have HVS := Aside0.mk hV; have Q4 := Aside0.mk (below_step Q3.out hw); have b5_ := Aside0.mk ((hw.block _ (lt_of_block b5.out)).trans b5.out); have b6_ := Aside0.mk ((hw.block _ (lt_of_block b6.out)).trans b6.out); have b8_ := Aside0.mk ((hw.block _ (lt_of_block B8.out)).trans B8.out); have k26_ : w4.cell? ⟨g6, 26, none⟩ = some (.int .u64 versym) := (cell_of_row w4 g6 26 _ _ _ b6_.out).trans HD.out.c26; clear hV hw k26; rw [errOf_none HCS.out, errW_none])
            | ((with_reducible refine gate_ (.load 32 (.tmp 5)) rfl ?_); refine wpList_load_row rfl 32 (.tmp 5) rfl g5 rfl 32 _ (0, 0) _ b5_.out Try.underlying32 rfl (by rw [info32]; rfl) ?_)
            | (go_at_call 36; (with_reducible refine (HL.out versym (2 * n) R26.out (by have := HNP.out; omega) (by have := HNP.out; omega) _ Q4.out).mono ?_); rintro e w5 ⟨vW, rfl, hV, hw⟩; rw [HWE.out] at hV; change Kd.V (Kd.int .u8) 5 w5 w4.heap.size (fun k => w4.heap.size ≤ k) vW ws at hV; obtain ⟨AW, cW, eW⟩ := Kd.V_slice hV; subst eW; have HVW5 := Aside0.mk hV; have Q5 := Aside0.mk (below_step Q4.out hw); have HVS5 := Aside0.mk (Kd.V_below HVS.out hw); have c5 := Aside0.mk ((hw.block _ (lt_of_block b5_.out)).trans b5_.out); have c6 := Aside0.mk ((hw.block _ (lt_of_block b6_.out)).trans b6_.out); have c8 := Aside0.mk ((hw.block _ (lt_of_block b8_.out)).trans b8_.out); clear hV hw k26_; rw [HWE.out, show errW (slcR (some ws)).2 = .nilIface from rfl])
            | ((with_reducible refine gate_ (.load 32 (.tmp 5)) rfl ?_); refine wpList_load_row rfl 32 (.tmp 5) rfl g5 rfl 32 _ (0, 0) _ c5.out Try.underlying32 rfl (by rw [info32]; rfl) ?_)
            | ((with_reducible refine gate_ (.makeMap 102 none) rfl ?_); refine map_event rfl rfl ?_; intro m em w6 ew6; have Q6 := Aside0.mk (show Below w5.heap.size w5 w6 by rw [ew6]; exact below_alloc (Below.refl _ _) _); have HM6 := Aside0.mk (show MapSet w6 m [] by rw [ew6, em]; exact MapSet.made w5); have GM := Aside0.mk (show w5.heap.size ≤ m by rw [em]; exact Nat.le_refl _); clear em ew6)
            | ((with_reducible refine gate_dst (N := 64) rfl ?_); refine box_event ?hg (N := 64) ?hd (cs := #[.slice A0 b.length c0, .int .i64 h0, .int .u64 h1, .slice A1 ps.length c1, .slice AS ss.length cS, .map (some m)]) (t := 104) ?hr ?_; (case hd => rfl); (case hg => rfl); (case hr => first | (go_simp; done) | (go_simp; rfl)); intro p ep w7 hb hw; have Q7 := Aside0.mk (below_step Q6.out hw); have HR7 := Aside0.mk (show Rdr w5 (Rc.mk p m A0 c0 b h0 h1 A1 c1 ps AS cS ss) w7 [] from ⟨Kd.C_below HBC.out.1 Q5.out, HBC.out.2, Kd.C_below HPC.out.1 Q5.out, HPC.out.2, (Kd.V_reads' HVS5.out).2.2, (Kd.V_reads' HVS5.out).2.1, hb, by rw [ep]; exact Q6.out.size, GM.out, below_step Q6.out hw, HM6.out.below hw⟩); have HGd := Aside0.mk (show Gd (Rc.mk p m A0 c0 b h0 h1 A1 c1 ps AS cS ss) from ⟨HB8.out, HBL.out.1, HBL.out.2, HPO.out, HSS.out.1, HSS.out.2⟩); clear ep hb hw)
            | ((with_reducible refine gate_dst (N := 14) rfl ?_); refine box_event2 ?hg (N := 14) ?hd (cs := #[.bool true, .slice none 0 0, .slice none 0 0, .slice none 0 0]) (t := 54) (zs := #[.bool false, .slice none 0 0, .slice none 0 0, .slice none 0 0]) ?hr rfl rfl rfl (fun _ => rfl) (fun _ => rfl) (by kernel_rfl) ?hz (by first | kernel_rfl | rfl) ?_; (case hd => rfl); (case hg => rfl); (case hr => first | (go_simp; done) | (go_simp; rfl)); (case hz => rfl); intro g eg w8 hb hw; have HR8 := Aside0.mk (HR7.out.up hw); have BV8 := Aside0.mk hb; have HGN := Aside0.mk (show w5.heap.size ≤ g ∧ g ≠ p ∧ g ≠ m ∧ g < w8.heap.size from by have h1 := lt_of_block HR7.out.box; have h2 := HR7.out.map.lt; have h3 := HR7.out.hw.size; have h4 := lt_of_block hb; have h1 : p < w7.heap.size := h1; have h2 : m < w7.heap.size := h2; omega); have k28 : w8.cell? ⟨g6, 28, none⟩ = some (.int .u64 verdef) := (cell_of_row w8 g6 28 _ _ _ ((HR8.out.hw.block _ (lt_of_block c6.out)).trans c6.out)).trans HD.out.c28; have k29 : w8.cell? ⟨g6, 29, none⟩ = some (.int .u64 defnum) := (cell_of_row w8 g6 29 _ _ _ ((HR8.out.hw.block _ (lt_of_block c6.out)).trans c6.out)).trans HD.out.c29; have k30 : w8.cell? ⟨g6, 30, none⟩ = some (.int .u64 verneed) := (cell_of_row w8 g6 30 _ _ _ ((HR8.out.hw.block _ (lt_of_block c6.out)).trans c6.out)).trans HD.out.c30; have k31 : w8.cell? ⟨g6, 31, none⟩ = some (.int .u64 neednum) := (cell_of_row w8 g6 31 _ _ _ ((HR8.out.hw.block _ (lt_of_block c6.out)).trans c6.out)).trans HD.out.c31; clear eg hb hw)
            | (go_at_call 38; (with_reducible refine (needs_ok (r := (Rc.mk p m A0 c0 b h0 h1 A1 c1 ps AS cS ss)) HR8.out HGd.out verneed neednum R30.out R31.out (Nat.le_trans HTL.out (by decide)) HQ2.out).mono ?_); rintro e w11 ⟨vN, rfl, hN11, hR11, hg11⟩; have hb11 := (hg11.block g HGN.out.2.2.2 (fun e => HGN.out.2.2.1 (by injection e))).trans BV8.out; have BV11 := Aside0.mk hb11; have hcg : w11.cell? ⟨g, 3, none⟩ = some (.slice none 0 0) := (cell_of_row w11 g 3 _ _ _ hb11).trans rfl; have hfg := blk_frozen hb11 3; obtain ⟨AN, cN, eN⟩ := Kd.R_slice hN11; subst eN; have HN11 := Aside0.mk hN11; have HR11 := Aside0.mk hR11; have HD11 := Aside0.mk (R_grownm (Kd.R_nil kDf 63 w8 w8.heap.size (fun k => k ≠ m)) hg11); clear hb11 hN11 hR11 hg11 k30 k31)
            | ((with_reducible refine gate_store (t := 52) (p := 95) rfl ?_); refine store_event (t := 52) (p := 95) (v := ?vo4) (w1 := (w11.setCell ⟨g, 3, none⟩ (.slice AN nd.1.length cN))) ?hg ?ho ?hn ?hr ?_; (case ho => rfl); (case hg => rfl); (case hn => rfl); (case hr => first | (go_simp; done) | (go_simp; rfl)); intro wN ewN; have HRN := Aside0.mk (show Rdr w5 (Rc.mk p m A0 c0 b h0 h1 A1 c1 ps AS cS ss) wN nd.2 by rw [ewN]; exact HR11.out.set HGN.out.1 HGN.out.2.1 HGN.out.2.2.1 3 _); have BVN := Aside0.mk (show wN.heap[g]? = some (.cells #[.bool true, .slice none 0 0, .slice none 0 0, .slice AN nd.1.length cN] 54 (0, 0)) by rw [ewN]; exact blk_set BV11.out 3 _); have HDN := Aside0.mk (show Kd.R kDf 63 wN w8.heap.size (fun k => k ≠ m) (.slice none 0 0) [] by rw [ewN]; exact R_low HD11.out HGN.out.2.2.2 3 _); have HNN := Aside0.mk (show Kd.R kNd 66 wN w8.heap.size (fun k => k ≠ m) (.slice AN nd.1.length cN) nd.1 by rw [ewN]; exact R_low HN11.out (HGN.out.2.2.2) 3 _); clear ewN hcg hfg))
          go_loopg [101] n.toNat (fun kq v101 w' => ∃ (i : Int) (acc : List Int) (vO : Value), v101 = .int .i64 i ∧ Aside0 (0 ≤ i ∧ i ≤ n ∧ kq = (n - i).toNat) ∧ Aside0 (ofS nd.2 ws (n - i).toNat i.toNat acc = ro) ∧ Aside0 (w'.heap[g]? = some (.cells #[.bool true, vO, .slice none 0 0, .slice AN nd.1.length cN] 54 (0, 0)) ∧ Kd.R (Kd.int .i64) 3 w' wN.heap.size (fun _ => True) vO acc ∧ wN.grownBy w' (some g) ∧ acc.length ≤ i.toNat))
          case atStart => exact ⟨0, [], .slice none 0 0, rfl, ⟨by have := HNP.out; omega⟩, ⟨by rw [Int.sub_zero]; exact HRO.out⟩, ⟨BVN.out, Kd.R_nil _ _ _ _ _, grown_refl _ _, by simp⟩⟩
          case round =>
            obtain ⟨i, acc, vO, rfl, HI, HX, HW⟩ := hrel
            obtain ⟨AO, cO, eO⟩ := Kd.R_slice HW.out.2.1
            subst eO
            have HRW := Aside0.mk (HRN.out.but HGN.out.1 HGN.out.2.1 HGN.out.2.2.1 HW.out.2.2.1)
            by_cases c4 : i < n
            · have c4b0 : decide (i < n) = true := decide_eq_true c4
              obtain ⟨k, hk⟩ : ∃ k, (n - i).toNat = k + 1 := ⟨(n - i).toNat - 1, by omega⟩
              have hx := HX.out
              rw [hk, ofS] at hx
              have HK := Aside0.mk hk
              have HC4 := Aside0.mk c4
              clear hk c4 HX
              have hwl := (Kd.V_reads' HVW5.out)
              obtain ⟨AI, cI, hcutI, hnumI⟩ := cut_mid_num rfl hwl.2.2 hwl.2.1 HW8.out (2 * i) (2 * i + 2) (2 * i.toNat) (2 * i.toNat + 2) 2 (by have := HI.out; omega) (by have := HI.out; omega) (by omega) (by have := HI.out; have := HC4.out; have := HWL.out.1; omega) (by omega) (by decide)
              obtain ⟨WD, hWD⟩ : ∃ y, num ((ws.take (2 * i.toNat + 2)).drop (2 * i.toNat)) = y := ⟨_, rfl⟩
              have hwr := num_two (l := (ws.take (2 * i.toNat + 2)).drop (2 * i.toNat)) (fun x hx => HW8.out x (List.mem_of_mem_take (List.mem_of_mem_drop hx))) (by have := HI.out; have := HC4.out; have := HWL.out.1; simp; omega)
              rw [hWD] at hwr hnumI
              simp only [hWD] at hx
              have HWR := Aside0.mk hwr
              have HNUMI := Aside0.mk hnumI
              obtain ⟨XX, hXX⟩ : ∃ y, WD % 32768 = y := ⟨_, rfl⟩
              simp only [hXX] at hx
              have hand : Go.bits BinOp.and IntKind.i64 WD 32767 = XX := by rw [and_i64 WD HWR.out]; exact hXX
              have hc1 : wrap64 WD = WD := w64 _ (by have := HWR.out; omega) (by have := HWR.out; omega)
              have hc2 : IntKind.i64.wrap WD = WD := (i64_w WD).trans hc1
              have h2i : wrap64 (2 * i) = 2 * i := w64 _ (by have := HI.out; omega) (by have := HI.out; have := HNP.out; omega)
              have h2i2 : wrap64 (2 * i + 2) = 2 * i + 2 := w64 _ (by have := HI.out; omega) (by have := HI.out; have := HNP.out; omega)
              have HVI := Aside0.mk (show wrap64 (i + 1) = i + 1 from w64 _ (by have := HI.out; omega) (by have := HI.out; have := HNP.out; omega))
              have HXR := Aside0.mk (show 0 ≤ XX ∧ XX ≤ 32767 by omega)
              have HWF := Aside0.mk (wf_i64 (a := XX) (by have := HXR.out; omega) (by have := HXR.out; omega))
              have HX2 := Aside0.mk hx
              clear hx hwl hnumI hWD hwr hXX
              by_cases cx : XX > 1
              · have cxb : decide (XX > 1) = true := decide_eq_true cx
                by_cases cm : XX ∈ nd.2
                · have hx := HX2.out
                  rw [if_neg (fun h => h.2 cm)] at hx
                  have HX3 := Aside0.mk hx
                  have HCM := Aside0.mk cm
                  clear hx HX2 cx cm
                  go_wp2_with (first
                    | (go_at_call 39; (with_reducible refine (HNUMI.out _ HRW.out.hw).mono ?_); rintro e w13 ⟨rfl, hd⟩; have hw_ := below_drawn hd; have HR13 := Aside0.mk (HRW.out.up hw_); have HB13 := Aside0.mk ((hw_.block _ (lt_of_block HW.out.1)).trans HW.out.1); have HO13 := Aside0.mk (Kd.R_below HW.out.2.1 hw_); have HG13 := Aside0.mk (grown_below HW.out.2.2.1 hw_); have k1 : w13.cell? ⟨g, 1, none⟩ = some (.slice AO acc.length cO) := (cell_of_row w13 g 1 _ _ _ HB13.out).trans rfl; have k5 : w13.cell? ⟨p, 5, none⟩ = some (.map (some m)) := HR13.out.c5; have hlook : (Instr.lookup 102 (.map (some m)) (.int .i64 XX) false).run Try.prog w13 = .ok (.bool true) w13 := (look_set HR13.out.map XX HWF.out).trans (by rw [decide_eq_true HCM.out]); clear hd hw_)
                    | ((with_reducible refine gate_builtin (b := .append) (xs := #[.tmp 129, .tmp 131]) rfl ?_); at_builtin; refine Kd.R_append (Kd.int .i64) (w0 := w13) wN.heap.size rfl (.tmp 129) (.tmp 131) 37 3 (.int .i64 0) 8 rfl Try.underlying37 info3 rfl (by decide) (by omega) (.slice AO acc.length cO) acc WD [.int .i64 WD] (fun _ => True) (fun _ => False) rfl rfl ?aP (fun _ hk => hk.elim) ?aF ?aO ?aB ?aS ?aL ?_; (case aP => exact rfl); (case aF => exact fun _ _ => trivial); (case aO => exact HO13.out); (case aB => exact Below.refl _ _); (case aS => exact HG13.out.size); (case aL => have := HW.out.2.2.2; have := HI.out; have := HNP.out; omega); intro v14 w14 ho hb hg hat; obtain ⟨A14, c14, e14⟩ := Kd.R_slice ho; subst e14; have HO14 := Aside0.mk ho; have hne := fun (e : some g = (Value.slice AO acc.length cO).ownBlock) => (show False from by obtain ⟨_, hown⟩ := Kd.R_own HO13.out; have h1 := own_base hown g e.symm; have h2 := lt_of_block BVN.out; omega); have HB14 := Aside0.mk ((hg.block _ (lt_of_block HB13.out) hne).trans HB13.out); have HG14 := Aside0.mk (grown_own HG13.out HO13.out hg); have hcg : w14.cell? ⟨g, 1, none⟩ = some (.slice AO acc.length cO) := (cell_of_row w14 g 1 _ _ _ HB14.out).trans rfl; have hfg := blk_frozen HB14.out 1; clear ho hb hg hat hne k1)
                    | ((with_reducible refine gate_store (t := 37) (p := 133) rfl ?_); refine store_event (t := 37) (p := 133) (v := ?vo5) (w1 := (w14.setCell ⟨g, 1, none⟩ (.slice A14 (acc ++ [WD]).length c14))) ?hg ?ho ?hn ?hr ?_; (case ho => rfl); (case hg => rfl); (case hn => rfl); (case hr => first | (go_simp; done) | (go_simp; rfl)); intro w15 ew; have HB15 := Aside0.mk (show w15.heap[g]? = some (.cells #[.bool true, .slice A14 (acc ++ [WD]).length c14, .slice none 0 0, .slice AN nd.1.length cN] 54 (0, 0)) by rw [ew]; exact blk_set HB14.out 1 _); have HO15 := Aside0.mk (show Kd.R (Kd.int .i64) 3 w15 wN.heap.size (fun _ => True) (.slice A14 (acc ++ [WD]).length c14) (acc ++ [WD]) by rw [ew]; exact R_low HO14.out (lt_of_block BVN.out) 1 _); have HG15 := Aside0.mk (show wN.grownBy w15 (some g) by rw [ew]; exact ⟨HG14.out.os, HG14.out.tape, HG14.out.output, by simpa [World.setCell] using HG14.out.size, fun k hk hm => (Below.heap_setCell _ _ _ _ (fun e => hm (by rw [e]))).trans (HG14.out.block k hk hm)⟩); clear ew hcg hfg))
                  go_roundg (n - (i + 1)).toNat
                  case measure => have := HI.out; have := HC4.out; omega
                  case rel => exact ⟨i + 1, acc ++ [WD], _, by rw [HVI.out], ⟨by have := HI.out; have := HC4.out; omega⟩, ⟨by rw [show (n - (i + 1)).toNat = k by have := HK.out; omega, show (i + 1).toNat = i.toNat + 1 by have := HI.out; omega]; exact HX3.out⟩, ⟨HB15.out, HO15.out, HG15.out, by have := HW.out.2.2.2; have := HI.out; simp; omega⟩⟩
                · have hx := HX2.out
                  rw [if_pos ⟨cx, cm⟩] at hx
                  have HX3 := Aside0.mk hx
                  have HCM := Aside0.mk cm
                  clear hx HX2 cx cm
                  go_wp2_with (first
                    | (go_at_call 39; (with_reducible refine (HNUMI.out _ HRW.out.hw).mono ?_); rintro e w13 ⟨rfl, hd⟩; have hw_ := below_drawn hd; have HR13 := Aside0.mk (HRW.out.up hw_); have HB13 := Aside0.mk ((hw_.block _ (lt_of_block HW.out.1)).trans HW.out.1); have HO13 := Aside0.mk (Kd.R_below HW.out.2.1 hw_); have HG13 := Aside0.mk (grown_below HW.out.2.2.1 hw_); have k1 : w13.cell? ⟨g, 1, none⟩ = some (.slice AO acc.length cO) := (cell_of_row w13 g 1 _ _ _ HB13.out).trans rfl; have k5 : w13.cell? ⟨p, 5, none⟩ = some (.map (some m)) := HR13.out.c5; have hlook : (Instr.lookup 102 (.map (some m)) (.int .i64 XX) false).run Try.prog w13 = .ok (.bool false) w13 := (look_set HR13.out.map XX HWF.out).trans (by rw [decide_eq_false HCM.out]); clear hd hw_)
                    | ((with_reducible refine gate_store (t := 54) (p := 8) rfl ?_); refine store_row_ev rfl rfl 54 (.tmp 8) (.tmp 126) rfl g8 #[.bool false, .slice none 0 0, .slice none 0 0, .slice none 0 0] rfl rfl 54 _ ((HR13.out.hw.block _ (lt_of_block c8.out)).trans c8.out) (by kernel_rfl) rfl (by kernel_rfl) ?_; intro wz hb hf hk_; have BZ := Aside0.mk hb; have QZ := Aside0.mk (hf _ _ (below_step Q5.out HR13.out.hw) GE8.out); clear hb hf hk_))
                  refine bodyPost_ret (v := .tuple #[.agg #[.bool false, .slice none 0 0, .slice none 0 0, .slice none 0 0], .iface 97 (.int .i64 3)]) (results_list (rs := [.cell 8 54, .tmp 9]) (vs := [.agg #[.bool false, .slice none 0 0, .slice none 0 0, .slice none 0 0], .iface 97 (.int .i64 3)]) rfl (by simp) (.cell g8 54 #[.bool false, .slice none 0 0, .slice none 0 0, .slice none 0 0] (0, 0) _ rfl BZ.out hu54 rfl info54 (.tmp .nil))) rfl ?_
                  refine HP.out _ _ ?_
                  have hR3 := HRES.out
                  rw [← HX3.out] at hR3
                  have hR4 : (Except.error 3 : Except Int Vs) = res := hR3
                  rw [← hR4]
                  exact ReadP.err rfl QZ.out
              · have cxb : decide (XX > 1) = false := decide_eq_false cx
                have hx := HX2.out
                rw [if_neg (fun h => cx h.1)] at hx
                have HX3 := Aside0.mk hx
                clear hx HX2 cx
                go_wp2_with (first
                  | (go_at_call 39; (with_reducible refine (HNUMI.out _ HRW.out.hw).mono ?_); rintro e w13 ⟨rfl, hd⟩; have hw_ := below_drawn hd; have HR13 := Aside0.mk (HRW.out.up hw_); have HB13 := Aside0.mk ((hw_.block _ (lt_of_block HW.out.1)).trans HW.out.1); have HO13 := Aside0.mk (Kd.R_below HW.out.2.1 hw_); have HG13 := Aside0.mk (grown_below HW.out.2.2.1 hw_); have k1 : w13.cell? ⟨g, 1, none⟩ = some (.slice AO acc.length cO) := (cell_of_row w13 g 1 _ _ _ HB13.out).trans rfl; clear hd hw_)
                  | ((with_reducible refine gate_builtin (b := .append) (xs := #[.tmp 129, .tmp 131]) rfl ?_); at_builtin; refine Kd.R_append (Kd.int .i64) (w0 := w13) wN.heap.size rfl (.tmp 129) (.tmp 131) 37 3 (.int .i64 0) 8 rfl Try.underlying37 info3 rfl (by decide) (by omega) (.slice AO acc.length cO) acc WD [.int .i64 WD] (fun _ => True) (fun _ => False) rfl rfl ?aP (fun _ hk => hk.elim) ?aF ?aO ?aB ?aS ?aL ?_; (case aP => exact rfl); (case aF => exact fun _ _ => trivial); (case aO => exact HO13.out); (case aB => exact Below.refl _ _); (case aS => exact HG13.out.size); (case aL => have := HW.out.2.2.2; have := HI.out; have := HNP.out; omega); intro v14 w14 ho hb hg hat; obtain ⟨A14, c14, e14⟩ := Kd.R_slice ho; subst e14; have HO14 := Aside0.mk ho; have hne := fun (e : some g = (Value.slice AO acc.length cO).ownBlock) => (show False from by obtain ⟨_, hown⟩ := Kd.R_own HO13.out; have h1 := own_base hown g e.symm; have h2 := lt_of_block BVN.out; omega); have HB14 := Aside0.mk ((hg.block _ (lt_of_block HB13.out) hne).trans HB13.out); have HG14 := Aside0.mk (grown_own HG13.out HO13.out hg); have hcg : w14.cell? ⟨g, 1, none⟩ = some (.slice AO acc.length cO) := (cell_of_row w14 g 1 _ _ _ HB14.out).trans rfl; have hfg := blk_frozen HB14.out 1; clear ho hb hg hat hne k1)
                  | ((with_reducible refine gate_store (t := 37) (p := 133) rfl ?_); refine store_event (t := 37) (p := 133) (v := ?vo6) (w1 := (w14.setCell ⟨g, 1, none⟩ (.slice A14 (acc ++ [WD]).length c14))) ?hg ?ho ?hn ?hr ?_; (case ho => rfl); (case hg => rfl); (case hn => rfl); (case hr => first | (go_simp; done) | (go_simp; rfl)); intro w15 ew; have HB15 := Aside0.mk (show w15.heap[g]? = some (.cells #[.bool true, .slice A14 (acc ++ [WD]).length c14, .slice none 0 0, .slice AN nd.1.length cN] 54 (0, 0)) by rw [ew]; exact blk_set HB14.out 1 _); have HO15 := Aside0.mk (show Kd.R (Kd.int .i64) 3 w15 wN.heap.size (fun _ => True) (.slice A14 (acc ++ [WD]).length c14) (acc ++ [WD]) by rw [ew]; exact R_low HO14.out (lt_of_block BVN.out) 1 _); have HG15 := Aside0.mk (show wN.grownBy w15 (some g) by rw [ew]; exact ⟨HG14.out.os, HG14.out.tape, HG14.out.output, by simpa [World.setCell] using HG14.out.size, fun k hk hm => (Below.heap_setCell _ _ _ _ (fun e => hm (by rw [e]))).trans (HG14.out.block k hk hm)⟩); clear ew hcg hfg))
                go_roundg (n - (i + 1)).toNat
                case measure => have := HI.out; have := HC4.out; omega
                case rel => exact ⟨i + 1, acc ++ [WD], _, by rw [HVI.out], ⟨by have := HI.out; have := HC4.out; omega⟩, ⟨by rw [show (n - (i + 1)).toNat = k by have := HK.out; omega, show (i + 1).toNat = i.toNat + 1 by have := HI.out; omega]; exact HX3.out⟩, ⟨HB15.out, HO15.out, HG15.out, by have := HW.out.2.2.2; have := HI.out; simp; omega⟩⟩
            · have c4b0 : decide (i < n) = false := decide_eq_false c4
              have hi : (n - i).toNat = 0 := by omega
              have hx := HX.out
              rw [hi, ofS] at hx
              have hR3 := HRES.out
              rw [← hx] at hR3
              have HR3 := Aside0.mk (show (Except.ok (true, acc, [], nd.1) : Except Int Vs) = res from hR3)
              clear hx hi c4 HX hR3
              go_wp2_with (first
                | ((with_reducible refine gate_ (.load 54 (.tmp 14)) rfl ?_); refine wpList_load_row rfl 54 (.tmp 14) rfl g rfl 54 _ (0, 0) _ HW.out.1 Try.underlying54 rfl (by rw [info54]; rfl) ?_)
                | ((with_reducible refine gate_store (t := 54) (p := 8) rfl ?_); refine store_row_ev rfl rfl 54 (.tmp 8) (.tmp 135) rfl g8 #[.bool true, .slice AO acc.length cO, .slice none 0 0, .slice AN nd.1.length cN] rfl rfl 54 _ ((HRW.out.hw.block _ (lt_of_block c8.out)).trans c8.out) (by kernel_rfl) rfl (by kernel_rfl) ?_; intro wz hb hf hk_; have BZ := Aside0.mk hb; have QZ := Aside0.mk (hf _ _ (below_step Q5.out HRW.out.hw) GE8.out); have HKZ := Aside0.mk hk_; clear hb hf hk_))
              refine bodyPost_ret (v := .tuple #[.agg #[.bool true, .slice AO acc.length cO, .slice none 0 0, .slice AN nd.1.length cN], .nilIface]) (results_list (rs := [.cell 8 54, .tmp 9]) (vs := [.agg #[.bool true, .slice AO acc.length cO, .slice none 0 0, .slice AN nd.1.length cN], .nilIface]) rfl (by simp) (.cell g8 54 #[.bool true, .slice AO acc.length cO, .slice none 0 0, .slice AN nd.1.length cN] (0, 0) _ rfl BZ.out hu54 rfl (by rw [info54]; rfl) (.tmp .nil))) rfl ?_
              refine HP.out _ _ ?_
              rw [← HR3.out]
              have hs5 := Q5.out.size
              have hs8 := HR8.out.hw.size
              have hsN := HRN.out.hw.size
              have hg8 := lt_of_block c8.out
              have hNB : w5.heap.size ≤ w8.heap.size := by have := HR8.out.hw.size; omega
              exact ⟨_, _, _, rfl, Kd.R_lower (R_keep8 HW.out.2.1 HKZ.out (by omega)) (by omega), Kd.R_mono (Kd.R_lower (R_keep8 (R_but HDN.out BVN.out (by decide) HW.out.2.2.1) HKZ.out (by omega)) (by omega)) (fun _ _ => trivial), Kd.R_mono (Kd.R_lower (R_keep8 (R_but HNN.out BVN.out (by decide) HW.out.2.2.1) HKZ.out (by omega)) (by omega)) (fun _ _ => trivial), QZ.out⟩
    · have cdb : (verdef == 0) = false := beq_f cd
      have cdb2 : (verdef != 0) = true := by rw [bne, cdb]; rfl
      have hres := HR.out
      rw [if_neg cd] at hres
      clear cd HR
      cases hq1 : defsT b ps ss defnum verdef [] with
      | error cE =>
        rw [hq1] at hres
        have HR3 := Aside0.mk (show (Except.error cE : Except Int Vs) = res from hres)
        have HQ1 := Aside0.mk hq1
        clear hres hq1
        go_enter Try.func18, Try.ntmps18
        go_wp2_with (first
          | ((with_reducible refine gate_dst (N := 5) rfl ?_); refine box_event ?hg (N := 5) ?hd (cs := #[.int .i64 h0, .int .u64 h1, .slice A1 ps.length c1]) (t := 32) ?hr ?_; (case hd => rfl); (case hg => rfl); (case hr => first | (go_simp; done) | (go_simp; rfl)); intro g5 eg w1 hb hw; have B5 := Aside0.mk hb; have Q1 := Aside0.mk hw; clear eg hb hw)
          | ((with_reducible refine gate_dst (N := 6) rfl ?_); refine box_event ?hg (N := 6) ?hd (cs := dc) (t := 35) ?hr ?_; (case hd => rfl); (case hg => rfl); (case hr => first | (go_simp; done) | (go_simp; rfl)); intro g6 eg w2 hb hw; have B6 := Aside0.mk hb; have Q2 := Aside0.mk hw; clear eg hb hw)
          | ((with_reducible refine gate_dst (N := 8) rfl ?_); refine box_event ?hg (N := 8) ?hd (cs := #[.bool false, .slice none 0 0, .slice none 0 0, .slice none 0 0]) (t := 54) ?hr ?_; (case hd => rfl); (case hg => rfl); (case hr => first | (go_simp; done) | (go_simp; rfl)); intro g8 eg w3 hb hw; have B8 := Aside0.mk hb; have Q3 := Aside0.mk (below_step (below_step Q1.out Q2.out) hw); have GE8 := Aside0.mk (show w.heap.size ≤ g8 by rw [eg]; exact (below_step Q1.out Q2.out).size); have b5 := Aside0.mk ((hw.block _ (Nat.lt_of_lt_of_le (lt_of_block B5.out) Q2.out.size)).trans ((Q2.out.block _ (lt_of_block B5.out)).trans B5.out)); have b6 := Aside0.mk ((hw.block _ (lt_of_block B6.out)).trans B6.out); have k26 : w3.cell? ⟨g6, 26, none⟩ = some (.int .u64 versym) := (cell_of_row w3 g6 26 _ _ _ b6.out).trans HD.out.c26; clear eg hb hw B5 B6)
          | ((with_reducible refine gate_ (.load 32 (.tmp 5)) rfl ?_); refine wpList_load_row rfl 32 (.tmp 5) rfl g5 rfl 32 _ (0, 0) _ b5.out Try.underlying32 rfl (by rw [info32]; rfl) ?_)
          | ((with_reducible refine gate_ (.load 35 (.tmp 6)) rfl ?_); refine wpList_load_row rfl 35 (.tmp 6) rfl g6 rfl 35 _ (0, 0) _ b6.out Try.underlying35 rfl (by rw [info35, HD.out.size]) ?_)
          | (go_at_call 35; (with_reducible refine (HS.out _ Q3.out).mono ?_); rintro e w4 ⟨vS, rfl, hV, hw⟩; rw [HSE.out] at hV; obtain ⟨AS, cS, eS⟩ := Kd.V_slice hV; subst eS; have HVS := Aside0.mk hV; have Q4 := Aside0.mk (below_step Q3.out hw); have b5_ := Aside0.mk ((hw.block _ (lt_of_block b5.out)).trans b5.out); have b6_ := Aside0.mk ((hw.block _ (lt_of_block b6.out)).trans b6.out); have b8_ := Aside0.mk ((hw.block _ (lt_of_block B8.out)).trans B8.out); have k26_ : w4.cell? ⟨g6, 26, none⟩ = some (.int .u64 versym) := (cell_of_row w4 g6 26 _ _ _ b6_.out).trans HD.out.c26; clear hV hw k26; rw [errOf_none HCS.out, errW_none])
          | ((with_reducible refine gate_ (.load 32 (.tmp 5)) rfl ?_); refine wpList_load_row rfl 32 (.tmp 5) rfl g5 rfl 32 _ (0, 0) _ b5_.out Try.underlying32 rfl (by rw [info32]; rfl) ?_)
          | (go_at_call 36; (with_reducible refine (HL.out versym (2 * n) R26.out (by have := HNP.out; omega) (by have := HNP.out; omega) _ Q4.out).mono ?_); rintro e w5 ⟨vW, rfl, hV, hw⟩; rw [HWE.out] at hV; change Kd.V (Kd.int .u8) 5 w5 w4.heap.size (fun k => w4.heap.size ≤ k) vW ws at hV; obtain ⟨AW, cW, eW⟩ := Kd.V_slice hV; subst eW; have HVW5 := Aside0.mk hV; have Q5 := Aside0.mk (below_step Q4.out hw); have HVS5 := Aside0.mk (Kd.V_below HVS.out hw); have c5 := Aside0.mk ((hw.block _ (lt_of_block b5_.out)).trans b5_.out); have c6 := Aside0.mk ((hw.block _ (lt_of_block b6_.out)).trans b6_.out); have c8 := Aside0.mk ((hw.block _ (lt_of_block b8_.out)).trans b8_.out); clear hV hw k26_; rw [HWE.out, show errW (slcR (some ws)).2 = .nilIface from rfl])
          | ((with_reducible refine gate_ (.load 32 (.tmp 5)) rfl ?_); refine wpList_load_row rfl 32 (.tmp 5) rfl g5 rfl 32 _ (0, 0) _ c5.out Try.underlying32 rfl (by rw [info32]; rfl) ?_)
          | ((with_reducible refine gate_ (.makeMap 102 none) rfl ?_); refine map_event rfl rfl ?_; intro m em w6 ew6; have Q6 := Aside0.mk (show Below w5.heap.size w5 w6 by rw [ew6]; exact below_alloc (Below.refl _ _) _); have HM6 := Aside0.mk (show MapSet w6 m [] by rw [ew6, em]; exact MapSet.made w5); have GM := Aside0.mk (show w5.heap.size ≤ m by rw [em]; exact Nat.le_refl _); clear em ew6)
          | ((with_reducible refine gate_dst (N := 64) rfl ?_); refine box_event ?hg (N := 64) ?hd (cs := #[.slice A0 b.length c0, .int .i64 h0, .int .u64 h1, .slice A1 ps.length c1, .slice AS ss.length cS, .map (some m)]) (t := 104) ?hr ?_; (case hd => rfl); (case hg => rfl); (case hr => first | (go_simp; done) | (go_simp; rfl)); intro p ep w7 hb hw; have Q7 := Aside0.mk (below_step Q6.out hw); have HR7 := Aside0.mk (show Rdr w5 (Rc.mk p m A0 c0 b h0 h1 A1 c1 ps AS cS ss) w7 [] from ⟨Kd.C_below HBC.out.1 Q5.out, HBC.out.2, Kd.C_below HPC.out.1 Q5.out, HPC.out.2, (Kd.V_reads' HVS5.out).2.2, (Kd.V_reads' HVS5.out).2.1, hb, by rw [ep]; exact Q6.out.size, GM.out, below_step Q6.out hw, HM6.out.below hw⟩); have HGd := Aside0.mk (show Gd (Rc.mk p m A0 c0 b h0 h1 A1 c1 ps AS cS ss) from ⟨HB8.out, HBL.out.1, HBL.out.2, HPO.out, HSS.out.1, HSS.out.2⟩); clear ep hb hw)
          | ((with_reducible refine gate_dst (N := 14) rfl ?_); refine box_event2 ?hg (N := 14) ?hd (cs := #[.bool true, .slice none 0 0, .slice none 0 0, .slice none 0 0]) (t := 54) (zs := #[.bool false, .slice none 0 0, .slice none 0 0, .slice none 0 0]) ?hr rfl rfl rfl (fun _ => rfl) (fun _ => rfl) (by kernel_rfl) ?hz (by first | kernel_rfl | rfl) ?_; (case hd => rfl); (case hg => rfl); (case hr => first | (go_simp; done) | (go_simp; rfl)); (case hz => rfl); intro g eg w8 hb hw; have HR8 := Aside0.mk (HR7.out.up hw); have BV8 := Aside0.mk hb; have HGN := Aside0.mk (show w5.heap.size ≤ g ∧ g ≠ p ∧ g ≠ m ∧ g < w8.heap.size from by have h1 := lt_of_block HR7.out.box; have h2 := HR7.out.map.lt; have h3 := HR7.out.hw.size; have h4 := lt_of_block hb; have h1 : p < w7.heap.size := h1; have h2 : m < w7.heap.size := h2; omega); have k28 : w8.cell? ⟨g6, 28, none⟩ = some (.int .u64 verdef) := (cell_of_row w8 g6 28 _ _ _ ((HR8.out.hw.block _ (lt_of_block c6.out)).trans c6.out)).trans HD.out.c28; have k29 : w8.cell? ⟨g6, 29, none⟩ = some (.int .u64 defnum) := (cell_of_row w8 g6 29 _ _ _ ((HR8.out.hw.block _ (lt_of_block c6.out)).trans c6.out)).trans HD.out.c29; have k30 : w8.cell? ⟨g6, 30, none⟩ = some (.int .u64 verneed) := (cell_of_row w8 g6 30 _ _ _ ((HR8.out.hw.block _ (lt_of_block c6.out)).trans c6.out)).trans HD.out.c30; have k31 : w8.cell? ⟨g6, 31, none⟩ = some (.int .u64 neednum) := (cell_of_row w8 g6 31 _ _ _ ((HR8.out.hw.block _ (lt_of_block c6.out)).trans c6.out)).trans HD.out.c31; clear eg hb hw)
          | (go_at_call 37; (with_reducible refine (defs_err (r := (Rc.mk p m A0 c0 b h0 h1 A1 c1 ps AS cS ss)) HR8.out HGd.out verdef defnum R28.out R29.out (Nat.zero_le _) HQ1.out).mono ?_); rintro e w9 ⟨rfl, hl9, hg9⟩; have hb9 := (hg9.block g HGN.out.2.2.2 (fun e => HGN.out.2.2.1 (by injection e))).trans BV8.out; have BV9 := Aside0.mk hb9; have hcg : w9.cell? ⟨g, 2, none⟩ = some (.slice none 0 0) := (cell_of_row w9 g 2 _ _ _ hb9).trans rfl; have hfg := blk_frozen hb9 2; have HLO9 := Aside0.mk hl9; clear hb9 hl9 hg9 k28 k29 k30 k31)
          | ((with_reducible refine gate_store (t := 51) (p := 78) rfl ?_); refine store_event (t := 51) (p := 78) (v := ?vo7) (w1 := (w9.setCell ⟨g, 2, none⟩ (.slice none 0 0))) ?hg ?ho ?hn ?hr ?_; (case ho => rfl); (case hg => rfl); (case hn => rfl); (case hr => first | (go_simp; done) | (go_simp; rfl)); intro wD ewD; have HLOD := Aside0.mk (show Below w5.heap.size w5 wD by rw [ewD]; exact Below.setCell HLO9.out (p := ⟨g, 2, none⟩) HGN.out.1 _); clear ewD hcg hfg)
          | ((with_reducible refine gate_store (t := 54) (p := 8) rfl ?_); refine store_row_ev rfl rfl 54 (.tmp 8) (.tmp 81) rfl g8 #[.bool false, .slice none 0 0, .slice none 0 0, .slice none 0 0] rfl rfl 54 _ ((HLOD.out.block _ (lt_of_block c8.out)).trans c8.out) (by kernel_rfl) rfl (by kernel_rfl) ?_; intro wz hb hf hk_; have BZ := Aside0.mk hb; have QZ := Aside0.mk (hf _ _ (below_step Q5.out HLOD.out) GE8.out); clear hb hf hk_))
        refine bodyPost_ret (v := .tuple #[.agg #[.bool false, .slice none 0 0, .slice none 0 0, .slice none 0 0], .iface 97 (.int .i64 cE)]) (results_list (rs := [.cell 8 54, .tmp 9]) (vs := [.agg #[.bool false, .slice none 0 0, .slice none 0 0, .slice none 0 0], .iface 97 (.int .i64 cE)]) rfl (by simp) (.cell g8 54 #[.bool false, .slice none 0 0, .slice none 0 0, .slice none 0 0] (0, 0) _ rfl BZ.out hu54 rfl info54 (.tmp .nil))) rfl ?_
        refine HP.out _ _ ?_
        rw [← HR3.out]
        exact ReadP.err rfl QZ.out
      | ok d =>
        rw [hq1] at hres
        simp only at hres
        have HQ1 := Aside0.mk hq1
        have HTL := Aside0.mk (defsT_len hq1)
        clear hq1
        by_cases ce : verneed = 0
        · have ceb : (verneed == 0) = true := beq_t ce
          have ceb2 : (verneed != 0) = false := by rw [bne, ceb]; rfl
          rw [if_pos ce] at hres
          simp only at hres
          obtain ⟨ro, hro⟩ : ∃ y, ofS d.2 ws n.toNat 0 [] = y := ⟨_, rfl⟩
          rw [hro] at hres
          have HRO := Aside0.mk hro
          have HRES := Aside0.mk hres
          clear ce hres hro
          go_enter Try.func18, Try.ntmps18
          go_wp2_with (first
            | ((with_reducible refine gate_dst (N := 5) rfl ?_); refine box_event ?hg (N := 5) ?hd (cs := #[.int .i64 h0, .int .u64 h1, .slice A1 ps.length c1]) (t := 32) ?hr ?_; (case hd => rfl); (case hg => rfl); (case hr => first | (go_simp; done) | (go_simp; rfl)); intro g5 eg w1 hb hw; have B5 := Aside0.mk hb; have Q1 := Aside0.mk hw; clear eg hb hw)
            | ((with_reducible refine gate_dst (N := 6) rfl ?_); refine box_event ?hg (N := 6) ?hd (cs := dc) (t := 35) ?hr ?_; (case hd => rfl); (case hg => rfl); (case hr => first | (go_simp; done) | (go_simp; rfl)); intro g6 eg w2 hb hw; have B6 := Aside0.mk hb; have Q2 := Aside0.mk hw; clear eg hb hw)
            | ((with_reducible refine gate_dst (N := 8) rfl ?_); refine box_event ?hg (N := 8) ?hd (cs := #[.bool false, .slice none 0 0, .slice none 0 0, .slice none 0 0]) (t := 54) ?hr ?_; (case hd => rfl); (case hg => rfl); (case hr => first | (go_simp; done) | (go_simp; rfl)); intro g8 eg w3 hb hw; have B8 := Aside0.mk hb; have Q3 := Aside0.mk (below_step (below_step Q1.out Q2.out) hw); have GE8 := Aside0.mk (show w.heap.size ≤ g8 by rw [eg]; exact (below_step Q1.out Q2.out).size); have b5 := Aside0.mk ((hw.block _ (Nat.lt_of_lt_of_le (lt_of_block B5.out) Q2.out.size)).trans ((Q2.out.block _ (lt_of_block B5.out)).trans B5.out)); have b6 := Aside0.mk ((hw.block _ (lt_of_block B6.out)).trans B6.out); have k26 : w3.cell? ⟨g6, 26, none⟩ = some (.int .u64 versym) := (cell_of_row w3 g6 26 _ _ _ b6.out).trans HD.out.c26; clear eg hb hw B5 B6)
            | ((with_reducible refine gate_ (.load 32 (.tmp 5)) rfl ?_); refine wpList_load_row rfl 32 (.tmp 5) rfl g5 rfl 32 _ (0, 0) _ b5.out Try.underlying32 rfl (by rw [info32]; rfl) ?_)
            | ((with_reducible refine gate_ (.load 35 (.tmp 6)) rfl ?_); refine wpList_load_row rfl 35 (.tmp 6) rfl g6 rfl 35 _ (0, 0) _ b6.out Try.underlying35 rfl (by rw [info35, HD.out.size]) ?_)
            | (go_at_call 35; (with_reducible refine (HS.out _ Q3.out).mono ?_); rintro e w4 ⟨vS, rfl, hV, hw⟩; rw [HSE.out] at hV; obtain ⟨AS, cS, eS⟩ := Kd.V_slice hV; subst eS; have HVS := Aside0.mk hV; have Q4 := Aside0.mk (below_step Q3.out hw); have b5_ := Aside0.mk ((hw.block _ (lt_of_block b5.out)).trans b5.out); have b6_ := Aside0.mk ((hw.block _ (lt_of_block b6.out)).trans b6.out); have b8_ := Aside0.mk ((hw.block _ (lt_of_block B8.out)).trans B8.out); have k26_ : w4.cell? ⟨g6, 26, none⟩ = some (.int .u64 versym) := (cell_of_row w4 g6 26 _ _ _ b6_.out).trans HD.out.c26; clear hV hw k26; rw [errOf_none HCS.out, errW_none])
            | ((with_reducible refine gate_ (.load 32 (.tmp 5)) rfl ?_); refine wpList_load_row rfl 32 (.tmp 5) rfl g5 rfl 32 _ (0, 0) _ b5_.out Try.underlying32 rfl (by rw [info32]; rfl) ?_)
            | (go_at_call 36; (with_reducible refine (HL.out versym (2 * n) R26.out (by have := HNP.out; omega) (by have := HNP.out; omega) _ Q4.out).mono ?_); rintro e w5 ⟨vW, rfl, hV, hw⟩; rw [HWE.out] at hV; change Kd.V (Kd.int .u8) 5 w5 w4.heap.size (fun k => w4.heap.size ≤ k) vW ws at hV; obtain ⟨AW, cW, eW⟩ := Kd.V_slice hV; subst eW; have HVW5 := Aside0.mk hV; have Q5 := Aside0.mk (below_step Q4.out hw); have HVS5 := Aside0.mk (Kd.V_below HVS.out hw); have c5 := Aside0.mk ((hw.block _ (lt_of_block b5_.out)).trans b5_.out); have c6 := Aside0.mk ((hw.block _ (lt_of_block b6_.out)).trans b6_.out); have c8 := Aside0.mk ((hw.block _ (lt_of_block b8_.out)).trans b8_.out); clear hV hw k26_; rw [HWE.out, show errW (slcR (some ws)).2 = .nilIface from rfl])
            | ((with_reducible refine gate_ (.load 32 (.tmp 5)) rfl ?_); refine wpList_load_row rfl 32 (.tmp 5) rfl g5 rfl 32 _ (0, 0) _ c5.out Try.underlying32 rfl (by rw [info32]; rfl) ?_)
            | ((with_reducible refine gate_ (.makeMap 102 none) rfl ?_); refine map_event rfl rfl ?_; intro m em w6 ew6; have Q6 := Aside0.mk (show Below w5.heap.size w5 w6 by rw [ew6]; exact below_alloc (Below.refl _ _) _); have HM6 := Aside0.mk (show MapSet w6 m [] by rw [ew6, em]; exact MapSet.made w5); have GM := Aside0.mk (show w5.heap.size ≤ m by rw [em]; exact Nat.le_refl _); clear em ew6)
            | ((with_reducible refine gate_dst (N := 64) rfl ?_); refine box_event ?hg (N := 64) ?hd (cs := #[.slice A0 b.length c0, .int .i64 h0, .int .u64 h1, .slice A1 ps.length c1, .slice AS ss.length cS, .map (some m)]) (t := 104) ?hr ?_; (case hd => rfl); (case hg => rfl); (case hr => first | (go_simp; done) | (go_simp; rfl)); intro p ep w7 hb hw; have Q7 := Aside0.mk (below_step Q6.out hw); have HR7 := Aside0.mk (show Rdr w5 (Rc.mk p m A0 c0 b h0 h1 A1 c1 ps AS cS ss) w7 [] from ⟨Kd.C_below HBC.out.1 Q5.out, HBC.out.2, Kd.C_below HPC.out.1 Q5.out, HPC.out.2, (Kd.V_reads' HVS5.out).2.2, (Kd.V_reads' HVS5.out).2.1, hb, by rw [ep]; exact Q6.out.size, GM.out, below_step Q6.out hw, HM6.out.below hw⟩); have HGd := Aside0.mk (show Gd (Rc.mk p m A0 c0 b h0 h1 A1 c1 ps AS cS ss) from ⟨HB8.out, HBL.out.1, HBL.out.2, HPO.out, HSS.out.1, HSS.out.2⟩); clear ep hb hw)
            | ((with_reducible refine gate_dst (N := 14) rfl ?_); refine box_event2 ?hg (N := 14) ?hd (cs := #[.bool true, .slice none 0 0, .slice none 0 0, .slice none 0 0]) (t := 54) (zs := #[.bool false, .slice none 0 0, .slice none 0 0, .slice none 0 0]) ?hr rfl rfl rfl (fun _ => rfl) (fun _ => rfl) (by kernel_rfl) ?hz (by first | kernel_rfl | rfl) ?_; (case hd => rfl); (case hg => rfl); (case hr => first | (go_simp; done) | (go_simp; rfl)); (case hz => rfl); intro g eg w8 hb hw; have HR8 := Aside0.mk (HR7.out.up hw); have BV8 := Aside0.mk hb; have HGN := Aside0.mk (show w5.heap.size ≤ g ∧ g ≠ p ∧ g ≠ m ∧ g < w8.heap.size from by have h1 := lt_of_block HR7.out.box; have h2 := HR7.out.map.lt; have h3 := HR7.out.hw.size; have h4 := lt_of_block hb; have h1 : p < w7.heap.size := h1; have h2 : m < w7.heap.size := h2; omega); have k28 : w8.cell? ⟨g6, 28, none⟩ = some (.int .u64 verdef) := (cell_of_row w8 g6 28 _ _ _ ((HR8.out.hw.block _ (lt_of_block c6.out)).trans c6.out)).trans HD.out.c28; have k29 : w8.cell? ⟨g6, 29, none⟩ = some (.int .u64 defnum) := (cell_of_row w8 g6 29 _ _ _ ((HR8.out.hw.block _ (lt_of_block c6.out)).trans c6.out)).trans HD.out.c29; have k30 : w8.cell? ⟨g6, 30, none⟩ = some (.int .u64 verneed) := (cell_of_row w8 g6 30 _ _ _ ((HR8.out.hw.block _ (lt_of_block c6.out)).trans c6.out)).trans HD.out.c30; have k31 : w8.cell? ⟨g6, 31, none⟩ = some (.int .u64 neednum) := (cell_of_row w8 g6 31 _ _ _ ((HR8.out.hw.block _ (lt_of_block c6.out)).trans c6.out)).trans HD.out.c31; clear eg hb hw)
            | (go_at_call 37; (with_reducible refine (defs_ok (r := (Rc.mk p m A0 c0 b h0 h1 A1 c1 ps AS cS ss)) HR8.out HGd.out verdef defnum R28.out R29.out (Nat.zero_le _) HQ1.out).mono ?_); rintro e w9 ⟨vD, rfl, hD9, hR9, hg9⟩; have hb9 := (hg9.block g HGN.out.2.2.2 (fun e => HGN.out.2.2.1 (by injection e))).trans BV8.out; have BV9 := Aside0.mk hb9; have hcg : w9.cell? ⟨g, 2, none⟩ = some (.slice none 0 0) := (cell_of_row w9 g 2 _ _ _ hb9).trans rfl; have hfg := blk_frozen hb9 2; obtain ⟨AD, cD, eD⟩ := Kd.R_slice hD9; subst eD; have HD9 := Aside0.mk hD9; have HR9 := Aside0.mk hR9; have HSZ := Aside0.mk hg9.size; clear hb9 hD9 hR9 hg9 k28 k29 k30 k31)
            | ((with_reducible refine gate_store (t := 51) (p := 78) rfl ?_); refine store_event (t := 51) (p := 78) (v := ?vo8) (w1 := (w9.setCell ⟨g, 2, none⟩ (.slice AD d.1.length cD))) ?hg ?ho ?hn ?hr ?_; (case ho => rfl); (case hg => rfl); (case hn => rfl); (case hr => first | (go_simp; done) | (go_simp; rfl)); intro wD ewD; have HRD := Aside0.mk (show Rdr w5 (Rc.mk p m A0 c0 b h0 h1 A1 c1 ps AS cS ss) wD d.2 by rw [ewD]; exact HR9.out.set HGN.out.1 HGN.out.2.1 HGN.out.2.2.1 2 _); have BVD := Aside0.mk (show wD.heap[g]? = some (.cells #[.bool true, .slice none 0 0, .slice AD d.1.length cD, .slice none 0 0] 54 (0, 0)) by rw [ewD]; exact blk_set BV9.out 2 _); have HDD := Aside0.mk (show Kd.R kDf 63 wD w8.heap.size (fun k => k ≠ m) (.slice AD d.1.length cD) d.1 by rw [ewD]; exact R_low HD9.out HGN.out.2.2.2 2 _); have HGD := Aside0.mk (show g < wD.heap.size from lt_of_block BVD.out); have k30 : wD.cell? ⟨g6, 30, none⟩ = some (.int .u64 verneed) := (cell_of_row wD g6 30 _ _ _ ((HRD.out.hw.block _ (lt_of_block c6.out)).trans c6.out)).trans HD.out.c30; have k31 : wD.cell? ⟨g6, 31, none⟩ = some (.int .u64 neednum) := (cell_of_row wD g6 31 _ _ _ ((HRD.out.hw.block _ (lt_of_block c6.out)).trans c6.out)).trans HD.out.c31; clear ewD hcg hfg))
          go_loopg [101] n.toNat (fun kq v101 w' => ∃ (i : Int) (acc : List Int) (vO : Value), v101 = .int .i64 i ∧ Aside0 (0 ≤ i ∧ i ≤ n ∧ kq = (n - i).toNat) ∧ Aside0 (ofS d.2 ws (n - i).toNat i.toNat acc = ro) ∧ Aside0 (w'.heap[g]? = some (.cells #[.bool true, vO, .slice AD d.1.length cD, .slice none 0 0] 54 (0, 0)) ∧ Kd.R (Kd.int .i64) 3 w' wD.heap.size (fun _ => True) vO acc ∧ wD.grownBy w' (some g) ∧ acc.length ≤ i.toNat))
          case atStart => exact ⟨0, [], .slice none 0 0, rfl, ⟨by have := HNP.out; omega⟩, ⟨by rw [Int.sub_zero]; exact HRO.out⟩, ⟨BVD.out, Kd.R_nil _ _ _ _ _, grown_refl _ _, by simp⟩⟩
          case round =>
            obtain ⟨i, acc, vO, rfl, HI, HX, HW⟩ := hrel
            obtain ⟨AO, cO, eO⟩ := Kd.R_slice HW.out.2.1
            subst eO
            have HRW := Aside0.mk (HRD.out.but HGN.out.1 HGN.out.2.1 HGN.out.2.2.1 HW.out.2.2.1)
            by_cases c4 : i < n
            · have c4b0 : decide (i < n) = true := decide_eq_true c4
              obtain ⟨k, hk⟩ : ∃ k, (n - i).toNat = k + 1 := ⟨(n - i).toNat - 1, by omega⟩
              have hx := HX.out
              rw [hk, ofS] at hx
              have HK := Aside0.mk hk
              have HC4 := Aside0.mk c4
              clear hk c4 HX
              have hwl := (Kd.V_reads' HVW5.out)
              obtain ⟨AI, cI, hcutI, hnumI⟩ := cut_mid_num rfl hwl.2.2 hwl.2.1 HW8.out (2 * i) (2 * i + 2) (2 * i.toNat) (2 * i.toNat + 2) 2 (by have := HI.out; omega) (by have := HI.out; omega) (by omega) (by have := HI.out; have := HC4.out; have := HWL.out.1; omega) (by omega) (by decide)
              obtain ⟨WD, hWD⟩ : ∃ y, num ((ws.take (2 * i.toNat + 2)).drop (2 * i.toNat)) = y := ⟨_, rfl⟩
              have hwr := num_two (l := (ws.take (2 * i.toNat + 2)).drop (2 * i.toNat)) (fun x hx => HW8.out x (List.mem_of_mem_take (List.mem_of_mem_drop hx))) (by have := HI.out; have := HC4.out; have := HWL.out.1; simp; omega)
              rw [hWD] at hwr hnumI
              simp only [hWD] at hx
              have HWR := Aside0.mk hwr
              have HNUMI := Aside0.mk hnumI
              obtain ⟨XX, hXX⟩ : ∃ y, WD % 32768 = y := ⟨_, rfl⟩
              simp only [hXX] at hx
              have hand : Go.bits BinOp.and IntKind.i64 WD 32767 = XX := by rw [and_i64 WD HWR.out]; exact hXX
              have hc1 : wrap64 WD = WD := w64 _ (by have := HWR.out; omega) (by have := HWR.out; omega)
              have hc2 : IntKind.i64.wrap WD = WD := (i64_w WD).trans hc1
              have h2i : wrap64 (2 * i) = 2 * i := w64 _ (by have := HI.out; omega) (by have := HI.out; have := HNP.out; omega)
              have h2i2 : wrap64 (2 * i + 2) = 2 * i + 2 := w64 _ (by have := HI.out; omega) (by have := HI.out; have := HNP.out; omega)
              have HVI := Aside0.mk (show wrap64 (i + 1) = i + 1 from w64 _ (by have := HI.out; omega) (by have := HI.out; have := HNP.out; omega))
              have HXR := Aside0.mk (show 0 ≤ XX ∧ XX ≤ 32767 by omega)
              have HWF := Aside0.mk (wf_i64 (a := XX) (by have := HXR.out; omega) (by have := HXR.out; omega))
              have HX2 := Aside0.mk hx
              clear hx hwl hnumI hWD hwr hXX
              by_cases cx : XX > 1
              · have cxb : decide (XX > 1) = true := decide_eq_true cx
                by_cases cm : XX ∈ d.2
                · have hx := HX2.out
                  rw [if_neg (fun h => h.2 cm)] at hx
                  have HX3 := Aside0.mk hx
                  have HCM := Aside0.mk cm
                  clear hx HX2 cx cm
                  go_wp2_with (first
                    | (go_at_call 39; (with_reducible refine (HNUMI.out _ HRW.out.hw).mono ?_); rintro e w13 ⟨rfl, hd⟩; have hw_ := below_drawn hd; have HR13 := Aside0.mk (HRW.out.up hw_); have HB13 := Aside0.mk ((hw_.block _ (lt_of_block HW.out.1)).trans HW.out.1); have HO13 := Aside0.mk (Kd.R_below HW.out.2.1 hw_); have HG13 := Aside0.mk (grown_below HW.out.2.2.1 hw_); have k1 : w13.cell? ⟨g, 1, none⟩ = some (.slice AO acc.length cO) := (cell_of_row w13 g 1 _ _ _ HB13.out).trans rfl; have k5 : w13.cell? ⟨p, 5, none⟩ = some (.map (some m)) := HR13.out.c5; have hlook : (Instr.lookup 102 (.map (some m)) (.int .i64 XX) false).run Try.prog w13 = .ok (.bool true) w13 := (look_set HR13.out.map XX HWF.out).trans (by rw [decide_eq_true HCM.out]); clear hd hw_)
                    | ((with_reducible refine gate_builtin (b := .append) (xs := #[.tmp 129, .tmp 131]) rfl ?_); at_builtin; refine Kd.R_append (Kd.int .i64) (w0 := w13) wD.heap.size rfl (.tmp 129) (.tmp 131) 37 3 (.int .i64 0) 8 rfl Try.underlying37 info3 rfl (by decide) (by omega) (.slice AO acc.length cO) acc WD [.int .i64 WD] (fun _ => True) (fun _ => False) rfl rfl ?aP (fun _ hk => hk.elim) ?aF ?aO ?aB ?aS ?aL ?_; (case aP => exact rfl); (case aF => exact fun _ _ => trivial); (case aO => exact HO13.out); (case aB => exact Below.refl _ _); (case aS => exact HG13.out.size); (case aL => have := HW.out.2.2.2; have := HI.out; have := HNP.out; omega); intro v14 w14 ho hb hg hat; obtain ⟨A14, c14, e14⟩ := Kd.R_slice ho; subst e14; have HO14 := Aside0.mk ho; have hne := fun (e : some g = (Value.slice AO acc.length cO).ownBlock) => (show False from by obtain ⟨_, hown⟩ := Kd.R_own HO13.out; have h1 := own_base hown g e.symm; have h2 := lt_of_block BVD.out; omega); have HB14 := Aside0.mk ((hg.block _ (lt_of_block HB13.out) hne).trans HB13.out); have HG14 := Aside0.mk (grown_own HG13.out HO13.out hg); have hcg : w14.cell? ⟨g, 1, none⟩ = some (.slice AO acc.length cO) := (cell_of_row w14 g 1 _ _ _ HB14.out).trans rfl; have hfg := blk_frozen HB14.out 1; clear ho hb hg hat hne k1)
                    | ((with_reducible refine gate_store (t := 37) (p := 133) rfl ?_); refine store_event (t := 37) (p := 133) (v := ?vo9) (w1 := (w14.setCell ⟨g, 1, none⟩ (.slice A14 (acc ++ [WD]).length c14))) ?hg ?ho ?hn ?hr ?_; (case ho => rfl); (case hg => rfl); (case hn => rfl); (case hr => first | (go_simp; done) | (go_simp; rfl)); intro w15 ew; have HB15 := Aside0.mk (show w15.heap[g]? = some (.cells #[.bool true, .slice A14 (acc ++ [WD]).length c14, .slice AD d.1.length cD, .slice none 0 0] 54 (0, 0)) by rw [ew]; exact blk_set HB14.out 1 _); have HO15 := Aside0.mk (show Kd.R (Kd.int .i64) 3 w15 wD.heap.size (fun _ => True) (.slice A14 (acc ++ [WD]).length c14) (acc ++ [WD]) by rw [ew]; exact R_low HO14.out (lt_of_block BVD.out) 1 _); have HG15 := Aside0.mk (show wD.grownBy w15 (some g) by rw [ew]; exact ⟨HG14.out.os, HG14.out.tape, HG14.out.output, by simpa [World.setCell] using HG14.out.size, fun k hk hm => (Below.heap_setCell _ _ _ _ (fun e => hm (by rw [e]))).trans (HG14.out.block k hk hm)⟩); clear ew hcg hfg))
                  go_roundg (n - (i + 1)).toNat
                  case measure => have := HI.out; have := HC4.out; omega
                  case rel => exact ⟨i + 1, acc ++ [WD], _, by rw [HVI.out], ⟨by have := HI.out; have := HC4.out; omega⟩, ⟨by rw [show (n - (i + 1)).toNat = k by have := HK.out; omega, show (i + 1).toNat = i.toNat + 1 by have := HI.out; omega]; exact HX3.out⟩, ⟨HB15.out, HO15.out, HG15.out, by have := HW.out.2.2.2; have := HI.out; simp; omega⟩⟩
                · have hx := HX2.out
                  rw [if_pos ⟨cx, cm⟩] at hx
                  have HX3 := Aside0.mk hx
                  have HCM := Aside0.mk cm
                  clear hx HX2 cx cm
                  go_wp2_with (first
                    | (go_at_call 39; (with_reducible refine (HNUMI.out _ HRW.out.hw).mono ?_); rintro e w13 ⟨rfl, hd⟩; have hw_ := below_drawn hd; have HR13 := Aside0.mk (HRW.out.up hw_); have HB13 := Aside0.mk ((hw_.block _ (lt_of_block HW.out.1)).trans HW.out.1); have HO13 := Aside0.mk (Kd.R_below HW.out.2.1 hw_); have HG13 := Aside0.mk (grown_below HW.out.2.2.1 hw_); have k1 : w13.cell? ⟨g, 1, none⟩ = some (.slice AO acc.length cO) := (cell_of_row w13 g 1 _ _ _ HB13.out).trans rfl; have k5 : w13.cell? ⟨p, 5, none⟩ = some (.map (some m)) := HR13.out.c5; have hlook : (Instr.lookup 102 (.map (some m)) (.int .i64 XX) false).run Try.prog w13 = .ok (.bool false) w13 := (look_set HR13.out.map XX HWF.out).trans (by rw [decide_eq_false HCM.out]); clear hd hw_)
                    | ((with_reducible refine gate_store (t := 54) (p := 8) rfl ?_); refine store_row_ev rfl rfl 54 (.tmp 8) (.tmp 126) rfl g8 #[.bool false, .slice none 0 0, .slice none 0 0, .slice none 0 0] rfl rfl 54 _ ((HR13.out.hw.block _ (lt_of_block c8.out)).trans c8.out) (by kernel_rfl) rfl (by kernel_rfl) ?_; intro wz hb hf hk_; have BZ := Aside0.mk hb; have QZ := Aside0.mk (hf _ _ (below_step Q5.out HR13.out.hw) GE8.out); clear hb hf hk_))
                  refine bodyPost_ret (v := .tuple #[.agg #[.bool false, .slice none 0 0, .slice none 0 0, .slice none 0 0], .iface 97 (.int .i64 3)]) (results_list (rs := [.cell 8 54, .tmp 9]) (vs := [.agg #[.bool false, .slice none 0 0, .slice none 0 0, .slice none 0 0], .iface 97 (.int .i64 3)]) rfl (by simp) (.cell g8 54 #[.bool false, .slice none 0 0, .slice none 0 0, .slice none 0 0] (0, 0) _ rfl BZ.out hu54 rfl info54 (.tmp .nil))) rfl ?_
                  refine HP.out _ _ ?_
                  have hR3 := HRES.out
                  rw [← HX3.out] at hR3
                  have hR4 : (Except.error 3 : Except Int Vs) = res := hR3
                  rw [← hR4]
                  exact ReadP.err rfl QZ.out
              · have cxb : decide (XX > 1) = false := decide_eq_false cx
                have hx := HX2.out
                rw [if_neg (fun h => cx h.1)] at hx
                have HX3 := Aside0.mk hx
                clear hx HX2 cx
                go_wp2_with (first
                  | (go_at_call 39; (with_reducible refine (HNUMI.out _ HRW.out.hw).mono ?_); rintro e w13 ⟨rfl, hd⟩; have hw_ := below_drawn hd; have HR13 := Aside0.mk (HRW.out.up hw_); have HB13 := Aside0.mk ((hw_.block _ (lt_of_block HW.out.1)).trans HW.out.1); have HO13 := Aside0.mk (Kd.R_below HW.out.2.1 hw_); have HG13 := Aside0.mk (grown_below HW.out.2.2.1 hw_); have k1 : w13.cell? ⟨g, 1, none⟩ = some (.slice AO acc.length cO) := (cell_of_row w13 g 1 _ _ _ HB13.out).trans rfl; clear hd hw_)
                  | ((with_reducible refine gate_builtin (b := .append) (xs := #[.tmp 129, .tmp 131]) rfl ?_); at_builtin; refine Kd.R_append (Kd.int .i64) (w0 := w13) wD.heap.size rfl (.tmp 129) (.tmp 131) 37 3 (.int .i64 0) 8 rfl Try.underlying37 info3 rfl (by decide) (by omega) (.slice AO acc.length cO) acc WD [.int .i64 WD] (fun _ => True) (fun _ => False) rfl rfl ?aP (fun _ hk => hk.elim) ?aF ?aO ?aB ?aS ?aL ?_; (case aP => exact rfl); (case aF => exact fun _ _ => trivial); (case aO => exact HO13.out); (case aB => exact Below.refl _ _); (case aS => exact HG13.out.size); (case aL => have := HW.out.2.2.2; have := HI.out; have := HNP.out; omega); intro v14 w14 ho hb hg hat; obtain ⟨A14, c14, e14⟩ := Kd.R_slice ho; subst e14; have HO14 := Aside0.mk ho; have hne := fun (e : some g = (Value.slice AO acc.length cO).ownBlock) => (show False from by obtain ⟨_, hown⟩ := Kd.R_own HO13.out; have h1 := own_base hown g e.symm; have h2 := lt_of_block BVD.out; omega); have HB14 := Aside0.mk ((hg.block _ (lt_of_block HB13.out) hne).trans HB13.out); have HG14 := Aside0.mk (grown_own HG13.out HO13.out hg); have hcg : w14.cell? ⟨g, 1, none⟩ = some (.slice AO acc.length cO) := (cell_of_row w14 g 1 _ _ _ HB14.out).trans rfl; have hfg := blk_frozen HB14.out 1; clear ho hb hg hat hne k1)
                  | ((with_reducible refine gate_store (t := 37) (p := 133) rfl ?_); refine store_event (t := 37) (p := 133) (v := ?vo10) (w1 := (w14.setCell ⟨g, 1, none⟩ (.slice A14 (acc ++ [WD]).length c14))) ?hg ?ho ?hn ?hr ?_; (case ho => rfl); (case hg => rfl); (case hn => rfl); (case hr => first | (go_simp; done) | (go_simp; rfl)); intro w15 ew; have HB15 := Aside0.mk (show w15.heap[g]? = some (.cells #[.bool true, .slice A14 (acc ++ [WD]).length c14, .slice AD d.1.length cD, .slice none 0 0] 54 (0, 0)) by rw [ew]; exact blk_set HB14.out 1 _); have HO15 := Aside0.mk (show Kd.R (Kd.int .i64) 3 w15 wD.heap.size (fun _ => True) (.slice A14 (acc ++ [WD]).length c14) (acc ++ [WD]) by rw [ew]; exact R_low HO14.out (lt_of_block BVD.out) 1 _); have HG15 := Aside0.mk (show wD.grownBy w15 (some g) by rw [ew]; exact ⟨HG14.out.os, HG14.out.tape, HG14.out.output, by simpa [World.setCell] using HG14.out.size, fun k hk hm => (Below.heap_setCell _ _ _ _ (fun e => hm (by rw [e]))).trans (HG14.out.block k hk hm)⟩); clear ew hcg hfg))
                go_roundg (n - (i + 1)).toNat
                case measure => have := HI.out; have := HC4.out; omega
                case rel => exact ⟨i + 1, acc ++ [WD], _, by rw [HVI.out], ⟨by have := HI.out; have := HC4.out; omega⟩, ⟨by rw [show (n - (i + 1)).toNat = k by have := HK.out; omega, show (i + 1).toNat = i.toNat + 1 by have := HI.out; omega]; exact HX3.out⟩, ⟨HB15.out, HO15.out, HG15.out, by have := HW.out.2.2.2; have := HI.out; simp; omega⟩⟩
            · have c4b0 : decide (i < n) = false := decide_eq_false c4
              have hi : (n - i).toNat = 0 := by omega
              have hx := HX.out
              rw [hi, ofS] at hx
              have hR3 := HRES.out
              rw [← hx] at hR3
              have HR3 := Aside0.mk (show (Except.ok (true, acc, d.1, []) : Except Int Vs) = res from hR3)
              clear hx hi c4 HX hR3
              go_wp2_with (first
                | ((with_reducible refine gate_ (.load 54 (.tmp 14)) rfl ?_); refine wpList_load_row rfl 54 (.tmp 14) rfl g rfl 54 _ (0, 0) _ HW.out.1 Try.underlying54 rfl (by rw [info54]; rfl) ?_)
                | ((with_reducible refine gate_store (t := 54) (p := 8) rfl ?_); refine store_row_ev rfl rfl 54 (.tmp 8) (.tmp 135) rfl g8 #[.bool true, .slice AO acc.length cO, .slice AD d.1.length cD, .slice none 0 0] rfl rfl 54 _ ((HRW.out.hw.block _ (lt_of_block c8.out)).trans c8.out) (by kernel_rfl) rfl (by kernel_rfl) ?_; intro wz hb hf hk_; have BZ := Aside0.mk hb; have QZ := Aside0.mk (hf _ _ (below_step Q5.out HRW.out.hw) GE8.out); have HKZ := Aside0.mk hk_; clear hb hf hk_))
              refine bodyPost_ret (v := .tuple #[.agg #[.bool true, .slice AO acc.length cO, .slice AD d.1.length cD, .slice none 0 0], .nilIface]) (results_list (rs := [.cell 8 54, .tmp 9]) (vs := [.agg #[.bool true, .slice AO acc.length cO, .slice AD d.1.length cD, .slice none 0 0], .nilIface]) rfl (by simp) (.cell g8 54 #[.bool true, .slice AO acc.length cO, .slice AD d.1.length cD, .slice none 0 0] (0, 0) _ rfl BZ.out hu54 rfl (by rw [info54]; rfl) (.tmp .nil))) rfl ?_
              refine HP.out _ _ ?_
              rw [← HR3.out]
              have hs5 := Q5.out.size
              have hs8 := HR8.out.hw.size
              have hsN := HRD.out.hw.size
              have hg8 := lt_of_block c8.out
              have hNB : w5.heap.size ≤ wD.heap.size := by have := HRD.out.hw.size; omega
              exact ⟨_, _, _, rfl, Kd.R_lower (R_keep8 HW.out.2.1 HKZ.out (by omega)) (by omega), Kd.R_mono (Kd.R_lower (R_keep8 (R_but HDD.out BVD.out (by decide) HW.out.2.2.1) HKZ.out (by omega)) (by omega)) (fun _ _ => trivial), Kd.R_mono (Kd.R_lower (R_keep8 (R_but (Kd.R_nil kNd 66 wD wD.heap.size (fun k => k ≠ m)) BVD.out (by decide) HW.out.2.2.1) HKZ.out (by omega)) (by omega)) (fun _ _ => trivial), QZ.out⟩
        · have ceb : (verneed == 0) = false := beq_f ce
          have ceb2 : (verneed != 0) = true := by rw [bne, ceb]; rfl
          rw [if_neg ce] at hres
          clear ce
          cases hq2 : needsT b ps ss neednum verneed d.2 with
          | error cE =>
            rw [hq2] at hres
            have HR3 := Aside0.mk (show (Except.error cE : Except Int Vs) = res from hres)
            have HQ2 := Aside0.mk hq2
            clear hres hq2
            go_enter Try.func18, Try.ntmps18
            go_wp2_with (first
              | ((with_reducible refine gate_dst (N := 5) rfl ?_); refine box_event ?hg (N := 5) ?hd (cs := #[.int .i64 h0, .int .u64 h1, .slice A1 ps.length c1]) (t := 32) ?hr ?_; (case hd => rfl); (case hg => rfl); (case hr => first | (go_simp; done) | (go_simp; rfl)); intro g5 eg w1 hb hw; have B5 := Aside0.mk hb; have Q1 := Aside0.mk hw; clear eg hb hw)
              | ((with_reducible refine gate_dst (N := 6) rfl ?_); refine box_event ?hg (N := 6) ?hd (cs := dc) (t := 35) ?hr ?_; (case hd => rfl); (case hg => rfl); (case hr => first | (go_simp; done) | (go_simp; rfl)); intro g6 eg w2 hb hw; have B6 := Aside0.mk hb; have Q2 := Aside0.mk hw; clear eg hb hw)
              | ((with_reducible refine gate_dst (N := 8) rfl ?_); refine box_event ?hg (N := 8) ?hd (cs := #[.bool false, .slice none 0 0, .slice none 0 0, .slice none 0 0]) (t := 54) ?hr ?_; (case hd => rfl); (case hg => rfl); (case hr => first | (go_simp; done) | (go_simp; rfl)); intro g8 eg w3 hb hw; have B8 := Aside0.mk hb; have Q3 := Aside0.mk (below_step (below_step Q1.out Q2.out) hw); have GE8 := Aside0.mk (show w.heap.size ≤ g8 by rw [eg]; exact (below_step Q1.out Q2.out).size); have b5 := Aside0.mk ((hw.block _ (Nat.lt_of_lt_of_le (lt_of_block B5.out) Q2.out.size)).trans ((Q2.out.block _ (lt_of_block B5.out)).trans B5.out)); have b6 := Aside0.mk ((hw.block _ (lt_of_block B6.out)).trans B6.out); have k26 : w3.cell? ⟨g6, 26, none⟩ = some (.int .u64 versym) := (cell_of_row w3 g6 26 _ _ _ b6.out).trans HD.out.c26; clear eg hb hw B5 B6)
              | ((with_reducible refine gate_ (.load 32 (.tmp 5)) rfl ?_); refine wpList_load_row rfl 32 (.tmp 5) rfl g5 rfl 32 _ (0, 0) _ b5.out Try.underlying32 rfl (by rw [info32]; rfl) ?_)
              | ((with_reducible refine gate_ (.load 35 (.tmp 6)) rfl ?_); refine wpList_load_row rfl 35 (.tmp 6) rfl g6 rfl 35 _ (0, 0) _ b6.out Try.underlying35 rfl (by rw [info35, HD.out.size]) ?_)
              | (go_at_call 35; (with_reducible refine (HS.out _ Q3.out).mono ?_); rintro e w4 ⟨vS, rfl, hV, hw⟩; rw [HSE.out] at hV; obtain ⟨AS, cS, eS⟩ := Kd.V_slice hV; subst eS; have HVS := Aside0.mk hV; have Q4 := Aside0.mk (below_step Q3.out hw); have b5_ := Aside0.mk ((hw.block _ (lt_of_block b5.out)).trans b5.out); have b6_ := Aside0.mk ((hw.block _ (lt_of_block b6.out)).trans b6.out); have b8_ := Aside0.mk ((hw.block _ (lt_of_block B8.out)).trans B8.out); have k26_ : w4.cell? ⟨g6, 26, none⟩ = some (.int .u64 versym) := (cell_of_row w4 g6 26 _ _ _ b6_.out).trans HD.out.c26; clear hV hw k26; rw [errOf_none HCS.out, errW_none])
              | ((with_reducible refine gate_ (.load 32 (.tmp 5)) rfl ?_); refine wpList_load_row rfl 32 (.tmp 5) rfl g5 rfl 32 _ (0, 0) _ b5_.out Try.underlying32 rfl (by rw [info32]; rfl) ?_)
              | (go_at_call 36; (with_reducible refine (HL.out versym (2 * n) R26.out (by have := HNP.out; omega) (by have := HNP.out; omega) _ Q4.out).mono ?_); rintro e w5 ⟨vW, rfl, hV, hw⟩; rw [HWE.out] at hV; change Kd.V (Kd.int .u8) 5 w5 w4.heap.size (fun k => w4.heap.size ≤ k) vW ws at hV; obtain ⟨AW, cW, eW⟩ := Kd.V_slice hV; subst eW; have HVW5 := Aside0.mk hV; have Q5 := Aside0.mk (below_step Q4.out hw); have HVS5 := Aside0.mk (Kd.V_below HVS.out hw); have c5 := Aside0.mk ((hw.block _ (lt_of_block b5_.out)).trans b5_.out); have c6 := Aside0.mk ((hw.block _ (lt_of_block b6_.out)).trans b6_.out); have c8 := Aside0.mk ((hw.block _ (lt_of_block b8_.out)).trans b8_.out); clear hV hw k26_; rw [HWE.out, show errW (slcR (some ws)).2 = .nilIface from rfl])
              | ((with_reducible refine gate_ (.load 32 (.tmp 5)) rfl ?_); refine wpList_load_row rfl 32 (.tmp 5) rfl g5 rfl 32 _ (0, 0) _ c5.out Try.underlying32 rfl (by rw [info32]; rfl) ?_)
              | ((with_reducible refine gate_ (.makeMap 102 none) rfl ?_); refine map_event rfl rfl ?_; intro m em w6 ew6; have Q6 := Aside0.mk (show Below w5.heap.size w5 w6 by rw [ew6]; exact below_alloc (Below.refl _ _) _); have HM6 := Aside0.mk (show MapSet w6 m [] by rw [ew6, em]; exact MapSet.made w5); have GM := Aside0.mk (show w5.heap.size ≤ m by rw [em]; exact Nat.le_refl _); clear em ew6)
              | ((with_reducible refine gate_dst (N := 64) rfl ?_); refine box_event ?hg (N := 64) ?hd (cs := #[.slice A0 b.length c0, .int .i64 h0, .int .u64 h1, .slice A1 ps.length c1, .slice AS ss.length cS, .map (some m)]) (t := 104) ?hr ?_; (case hd => rfl); (case hg => rfl); (case hr => first | (go_simp; done) | (go_simp; rfl)); intro p ep w7 hb hw; have Q7 := Aside0.mk (below_step Q6.out hw); have HR7 := Aside0.mk (show Rdr w5 (Rc.mk p m A0 c0 b h0 h1 A1 c1 ps AS cS ss) w7 [] from ⟨Kd.C_below HBC.out.1 Q5.out, HBC.out.2, Kd.C_below HPC.out.1 Q5.out, HPC.out.2, (Kd.V_reads' HVS5.out).2.2, (Kd.V_reads' HVS5.out).2.1, hb, by rw [ep]; exact Q6.out.size, GM.out, below_step Q6.out hw, HM6.out.below hw⟩); have HGd := Aside0.mk (show Gd (Rc.mk p m A0 c0 b h0 h1 A1 c1 ps AS cS ss) from ⟨HB8.out, HBL.out.1, HBL.out.2, HPO.out, HSS.out.1, HSS.out.2⟩); clear ep hb hw)
              | ((with_reducible refine gate_dst (N := 14) rfl ?_); refine box_event2 ?hg (N := 14) ?hd (cs := #[.bool true, .slice none 0 0, .slice none 0 0, .slice none 0 0]) (t := 54) (zs := #[.bool false, .slice none 0 0, .slice none 0 0, .slice none 0 0]) ?hr rfl rfl rfl (fun _ => rfl) (fun _ => rfl) (by kernel_rfl) ?hz (by first | kernel_rfl | rfl) ?_; (case hd => rfl); (case hg => rfl); (case hr => first | (go_simp; done) | (go_simp; rfl)); (case hz => rfl); intro g eg w8 hb hw; have HR8 := Aside0.mk (HR7.out.up hw); have BV8 := Aside0.mk hb; have HGN := Aside0.mk (show w5.heap.size ≤ g ∧ g ≠ p ∧ g ≠ m ∧ g < w8.heap.size from by have h1 := lt_of_block HR7.out.box; have h2 := HR7.out.map.lt; have h3 := HR7.out.hw.size; have h4 := lt_of_block hb; have h1 : p < w7.heap.size := h1; have h2 : m < w7.heap.size := h2; omega); have k28 : w8.cell? ⟨g6, 28, none⟩ = some (.int .u64 verdef) := (cell_of_row w8 g6 28 _ _ _ ((HR8.out.hw.block _ (lt_of_block c6.out)).trans c6.out)).trans HD.out.c28; have k29 : w8.cell? ⟨g6, 29, none⟩ = some (.int .u64 defnum) := (cell_of_row w8 g6 29 _ _ _ ((HR8.out.hw.block _ (lt_of_block c6.out)).trans c6.out)).trans HD.out.c29; have k30 : w8.cell? ⟨g6, 30, none⟩ = some (.int .u64 verneed) := (cell_of_row w8 g6 30 _ _ _ ((HR8.out.hw.block _ (lt_of_block c6.out)).trans c6.out)).trans HD.out.c30; have k31 : w8.cell? ⟨g6, 31, none⟩ = some (.int .u64 neednum) := (cell_of_row w8 g6 31 _ _ _ ((HR8.out.hw.block _ (lt_of_block c6.out)).trans c6.out)).trans HD.out.c31; clear eg hb hw)
              | (go_at_call 37; (with_reducible refine (defs_ok (r := (Rc.mk p m A0 c0 b h0 h1 A1 c1 ps AS cS ss)) HR8.out HGd.out verdef defnum R28.out R29.out (Nat.zero_le _) HQ1.out).mono ?_); rintro e w9 ⟨vD, rfl, hD9, hR9, hg9⟩; have hb9 := (hg9.block g HGN.out.2.2.2 (fun e => HGN.out.2.2.1 (by injection e))).trans BV8.out; have BV9 := Aside0.mk hb9; have hcg : w9.cell? ⟨g, 2, none⟩ = some (.slice none 0 0) := (cell_of_row w9 g 2 _ _ _ hb9).trans rfl; have hfg := blk_frozen hb9 2; obtain ⟨AD, cD, eD⟩ := Kd.R_slice hD9; subst eD; have HD9 := Aside0.mk hD9; have HR9 := Aside0.mk hR9; have HSZ := Aside0.mk hg9.size; clear hb9 hD9 hR9 hg9 k28 k29 k30 k31)
              | ((with_reducible refine gate_store (t := 51) (p := 78) rfl ?_); refine store_event (t := 51) (p := 78) (v := ?vo11) (w1 := (w9.setCell ⟨g, 2, none⟩ (.slice AD d.1.length cD))) ?hg ?ho ?hn ?hr ?_; (case ho => rfl); (case hg => rfl); (case hn => rfl); (case hr => first | (go_simp; done) | (go_simp; rfl)); intro wD ewD; have HRD := Aside0.mk (show Rdr w5 (Rc.mk p m A0 c0 b h0 h1 A1 c1 ps AS cS ss) wD d.2 by rw [ewD]; exact HR9.out.set HGN.out.1 HGN.out.2.1 HGN.out.2.2.1 2 _); have BVD := Aside0.mk (show wD.heap[g]? = some (.cells #[.bool true, .slice none 0 0, .slice AD d.1.length cD, .slice none 0 0] 54 (0, 0)) by rw [ewD]; exact blk_set BV9.out 2 _); have HDD := Aside0.mk (show Kd.R kDf 63 wD w8.heap.size (fun k => k ≠ m) (.slice AD d.1.length cD) d.1 by rw [ewD]; exact R_low HD9.out HGN.out.2.2.2 2 _); have HGD := Aside0.mk (show g < wD.heap.size from lt_of_block BVD.out); have k30 : wD.cell? ⟨g6, 30, none⟩ = some (.int .u64 verneed) := (cell_of_row wD g6 30 _ _ _ ((HRD.out.hw.block _ (lt_of_block c6.out)).trans c6.out)).trans HD.out.c30; have k31 : wD.cell? ⟨g6, 31, none⟩ = some (.int .u64 neednum) := (cell_of_row wD g6 31 _ _ _ ((HRD.out.hw.block _ (lt_of_block c6.out)).trans c6.out)).trans HD.out.c31; clear ewD hcg hfg)
              | (go_at_call 38; (with_reducible refine (needs_err (r := (Rc.mk p m A0 c0 b h0 h1 A1 c1 ps AS cS ss)) HRD.out HGd.out verneed neednum R30.out R31.out (Nat.le_trans HTL.out (by decide)) HQ2.out).mono ?_); rintro e w11 ⟨rfl, hl11, hg11⟩; have hb11 := (hg11.block g HGD.out (fun e => HGN.out.2.2.1 (by injection e))).trans BVD.out; have BV11 := Aside0.mk hb11; have hcg : w11.cell? ⟨g, 3, none⟩ = some (.slice none 0 0) := (cell_of_row w11 g 3 _ _ _ hb11).trans rfl; have hfg := blk_frozen hb11 3; have HLO11 := Aside0.mk hl11; clear hb11 hl11 hg11 k30 k31)
              | ((with_reducible refine gate_store (t := 52) (p := 95) rfl ?_); refine store_event (t := 52) (p := 95) (v := ?vo12) (w1 := (w11.setCell ⟨g, 3, none⟩ (.slice none 0 0))) ?hg ?ho ?hn ?hr ?_; (case ho => rfl); (case hg => rfl); (case hn => rfl); (case hr => first | (go_simp; done) | (go_simp; rfl)); intro wN ewN; have HLON := Aside0.mk (show Below w5.heap.size w5 wN by rw [ewN]; exact Below.setCell HLO11.out (p := ⟨g, 3, none⟩) HGN.out.1 _); clear ewN hcg hfg)
              | ((with_reducible refine gate_store (t := 54) (p := 8) rfl ?_); refine store_row_ev rfl rfl 54 (.tmp 8) (.tmp 98) rfl g8 #[.bool false, .slice none 0 0, .slice none 0 0, .slice none 0 0] rfl rfl 54 _ ((HLON.out.block _ (lt_of_block c8.out)).trans c8.out) (by kernel_rfl) rfl (by kernel_rfl) ?_; intro wz hb hf hk_; have BZ := Aside0.mk hb; have QZ := Aside0.mk (hf _ _ (below_step Q5.out HLON.out) GE8.out); clear hb hf hk_))
            refine bodyPost_ret (v := .tuple #[.agg #[.bool false, .slice none 0 0, .slice none 0 0, .slice none 0 0], .iface 97 (.int .i64 cE)]) (results_list (rs := [.cell 8 54, .tmp 9]) (vs := [.agg #[.bool false, .slice none 0 0, .slice none 0 0, .slice none 0 0], .iface 97 (.int .i64 cE)]) rfl (by simp) (.cell g8 54 #[.bool false, .slice none 0 0, .slice none 0 0, .slice none 0 0] (0, 0) _ rfl BZ.out hu54 rfl info54 (.tmp .nil))) rfl ?_
            refine HP.out _ _ ?_
            rw [← HR3.out]
            exact ReadP.err rfl QZ.out
          | ok nd =>
            rw [hq2] at hres
            simp only at hres
            have HQ2 := Aside0.mk hq2
            obtain ⟨ro, hro⟩ : ∃ y, ofS nd.2 ws n.toNat 0 [] = y := ⟨_, rfl⟩
            rw [hro] at hres
            have HRO := Aside0.mk hro
            have HRES := Aside0.mk hres
            clear hres hro hq2
            go_enter Try.func18, Try.ntmps18
            go_wp2_with (first
              | ((with_reducible refine gate_dst (N := 5) rfl ?_); refine box_event ?hg (N := 5) ?hd (cs := #[.int .i64 h0, .int .u64 h1, .slice A1 ps.length c1]) (t := 32) ?hr ?_; (case hd => rfl); (case hg => rfl); (case hr => first | (go_simp; done) | (go_simp; rfl)); intro g5 eg w1 hb hw; have B5 := Aside0.mk hb; have Q1 := Aside0.mk hw; clear eg hb hw)
              | ((with_reducible refine gate_dst (N := 6) rfl ?_); refine box_event ?hg (N := 6) ?hd (cs := dc) (t := 35) ?hr ?_; (case hd => rfl); (case hg => rfl); (case hr => first | (go_simp; done) | (go_simp; rfl)); intro g6 eg w2 hb hw; have B6 := Aside0.mk hb; have Q2 := Aside0.mk hw; clear eg hb hw)
              | ((with_reducible refine gate_dst (N := 8) rfl ?_); refine box_event ?hg (N := 8) ?hd (cs := #[.bool false, .slice none 0 0, .slice none 0 0, .slice none 0 0]) (t := 54) ?hr ?_; (case hd => rfl); (case hg => rfl); (case hr => first | (go_simp; done) | (go_simp; rfl)); intro g8 eg w3 hb hw; have B8 := Aside0.mk hb; have Q3 := Aside0.mk (below_step (below_step Q1.out Q2.out) hw); have GE8 := Aside0.mk (show w.heap.size ≤ g8 by rw [eg]; exact (below_step Q1.out Q2.out).size); have b5 := Aside0.mk ((hw.block _ (Nat.lt_of_lt_of_le (lt_of_block B5.out) Q2.out.size)).trans ((Q2.out.block _ (lt_of_block B5.out)).trans B5.out)); have b6 := Aside0.mk ((hw.block _ (lt_of_block B6.out)).trans B6.out); have k26 : w3.cell? ⟨g6, 26, none⟩ = some (.int .u64 versym) := (cell_of_row w3 g6 26 _ _ _ b6.out).trans HD.out.c26; clear eg hb hw B5 B6)
              | ((with_reducible refine gate_ (.load 32 (.tmp 5)) rfl ?_); refine wpList_load_row rfl 32 (.tmp 5) rfl g5 rfl 32 _ (0, 0) _ b5.out Try.underlying32 rfl (by rw [info32]; rfl) ?_)
              | ((with_reducible refine gate_ (.load 35 (.tmp 6)) rfl ?_); refine wpList_load_row rfl 35 (.tmp 6) rfl g6 rfl 35 _ (0, 0) _ b6.out Try.underlying35 rfl (by rw [info35, HD.out.size]) ?_)
              | (go_at_call 35; (with_reducible refine (HS.out _ Q3.out).mono ?_); rintro e w4 ⟨vS, rfl, hV, hw⟩; rw [HSE.out] at hV; obtain ⟨AS, cS, eS⟩ := Kd.V_slice hV; subst eS; have HVS := Aside0.mk hV; have Q4 := Aside0.mk (below_step Q3.out hw); have b5_ := Aside0.mk ((hw.block _ (lt_of_block b5.out)).trans b5.out); have b6_ := Aside0.mk ((hw.block _ (lt_of_block b6.out)).trans b6.out); have b8_ := Aside0.mk ((hw.block _ (lt_of_block B8.out)).trans B8.out); have k26_ : w4.cell? ⟨g6, 26, none⟩ = some (.int .u64 versym) := (cell_of_row w4 g6 26 _ _ _ b6_.out).trans HD.out.c26; clear hV hw k26; rw [errOf_none HCS.out, errW_none])
              | ((with_reducible refine gate_ (.load 32 (.tmp 5)) rfl ?_); refine wpList_load_row rfl 32 (.tmp 5) rfl g5 rfl 32 _ (0, 0) _ b5_.out Try.underlying32 rfl (by rw [info32]; rfl) ?_)
              | (go_at_call 36; (with_reducible refine (HL.out versym (2 * n) R26.out (by have := HNP.out; omega) (by have := HNP.out; omega) _ Q4.out).mono ?_); rintro e w5 ⟨vW, rfl, hV, hw⟩; rw [HWE.out] at hV; change Kd.V (Kd.int .u8) 5 w5 w4.heap.size (fun k => w4.heap.size ≤ k) vW ws at hV; obtain ⟨AW, cW, eW⟩ := Kd.V_slice hV; subst eW; have HVW5 := Aside0.mk hV; have Q5 := Aside0.mk (below_step Q4.out hw); have HVS5 := Aside0.mk (Kd.V_below HVS.out hw); have c5 := Aside0.mk ((hw.block _ (lt_of_block b5_.out)).trans b5_.out); have c6 := Aside0.mk ((hw.block _ (lt_of_block b6_.out)).trans b6_.out); have c8 := Aside0.mk ((hw.block _ (lt_of_block b8_.out)).trans b8_.out); clear hV hw k26_; rw [HWE.out, show errW (slcR (some ws)).2 = .nilIface from rfl])
              | ((with_reducible refine gate_ (.load 32 (.tmp 5)) rfl ?_); refine wpList_load_row rfl 32 (.tmp 5) rfl g5 rfl 32 _ (0, 0) _ c5.out Try.underlying32 rfl (by rw [info32]; rfl) ?_)
              | ((with_reducible refine gate_ (.makeMap 102 none) rfl ?_); refine map_event rfl rfl ?_; intro m em w6 ew6; have Q6 := Aside0.mk (show Below w5.heap.size w5 w6 by rw [ew6]; exact below_alloc (Below.refl _ _) _); have HM6 := Aside0.mk (show MapSet w6 m [] by rw [ew6, em]; exact MapSet.made w5); have GM := Aside0.mk (show w5.heap.size ≤ m by rw [em]; exact Nat.le_refl _); clear em ew6)
              | ((with_reducible refine gate_dst (N := 64) rfl ?_); refine box_event ?hg (N := 64) ?hd (cs := #[.slice A0 b.length c0, .int .i64 h0, .int .u64 h1, .slice A1 ps.length c1, .slice AS ss.length cS, .map (some m)]) (t := 104) ?hr ?_; (case hd => rfl); (case hg => rfl); (case hr => first | (go_simp; done) | (go_simp; rfl)); intro p ep w7 hb hw; have Q7 := Aside0.mk (below_step Q6.out hw); have HR7 := Aside0.mk (show Rdr w5 (Rc.mk p m A0 c0 b h0 h1 A1 c1 ps AS cS ss) w7 [] from ⟨Kd.C_below HBC.out.1 Q5.out, HBC.out.2, Kd.C_below HPC.out.1 Q5.out, HPC.out.2, (Kd.V_reads' HVS5.out).2.2, (Kd.V_reads' HVS5.out).2.1, hb, by rw [ep]; exact Q6.out.size, GM.out, below_step Q6.out hw, HM6.out.below hw⟩); have HGd := Aside0.mk (show Gd (Rc.mk p m A0 c0 b h0 h1 A1 c1 ps AS cS ss) from ⟨HB8.out, HBL.out.1, HBL.out.2, HPO.out, HSS.out.1, HSS.out.2⟩); clear ep hb hw)
              | ((with_reducible refine gate_dst (N := 14) rfl ?_); refine box_event2 ?hg (N := 14) ?hd (cs := #[.bool true, .slice none 0 0, .slice none 0 0, .slice none 0 0]) (t := 54) (zs := #[.bool false, .slice none 0 0, .slice none 0 0, .slice none 0 0]) ?hr rfl rfl rfl (fun _ => rfl) (fun _ => rfl) (by kernel_rfl) ?hz (by first | kernel_rfl | rfl) ?_; (case hd => rfl); (case hg => rfl); (case hr => first | (go_simp; done) | (go_simp; rfl)); (case hz => rfl); intro g eg w8 hb hw; have HR8 := Aside0.mk (HR7.out.up hw); have BV8 := Aside0.mk hb; have HGN := Aside0.mk (show w5.heap.size ≤ g ∧ g ≠ p ∧ g ≠ m ∧ g < w8.heap.size from by have h1 := lt_of_block HR7.out.box; have h2 := HR7.out.map.lt; have h3 := HR7.out.hw.size; have h4 := lt_of_block hb; have h1 : p < w7.heap.size := h1; have h2 : m < w7.heap.size := h2; omega); have k28 : w8.cell? ⟨g6, 28, none⟩ = some (.int .u64 verdef) := (cell_of_row w8 g6 28 _ _ _ ((HR8.out.hw.block _ (lt_of_block c6.out)).trans c6.out)).trans HD.out.c28; have k29 : w8.cell? ⟨g6, 29, none⟩ = some (.int .u64 defnum) := (cell_of_row w8 g6 29 _ _ _ ((HR8.out.hw.block _ (lt_of_block c6.out)).trans c6.out)).trans HD.out.c29; have k30 : w8.cell? ⟨g6, 30, none⟩ = some (.int .u64 verneed) := (cell_of_row w8 g6 30 _ _ _ ((HR8.out.hw.block _ (lt_of_block c6.out)).trans c6.out)).trans HD.out.c30; have k31 : w8.cell? ⟨g6, 31, none⟩ = some (.int .u64 neednum) := (cell_of_row w8 g6 31 _ _ _ ((HR8.out.hw.block _ (lt_of_block c6.out)).trans c6.out)).trans HD.out.c31; clear eg hb hw)
              | (go_at_call 37; (with_reducible refine (defs_ok (r := (Rc.mk p m A0 c0 b h0 h1 A1 c1 ps AS cS ss)) HR8.out HGd.out verdef defnum R28.out R29.out (Nat.zero_le _) HQ1.out).mono ?_); rintro e w9 ⟨vD, rfl, hD9, hR9, hg9⟩; have hb9 := (hg9.block g HGN.out.2.2.2 (fun e => HGN.out.2.2.1 (by injection e))).trans BV8.out; have BV9 := Aside0.mk hb9; have hcg : w9.cell? ⟨g, 2, none⟩ = some (.slice none 0 0) := (cell_of_row w9 g 2 _ _ _ hb9).trans rfl; have hfg := blk_frozen hb9 2; obtain ⟨AD, cD, eD⟩ := Kd.R_slice hD9; subst eD; have HD9 := Aside0.mk hD9; have HR9 := Aside0.mk hR9; have HSZ := Aside0.mk hg9.size; clear hb9 hD9 hR9 hg9 k28 k29 k30 k31)
              | ((with_reducible refine gate_store (t := 51) (p := 78) rfl ?_); refine store_event (t := 51) (p := 78) (v := ?vo13) (w1 := (w9.setCell ⟨g, 2, none⟩ (.slice AD d.1.length cD))) ?hg ?ho ?hn ?hr ?_; (case ho => rfl); (case hg => rfl); (case hn => rfl); (case hr => first | (go_simp; done) | (go_simp; rfl)); intro wD ewD; have HRD := Aside0.mk (show Rdr w5 (Rc.mk p m A0 c0 b h0 h1 A1 c1 ps AS cS ss) wD d.2 by rw [ewD]; exact HR9.out.set HGN.out.1 HGN.out.2.1 HGN.out.2.2.1 2 _); have BVD := Aside0.mk (show wD.heap[g]? = some (.cells #[.bool true, .slice none 0 0, .slice AD d.1.length cD, .slice none 0 0] 54 (0, 0)) by rw [ewD]; exact blk_set BV9.out 2 _); have HDD := Aside0.mk (show Kd.R kDf 63 wD w8.heap.size (fun k => k ≠ m) (.slice AD d.1.length cD) d.1 by rw [ewD]; exact R_low HD9.out HGN.out.2.2.2 2 _); have HGD := Aside0.mk (show g < wD.heap.size from lt_of_block BVD.out); have k30 : wD.cell? ⟨g6, 30, none⟩ = some (.int .u64 verneed) := (cell_of_row wD g6 30 _ _ _ ((HRD.out.hw.block _ (lt_of_block c6.out)).trans c6.out)).trans HD.out.c30; have k31 : wD.cell? ⟨g6, 31, none⟩ = some (.int .u64 neednum) := (cell_of_row wD g6 31 _ _ _ ((HRD.out.hw.block _ (lt_of_block c6.out)).trans c6.out)).trans HD.out.c31; clear ewD hcg hfg)
              | (go_at_call 38; (with_reducible refine (needs_ok (r := (Rc.mk p m A0 c0 b h0 h1 A1 c1 ps AS cS ss)) HRD.out HGd.out verneed neednum R30.out R31.out (Nat.le_trans HTL.out (by decide)) HQ2.out).mono ?_); rintro e w11 ⟨vN, rfl, hN11, hR11, hg11⟩; have hb11 := (hg11.block g HGD.out (fun e => HGN.out.2.2.1 (by injection e))).trans BVD.out; have BV11 := Aside0.mk hb11; have hcg : w11.cell? ⟨g, 3, none⟩ = some (.slice none 0 0) := (cell_of_row w11 g 3 _ _ _ hb11).trans rfl; have hfg := blk_frozen hb11 3; obtain ⟨AN, cN, eN⟩ := Kd.R_slice hN11; subst eN; have HN11 := Aside0.mk hN11; have HR11 := Aside0.mk hR11; have HD11 := Aside0.mk (R_grownm HDD.out hg11); clear hb11 hN11 hR11 hg11 k30 k31)
              | ((with_reducible refine gate_store (t := 52) (p := 95) rfl ?_); refine store_event (t := 52) (p := 95) (v := ?vo14) (w1 := (w11.setCell ⟨g, 3, none⟩ (.slice AN nd.1.length cN))) ?hg ?ho ?hn ?hr ?_; (case ho => rfl); (case hg => rfl); (case hn => rfl); (case hr => first | (go_simp; done) | (go_simp; rfl)); intro wN ewN; have HRN := Aside0.mk (show Rdr w5 (Rc.mk p m A0 c0 b h0 h1 A1 c1 ps AS cS ss) wN nd.2 by rw [ewN]; exact HR11.out.set HGN.out.1 HGN.out.2.1 HGN.out.2.2.1 3 _); have BVN := Aside0.mk (show wN.heap[g]? = some (.cells #[.bool true, .slice none 0 0, .slice AD d.1.length cD, .slice AN nd.1.length cN] 54 (0, 0)) by rw [ewN]; exact blk_set BV11.out 3 _); have HDN := Aside0.mk (show Kd.R kDf 63 wN w8.heap.size (fun k => k ≠ m) (.slice AD d.1.length cD) d.1 by rw [ewN]; exact R_low HD11.out HGN.out.2.2.2 3 _); have HNN := Aside0.mk (show Kd.R kNd 66 wN wD.heap.size (fun k => k ≠ m) (.slice AN nd.1.length cN) nd.1 by rw [ewN]; exact R_low HN11.out (HGD.out) 3 _); clear ewN hcg hfg))
            go_loopg [101] n.toNat (fun kq v101 w' => ∃ (i : Int) (acc : List Int) (vO : Value), v101 = .int .i64 i ∧ Aside0 (0 ≤ i ∧ i ≤ n ∧ kq = (n - i).toNat) ∧ Aside0 (ofS nd.2 ws (n - i).toNat i.toNat acc = ro) ∧ Aside0 (w'.heap[g]? = some (.cells #[.bool true, vO, .slice AD d.1.length cD, .slice AN nd.1.length cN] 54 (0, 0)) ∧ Kd.R (Kd.int .i64) 3 w' wN.heap.size (fun _ => True) vO acc ∧ wN.grownBy w' (some g) ∧ acc.length ≤ i.toNat))
            case atStart => exact ⟨0, [], .slice none 0 0, rfl, ⟨by have := HNP.out; omega⟩, ⟨by rw [Int.sub_zero]; exact HRO.out⟩, ⟨BVN.out, Kd.R_nil _ _ _ _ _, grown_refl _ _, by simp⟩⟩
            case round =>
              obtain ⟨i, acc, vO, rfl, HI, HX, HW⟩ := hrel
              obtain ⟨AO, cO, eO⟩ := Kd.R_slice HW.out.2.1
              subst eO
              have HRW := Aside0.mk (HRN.out.but HGN.out.1 HGN.out.2.1 HGN.out.2.2.1 HW.out.2.2.1)
              by_cases c4 : i < n
              · have c4b0 : decide (i < n) = true := decide_eq_true c4
                obtain ⟨k, hk⟩ : ∃ k, (n - i).toNat = k + 1 := ⟨(n - i).toNat - 1, by omega⟩
                have hx := HX.out
                rw [hk, ofS] at hx
                have HK := Aside0.mk hk
                have HC4 := Aside0.mk c4
                clear hk c4 HX
                have hwl := (Kd.V_reads' HVW5.out)
                obtain ⟨AI, cI, hcutI, hnumI⟩ := cut_mid_num rfl hwl.2.2 hwl.2.1 HW8.out (2 * i) (2 * i + 2) (2 * i.toNat) (2 * i.toNat + 2) 2 (by have := HI.out; omega) (by have := HI.out; omega) (by omega) (by have := HI.out; have := HC4.out; have := HWL.out.1; omega) (by omega) (by decide)
                obtain ⟨WD, hWD⟩ : ∃ y, num ((ws.take (2 * i.toNat + 2)).drop (2 * i.toNat)) = y := ⟨_, rfl⟩
                have hwr := num_two (l := (ws.take (2 * i.toNat + 2)).drop (2 * i.toNat)) (fun x hx => HW8.out x (List.mem_of_mem_take (List.mem_of_mem_drop hx))) (by have := HI.out; have := HC4.out; have := HWL.out.1; simp; omega)
                rw [hWD] at hwr hnumI
                simp only [hWD] at hx
                have HWR := Aside0.mk hwr
                have HNUMI := Aside0.mk hnumI
                obtain ⟨XX, hXX⟩ : ∃ y, WD % 32768 = y := ⟨_, rfl⟩
                simp only [hXX] at hx
                have hand : Go.bits BinOp.and IntKind.i64 WD 32767 = XX := by rw [and_i64 WD HWR.out]; exact hXX
                have hc1 : wrap64 WD = WD := w64 _ (by have := HWR.out; omega) (by have := HWR.out; omega)
                have hc2 : IntKind.i64.wrap WD = WD := (i64_w WD).trans hc1
                have h2i : wrap64 (2 * i) = 2 * i := w64 _ (by have := HI.out; omega) (by have := HI.out; have := HNP.out; omega)
                have h2i2 : wrap64 (2 * i + 2) = 2 * i + 2 := w64 _ (by have := HI.out; omega) (by have := HI.out; have := HNP.out; omega)
                have HVI := Aside0.mk (show wrap64 (i + 1) = i + 1 from w64 _ (by have := HI.out; omega) (by have := HI.out; have := HNP.out; omega))
                have HXR := Aside0.mk (show 0 ≤ XX ∧ XX ≤ 32767 by omega)
                have HWF := Aside0.mk (wf_i64 (a := XX) (by have := HXR.out; omega) (by have := HXR.out; omega))
                have HX2 := Aside0.mk hx
                clear hx hwl hnumI hWD hwr hXX
                by_cases cx : XX > 1
                · have cxb : decide (XX > 1) = true := decide_eq_true cx
                  by_cases cm : XX ∈ nd.2
                  · have hx := HX2.out
                    rw [if_neg (fun h => h.2 cm)] at hx
                    have HX3 := Aside0.mk hx
                    have HCM := Aside0.mk cm
                    clear hx HX2 cx cm
                    go_wp2_with (first
                      | (go_at_call 39; (with_reducible refine (HNUMI.out _ HRW.out.hw).mono ?_); rintro e w13 ⟨rfl, hd⟩; have hw_ := below_drawn hd; have HR13 := Aside0.mk (HRW.out.up hw_); have HB13 := Aside0.mk ((hw_.block _ (lt_of_block HW.out.1)).trans HW.out.1); have HO13 := Aside0.mk (Kd.R_below HW.out.2.1 hw_); have HG13 := Aside0.mk (grown_below HW.out.2.2.1 hw_); have k1 : w13.cell? ⟨g, 1, none⟩ = some (.slice AO acc.length cO) := (cell_of_row w13 g 1 _ _ _ HB13.out).trans rfl; have k5 : w13.cell? ⟨p, 5, none⟩ = some (.map (some m)) := HR13.out.c5; have hlook : (Instr.lookup 102 (.map (some m)) (.int .i64 XX) false).run Try.prog w13 = .ok (.bool true) w13 := (look_set HR13.out.map XX HWF.out).trans (by rw [decide_eq_true HCM.out]); clear hd hw_)
                      | ((with_reducible refine gate_builtin (b := .append) (xs := #[.tmp 129, .tmp 131]) rfl ?_); at_builtin; refine Kd.R_append (Kd.int .i64) (w0 := w13) wN.heap.size rfl (.tmp 129) (.tmp 131) 37 3 (.int .i64 0) 8 rfl Try.underlying37 info3 rfl (by decide) (by omega) (.slice AO acc.length cO) acc WD [.int .i64 WD] (fun _ => True) (fun _ => False) rfl rfl ?aP (fun _ hk => hk.elim) ?aF ?aO ?aB ?aS ?aL ?_; (case aP => exact rfl); (case aF => exact fun _ _ => trivial); (case aO => exact HO13.out); (case aB => exact Below.refl _ _); (case aS => exact HG13.out.size); (case aL => have := HW.out.2.2.2; have := HI.out; have := HNP.out; omega); intro v14 w14 ho hb hg hat; obtain ⟨A14, c14, e14⟩ := Kd.R_slice ho; subst e14; have HO14 := Aside0.mk ho; have hne := fun (e : some g = (Value.slice AO acc.length cO).ownBlock) => (show False from by obtain ⟨_, hown⟩ := Kd.R_own HO13.out; have h1 := own_base hown g e.symm; have h2 := lt_of_block BVN.out; omega); have HB14 := Aside0.mk ((hg.block _ (lt_of_block HB13.out) hne).trans HB13.out); have HG14 := Aside0.mk (grown_own HG13.out HO13.out hg); have hcg : w14.cell? ⟨g, 1, none⟩ = some (.slice AO acc.length cO) := (cell_of_row w14 g 1 _ _ _ HB14.out).trans rfl; have hfg := blk_frozen HB14.out 1; clear ho hb hg hat hne k1)
                      | ((with_reducible refine gate_store (t := 37) (p := 133) rfl ?_); refine store_event (t := 37) (p := 133) (v := ?vo15) (w1 := (w14.setCell ⟨g, 1, none⟩ (.slice A14 (acc ++ [WD]).length c14))) ?hg ?ho ?hn ?hr ?_; (case ho => rfl); (case hg => rfl); (case hn => rfl); (case hr => first | (go_simp; done) | (go_simp; rfl)); intro w15 ew; have HB15 := Aside0.mk (show w15.heap[g]? = some (.cells #[.bool true, .slice A14 (acc ++ [WD]).length c14, .slice AD d.1.length cD, .slice AN nd.1.length cN] 54 (0, 0)) by rw [ew]; exact blk_set HB14.out 1 _); have HO15 := Aside0.mk (show Kd.R (Kd.int .i64) 3 w15 wN.heap.size (fun _ => True) (.slice A14 (acc ++ [WD]).length c14) (acc ++ [WD]) by rw [ew]; exact R_low HO14.out (lt_of_block BVN.out) 1 _); have HG15 := Aside0.mk (show wN.grownBy w15 (some g) by rw [ew]; exact ⟨HG14.out.os, HG14.out.tape, HG14.out.output, by simpa [World.setCell] using HG14.out.size, fun k hk hm => (Below.heap_setCell _ _ _ _ (fun e => hm (by rw [e]))).trans (HG14.out.block k hk hm)⟩); clear ew hcg hfg))
                    go_roundg (n - (i + 1)).toNat
                    case measure => have := HI.out; have := HC4.out; omega
                    case rel => exact ⟨i + 1, acc ++ [WD], _, by rw [HVI.out], ⟨by have := HI.out; have := HC4.out; omega⟩, ⟨by rw [show (n - (i + 1)).toNat = k by have := HK.out; omega, show (i + 1).toNat = i.toNat + 1 by have := HI.out; omega]; exact HX3.out⟩, ⟨HB15.out, HO15.out, HG15.out, by have := HW.out.2.2.2; have := HI.out; simp; omega⟩⟩
                  · have hx := HX2.out
                    rw [if_pos ⟨cx, cm⟩] at hx
                    have HX3 := Aside0.mk hx
                    have HCM := Aside0.mk cm
                    clear hx HX2 cx cm
                    go_wp2_with (first
                      | (go_at_call 39; (with_reducible refine (HNUMI.out _ HRW.out.hw).mono ?_); rintro e w13 ⟨rfl, hd⟩; have hw_ := below_drawn hd; have HR13 := Aside0.mk (HRW.out.up hw_); have HB13 := Aside0.mk ((hw_.block _ (lt_of_block HW.out.1)).trans HW.out.1); have HO13 := Aside0.mk (Kd.R_below HW.out.2.1 hw_); have HG13 := Aside0.mk (grown_below HW.out.2.2.1 hw_); have k1 : w13.cell? ⟨g, 1, none⟩ = some (.slice AO acc.length cO) := (cell_of_row w13 g 1 _ _ _ HB13.out).trans rfl; have k5 : w13.cell? ⟨p, 5, none⟩ = some (.map (some m)) := HR13.out.c5; have hlook : (Instr.lookup 102 (.map (some m)) (.int .i64 XX) false).run Try.prog w13 = .ok (.bool false) w13 := (look_set HR13.out.map XX HWF.out).trans (by rw [decide_eq_false HCM.out]); clear hd hw_)
                      | ((with_reducible refine gate_store (t := 54) (p := 8) rfl ?_); refine store_row_ev rfl rfl 54 (.tmp 8) (.tmp 126) rfl g8 #[.bool false, .slice none 0 0, .slice none 0 0, .slice none 0 0] rfl rfl 54 _ ((HR13.out.hw.block _ (lt_of_block c8.out)).trans c8.out) (by kernel_rfl) rfl (by kernel_rfl) ?_; intro wz hb hf hk_; have BZ := Aside0.mk hb; have QZ := Aside0.mk (hf _ _ (below_step Q5.out HR13.out.hw) GE8.out); clear hb hf hk_))
                    refine bodyPost_ret (v := .tuple #[.agg #[.bool false, .slice none 0 0, .slice none 0 0, .slice none 0 0], .iface 97 (.int .i64 3)]) (results_list (rs := [.cell 8 54, .tmp 9]) (vs := [.agg #[.bool false, .slice none 0 0, .slice none 0 0, .slice none 0 0], .iface 97 (.int .i64 3)]) rfl (by simp) (.cell g8 54 #[.bool false, .slice none 0 0, .slice none 0 0, .slice none 0 0] (0, 0) _ rfl BZ.out hu54 rfl info54 (.tmp .nil))) rfl ?_
                    refine HP.out _ _ ?_
                    have hR3 := HRES.out
                    rw [← HX3.out] at hR3
                    have hR4 : (Except.error 3 : Except Int Vs) = res := hR3
                    rw [← hR4]
                    exact ReadP.err rfl QZ.out
                · have cxb : decide (XX > 1) = false := decide_eq_false cx
                  have hx := HX2.out
                  rw [if_neg (fun h => cx h.1)] at hx
                  have HX3 := Aside0.mk hx
                  clear hx HX2 cx
                  go_wp2_with (first
                    | (go_at_call 39; (with_reducible refine (HNUMI.out _ HRW.out.hw).mono ?_); rintro e w13 ⟨rfl, hd⟩; have hw_ := below_drawn hd; have HR13 := Aside0.mk (HRW.out.up hw_); have HB13 := Aside0.mk ((hw_.block _ (lt_of_block HW.out.1)).trans HW.out.1); have HO13 := Aside0.mk (Kd.R_below HW.out.2.1 hw_); have HG13 := Aside0.mk (grown_below HW.out.2.2.1 hw_); have k1 : w13.cell? ⟨g, 1, none⟩ = some (.slice AO acc.length cO) := (cell_of_row w13 g 1 _ _ _ HB13.out).trans rfl; clear hd hw_)
                    | ((with_reducible refine gate_builtin (b := .append) (xs := #[.tmp 129, .tmp 131]) rfl ?_); at_builtin; refine Kd.R_append (Kd.int .i64) (w0 := w13) wN.heap.size rfl (.tmp 129) (.tmp 131) 37 3 (.int .i64 0) 8 rfl Try.underlying37 info3 rfl (by decide) (by omega) (.slice AO acc.length cO) acc WD [.int .i64 WD] (fun _ => True) (fun _ => False) rfl rfl ?aP (fun _ hk => hk.elim) ?aF ?aO ?aB ?aS ?aL ?_; (case aP => exact rfl); (case aF => exact fun _ _ => trivial); (case aO => exact HO13.out); (case aB => exact Below.refl _ _); (case aS => exact HG13.out.size); (case aL => have := HW.out.2.2.2; have := HI.out; have := HNP.out; omega); intro v14 w14 ho hb hg hat; obtain ⟨A14, c14, e14⟩ := Kd.R_slice ho; subst e14; have HO14 := Aside0.mk ho; have hne := fun (e : some g = (Value.slice AO acc.length cO).ownBlock) => (show False from by obtain ⟨_, hown⟩ := Kd.R_own HO13.out; have h1 := own_base hown g e.symm; have h2 := lt_of_block BVN.out; omega); have HB14 := Aside0.mk ((hg.block _ (lt_of_block HB13.out) hne).trans HB13.out); have HG14 := Aside0.mk (grown_own HG13.out HO13.out hg); have hcg : w14.cell? ⟨g, 1, none⟩ = some (.slice AO acc.length cO) := (cell_of_row w14 g 1 _ _ _ HB14.out).trans rfl; have hfg := blk_frozen HB14.out 1; clear ho hb hg hat hne k1)
                    | ((with_reducible refine gate_store (t := 37) (p := 133) rfl ?_); refine store_event (t := 37) (p := 133) (v := ?vo16) (w1 := (w14.setCell ⟨g, 1, none⟩ (.slice A14 (acc ++ [WD]).length c14))) ?hg ?ho ?hn ?hr ?_; (case ho => rfl); (case hg => rfl); (case hn => rfl); (case hr => first | (go_simp; done) | (go_simp; rfl)); intro w15 ew; have HB15 := Aside0.mk (show w15.heap[g]? = some (.cells #[.bool true, .slice A14 (acc ++ [WD]).length c14, .slice AD d.1.length cD, .slice AN nd.1.length cN] 54 (0, 0)) by rw [ew]; exact blk_set HB14.out 1 _); have HO15 := Aside0.mk (show Kd.R (Kd.int .i64) 3 w15 wN.heap.size (fun _ => True) (.slice A14 (acc ++ [WD]).length c14) (acc ++ [WD]) by rw [ew]; exact R_low HO14.out (lt_of_block BVN.out) 1 _); have HG15 := Aside0.mk (show wN.grownBy w15 (some g) by rw [ew]; exact ⟨HG14.out.os, HG14.out.tape, HG14.out.output, by simpa [World.setCell] using HG14.out.size, fun k hk hm => (Below.heap_setCell _ _ _ _ (fun e => hm (by rw [e]))).trans (HG14.out.block k hk hm)⟩); clear ew hcg hfg))
                  go_roundg (n - (i + 1)).toNat
                  case measure => have := HI.out; have := HC4.out; omega
                  case rel => exact ⟨i + 1, acc ++ [WD], _, by rw [HVI.out], ⟨by have := HI.out; have := HC4.out; omega⟩, ⟨by rw [show (n - (i + 1)).toNat = k by have := HK.out; omega, show (i + 1).toNat = i.toNat + 1 by have := HI.out; omega]; exact HX3.out⟩, ⟨HB15.out, HO15.out, HG15.out, by have := HW.out.2.2.2; have := HI.out; simp; omega⟩⟩
              · have c4b0 : decide (i < n) = false := decide_eq_false c4
                have hi : (n - i).toNat = 0 := by omega
                have hx := HX.out
                rw [hi, ofS] at hx
                have hR3 := HRES.out
                rw [← hx] at hR3
                have HR3 := Aside0.mk (show (Except.ok (true, acc, d.1, nd.1) : Except Int Vs) = res from hR3)
                clear hx hi c4 HX hR3
                go_wp2_with (first
                  | ((with_reducible refine gate_ (.load 54 (.tmp 14)) rfl ?_); refine wpList_load_row rfl 54 (.tmp 14) rfl g rfl 54 _ (0, 0) _ HW.out.1 Try.underlying54 rfl (by rw [info54]; rfl) ?_)
                  | ((with_reducible refine gate_store (t := 54) (p := 8) rfl ?_); refine store_row_ev rfl rfl 54 (.tmp 8) (.tmp 135) rfl g8 #[.bool true, .slice AO acc.length cO, .slice AD d.1.length cD, .slice AN nd.1.length cN] rfl rfl 54 _ ((HRW.out.hw.block _ (lt_of_block c8.out)).trans c8.out) (by kernel_rfl) rfl (by kernel_rfl) ?_; intro wz hb hf hk_; have BZ := Aside0.mk hb; have QZ := Aside0.mk (hf _ _ (below_step Q5.out HRW.out.hw) GE8.out); have HKZ := Aside0.mk hk_; clear hb hf hk_))
                refine bodyPost_ret (v := .tuple #[.agg #[.bool true, .slice AO acc.length cO, .slice AD d.1.length cD, .slice AN nd.1.length cN], .nilIface]) (results_list (rs := [.cell 8 54, .tmp 9]) (vs := [.agg #[.bool true, .slice AO acc.length cO, .slice AD d.1.length cD, .slice AN nd.1.length cN], .nilIface]) rfl (by simp) (.cell g8 54 #[.bool true, .slice AO acc.length cO, .slice AD d.1.length cD, .slice AN nd.1.length cN] (0, 0) _ rfl BZ.out hu54 rfl (by rw [info54]; rfl) (.tmp .nil))) rfl ?_
                refine HP.out _ _ ?_
                rw [← HR3.out]
                have hs5 := Q5.out.size
                have hs8 := HR8.out.hw.size
                have hsN := HRN.out.hw.size
                have hg8 := lt_of_block c8.out
                have hNB : w5.heap.size ≤ wD.heap.size := by have := HRD.out.hw.size; omega
                exact ⟨_, _, _, rfl, Kd.R_lower (R_keep8 HW.out.2.1 HKZ.out (by omega)) (by omega), Kd.R_mono (Kd.R_lower (R_keep8 (R_but HDN.out BVN.out (by decide) HW.out.2.2.1) HKZ.out (by omega)) (by omega)) (fun _ _ => trivial), Kd.R_mono (Kd.R_lower (R_keep8 (R_but HNN.out BVN.out (by decide) HW.out.2.2.1) HKZ.out (by omega)) (by omega)) (fun _ _ => trivial), QZ.out⟩
end Go.Proofs.Ythopdoamajjojaa.VersS
