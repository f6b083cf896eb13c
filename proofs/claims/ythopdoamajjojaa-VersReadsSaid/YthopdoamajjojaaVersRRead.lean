import Derived.Test.YthopdoamajjojaaVersRDefs
namespace Go.Proofs.Ythopdoamajjojaa.VersR
open Go Go.RowKit Go.Proofs.Ythopdoamajjojaa.QVers Go.Proofs.Ythopdoamajjojaa.VersSpec Go.Proofs.Ythopdoamajjojaa.VersS Go.Proofs.YthopdoamajjojaaW.PrintWords Go.Proofs.YthopdoamajjojaaW.PrintLast Go.Proofs.YthopdoamajjojaaW.PrintMore
open TextFacts (textS u64_in)
set_option linter.unusedSimpArgs false
set_option linter.unusedVariables false
theorem Ref.but {w0 w w1 : World} {r : Rc} {vT : Value} {T : List Int} {g : Nat} (h : Ref w0 r w vT T) (h0 : w0.heap.size ≤ g) (hp : g ≠ r.p) (hgt : some g ≠ vT.ownBlock) (hg : w.grownBy w1 (some g)) : Ref w0 r w1 vT T :=
  ⟨h.hb, h.lb, h.hp, h.lp, h.hs, h.ls, (hg.block _ h.plt (fun e => hp (by injection e with e; exact e.symm))).trans h.box, h.p0, h.hw.grown hg h.hw.size (fun k e => by injection e with e; omega), Kd.R_mono (Kd.R_grown (Kd.R_tight rfl h.told) hg (fun k hk e => hgt (e.symm.trans hk))) (fun k hk => h.told.1 k hk.symm)⟩
theorem set_grown (w : World) (g j : Nat) (u : Value) : w.grownBy (w.setCell ⟨g, j, none⟩ u) (some g) :=
  ⟨rfl, rfl, rfl, by simp [World.setCell], fun k _ hk => Below.heap_setCell _ _ _ _ (by show k ≠ g; intro e; exact hk (by rw [e]))⟩
def Bx (g5 g6 g8 g10 : Nat) (h0 h1 : Int) (A1 : Option Addr) (n1 c1 : Nat) (dc : Array Value) (w : World) : Prop :=
  w.heap[g5]? = some (.cells #[.int .i64 h0, .int .u64 h1, .slice A1 n1 c1] 32 (0, 0)) ∧ w.heap[g6]? = some (.cells dc 35 (0, 0)) ∧ w.heap[g8]? = some (.cells #[.bool false, .slice none 0 0, .slice none 0 0, .slice none 0 0] 54 (0, 0)) ∧ w.heap[g10]? = some (.cells #[.bool false, .slice none 0 0, .slice none 0 0, .slice none 0 0] 54 (0, 0))
theorem Bx.keep {g5 g6 g8 g10 : Nat} {h0 h1 : Int} {A1 : Option Addr} {n1 c1 : Nat} {dc : Array Value} {w w1 : World} (h : Bx g5 g6 g8 g10 h0 h1 A1 n1 c1 dc w) (hk : ∀ k t cs, w.heap[k]? = some (.cells cs t (0, 0)) → (t = 32 ∨ t = 35 ∨ (t = 54 ∧ (k = g8 ∨ k = g10))) → w1.heap[k]? = w.heap[k]?) : Bx g5 g6 g8 g10 h0 h1 A1 n1 c1 dc w1 :=
  ⟨(hk _ _ _ h.1 (.inl rfl)).trans h.1, (hk _ _ _ h.2.1 (.inr (.inl rfl))).trans h.2.1, (hk _ _ _ h.2.2.1 (.inr (.inr ⟨rfl, .inl rfl⟩))).trans h.2.2.1, (hk _ _ _ h.2.2.2 (.inr (.inr ⟨rfl, .inr rfl⟩))).trans h.2.2.2⟩
theorem Bx.below {g5 g6 g8 g10 : Nat} {h0 h1 : Int} {A1 : Option Addr} {n1 c1 : Nat} {dc : Array Value} {w w1 : World} (h : Bx g5 g6 g8 g10 h0 h1 A1 n1 c1 dc w) (hb : Below w.heap.size w w1) : Bx g5 g6 g8 g10 h0 h1 A1 n1 c1 dc w1 :=
  h.keep (fun k t cs hc _ => hb.block k (lt_of_block hc))
def RStrC (w : World) (A0 : Option Addr) (c0 : Nat) (b : List Int) (h0 h1 : Int) (A1 : Option Addr) (c1 : Nat) (ps : List S29) (dc : Array Value) (tab sz : Int) : Prop :=
  ∀ w1, Below w.heap.size w w1 → Calls Try.prog 40 #[.slice A0 b.length c0, .agg #[.int .i64 h0, .int .u64 h1, .slice A1 ps.length c1], .agg dc] w1 fun e w2 => ∃ v, e = .returned (.tuple #[v, .int .i64 (strS b ps tab sz).2]) ∧ Kd.V (Kd.int .u8) 5 w2 w1.heap.size (fun _ => True) v (strS b ps tab sz).1 ∧ Below w1.heap.size w1 w2
def RSlcC (w : World) (A0 : Option Addr) (c0 : Nat) (b : List Int) (h0 h1 : Int) (A1 : Option Addr) (c1 : Nat) (ps : List S29) : Prop :=
  ∀ (a n : Int), (0 ≤ a ∧ a ≤ 18446744073709551615) → 0 ≤ n → ∀ w1, Below w.heap.size w w1 → Calls Try.prog 41 #[.slice A0 b.length c0, .agg #[.int .i64 h0, .int .u64 h1, .slice A1 ps.length c1], .int .u64 a, .int .u64 n] w1 fun e w2 => ∃ v, e = .returned (.tuple #[v, .int .i64 (VersRefSpec.slcC (slc b ps a n)).2]) ∧ Kd.V (Kd.int .u8) 5 w2 w1.heap.size (fun _ => True) v (VersRefSpec.slcC (slc b ps a n)).1 ∧ Below w1.heap.size w1 w2
theorem V_any {w : World} {b e : Nat} {ok : Nat → Prop} {v : Value} {s : List Int} (h : Kd.V (Kd.int .u8) e w b ok v s) : ∃ A c, v = .slice A s.length c ∧ s.length ≤ c ∧ Kd.C (Kd.int .u8) w A s.length s := by
  obtain ⟨A, c, rfl⟩ := Kd.V_slice h
  obtain ⟨h1, h2, h3⟩ := Kd.V_reads' h
  exact ⟨A, c, rfl, h2, h3⟩
def ReadR (w : World) (res : Except Int Vs) (e : Ending) (w' : World) : Prop :=
  match res with
  | .error c => e = .returned (.tuple #[.agg #[.bool false, .slice none 0 0, .slice none 0 0, .slice none 0 0], .int .i64 c]) ∧ Below w.heap.size w w'
  | .ok x => ∃ v1 v2 v3, e = .returned (.tuple #[.agg #[.bool x.1, v1, v2, v3], .int .i64 0]) ∧ Kd.R (Kd.int .i64) 3 w' w.heap.size (fun _ => True) v1 x.2.1 ∧ Kd.N kDf 63 w' w.heap.size (fun _ => True) v2 x.2.2.1 ∧ Kd.N kNd 66 w' w.heap.size (fun _ => True) v3 x.2.2.2 ∧ Below w.heap.size w w'
theorem ReadR.err {w w' : World} {c : Int} {e : Ending} (he : e = .returned (.tuple #[.agg #[.bool false, .slice none 0 0, .slice none 0 0, .slice none 0 0], .int .i64 c])) (hb : Below w.heap.size w w') : ReadR w (.error c) e w' := ⟨he, hb⟩
theorem rdefs_err {w0 w : World} {r : Rc} {vT : Value} {T : List Int} (h : Ref w0 r w vT T) (G : Gd r) (addr n : Int) (ha : 0 ≤ addr ∧ addr ≤ 18446744073709551615) (hn : 0 ≤ n ∧ n ≤ 18446744073709551615) (hT : T.length ≤ 10000) {c : Int} (hq : defsT r.b r.ps r.ss n addr T = .error c) :
    Calls Try.prog 42 #[.pointer (some ⟨r.p, 0, none⟩), .int .u64 addr, .int .u64 n] w fun e w' => e = .returned (.tuple #[.slice none 0 0, .int .i64 c]) ∧ Below w0.heap.size w0 w' := by
  have h := rdefs_calls h G addr n ha hn hT
  rw [hq] at h
  exact h
theorem rdefs_ok {w0 w : World} {r : Rc} {vT : Value} {T : List Int} (h : Ref w0 r w vT T) (G : Gd r) (addr n : Int) (ha : 0 ≤ addr ∧ addr ≤ 18446744073709551615) (hn : 0 ≤ n ∧ n ≤ 18446744073709551615) (hT : T.length ≤ 10000) {l : List Df × List Int} (hq : defsT r.b r.ps r.ss n addr T = .ok l) :
    Calls Try.prog 42 #[.pointer (some ⟨r.p, 0, none⟩), .int .u64 addr, .int .u64 n] w fun e w' => ∃ v v', e = .returned (.tuple #[v, .int .i64 0]) ∧ Kd.N kDf 63 w' w.heap.size (okN w r.p v') v l.1 ∧ Ref w0 r w' v' l.2 ∧ St w r.p vT w' v' := by
  have h := rdefs_calls h G addr n ha hn hT
  rw [hq] at h
  exact h
theorem rneeds_err {w0 w : World} {r : Rc} {vT : Value} {T : List Int} (h : Ref w0 r w vT T) (G : Gd r) (addr n : Int) (ha : 0 ≤ addr ∧ addr ≤ 18446744073709551615) (hn : 0 ≤ n ∧ n ≤ 18446744073709551615) (hT : T.length ≤ 10000) {c : Int} (hq : needsT r.b r.ps r.ss n addr T = .error c) :
    Calls Try.prog 43 #[.pointer (some ⟨r.p, 0, none⟩), .int .u64 addr, .int .u64 n] w fun e w' => e = .returned (.tuple #[.slice none 0 0, .int .i64 c]) ∧ Below w0.heap.size w0 w' := by
  have h := rneeds_calls h G addr n ha hn hT
  rw [hq] at h
  exact h
theorem rneeds_ok {w0 w : World} {r : Rc} {vT : Value} {T : List Int} (h : Ref w0 r w vT T) (G : Gd r) (addr n : Int) (ha : 0 ≤ addr ∧ addr ≤ 18446744073709551615) (hn : 0 ≤ n ∧ n ≤ 18446744073709551615) (hT : T.length ≤ 10000) {l : List Nd × List Int} (hq : needsT r.b r.ps r.ss n addr T = .ok l) :
    Calls Try.prog 43 #[.pointer (some ⟨r.p, 0, none⟩), .int .u64 addr, .int .u64 n] w fun e w' => ∃ v v', e = .returned (.tuple #[v, .int .i64 0]) ∧ Kd.N kNd 66 w' w.heap.size (okN w r.p v') v l.1 ∧ Ref w0 r w' v' l.2 ∧ St w r.p vT w' v' := by
  have h := rneeds_calls h G addr n ha hn hT
  rw [hq] at h
  exact h
theorem needsS_le {b : List Int} {ps : List S29} {ss : List Int} : ∀ (n : Nat) (a y : Int) (T : List Int) (acc : List Nd) (l : List Nd × List Int), needsS b ps ss n a y T acc = .ok l → l.2.length ≤ T.length + 64 * n
  | 0, _, _, T, acc, l, h => by
    simp only [needsS] at h
    injection h with h
    rw [← h]; exact Nat.le_refl _
  | n + 1, a, y, T, acc, l, h => by
    simp only [needsS] at h
    split at h
    · cases h
    · split at h
      · cases h
      · split at h
        · cases h
        · split at h
          · cases h
          · split at h
            · cases h
            · rename_i hq
              split at h
              · cases h
              · have h1 := needsS_le n _ _ _ _ l h
                have h2 := versionsS_len _ _ _ _ _ _ hq
                omega
theorem needsT_le {b : List Int} {ps : List S29} {ss : List Int} {n a : Int} {T : List Int} {l : List Nd × List Int} (h : needsT b ps ss n a T = .ok l) : l.2.length ≤ T.length + 4096 := by
  unfold needsT at h
  split at h
  · cases h
  · have := needsS_le _ _ _ _ _ _ h
    omega
theorem Bx.st {g5 g6 g8 g10 : Nat} {h0 h1 : Int} {A1 : Option Addr} {n1 c1 : Nat} {dc : Array Value} {w0 w w1 : World} {r : Rc} {vT v1 : Value} {T : List Int} (h : Bx g5 g6 g8 g10 h0 h1 A1 n1 c1 dc w) (hR : Ref w0 r w vT T) (st : St w r.p vT w1 v1) : Bx g5 g6 g8 g10 h0 h1 A1 n1 c1 dc w1 :=
  h.keep (fun k t cs hc ht => st.keep k (lt_of_block hc) (fun e => by
    rw [e, hR.box] at hc
    injection hc with hc
    injection hc with _ h2 _
    rcases ht with h | h | ⟨h, _⟩ <;> (rw [h] at h2; exact absurd h2 (by decide))) (Kd.R_ne hR.told hc (by rcases ht with h | h | ⟨h, _⟩ <;> (rw [h]; decide))))
def rest3 (ws : List Int) (n : Int) (d : List Df) (nd : List Nd × List Int) : Except Int Vs := match ofS nd.2 ws n.toNat 0 [] with | .error c => .error c | .ok l => .ok (true, l, d, nd.1)
def rest2 (b : List Int) (ps : List S29) (ss ws : List Int) (verneed neednum n : Int) (d : List Df × List Int) : Except Int Vs := if verneed = 0 then rest3 ws n d.1 ([], d.2) else match needsT b ps ss neednum verneed d.2 with | .error c => .error c | .ok nd => rest3 ws n d.1 nd
def rest1 (b : List Int) (ps : List S29) (ss ws : List Int) (verdef defnum verneed neednum n : Int) : Except Int Vs := if verdef = 0 then rest2 b ps ss ws verneed neednum n ([], []) else match defsT b ps ss defnum verdef [] with | .error c => .error c | .ok d => rest2 b ps ss ws verneed neednum n d
theorem readV_eq (b : List Int) (ps : List S29) (tab sz versym verdef defnum verneed neednum n : Int) : readV b ps tab sz versym verdef defnum verneed neednum n =
    if n < 0 then .error 1 else if n > 4096 then .error 2 else if versym = 0 then .ok (false, [], [], []) else if (strS b ps tab sz).2 ≠ 0 then .error (strS b ps tab sz).2
    else match slc b ps versym (2 * n) with | none => .error 4 | some ws => rest1 b ps (strS b ps tab sz).1 ws verdef defnum verneed neednum n := by
  unfold readV rest1 rest2 rest3
  split
  · rfl
  · split
    · rfl
    · split
      · rfl
      · split
        · rfl
        · cases slc b ps versym (2 * n) with
          | none => rfl
          | some ws =>
            by_cases h1 : verdef = 0
            · by_cases h2 : verneed = 0
              · simp only [if_pos h1, if_pos h2]; rfl
              · simp only [if_pos h1, if_neg h2]; rfl
            · by_cases h2 : verneed = 0
              · simp only [if_neg h1, if_pos h2]; rfl
              · simp only [if_neg h1, if_neg h2]; rfl
theorem rslc_none {w : World} {A0 : Option Addr} {c0 : Nat} {b : List Int} {h0 h1 : Int} {A1 : Option Addr} {c1 : Nat} {ps : List S29} (hL : RSlcC w A0 c0 b h0 h1 A1 c1 ps) (a n : Int) (ha : 0 ≤ a ∧ a ≤ 18446744073709551615) (hn : 0 ≤ n) (hq : slc b ps a n = none) (w1 : World) (hw : Below w.heap.size w w1) :
    Calls Try.prog 41 #[.slice A0 b.length c0, .agg #[.int .i64 h0, .int .u64 h1, .slice A1 ps.length c1], .int .u64 a, .int .u64 n] w1 fun e w2 => ∃ v, e = .returned (.tuple #[v, .int .i64 4]) ∧ Below w1.heap.size w1 w2 := by
  refine (hL a n ha hn w1 hw).mono ?_
  rintro e w2 ⟨v, rfl, _, h⟩
  exact ⟨v, by rw [hq]; rfl, h⟩
theorem rslc_some {w : World} {A0 : Option Addr} {c0 : Nat} {b : List Int} {h0 h1 : Int} {A1 : Option Addr} {c1 : Nat} {ps : List S29} (hL : RSlcC w A0 c0 b h0 h1 A1 c1 ps) (a n : Int) (ha : 0 ≤ a ∧ a ≤ 18446744073709551615) (hn : 0 ≤ n) {ws : List Int} (hq : slc b ps a n = some ws) (w1 : World) (hw : Below w.heap.size w w1) :
    Calls Try.prog 41 #[.slice A0 b.length c0, .agg #[.int .i64 h0, .int .u64 h1, .slice A1 ps.length c1], .int .u64 a, .int .u64 n] w1 fun e w2 => ∃ A c, e = .returned (.tuple #[.slice A ws.length c, .int .i64 0]) ∧ ws.length ≤ c ∧ Kd.C (Kd.int .u8) w2 A ws.length ws ∧ Below w1.heap.size w1 w2 := by
  refine (hL a n ha hn w1 hw).mono ?_
  rintro e w2 ⟨v, rfl, hV, h⟩
  rw [hq] at hV
  obtain ⟨A, c, rfl, hl, hC⟩ := V_any hV
  exact ⟨A, c, by rw [hq]; rfl, hl, hC, h⟩
theorem Bx.grown {g5 g6 g8 g10 g : Nat} {h0 h1 : Int} {A1 : Option Addr} {n1 c1 : Nat} {dc : Array Value} {w w1 : World} (h : Bx g5 g6 g8 g10 h0 h1 A1 n1 c1 dc w) (hne : g5 < g ∧ g6 < g ∧ g8 < g ∧ g10 < g) (hg : w.grownBy w1 (some g)) : Bx g5 g6 g8 g10 h0 h1 A1 n1 c1 dc w1 :=
  ⟨(hg.block _ (lt_of_block h.1) (fun e => by injection e with e; omega)).trans h.1, (hg.block _ (lt_of_block h.2.1) (fun e => by injection e with e; omega)).trans h.2.1, (hg.block _ (lt_of_block h.2.2.1) (fun e => by injection e with e; omega)).trans h.2.2.1, (hg.block _ (lt_of_block h.2.2.2) (fun e => by injection e with e; omega)).trans h.2.2.2⟩
set_option maxHeartbeats 16000000 in
set_option maxRecDepth 100000 in
theorem rread_calls (w : World) (A0 : Option Addr) (c0 : Nat) (b : List Int) (h0 h1 : Int) (A1 : Option Addr) (c1 : Nat) (ps : List S29) (dc : Array Value) (tab sz versym verdef defnum verneed neednum n : Int)
    (hb : Kd.C (Kd.int .u8) w A0 b.length b) (hcb : b.length ≤ c0) (hp : Kd.C k29 w A1 ps.length ps) (hcp : ps.length ≤ c1) (hd : DynOk dc versym verdef defnum verneed neednum)
    (hS : RStrC w A0 c0 b h0 h1 A1 c1 ps dc tab sz) (hL : RSlcC w A0 c0 b h0 h1 A1 c1 ps) (b8 : ∀ x ∈ b, 0 ≤ x ∧ x ≤ 255) (bl : b.length ≤ 9223372036854775807) (pl : ps.length ≤ 9223372036854775807) (po : ∀ p ∈ ps, okP p)
    (r26 : 0 ≤ versym ∧ versym ≤ 18446744073709551615) (r28 : 0 ≤ verdef ∧ verdef ≤ 18446744073709551615) (r29 : 0 ≤ defnum ∧ defnum ≤ 18446744073709551615) (r30 : 0 ≤ verneed ∧ verneed ≤ 18446744073709551615) (r31 : 0 ≤ neednum ∧ neednum ≤ 18446744073709551615) (rsz : 0 ≤ sz) (hn : -9223372036854775808 ≤ n ∧ n ≤ 9223372036854775807) :
    Calls Try.prog 19 #[.slice A0 b.length c0, .agg #[.int .i64 h0, .int .u64 h1, .slice A1 ps.length c1], .agg dc, .int .i64 n] w (ReadR w (readV b ps tab sz versym verdef defnum verneed neednum n)) := by
  refine calls_aside fun Post HP => ?_
  obtain ⟨res, hres⟩ : ∃ res, readV b ps tab sz versym verdef defnum verneed neednum n = res := ⟨_, rfl⟩
  rw [hres] at HP
  rw [readV_eq] at hres
  unfold RStrC at hS
  obtain ⟨st, hst⟩ : ∃ y, strS b ps tab sz = y := ⟨_, rfl⟩
  have HST := Aside0.mk hst
  simp only [hst] at hS hres
  clear hst
  have HD := Aside0.mk hd
  have HS := Aside0.mk hS
  have HL := Aside0.mk hL
  have HBC := Aside0.mk (And.intro hb hcb)
  have HPC := Aside0.mk (And.intro hp hcp)
  have HB8 := Aside0.mk b8
  have HBL := Aside0.mk (And.intro bl pl)
  have HPO := Aside0.mk po
  have R26 := Aside0.mk r26
  have R28 := Aside0.mk r28
  have R29 := Aside0.mk r29
  have R30 := Aside0.mk r30
  have R31 := Aside0.mk r31
  have RSZ := Aside0.mk rsz
  have HN := Aside0.mk hn
  have HR0 := Aside0.mk hres
  clear hb hcb hp hcp hd hS hL b8 bl pl po r26 r28 r29 r30 r31 rsz hn hres
  have hu32 := Try.underlying32
  have hu35 := Try.underlying35
  have hu54 := Try.underlying54
  have hu24 := Try.underlying24
  have hu37 := Try.underlying37
  have hu115 := Try.underlying115
  go_enter Try.func19, Try.ntmps19
  go_upto_region 2 with (first
    | ((with_reducible refine gate_dst (N := 5) rfl ?_); refine box_event ?hg (N := 5) ?hd (cs := #[.int .i64 h0, .int .u64 h1, .slice A1 ps.length c1]) (t := 32) ?hr ?_; (case hd => rfl); (case hg => rfl); (case hr => first | (go_simp; done) | (go_simp; rfl)); intro g5 eg w1 hb hw; have B5 := Aside0.mk hb; have Q1 := Aside0.mk hw; clear eg hb hw)
    | ((with_reducible refine gate_dst (N := 6) rfl ?_); refine box_event ?hg (N := 6) ?hd (cs := dc) (t := 35) ?hr ?_; (case hd => rfl); (case hg => rfl); (case hr => first | (go_simp; done) | (go_simp; rfl)); intro g6 eg w2 hb hw; have B6 := Aside0.mk hb; have Q2 := Aside0.mk hw; clear eg hb hw)
    | ((with_reducible refine gate_dst (N := 8) rfl ?_); refine box_event ?hg (N := 8) ?hd (cs := #[.bool false, .slice none 0 0, .slice none 0 0, .slice none 0 0]) (t := 54) ?hr ?_; (case hd => rfl); (case hg => rfl); (case hr => first | (go_simp; done) | (go_simp; rfl)); intro g8 eg w3 hb hw; have B8 := Aside0.mk hb; have Q3 := Aside0.mk (below_step (below_step Q1.out Q2.out) hw); have GE8 := Aside0.mk (show w.heap.size ≤ g8 by rw [eg]; exact (below_step Q1.out Q2.out).size); have b5 := Aside0.mk ((hw.block _ (Nat.lt_of_lt_of_le (lt_of_block B5.out) Q2.out.size)).trans ((Q2.out.block _ (lt_of_block B5.out)).trans B5.out)); have b6 := Aside0.mk ((hw.block _ (lt_of_block B6.out)).trans B6.out); clear eg hb hw B5 B6)
    | ((with_reducible refine gate_dst (N := 10) rfl ?_); refine box_event ?hg (N := 10) ?hd (cs := #[.bool false, .slice none 0 0, .slice none 0 0, .slice none 0 0]) (t := 54) ?hr ?_; (case hd => rfl); (case hg => rfl); (case hr => first | (go_simp; done) | (go_simp; rfl)); intro g10 eg w4 hb hw; have B10 := Aside0.mk hb; have GE10 := Aside0.mk (show w3.heap.size ≤ g10 by rw [eg]; exact Nat.le_refl _); have Q4 := Aside0.mk (below_step Q3.out hw); have c5 := Aside0.mk ((hw.block _ (lt_of_block b5.out)).trans b5.out); have c6 := Aside0.mk ((hw.block _ (lt_of_block b6.out)).trans b6.out); have c8 := Aside0.mk ((hw.block _ (lt_of_block B8.out)).trans B8.out); have L8 := Aside0.mk (lt_of_block B8.out); have L5 := Aside0.mk (lt_of_block b5.out); have L6 := Aside0.mk (lt_of_block b6.out); clear eg hb hw b5 b6 B8)
    | ((with_reducible refine gate_store (t := 54) (p := 10) rfl ?_); refine store_row_ev rfl rfl 54 (.tmp 10) (.tmp 25) rfl g10 #[.bool false, .slice none 0 0, .slice none 0 0, .slice none 0 0] rfl rfl 54 _ B10.out (by kernel_rfl) rfl (by kernel_rfl) ?_; intro w5 hb hf hk_; have HX5 := Aside0.mk (show Bx g5 g6 g8 g10 h0 h1 A1 ps.length c1 dc w5 from ⟨(hk_ g5 (by have := L5.out; have := GE10.out; omega)).trans c5.out, (hk_ g6 (by have := L6.out; have := GE10.out; omega)).trans c6.out, (hk_ g8 (by have := L8.out; have := GE10.out; omega)).trans c8.out, hb⟩); have Q5 := Aside0.mk (hf _ _ Q4.out (Nat.le_trans Q3.out.size GE10.out)); clear hb hf hk_ Q1 Q2 Q3 Q4 B10 c5 c6 c8 L8 L5 L6))
  (try simp only [Act.put, List.setIfInBounds_toArray, List.set_cons_zero, List.set_cons_succ])
  have hres := HR0.out
  clear HR0
  have k26 : w5.cell? ⟨g6, 26, none⟩ = some (.int .u64 versym) := (cell_of_row w5 g6 26 _ _ _ HX5.out.2.1).trans HD.out.c26
  by_cases ca : n < 0
  · have cab : decide (n < 0) = true := decide_eq_true ca
    rw [if_pos ca] at hres
    have HR := Aside0.mk hres
    clear hres ca
    go_wp2_with (first
      | ((with_reducible refine gate_ (.load 54 (.tmp 10)) rfl ?_); refine wpList_load_row rfl 54 (.tmp 10) rfl g10 rfl 54 _ (0, 0) _ HX5.out.2.2.2 Try.underlying54 rfl (by rw [info54]; rfl) ?_)
      | ((with_reducible refine gate_store (t := 54) (p := 8) rfl ?_); refine store_row_ev rfl rfl 54 (.tmp 8) (.tmp 29) rfl g8 #[.bool false, .slice none 0 0, .slice none 0 0, .slice none 0 0] rfl rfl 54 _ HX5.out.2.2.1 (by kernel_rfl) rfl (by kernel_rfl) ?_; intro wz hb hf hk_; have BZ := Aside0.mk hb; have QZ := Aside0.mk (hf _ _ Q5.out GE8.out); clear hb hf hk_))
    refine bodyPost_ret (v := .tuple #[.agg #[.bool false, .slice none 0 0, .slice none 0 0, .slice none 0 0], .int .i64 (1)]) (results_list (rs := [.cell 8 54, .tmp 9]) (vs := [.agg #[.bool false, .slice none 0 0, .slice none 0 0, .slice none 0 0], .int .i64 (1)]) rfl (by simp) (.cell g8 54 #[.bool false, .slice none 0 0, .slice none 0 0, .slice none 0 0] (0, 0) _ rfl BZ.out hu54 rfl info54 (.tmp .nil))) rfl ?_
    refine HP.out _ _ ?_
    rw [← HR.out]
    exact ReadR.err rfl QZ.out
  have cab : decide (n < 0) = false := decide_eq_false ca
  rw [if_neg ca] at hres
  by_cases cb : n > 4096
  · have cbb : decide (4096 < n) = true := decide_eq_true cb
    rw [if_pos cb] at hres
    have HR := Aside0.mk hres
    clear hres ca cb
    go_wp2_with (first
      | ((with_reducible refine gate_ (.load 54 (.tmp 10)) rfl ?_); refine wpList_load_row rfl 54 (.tmp 10) rfl g10 rfl 54 _ (0, 0) _ HX5.out.2.2.2 Try.underlying54 rfl (by rw [info54]; rfl) ?_)
      | ((with_reducible refine gate_store (t := 54) (p := 8) rfl ?_); refine store_row_ev rfl rfl 54 (.tmp 8) (.tmp 33) rfl g8 #[.bool false, .slice none 0 0, .slice none 0 0, .slice none 0 0] rfl rfl 54 _ HX5.out.2.2.1 (by kernel_rfl) rfl (by kernel_rfl) ?_; intro wz hb hf hk_; have BZ := Aside0.mk hb; have QZ := Aside0.mk (hf _ _ Q5.out GE8.out); clear hb hf hk_))
    refine bodyPost_ret (v := .tuple #[.agg #[.bool false, .slice none 0 0, .slice none 0 0, .slice none 0 0], .int .i64 (2)]) (results_list (rs := [.cell 8 54, .tmp 9]) (vs := [.agg #[.bool false, .slice none 0 0, .slice none 0 0, .slice none 0 0], .int .i64 (2)]) rfl (by simp) (.cell g8 54 #[.bool false, .slice none 0 0, .slice none 0 0, .slice none 0 0] (0, 0) _ rfl BZ.out hu54 rfl info54 (.tmp .nil))) rfl ?_
    refine HP.out _ _ ?_
    rw [← HR.out]
    exact ReadR.err rfl QZ.out
  have cbb : decide (4096 < n) = false := decide_eq_false cb
  rw [if_neg cb] at hres
  have HNP := Aside0.mk (show 0 ≤ n ∧ n ≤ 4096 by omega)
  clear ca cb
  by_cases cc : versym = 0
  · have ccb : (versym == 0) = true := beq_t cc
    rw [if_pos cc] at hres
    have HR := Aside0.mk hres
    clear hres cc
    go_wp2_with (first
      | ((with_reducible refine gate_ (.load 54 (.tmp 10)) rfl ?_); refine wpList_load_row rfl 54 (.tmp 10) rfl g10 rfl 54 _ (0, 0) _ HX5.out.2.2.2 Try.underlying54 rfl (by rw [info54]; rfl) ?_)
      | ((with_reducible refine gate_store (t := 54) (p := 8) rfl ?_); refine store_row_ev rfl rfl 54 (.tmp 8) (.tmp 38) rfl g8 #[.bool false, .slice none 0 0, .slice none 0 0, .slice none 0 0] rfl rfl 54 _ HX5.out.2.2.1 (by kernel_rfl) rfl (by kernel_rfl) ?_; intro wz hb hf hk_; have BZ := Aside0.mk hb; have QZ := Aside0.mk (hf _ _ Q5.out GE8.out); clear hb hf hk_))
    refine bodyPost_ret (v := .tuple #[.agg #[.bool false, .slice none 0 0, .slice none 0 0, .slice none 0 0], .int .i64 (0)]) (results_list (rs := [.cell 8 54, .tmp 9]) (vs := [.agg #[.bool false, .slice none 0 0, .slice none 0 0, .slice none 0 0], .int .i64 (0)]) rfl (by simp) (.cell g8 54 #[.bool false, .slice none 0 0, .slice none 0 0, .slice none 0 0] (0, 0) _ rfl BZ.out hu54 rfl info54 (.tmp .nil))) rfl ?_
    refine HP.out _ _ ?_
    rw [← HR.out]
    exact ⟨_, _, _, rfl, Kd.R_nil _ _ _ _ _, Kd.N_nil _ _ _ _ _, Kd.N_nil _ _ _ _ _, QZ.out⟩
  have ccb : (versym == 0) = false := beq_f cc
  rw [if_neg cc] at hres
  have HR1 := Aside0.mk hres
  clear hres cc
  have hn2 : wrap64 (2 * n) = 2 * n := VersSpec.w64 _ (by have := HNP.out; omega) (by have := HNP.out; omega)
  have hn3 : IntKind.u64.wrap (2 * n) = 2 * n := u64_in (2 * n) (by have := HNP.out; omega) (by have := HNP.out; omega)
  go_upto_region 9 with (first
    | ((with_reducible refine gate_ (.load 32 (.tmp 5)) rfl ?_); refine wpList_load_row rfl 32 (.tmp 5) rfl g5 rfl 32 _ (0, 0) _ HX5.out.1 Try.underlying32 rfl (by rw [info32]; rfl) ?_)
    | ((with_reducible refine gate_ (.load 35 (.tmp 6)) rfl ?_); refine wpList_load_row rfl 35 (.tmp 6) rfl g6 rfl 35 _ (0, 0) _ HX5.out.2.1 Try.underlying35 rfl (by rw [info35, HD.out.size]) ?_)
    | (go_at_call 40; (with_reducible refine (HS.out _ Q5.out).mono ?_); rintro e w6 ⟨vS, rfl, hV, hw⟩; obtain ⟨AS, cS, rfl, lS, hCS⟩ := V_any hV; have HCS := Aside0.mk (And.intro lS hCS); have HX6 := Aside0.mk (HX5.out.below hw); have Q6 := Aside0.mk (below_step Q5.out hw); clear hV hw lS hCS k26))
  (try simp only [Act.put, List.setIfInBounds_toArray, List.set_cons_zero, List.set_cons_succ])
  have hres := HR1.out
  clear HR1
  have k26 : w6.cell? ⟨g6, 26, none⟩ = some (.int .u64 versym) := (cell_of_row w6 g6 26 _ _ _ HX6.out.2.1).trans HD.out.c26
  by_cases cs : st.2 = 0
  case neg =>
    have csb : (st.2 != 0) = true := ne_t cs
    rw [if_pos cs] at hres
    have HR := Aside0.mk hres
    clear hres cs
    go_wp2_with (first
      | ((with_reducible refine gate_ (.load 54 (.tmp 10)) rfl ?_); refine wpList_load_row rfl 54 (.tmp 10) rfl g10 rfl 54 _ (0, 0) _ HX6.out.2.2.2 Try.underlying54 rfl (by rw [info54]; rfl) ?_)
      | ((with_reducible refine gate_store (t := 54) (p := 8) rfl ?_); refine store_row_ev rfl rfl 54 (.tmp 8) (.tmp 48) rfl g8 #[.bool false, .slice none 0 0, .slice none 0 0, .slice none 0 0] rfl rfl 54 _ HX6.out.2.2.1 (by kernel_rfl) rfl (by kernel_rfl) ?_; intro wz hb hf hk_; have BZ := Aside0.mk hb; have QZ := Aside0.mk (hf _ _ Q6.out GE8.out); clear hb hf hk_))
    refine bodyPost_ret (v := .tuple #[.agg #[.bool false, .slice none 0 0, .slice none 0 0, .slice none 0 0], .int .i64 (st.2)]) (results_list (rs := [.cell 8 54, .tmp 9]) (vs := [.agg #[.bool false, .slice none 0 0, .slice none 0 0, .slice none 0 0], .int .i64 (st.2)]) rfl (by simp) (.cell g8 54 #[.bool false, .slice none 0 0, .slice none 0 0, .slice none 0 0] (0, 0) _ rfl BZ.out hu54 rfl info54 (.tmp .nil))) rfl ?_
    refine HP.out _ _ ?_
    rw [← HR.out]
    exact ReadR.err rfl QZ.out
  have csb : (st.2 != 0) = false := ne_f cs
  rw [if_neg (fun h => h cs)] at hres
  have hss := strS_ok (show (strS b ps tab sz).2 = 0 by rw [HST.out]; exact cs)
  rw [HST.out] at hss
  have HSS := Aside0.mk (show (∀ x ∈ st.1, 0 ≤ x ∧ x ≤ 255) ∧ st.1.length ≤ 140737488351232 from by
    have h := slc_len HPO.out RSZ.out hss.1
    exact ⟨fun x hx => HB8.out x (h.2.2 x hx), by have := hss.2.2; omega⟩)
  clear cs hss
  cases hw_ : slc b ps versym (2 * n) with
  | none =>
    rw [hw_] at hres
    have HR := Aside0.mk (show (Except.error 4 : Except Int Vs) = res from hres)
    have HWE := Aside0.mk hw_
    clear hres hw_
    go_wp2_with (first
      | ((with_reducible refine gate_ (.load 32 (.tmp 5)) rfl ?_); refine wpList_load_row rfl 32 (.tmp 5) rfl g5 rfl 32 _ (0, 0) _ HX6.out.1 Try.underlying32 rfl (by rw [info32]; rfl) ?_)
      | (go_at_call 41; (with_reducible refine (rslc_none HL.out versym (2 * n) R26.out (by have := HNP.out; omega) HWE.out _ Q6.out).mono ?_); rintro e w7 ⟨vW, rfl, hw⟩; have HX7 := Aside0.mk (HX6.out.below hw); have Q7 := Aside0.mk (below_step Q6.out hw); clear hw)
      | ((with_reducible refine gate_ (.load 54 (.tmp 10)) rfl ?_); refine wpList_load_row rfl 54 (.tmp 10) rfl g10 rfl 54 _ (0, 0) _ HX7.out.2.2.2 Try.underlying54 rfl (by rw [info54]; rfl) ?_)
      | ((with_reducible refine gate_store (t := 54) (p := 8) rfl ?_); refine store_row_ev rfl rfl 54 (.tmp 8) (.tmp 63) rfl g8 #[.bool false, .slice none 0 0, .slice none 0 0, .slice none 0 0] rfl rfl 54 _ HX7.out.2.2.1 (by kernel_rfl) rfl (by kernel_rfl) ?_; intro wz hb hf hk_; have BZ := Aside0.mk hb; have QZ := Aside0.mk (hf _ _ Q7.out GE8.out); clear hb hf hk_))
    refine bodyPost_ret (v := .tuple #[.agg #[.bool false, .slice none 0 0, .slice none 0 0, .slice none 0 0], .int .i64 (4)]) (results_list (rs := [.cell 8 54, .tmp 9]) (vs := [.agg #[.bool false, .slice none 0 0, .slice none 0 0, .slice none 0 0], .int .i64 (4)]) rfl (by simp) (.cell g8 54 #[.bool false, .slice none 0 0, .slice none 0 0, .slice none 0 0] (0, 0) _ rfl BZ.out hu54 rfl info54 (.tmp .nil))) rfl ?_
    refine HP.out _ _ ?_
    rw [← HR.out]
    exact ReadR.err rfl QZ.out
  | some ws =>
    rw [hw_] at hres
    simp only at hres
    have HWE := Aside0.mk hw_
    have HWL := Aside0.mk (slc_len HPO.out (by have := HNP.out; omega) hw_)
    have HR1 := Aside0.mk hres
    have HW8 := Aside0.mk (fun x hx => HB8.out x (HWL.out.2.2 x hx))
    clear hres hw_
    go_upto_region 16 with (first
      | ((with_reducible refine gate_ (.load 32 (.tmp 5)) rfl ?_); refine wpList_load_row rfl 32 (.tmp 5) rfl g5 rfl 32 _ (0, 0) _ HX6.out.1 Try.underlying32 rfl (by rw [info32]; rfl) ?_)
      | (go_at_call 41; (with_reducible refine (rslc_some HL.out versym (2 * n) R26.out (by have := HNP.out; omega) HWE.out _ Q6.out).mono ?_); rintro e w7 ⟨AW, cW, rfl, lW, hCW, hw⟩; have HX7 := Aside0.mk (HX6.out.below hw); have Q7 := Aside0.mk (below_step Q6.out hw); have HCW := Aside0.mk (And.intro lW hCW); have HCS7 := Aside0.mk (And.intro HCS.out.1 (Kd.C_below HCS.out.2 hw)); clear hw lW hCW k26)
      | ((with_reducible refine gate_ (.load 32 (.tmp 5)) rfl ?_); refine wpList_load_row rfl 32 (.tmp 5) rfl g5 rfl 32 _ (0, 0) _ HX7.out.1 Try.underlying32 rfl (by rw [info32]; rfl) ?_)
      | ((with_reducible refine gate_dst (N := 69) rfl ?_); refine box_event ?hg (N := 69) ?hd (cs := #[.slice A0 b.length c0, .int .i64 h0, .int .u64 h1, .slice A1 ps.length c1, .slice AS st.1.length cS, .slice none 0 0]) (t := 115) ?hr ?_; (case hd => rfl); (case hg => rfl); (case hr => first | (go_simp; done) | (go_simp; rfl)); intro g15 eg w8 hb hw; have B15 := Aside0.mk hb; have G15 := Aside0.mk (show w7.heap.size ≤ g15 by rw [eg]; exact Nat.le_refl _); have Q8 := Aside0.mk hw; clear eg hb hw)
      | ((with_reducible refine gate_dst (N := 16) rfl ?_); refine box_event ?hg (N := 16) ?hd (cs := #[.bool false, .slice none 0 0, .slice none 0 0, .slice none 0 0]) (t := 54) ?hr ?_; (case hd => rfl); (case hg => rfl); (case hr => first | (go_simp; done) | (go_simp; rfl)); intro g16 eg w9 hb hw; have B16 := Aside0.mk hb; have G16 := Aside0.mk (show w8.heap.size ≤ g16 by rw [eg]; exact Nat.le_refl _); have b15 := Aside0.mk ((hw.block _ (lt_of_block B15.out)).trans B15.out); have L15 := Aside0.mk (lt_of_block B15.out); have Q9 := Aside0.mk (below_step Q8.out hw); clear eg hb hw B15)
      | ((with_reducible refine gate_store (t := 54) (p := 16) rfl ?_); refine store_row_ev rfl rfl 54 (.tmp 16) (.tmp 70) rfl g16 #[.bool true, .slice none 0 0, .slice none 0 0, .slice none 0 0] rfl rfl 54 _ B16.out (by kernel_rfl) rfl (by kernel_rfl) ?_; intro w10 hb hf hk_; have BV := Aside0.mk hb; have hN : g15 ≠ g16 := (by have := L15.out; have := G16.out; omega); have Q10 := Aside0.mk (hf _ _ Q9.out (Nat.le_trans Q8.out.size G16.out)); have b15_ := Aside0.mk ((hk_ g15 hN).trans b15.out); have HNE := Aside0.mk hN; clear hb hf hk_ hN b15 B16))
    (try simp only [Act.put, List.setIfInBounds_toArray, List.set_cons_zero, List.set_cons_succ])
    have HR10 := Aside0.mk (show Ref w7 (Rc.mk g15 0 A0 c0 b h0 h1 A1 c1 ps AS cS st.1) w10 (.slice none 0 0) [] from ⟨Kd.C_below HBC.out.1 Q7.out, HBC.out.2, Kd.C_below HPC.out.1 Q7.out, HPC.out.2, HCS7.out.2, HCS7.out.1, b15_.out, G15.out, Q10.out, Kd.R_nil _ _ _ _ _⟩)
    have HG := Aside0.mk (show Gd (Rc.mk g15 0 A0 c0 b h0 h1 A1 c1 ps AS cS st.1) from ⟨HB8.out, HBL.out.1, HBL.out.2, HPO.out, HSS.out.1, HSS.out.2⟩)
    have HX10 := Aside0.mk (HX7.out.below Q10.out)
    have GV := Aside0.mk (show w7.heap.size ≤ g16 from Nat.le_trans Q8.out.size G16.out)
    have GL := Aside0.mk (show g16 < w10.heap.size from lt_of_block BV.out)
    have GB := Aside0.mk (show g5 < g16 ∧ g6 < g16 ∧ g8 < g16 ∧ g10 < g16 from ⟨Nat.lt_of_lt_of_le (lt_of_block HX7.out.1) GV.out, Nat.lt_of_lt_of_le (lt_of_block HX7.out.2.1) GV.out, Nat.lt_of_lt_of_le (lt_of_block HX7.out.2.2.1) GV.out, Nat.lt_of_lt_of_le (lt_of_block HX7.out.2.2.2) GV.out⟩)
    clear HS HX6 HX5 Q5 Q6 HCS HCS7 HST b15_ Q9 G16 L15 Q8
    have k28 : w10.cell? ⟨g6, 28, none⟩ = some (.int .u64 verdef) := (cell_of_row w10 g6 28 _ _ _ HX10.out.2.1).trans HD.out.c28
    have k29 : w10.cell? ⟨g6, 29, none⟩ = some (.int .u64 defnum) := (cell_of_row w10 g6 29 _ _ _ HX10.out.2.1).trans HD.out.c29
    go_upto_if 73 with (fail)
    go_cut [17, 18, 73] (fun v17 v18 v73 wc => ∃ (vT vD : Value) (d : List Df × List Int), Aside0 (rest2 b ps st.1 ws verneed neednum n d = res) ∧ Aside0 (Ref w7 (Rc.mk g15 0 A0 c0 b h0 h1 A1 c1 ps AS cS st.1) wc vT d.2 ∧ wc.heap[g16]? = some (.cells #[.bool true, .slice none 0 0, vD, .slice none 0 0] 54 (0, 0)) ∧ Kd.N kDf 63 wc w10.heap.size (okN w10 g15 vT) vD d.1 ∧ Bx g5 g6 g8 g10 h0 h1 A1 ps.length c1 dc wc ∧ d.2.length ≤ 64 ∧ w10.heap.size ≤ wc.heap.size))
    case first =>
      have hres := HR1.out
      clear HR1
      by_cases cd : verdef = 0
      · have cdb : (verdef != 0) = false := ne_f cd
        rw [rest1, if_pos cd] at hres
        have HRS := Aside0.mk hres
        clear hres cd
        go_wp2
        go_meet
        case rel => exact ⟨.slice none 0 0, .slice none 0 0, ([], []), HRS, ⟨HR10.out, BV.out, Kd.N_nil _ _ _ _ _, HX10.out, by simp, Nat.le_refl _⟩⟩
      · have cdb : (verdef != 0) = true := ne_t cd
        rw [rest1, if_neg cd] at hres
        cases hq : defsT b ps st.1 defnum verdef [] with
        | error c =>
          rw [hq] at hres
          have HR := Aside0.mk (show (Except.error c : Except Int Vs) = res from hres)
          have HQ := Aside0.mk hq
          have hce : (c != 0) = true := ne_t (defsT_ne hq)
          clear hres hq cd
          go_wp2_with (first
            | (go_at_call 42; (with_reducible refine (rdefs_err (r := (Rc.mk g15 0 A0 c0 b h0 h1 A1 c1 ps AS cS st.1)) HR10.out HG.out verdef defnum R28.out R29.out (by simp) HQ.out).mono ?_); rintro e w11 ⟨rfl, hw⟩; have HX11 := Aside0.mk (HX7.out.below hw); have Q11 := Aside0.mk (below_step Q7.out hw); clear hw)
            | ((with_reducible refine gate_ (.load 54 (.tmp 10)) rfl ?_); refine wpList_load_row rfl 54 (.tmp 10) rfl g10 rfl 54 _ (0, 0) _ HX11.out.2.2.2 Try.underlying54 rfl (by rw [info54]; rfl) ?_)
            | ((with_reducible refine gate_store (t := 54) (p := 8) rfl ?_); refine store_row_ev rfl rfl 54 (.tmp 8) (.tmp 85) rfl g8 #[.bool false, .slice none 0 0, .slice none 0 0, .slice none 0 0] rfl rfl 54 _ HX11.out.2.2.1 (by kernel_rfl) rfl (by kernel_rfl) ?_; intro wz hb hf hk_; have BZ := Aside0.mk hb; have QZ := Aside0.mk (hf _ _ Q11.out GE8.out); clear hb hf hk_))
          refine bodyPost_ret (v := .tuple #[.agg #[.bool false, .slice none 0 0, .slice none 0 0, .slice none 0 0], .int .i64 (c)]) (results_list (rs := [.cell 8 54, .tmp 9]) (vs := [.agg #[.bool false, .slice none 0 0, .slice none 0 0, .slice none 0 0], .int .i64 (c)]) rfl (by simp) (.cell g8 54 #[.bool false, .slice none 0 0, .slice none 0 0, .slice none 0 0] (0, 0) _ rfl BZ.out hu54 rfl info54 (.tmp .nil))) rfl ?_
          refine HP.out _ _ ?_
          rw [← HR.out]
          exact ReadR.err rfl QZ.out
        | ok d =>
          rw [hq] at hres
          simp only at hres
          have HRS := Aside0.mk hres
          have HQ := Aside0.mk hq
          clear hres hq cd
          go_wp2_with (first
            | (go_at_call 42; (with_reducible refine (rdefs_ok (r := (Rc.mk g15 0 A0 c0 b h0 h1 A1 c1 ps AS cS st.1)) HR10.out HG.out verdef defnum R28.out R29.out (by simp) HQ.out).mono ?_); rintro e w11 ⟨vD, vT, rfl, hN, hR, hs⟩; obtain ⟨AD, cD, eD⟩ := Kd.N_slice hN; subst eD; have HN11 := Aside0.mk hN; have HR11 := Aside0.mk hR; have HX11 := Aside0.mk (HX10.out.st HR10.out hs); have HZ11 := Aside0.mk hs.size; have hbv := (hs.keep g16 GL.out (fun e => HNE.out e.symm) (Kd.R_ne HR10.out.told BV.out (by decide))).trans BV.out; have BV11 := Aside0.mk hbv; have hcg : w11.cell? ⟨g16, 2, none⟩ = some (.slice none 0 0) := (cell_of_row w11 g16 2 _ _ _ hbv).trans rfl; have hfg := blk_frozen hbv 2; clear hN hR hs hbv)
            | ((with_reducible refine gate_store (t := 51) (p := 88) rfl ?_); refine store_event (t := 51) (p := 88) (v := ?vo1) (w1 := (w11.setCell ⟨g16, 2, none⟩ (.slice AD d.1.length cD))) ?hg1 ?ho1 ?hn1 ?hr1 ?_; (case ho1 => rfl); (case hg1 => rfl); (case hn1 => rfl); (case hr1 => first | (go_simp; done) | (go_simp; rfl)); intro w12 hw12; have hgr : w11.grownBy w12 (some g16) := (by rw [hw12]; exact set_grown _ _ _ _); have HR12 := Aside0.mk (HR11.out.but GV.out (fun e => HNE.out e.symm) (Kd.R_ne HR11.out.told BV11.out (by decide)) hgr); have HX12 := Aside0.mk (HX11.out.grown GB.out hgr); have HN12 := Aside0.mk (Kd.N_grown HN11.out hgr (fun k hk e => by injection e with e; have := hk.2; have := GL.out; omega)); have BV12 := Aside0.mk (show w12.heap[g16]? = some (.cells #[.bool true, .slice none 0 0, .slice AD d.1.length cD, .slice none 0 0] 54 (0, 0)) by rw [hw12]; exact blk_set BV11.out 2 _); have HZ12 := Aside0.mk (Nat.le_trans HZ11.out hgr.size); clear hw12 hgr hcg hfg))
          go_meet
          case rel => exact ⟨vT, .slice AD d.1.length cD, d, HRS, ⟨HR12.out, BV12.out, HN12.out, HX12.out, defsT_len HQ.out, HZ12.out⟩⟩
    case rest =>
      obtain ⟨vT, vD, d, HR2, HC⟩ := hcut
      clear HR1
      rename World => w13
      have k30 : w13.cell? ⟨g6, 30, none⟩ = some (.int .u64 verneed) := (cell_of_row w13 g6 30 _ _ _ HC.out.2.2.2.1.2.1).trans HD.out.c30
      have k31 : w13.cell? ⟨g6, 31, none⟩ = some (.int .u64 neednum) := (cell_of_row w13 g6 31 _ _ _ HC.out.2.2.2.1.2.1).trans HD.out.c31
      go_upto_if 91 with (fail)
      go_cut [19, 20, 91] (fun v19 v20 v91 wc => ∃ (vT2 vN : Value) (nd : List Nd × List Int), Aside0 (rest3 ws n d.1 nd = res) ∧ Aside0 (Ref w7 (Rc.mk g15 0 A0 c0 b h0 h1 A1 c1 ps AS cS st.1) wc vT2 nd.2 ∧ wc.heap[g16]? = some (.cells #[.bool true, .slice none 0 0, vD, vN] 54 (0, 0)) ∧ Kd.N kDf 63 wc w10.heap.size (okN w10 g15 vT2) vD d.1 ∧ Kd.N kNd 66 wc w10.heap.size (okN w10 g15 vT2) vN nd.1 ∧ Bx g5 g6 g8 g10 h0 h1 A1 ps.length c1 dc wc ∧ nd.2.length ≤ 10000 ∧ w10.heap.size ≤ wc.heap.size))
      case first =>
        have hres := HR2.out
        clear HR2
        obtain ⟨AD, cD, eD⟩ := Kd.N_slice HC.out.2.2.1
        subst eD
        by_cases ce : verneed = 0
        · have ceb : (verneed != 0) = false := ne_f ce
          rw [rest2, if_pos ce] at hres
          have HRS := Aside0.mk hres
          clear hres ce
          go_wp2
          go_meet
          case rel => exact ⟨vT, .slice none 0 0, ([], d.2), HRS, ⟨HC.out.1, HC.out.2.1, HC.out.2.2.1, Kd.N_nil _ _ _ _ _, HC.out.2.2.2.1, by have := HC.out.2.2.2.2.1; simp; omega, HC.out.2.2.2.2.2⟩⟩
        · have ceb : (verneed != 0) = true := ne_t ce
          rw [rest2, if_neg ce] at hres
          cases hq : needsT b ps st.1 neednum verneed d.2 with
          | error c =>
            rw [hq] at hres
            have HR := Aside0.mk (show (Except.error c : Except Int Vs) = res from hres)
            have HQ := Aside0.mk hq
            have hce : (c != 0) = true := ne_t (needsT_ne hq)
            clear hres hq ce
            go_wp2_with (first
              | (go_at_call 43; (with_reducible refine (rneeds_err (r := (Rc.mk g15 0 A0 c0 b h0 h1 A1 c1 ps AS cS st.1)) HC.out.1 HG.out verneed neednum R30.out R31.out (by have := HC.out.2.2.2.2.1; omega) HQ.out).mono ?_); rintro e w14 ⟨rfl, hw⟩; have HX14 := Aside0.mk (HX7.out.below hw); have Q14 := Aside0.mk (below_step Q7.out hw); clear hw)
              | ((with_reducible refine gate_ (.load 54 (.tmp 10)) rfl ?_); refine wpList_load_row rfl 54 (.tmp 10) rfl g10 rfl 54 _ (0, 0) _ HX14.out.2.2.2 Try.underlying54 rfl (by rw [info54]; rfl) ?_)
              | ((with_reducible refine gate_store (t := 54) (p := 8) rfl ?_); refine store_row_ev rfl rfl 54 (.tmp 8) (.tmp 103) rfl g8 #[.bool false, .slice none 0 0, .slice none 0 0, .slice none 0 0] rfl rfl 54 _ HX14.out.2.2.1 (by kernel_rfl) rfl (by kernel_rfl) ?_; intro wz hb hf hk_; have BZ := Aside0.mk hb; have QZ := Aside0.mk (hf _ _ Q14.out GE8.out); clear hb hf hk_))
            refine bodyPost_ret (v := .tuple #[.agg #[.bool false, .slice none 0 0, .slice none 0 0, .slice none 0 0], .int .i64 (c)]) (results_list (rs := [.cell 8 54, .tmp 9]) (vs := [.agg #[.bool false, .slice none 0 0, .slice none 0 0, .slice none 0 0], .int .i64 (c)]) rfl (by simp) (.cell g8 54 #[.bool false, .slice none 0 0, .slice none 0 0, .slice none 0 0] (0, 0) _ rfl BZ.out hu54 rfl info54 (.tmp .nil))) rfl ?_
            refine HP.out _ _ ?_
            rw [← HR.out]
            exact ReadR.err rfl QZ.out
          | ok nd =>
            rw [hq] at hres
            simp only at hres
            have HRS := Aside0.mk hres
            have HQ := Aside0.mk hq
            clear hres hq ce
            go_wp2_with (first
              | (go_at_call 43; (with_reducible refine (rneeds_ok (r := (Rc.mk g15 0 A0 c0 b h0 h1 A1 c1 ps AS cS st.1)) HC.out.1 HG.out verneed neednum R30.out R31.out (by have := HC.out.2.2.2.2.1; omega) HQ.out).mono ?_); rintro e w14 ⟨vN, vT2, rfl, hN, hR, hs⟩; obtain ⟨AN, cN, eN⟩ := Kd.N_slice hN; subst eN; have HN14 := Aside0.mk (Kd.N_lower (Kd.N_mono hN (fun k hk => (show okN w10 g15 vT2 k from ⟨hk.1, Nat.le_trans HC.out.2.2.2.2.2 hk.2⟩))) HC.out.2.2.2.2.2); have HD14 := Aside0.mk (N_stN HC.out.2.2.1 hs); have HR14 := Aside0.mk hR; have HX14 := Aside0.mk (HC.out.2.2.2.1.st HC.out.1 hs); have HZ14 := Aside0.mk (Nat.le_trans HC.out.2.2.2.2.2 hs.size); have hbv := (hs.keep g16 (Nat.lt_of_lt_of_le GL.out HC.out.2.2.2.2.2) (fun e => HNE.out e.symm) (Kd.R_ne HC.out.1.told HC.out.2.1 (by decide))).trans HC.out.2.1; have BV14 := Aside0.mk hbv; have hcg : w14.cell? ⟨g16, 3, none⟩ = some (.slice none 0 0) := (cell_of_row w14 g16 3 _ _ _ hbv).trans rfl; have hfg := blk_frozen hbv 3; clear hN hR hs hbv)
              | ((with_reducible refine gate_store (t := 52) (p := 106) rfl ?_); refine store_event (t := 52) (p := 106) (v := ?vo2) (w1 := (w14.setCell ⟨g16, 3, none⟩ (.slice AN nd.1.length cN))) ?hg2 ?ho2 ?hn2 ?hr2 ?_; (case ho2 => rfl); (case hg2 => rfl); (case hn2 => rfl); (case hr2 => first | (go_simp; done) | (go_simp; rfl)); intro w15 hw15; have hgr : w14.grownBy w15 (some g16) := (by rw [hw15]; exact set_grown _ _ _ _); have HR15 := Aside0.mk (HR14.out.but GV.out (fun e => HNE.out e.symm) (Kd.R_ne HR14.out.told BV14.out (by decide)) hgr); have HX15 := Aside0.mk (HX14.out.grown GB.out hgr); have HN15 := Aside0.mk (Kd.N_grown HN14.out hgr (fun k hk e => by injection e with e; have := hk.2; have := GL.out; omega)); have HD15 := Aside0.mk (Kd.N_grown HD14.out hgr (fun k hk e => by injection e with e; have := hk.2; have := GL.out; omega)); have BV15 := Aside0.mk (show w15.heap[g16]? = some (.cells #[.bool true, .slice none 0 0, .slice AD d.1.length cD, .slice AN nd.1.length cN] 54 (0, 0)) by rw [hw15]; exact blk_set BV14.out 3 _); have HZ15 := Aside0.mk (Nat.le_trans HZ14.out hgr.size); clear hw15 hgr hcg hfg))
            go_meet
            case rel => exact ⟨vT2, .slice AN nd.1.length cN, nd, HRS, ⟨HR15.out, BV15.out, HD15.out, HN15.out, HX15.out, by have := needsT_le HQ.out; have := HC.out.2.2.2.2.1; omega, HZ15.out⟩⟩
      case rest =>
        clear HR2 HC k30 k31 k28 k29
        obtain ⟨vT2, vN, nd, HR3, HC⟩ := hcut
        rename World => w16
        obtain ⟨AD, cD, eD⟩ := Kd.N_slice HC.out.2.2.1
        subst eD
        obtain ⟨AN, cN, eN⟩ := Kd.N_slice HC.out.2.2.2.1
        subst eN
        obtain ⟨ro, hro⟩ : ∃ y, ofS nd.2 ws n.toNat 0 [] = y := ⟨_, rfl⟩
        have hr3 := HR3.out
        rw [rest3, hro] at hr3
        have HRES := Aside0.mk hr3
        have HRO := Aside0.mk hro
        clear HR3 hr3 hro
        go_wp2
        go_loopg [21] n.toNat (fun kq v21 w' => ∃ (i : Int) (acc : List Int) (vO : Value), v21 = .int .i64 i ∧ Aside0 (0 ≤ i ∧ i ≤ n ∧ kq = (n - i).toNat) ∧ Aside0 (ofS nd.2 ws (n - i).toNat i.toNat acc = ro) ∧ Aside0 (w'.heap[g16]? = some (.cells #[.bool true, vO, .slice AD d.1.length cD, .slice AN nd.1.length cN] 54 (0, 0)) ∧ Kd.R (Kd.int .i64) 3 w' w16.heap.size (fun _ => True) vO acc ∧ w16.grownBy w' (some g16) ∧ acc.length ≤ i.toNat))
        case atStart => exact ⟨0, [], .slice none 0 0, rfl, ⟨by have := HNP.out; omega⟩, ⟨by rw [Int.sub_zero]; exact HRO.out⟩, ⟨HC.out.2.1, Kd.R_nil _ _ _ _ _, grown_refl _ _, by simp⟩⟩
        case round =>
          obtain ⟨i, acc, vO, rfl, HI, HX, HW⟩ := hrel
          obtain ⟨AO, cO, eO⟩ := Kd.R_slice HW.out.2.1
          subst eO
          have HRW := Aside0.mk (HC.out.1.but GV.out (fun e => HNE.out e.symm) (Kd.R_ne HC.out.1.told HC.out.2.1 (by decide)) HW.out.2.2.1)
          have HXW := Aside0.mk (HC.out.2.2.2.2.1.grown GB.out HW.out.2.2.1)
          by_cases c4 : i < n
          · have c4b0 : decide (i < n) = true := decide_eq_true c4
            obtain ⟨k, hk⟩ : ∃ k, (n - i).toNat = k + 1 := ⟨(n - i).toNat - 1, by omega⟩
            have hx := HX.out
            rw [hk, ofS] at hx
            have hil := HI.out
            have hwl := HWL.out.1
            have hnp := HNP.out
            obtain ⟨NW, hNW⟩ : ∃ y, num ((ws.take (2 * i.toNat + 2)).drop (2 * i.toNat)) = y := ⟨_, rfl⟩
            rw [hNW] at hx
            have h2 := num_2 HW8.out (2 * i.toNat) (by omega) hNW
            have hm : wrap64 (2 * i) = 2 * i := VersSpec.w64 _ (by omega) (by omega)
            have hm2 : wrap64 (2 * i + 2) = 2 * i + 2 := VersSpec.w64 _ (by omega) (by omega)
            have hwn : wrap64 NW = NW := VersSpec.w64 _ (by omega) (by omega)
            have HV := Aside0.mk (show wrap64 (i + 1) = i + 1 from VersSpec.w64 _ (by omega) (by omega))
            obtain ⟨IX, hidx⟩ : ∃ y, Int.tmod NW 32768 = y := ⟨_, rfl⟩
            have hix : NW % 32768 = IX := by rw [← hidx, Int.tmod_eq_emod_of_nonneg h2.1]
            rw [hix] at hx
            have HK := Aside0.mk hk
            have HC4 := Aside0.mk c4
            have HNW := Aside0.mk hNW
            have HWI := Aside0.mk hwl
            have HX2 := Aside0.mk hx
            clear hk c4 hx hNW h2 hix hil hwl hnp HX
            by_cases cg : IX > 1
            · have cg0 : decide (1 < IX) = true := decide_eq_true cg
              by_cases cm : IX ∈ nd.2
              · have cm0 : decide (IX ∈ nd.2) = true := decide_eq_true cm
                have hx := HX2.out
                rw [if_neg (fun h => h.2 cm)] at hx
                have HX3 := Aside0.mk hx
                clear hx HX2 cg cm
                go_wp2_with (first
                  | (go_at_call 44; (with_reducible refine (rnum_at (N := ws.length) rfl HW8.out HCW.out.1 (Kd.C_below HCW.out.2 HRW.out.hw) (2 * i) (2 * i + 2) (2 * i.toNat) (2 * i.toNat + 2) (by have := HI.out; omega) (by have := HI.out; omega) (by omega) (by have := HI.out; have := HWI.out; have := HC4.out; omega) (by omega)).mono ?_); rintro e w17 ⟨rfl, hd⟩; have hw := below_drawn hd; have HL17 := Aside0.mk hw; clear hd hw; rw [HNW.out])
                  | (go_at_call 45; (try rw [hidx]); (with_reducible refine (had_calls (r := (Rc.mk g15 0 A0 c0 b h0 h1 A1 c1 ps AS cS st.1)) (HRW.out.up HL17.out) IX (by have := HC.out.2.2.2.2.2.1; omega)).mono ?_); rintro e w18 ⟨rfl, hd⟩; have hw := below_step HL17.out (below_drawn hd); have HL18 := Aside0.mk hw; have HX18 := Aside0.mk (HXW.out.below hw); have Q18 := Aside0.mk (below_step (below_step Q7.out HRW.out.hw) hw); have hbv := (hw.block _ (lt_of_block HW.out.1)).trans HW.out.1; have BV18 := Aside0.mk hbv; have hv1 : w18.cell? ⟨g16, 1, none⟩ = some (.slice AO acc.length cO) := (cell_of_row w18 g16 1 _ _ _ hbv).trans rfl; clear hd hw hbv)
                  | ((with_reducible refine gate_builtin (b := .append) (xs := #[.tmp 133, .tmp 135]) rfl ?_); at_builtin; refine Kd.R_append (Kd.int .i64) (w0 := w18) w16.heap.size rfl (.tmp 133) (.tmp 135) 37 3 (.int .i64 0) 8 rfl Try.underlying37 info3 rfl (by decide) (by omega) (.slice AO acc.length cO) acc NW [.int .i64 NW] (fun _ => True) (fun _ => False) rfl (by first | (go_simp; done) | (go_simp; rfl)) ?aP (fun _ hk => hk.elim) ?aF ?aO ?aB ?aS ?aL ?_; (case aP => exact rfl); (case aF => exact fun _ _ => trivial); (case aO => exact Kd.R_below HW.out.2.1 HL18.out); (case aB => exact Below.refl _ _); (case aS => exact Nat.le_trans HW.out.2.2.1.size HL18.out.size); (case aL => have := HW.out.2.2.2; have := HI.out; have := HNP.out; omega); intro v19 w19 ho hb hg hat; obtain ⟨A19, c19, e19⟩ := Kd.R_slice ho; replace e19 : v19 = .slice A19 (acc.length + 1) c19 := (by simpa using e19); subst e19; have HG19 := Aside0.mk (grown_own (grown_below HW.out.2.2.1 HL18.out) (Kd.R_below HW.out.2.1 HL18.out) hg); have HO19 := Aside0.mk ho; have hbv := (hg.block g16 (lt_of_block BV18.out) (fun e => by have := own_base (Kd.R_own HW.out.2.1).choose_spec _ e.symm; have := lt_of_block HC.out.2.1; omega)).trans BV18.out; have BV19 := Aside0.mk hbv; have hcg : w19.cell? ⟨g16, 1, none⟩ = some (.slice AO acc.length cO) := (cell_of_row w19 g16 1 _ _ _ hbv).trans rfl; have hfg := blk_frozen hbv 1; clear ho hb hg hat hbv hv1)
                  | ((with_reducible refine gate_store (t := 37) (p := 137) rfl ?_); refine store_event (t := 37) (p := 137) (v := ?vo31) (w1 := (w19.setCell ⟨g16, 1, none⟩ (.slice A19 (acc.length + 1) c19))) ?hg31 ?ho31 ?hn31 ?hr31 ?_; (case ho31 => rfl); (case hg31 => rfl); (case hn31 => rfl); (case hr31 => first | (go_simp; done) | (go_simp; rfl)); intro w20 hw20; have HG20 := Aside0.mk (show w16.grownBy w20 (some g16) by rw [hw20]; exact grown_grown HG19.out (set_grown _ _ _ _)); have HO20 := Aside0.mk (show Kd.R (Kd.int .i64) 3 w20 w16.heap.size (fun _ => True) (.slice A19 (acc.length + 1) c19) (acc ++ [NW]) by rw [hw20]; exact R_low HO19.out (lt_of_block HC.out.2.1) 1 _); have BV20 := Aside0.mk (show w20.heap[g16]? = some (.cells #[.bool true, .slice A19 (acc.length + 1) c19, .slice AD d.1.length cD, .slice AN nd.1.length cN] 54 (0, 0)) by rw [hw20]; exact blk_set BV19.out 1 _); clear hw20 hcg hfg))
                go_roundg (n - (i + 1)).toNat
                case measure => have := HI.out; have := HC4.out; omega
                case rel => exact ⟨i + 1, acc ++ [NW], .slice A19 (acc.length + 1) c19, by rw [HV.out], ⟨by have := HI.out; have := HC4.out; omega⟩, ⟨by rw [show (n - (i + 1)).toNat = k by have := HK.out; omega, show (i + 1).toNat = i.toNat + 1 by have := HI.out; omega]; exact HX3.out⟩, ⟨BV20.out, HO20.out, HG20.out, by have := HW.out.2.2.2; have := HI.out; simp; omega⟩⟩
              · have cm0 : decide (IX ∈ nd.2) = false := decide_eq_false cm
                have hx := HX2.out
                rw [if_pos ⟨cg, cm⟩] at hx
                have hR3 := HRES.out
                rw [← hx] at hR3
                have HR := Aside0.mk (show (Except.error 3 : Except Int Vs) = res from hR3)
                clear hx HX2 cg cm hR3
                go_wp2_with (first
                  | (go_at_call 44; (with_reducible refine (rnum_at (N := ws.length) rfl HW8.out HCW.out.1 (Kd.C_below HCW.out.2 HRW.out.hw) (2 * i) (2 * i + 2) (2 * i.toNat) (2 * i.toNat + 2) (by have := HI.out; omega) (by have := HI.out; omega) (by omega) (by have := HI.out; have := HWI.out; have := HC4.out; omega) (by omega)).mono ?_); rintro e w17 ⟨rfl, hd⟩; have hw := below_drawn hd; have HL17 := Aside0.mk hw; clear hd hw; rw [HNW.out])
                  | (go_at_call 45; (try rw [hidx]); (with_reducible refine (had_calls (r := (Rc.mk g15 0 A0 c0 b h0 h1 A1 c1 ps AS cS st.1)) (HRW.out.up HL17.out) IX (by have := HC.out.2.2.2.2.2.1; omega)).mono ?_); rintro e w18 ⟨rfl, hd⟩; have hw := below_step HL17.out (below_drawn hd); have HL18 := Aside0.mk hw; have HX18 := Aside0.mk (HXW.out.below hw); have Q18 := Aside0.mk (below_step (below_step Q7.out HRW.out.hw) hw); have hbv := (hw.block _ (lt_of_block HW.out.1)).trans HW.out.1; have BV18 := Aside0.mk hbv; have hv1 : w18.cell? ⟨g16, 1, none⟩ = some (.slice AO acc.length cO) := (cell_of_row w18 g16 1 _ _ _ hbv).trans rfl; clear hd hw hbv)
                  | ((with_reducible refine gate_ (.load 54 (.tmp 10)) rfl ?_); refine wpList_load_row rfl 54 (.tmp 10) rfl g10 rfl 54 _ (0, 0) _ HX18.out.2.2.2 Try.underlying54 rfl (by rw [info54]; rfl) ?_)
                  | ((with_reducible refine gate_store (t := 54) (p := 8) rfl ?_); refine store_row_ev rfl rfl 54 (.tmp 8) (.tmp 131) rfl g8 #[.bool false, .slice none 0 0, .slice none 0 0, .slice none 0 0] rfl rfl 54 _ HX18.out.2.2.1 (by kernel_rfl) rfl (by kernel_rfl) ?_; intro wz hb hf hk_; have BZ := Aside0.mk hb; have QZ := Aside0.mk (hf _ _ Q18.out GE8.out); clear hb hf hk_))
                refine bodyPost_ret (v := .tuple #[.agg #[.bool false, .slice none 0 0, .slice none 0 0, .slice none 0 0], .int .i64 (3)]) (results_list (rs := [.cell 8 54, .tmp 9]) (vs := [.agg #[.bool false, .slice none 0 0, .slice none 0 0, .slice none 0 0], .int .i64 (3)]) rfl (by simp) (.cell g8 54 #[.bool false, .slice none 0 0, .slice none 0 0, .slice none 0 0] (0, 0) _ rfl BZ.out hu54 rfl info54 (.tmp .nil))) rfl ?_
                refine HP.out _ _ ?_
                rw [← HR.out]
                exact ReadR.err rfl QZ.out
            · have cg0 : decide (1 < IX) = false := decide_eq_false cg
              have hx := HX2.out
              rw [if_neg (fun h => cg h.1)] at hx
              have HX3 := Aside0.mk hx
              clear hx HX2 cg
              go_wp2_with (first
                | (go_at_call 44; (with_reducible refine (rnum_at (N := ws.length) rfl HW8.out HCW.out.1 (Kd.C_below HCW.out.2 HRW.out.hw) (2 * i) (2 * i + 2) (2 * i.toNat) (2 * i.toNat + 2) (by have := HI.out; omega) (by have := HI.out; omega) (by omega) (by have := HI.out; have := HWI.out; have := HC4.out; omega) (by omega)).mono ?_); rintro e w17 ⟨rfl, hd⟩; have hw := below_drawn hd; have HL17 := Aside0.mk hw; clear hd hw; rw [HNW.out])
                | (go_at_call 45; (try rw [hidx]); (with_reducible refine (had_calls (r := (Rc.mk g15 0 A0 c0 b h0 h1 A1 c1 ps AS cS st.1)) (HRW.out.up HL17.out) IX (by have := HC.out.2.2.2.2.2.1; omega)).mono ?_); rintro e w18 ⟨rfl, hd⟩; have hw := below_step HL17.out (below_drawn hd); have HL18 := Aside0.mk hw; have HX18 := Aside0.mk (HXW.out.below hw); have Q18 := Aside0.mk (below_step (below_step Q7.out HRW.out.hw) hw); have hbv := (hw.block _ (lt_of_block HW.out.1)).trans HW.out.1; have BV18 := Aside0.mk hbv; have hv1 : w18.cell? ⟨g16, 1, none⟩ = some (.slice AO acc.length cO) := (cell_of_row w18 g16 1 _ _ _ hbv).trans rfl; clear hd hw hbv)
                | ((with_reducible refine gate_builtin (b := .append) (xs := #[.tmp 133, .tmp 135]) rfl ?_); at_builtin; refine Kd.R_append (Kd.int .i64) (w0 := w18) w16.heap.size rfl (.tmp 133) (.tmp 135) 37 3 (.int .i64 0) 8 rfl Try.underlying37 info3 rfl (by decide) (by omega) (.slice AO acc.length cO) acc NW [.int .i64 NW] (fun _ => True) (fun _ => False) rfl (by first | (go_simp; done) | (go_simp; rfl)) ?aP (fun _ hk => hk.elim) ?aF ?aO ?aB ?aS ?aL ?_; (case aP => exact rfl); (case aF => exact fun _ _ => trivial); (case aO => exact Kd.R_below HW.out.2.1 HL18.out); (case aB => exact Below.refl _ _); (case aS => exact Nat.le_trans HW.out.2.2.1.size HL18.out.size); (case aL => have := HW.out.2.2.2; have := HI.out; have := HNP.out; omega); intro v19 w19 ho hb hg hat; obtain ⟨A19, c19, e19⟩ := Kd.R_slice ho; replace e19 : v19 = .slice A19 (acc.length + 1) c19 := (by simpa using e19); subst e19; have HG19 := Aside0.mk (grown_own (grown_below HW.out.2.2.1 HL18.out) (Kd.R_below HW.out.2.1 HL18.out) hg); have HO19 := Aside0.mk ho; have hbv := (hg.block g16 (lt_of_block BV18.out) (fun e => by have := own_base (Kd.R_own HW.out.2.1).choose_spec _ e.symm; have := lt_of_block HC.out.2.1; omega)).trans BV18.out; have BV19 := Aside0.mk hbv; have hcg : w19.cell? ⟨g16, 1, none⟩ = some (.slice AO acc.length cO) := (cell_of_row w19 g16 1 _ _ _ hbv).trans rfl; have hfg := blk_frozen hbv 1; clear ho hb hg hat hbv hv1)
                | ((with_reducible refine gate_store (t := 37) (p := 137) rfl ?_); refine store_event (t := 37) (p := 137) (v := ?vo32) (w1 := (w19.setCell ⟨g16, 1, none⟩ (.slice A19 (acc.length + 1) c19))) ?hg32 ?ho32 ?hn32 ?hr32 ?_; (case ho32 => rfl); (case hg32 => rfl); (case hn32 => rfl); (case hr32 => first | (go_simp; done) | (go_simp; rfl)); intro w20 hw20; have HG20 := Aside0.mk (show w16.grownBy w20 (some g16) by rw [hw20]; exact grown_grown HG19.out (set_grown _ _ _ _)); have HO20 := Aside0.mk (show Kd.R (Kd.int .i64) 3 w20 w16.heap.size (fun _ => True) (.slice A19 (acc.length + 1) c19) (acc ++ [NW]) by rw [hw20]; exact R_low HO19.out (lt_of_block HC.out.2.1) 1 _); have BV20 := Aside0.mk (show w20.heap[g16]? = some (.cells #[.bool true, .slice A19 (acc.length + 1) c19, .slice AD d.1.length cD, .slice AN nd.1.length cN] 54 (0, 0)) by rw [hw20]; exact blk_set BV19.out 1 _); clear hw20 hcg hfg))
              go_roundg (n - (i + 1)).toNat
              case measure => have := HI.out; have := HC4.out; omega
              case rel => exact ⟨i + 1, acc ++ [NW], .slice A19 (acc.length + 1) c19, by rw [HV.out], ⟨by have := HI.out; have := HC4.out; omega⟩, ⟨by rw [show (n - (i + 1)).toNat = k by have := HK.out; omega, show (i + 1).toNat = i.toNat + 1 by have := HI.out; omega]; exact HX3.out⟩, ⟨BV20.out, HO20.out, HG20.out, by have := HW.out.2.2.2; have := HI.out; simp; omega⟩⟩
          · have c4b0 : decide (i < n) = false := decide_eq_false c4
            have hi : (n - i).toNat = 0 := by omega
            have hx := HX.out
            rw [hi, ofS] at hx
            have hR3 := HRES.out
            rw [← hx] at hR3
            have HR3 := Aside0.mk (show (Except.ok (true, acc, d.1, nd.1) : Except Int Vs) = res from hR3)
            clear hx hi c4 HX hR3
            go_wp2_with (first
              | ((with_reducible refine gate_ (.load 54 (.tmp 16)) rfl ?_); refine wpList_load_row rfl 54 (.tmp 16) rfl g16 rfl 54 _ (0, 0) _ HW.out.1 Try.underlying54 rfl (by rw [info54]; rfl) ?_)
              | ((with_reducible refine gate_store (t := 54) (p := 8) rfl ?_); refine store_row_ev rfl rfl 54 (.tmp 8) (.tmp 138) rfl g8 #[.bool true, .slice AO acc.length cO, .slice AD d.1.length cD, .slice AN nd.1.length cN] rfl rfl 54 _ HXW.out.2.2.1 (by kernel_rfl) rfl (by kernel_rfl) ?_; intro wz hb hf hk_; have BZ := Aside0.mk hb; have QZ := Aside0.mk (hf _ _ (below_step Q7.out HRW.out.hw) GE8.out); have HKZ := Aside0.mk hk_; clear hb hf hk_))
            refine bodyPost_ret (v := .tuple #[.agg #[.bool true, .slice AO acc.length cO, .slice AD d.1.length cD, .slice AN nd.1.length cN], .int .i64 0]) (results_list (rs := [.cell 8 54, .tmp 9]) (vs := [.agg #[.bool true, .slice AO acc.length cO, .slice AD d.1.length cD, .slice AN nd.1.length cN], .int .i64 0]) rfl (by simp) (.cell g8 54 #[.bool true, .slice AO acc.length cO, .slice AD d.1.length cD, .slice AN nd.1.length cN] (0, 0) _ rfl BZ.out hu54 rfl (by rw [info54]; rfl) (.tmp .nil))) rfl ?_
            refine HP.out _ _ ?_
            rw [← HR3.out]
            have hz1 : w.heap.size ≤ w10.heap.size := Nat.le_trans Q7.out.size Q10.out.size
            have hz2 := HC.out.2.2.2.2.2.2
            have hg8 := GB.out
            have hgl := GL.out
            have hne : ∀ k, w10.heap.size ≤ k → k ≠ g8 := fun k hk => by omega
            have hgr := fun (k : Nat) (hk : w10.heap.size ≤ k) => (show some k ≠ some g16 from fun e => by injection e with e; omega)
            exact ⟨_, _, _, rfl, Kd.R_lower (R_keep8 HW.out.2.1 HKZ.out (by omega)) (by omega), Kd.N_mono (Kd.N_lower (Kd.N_step (Kd.N_grown HC.out.2.2.1 HW.out.2.2.1 (fun k hk => hgr k hk.2)) (fun k hk _ => HKZ.out k (hne k hk.2))) hz1) (fun _ _ => trivial), Kd.N_mono (Kd.N_lower (Kd.N_step (Kd.N_grown HC.out.2.2.2.1 HW.out.2.2.1 (fun k hk => hgr k hk.2)) (fun k hk _ => HKZ.out k (hne k hk.2))) hz1) (fun _ _ => trivial), QZ.out⟩
end Go.Proofs.Ythopdoamajjojaa.VersR
