import Derived.Test.YthopdoamajjojaaVersNames
namespace Go.Proofs.Ythopdoamajjojaa.VersS
open Go Go.RowKit Go.Proofs.Ythopdoamajjojaa.QVers Go.Proofs.Ythopdoamajjojaa.VersSpec Go.Proofs.YthopdoamajjojaaW.PrintWords Go.Proofs.YthopdoamajjojaaW.PrintLast Go.Proofs.YthopdoamajjojaaW.PrintMore
open TextFacts (textS u64_in)
set_option linter.unusedSimpArgs false
set_option linter.unusedVariables false
abbrev Ax := Int × Bool × ByteArray
def kAx : Kd Ax := Kd.pair (Kd.int .i64) (Kd.pair Kd.bool Kd.string)
theorem kAx_mkM (w : World) (base : Nat) (ok : Nat → Prop) (x : Ax) : kAx.M w base ok x [.int .i64 x.1, .bool x.2.1, .string x.2.2] := ⟨[.int .i64 x.1], [.bool x.2.1, .string x.2.2], rfl, rfl, ⟨[.bool x.2.1], [.string x.2.2], rfl, rfl, rfl⟩⟩
theorem info68 : (Try.prog.info? 68).map (fun i => (i.zero, i.size, i.bytes)) = some (some (.agg #[.int .i64 0, .bool false, .string ⟨#[]⟩]), 3, 32) := by kernel_rfl
def idxS (N : Int) : Int := N % 32768
def weakS (X : Int) : Bool := decide (X / 2 % 2 = 1)
def versionsS (b : List Int) (ps : List S29) (ss : List Int) : Nat → Int → Int → List Int → List Ax → Except Int (List Ax × List Int)
  | 0, _, _, T, acc => .ok (acc, T)
  | n + 1, addr, by_, T, acc =>
    match atS b ps addr by_ 16 with
    | none => .error 4
    | some x =>
      if (textS ss (num ((x.2.take 12).drop 8))).2 ≠ 0 then .error (textS ss (num ((x.2.take 12).drop 8))).2
      else if sysv (textS ss (num ((x.2.take 12).drop 8))).1 ≠ num (x.2.take 4) ∨ idxS (num ((x.2.take 8).drop 6)) < 2 then .error 3
      else if idxS (num ((x.2.take 8).drop 6)) ∈ T then .error 5
      else if num (x.2.drop 12) = 0 ∧ n ≠ 0 then .error 3
      else versionsS b ps ss n x.1 (num (x.2.drop 12)) (idxS (num ((x.2.take 8).drop 6)) :: T) (acc ++ [(idxS (num ((x.2.take 8).drop 6)), weakS (rd x.2 4), (textS ss (num ((x.2.take 12).drop 8))).1)])
def VersionsP (w0 : World) (r : Rc) (w : World) (res : Except Int (List Ax × List Int)) (e : Ending) (w' : World) : Prop :=
  match res with
  | .error c => e = .returned (.tuple #[.slice none 0 0, .iface 97 (.int .i64 c)]) ∧ Below w0.heap.size w0 w' ∧ w.grownBy w' (some r.m)
  | .ok l => ∃ v, e = .returned (.tuple #[v, .nilIface]) ∧ Kd.R kAx 68 w' w.heap.size (fun k => k ≠ r.m) v l.1 ∧ Rdr w0 r w' l.2 ∧ w.grownBy w' (some r.m)
theorem VersionsP.err {w0 w w' : World} {r : Rc} {c : Int} {e : Ending} {v : Value} (he : e = .returned (.tuple #[.slice none 0 0, .iface 97 (.int .i64 c)])) (hb : Below w0.heap.size w0 w') (hg : w.grownBy w' (some r.m)) : VersionsP w0 r w (.error c) e w' := ⟨he, hb, hg⟩
theorem VersionsP.ok {w0 w w' : World} {r : Rc} {l : List Ax × List Int} {e : Ending} {v : Value} (he : e = .returned (.tuple #[v, .nilIface])) (hr : Kd.R kAx 68 w' w.heap.size (fun k => k ≠ r.m) v l.1) (hR : Rdr w0 r w' l.2) (hg : w.grownBy w' (some r.m)) : VersionsP w0 r w (.ok l) e w' := ⟨v, he, hr, hR, hg⟩
theorem Rdr.low {w0 w w1 : World} {r : Rc} {T : List Int} (h : Rdr w0 r w T) (hb : Below w.heap.size w w1) : Below w0.heap.size w0 w1 := (h.up hb).hw
theorem grown_below {w w' w2 : World} {m : Nat} (h : w.grownBy w' (some m)) (hb : Below w'.heap.size w' w2) : w.grownBy w2 (some m) :=
  ⟨hb.os.trans h.os, hb.tape.trans h.tape, hb.output.trans h.output, Nat.le_trans h.size hb.size, fun k hk hm => (hb.block k (Nat.lt_of_lt_of_le hk h.size)).trans (h.block k hk hm)⟩
theorem grown_grown {w w' w2 : World} {m : Nat} (h : w.grownBy w' (some m)) (hb : w'.grownBy w2 (some m)) : w.grownBy w2 (some m) :=
  ⟨hb.os.trans h.os, hb.tape.trans h.tape, hb.output.trans h.output, Nat.le_trans h.size hb.size, fun k hk hm => (hb.block k (Nat.lt_of_lt_of_le hk h.size) hm).trans (h.block k hk hm)⟩
theorem grown_refl (w : World) (m : Nat) : w.grownBy w (some m) := ⟨rfl, rfl, rfl, Nat.le_refl _, fun _ _ _ => rfl⟩
theorem Rdr.own {w0 w w1 w2 : World} {r : Rc} {T T1 : List Int} (h0 : Rdr w0 r w T) (h : Rdr w0 r w1 T1) {α : Type} {d : Kd α} {e : Nat} {ok : Nat → Prop} {v : Value} {xs : List α} (ho : d.R e w1 w.heap.size ok v xs) (hg : w1.grownBy w2 v.ownBlock) : Rdr w0 r w2 T1 := by
  obtain ⟨inner, hown⟩ := Kd.R_own ho
  have hb := own_base hown
  have hp := lt_of_block h0.box
  have hm := h0.map.lt
  have hs := h0.hw.size
  have hp1 := lt_of_block h.box
  have hm1 := h.map.lt
  refine ⟨h.hb, h.lb, h.hp, h.lp, h.hs, h.ls, (hg.block _ hp1 (fun e => by have := hb _ e.symm; omega)).trans h.box, h.p0, h.m0, ⟨hg.os.trans h.hw.os, hg.tape.trans h.hw.tape, hg.output.trans h.hw.output, Nat.le_trans h.hw.size hg.size, fun k hk => (hg.block k (by have := h.hw.size; omega) (fun e => by have := hb _ e.symm; omega)).trans (h.hw.block k hk)⟩, h.map.keep (hg.block _ hm1 (fun e => by have := hb _ e.symm; omega))⟩
theorem grown_own {w w1 w2 : World} {m : Nat} (h : w.grownBy w1 (some m)) {α : Type} {d : Kd α} {e : Nat} {ok : Nat → Prop} {v : Value} {xs : List α} (ho : d.R e w1 w.heap.size ok v xs) (hg : w1.grownBy w2 v.ownBlock) : w.grownBy w2 (some m) := by
  obtain ⟨inner, hown⟩ := Kd.R_own ho
  have hb := own_base hown
  exact ⟨hg.os.trans h.os, hg.tape.trans h.tape, hg.output.trans h.output, Nat.le_trans h.size hg.size, fun k hk hm => (hg.block k (Nat.lt_of_lt_of_le hk h.size) (fun e => by have := hb _ e.symm; omega)).trans (h.block k hk hm)⟩
theorem store_row_step {P : Program} {ops : Array Oper} {oi : Oper} {a : Act} {w : World} {Q : Exit → Act → World → Prop} {K : Act → World → Prop} (hw : Region.wanted oi (yielded ops a.tmps) = true) (hN : oi.dst = none) (ty : TypeId) (x y : Operand) (ho : oi.op = .store ty x y)
    (g : Nat) (cells : Array Value) (hx : a.eval x = .pointer (some ⟨g, 0, none⟩)) (hy : a.eval y = .agg cells) (t : TypeId) (old : Array Value) (hg : w.heap[g]? = some (.cells old t (0, 0))) (hi : (P.info? ty).map (·.size) = some cells.size) (hold : old.size = cells.size) (h1 : cells.all (·.oneCell') = true)
    (h : ∀ w1, w1.heap[g]? = some (.cells cells t (0, 0)) → (∀ B w0, Below B w0 w → B ≤ g → Below B w0 w1) → K a w1) : if Region.wanted oi (yielded ops a.tmps) = true then Oper.wp P oi a w K Q else K (a.put none undef) w := by
  rw [if_pos hw]
  refine wp_store_row ty x y ho g cells hx hy t old hg hi hold h1 ?_
  rw [hN]
  exact h _ (setRow_heap _ _ _ _ _ _ hg) fun B w0 hb hB => hb.trans ⟨rfl, rfl, rfl, by simp [World.setRow], fun k hk => setRow_other w g k cells (by omega)⟩
theorem beq_t {α : Type} [BEq α] [LawfulBEq α] {a b : α} (h : a = b) : (a == b) = true := beq_iff_eq.2 h
theorem beq_f {α : Type} [BEq α] [LawfulBEq α] {a b : α} (h : ¬ a = b) : (a == b) = false := beq_eq_false_iff_ne.2 h
theorem and_u64 (a : Int) (k : Nat) (m : Nat) (hm : m = 2 ^ k - 1) (hk : k < 64) (ha : 0 ≤ a ∧ a ≤ 18446744073709551615) : Go.bits BinOp.and .u64 a (m : Int) = a % ((2 ^ k : Nat) : Int) := by
  obtain ⟨n, rfl⟩ := Int.eq_ofNat_of_zero_le ha.1
  have hn : n < 2 ^ 64 := by have := ha.2; omega
  have h2k : 2 ^ k < 2 ^ 64 := Nat.pow_lt_pow_right (by decide) hk
  have hm64 : m < 2 ^ 64 := by omega
  have e1 : n % 2 ^ IntKind.u64.bits = n := Nat.mod_eq_of_lt hn
  have e2 : m % 2 ^ IntKind.u64.bits = m := Nat.mod_eq_of_lt hm64
  have e3 : n &&& m = n % 2 ^ k := by rw [hm]; exact Nat.and_two_pow_sub_one_eq_mod n k
  simp only [bits, BitVec.ofInt_natCast, BitVec.toNat_and, BitVec.toNat_ofNat, e1, e2, e3]
  have hlt : n % 2 ^ k < 2 ^ k := Nat.mod_lt _ (Nat.pow_pos (by decide))
  rw [u64_nat _ (by omega)]
  simp
theorem idx_is {N : Int} (h : 0 ≤ N ∧ N ≤ 18446744073709551615) : wrap64 (Go.bits BinOp.and IntKind.u64 N 32767) = idxS N := by
  rw [show (32767 : Int) = ((32767 : Nat) : Int) from rfl, and_u64 N 15 32767 (by decide) (by decide) h]
  unfold idxS
  rw [w64 _ (by omega) (by omega)]
  rfl
theorem idx_in (N : Int) : 0 ≤ idxS N ∧ idxS N ≤ 32767 := by
  unfold idxS
  omega
theorem weak_is {X : Int} (h : 0 ≤ X ∧ X ≤ 255) : (Go.bits BinOp.and IntKind.u8 X 2 == 2) = weakS X := by
  obtain ⟨n, rfl⟩ := Int.eq_ofNat_of_zero_le h.1
  have hn : n < 256 := by have := h.2; omega
  clear h
  have all : ∀ n : Nat, n < 256 → (Go.bits BinOp.and IntKind.u8 (n : Int) 2 == 2) = weakS (n : Int) := by decide +kernel
  exact all n hn
theorem wf_i64 {a : Int} (h0 : -9223372036854775808 ≤ a) (h1 : a ≤ 9223372036854775807) : (Lit.int .i64 a).wf = true := by
  simp [Lit.wf, IntKind.min, IntKind.max, IntKind.signed, IntKind.bits]
  omega
theorem text_size (l : List Int) (a : Int) : (textS l a).1.size ≤ 255 := by
  unfold textS
  split
  · exact Nat.zero_le _
  · split
    · exact Nat.zero_le _
    · split
      · exact Nat.zero_le _
      · rename_i h
        have : (strOfNums ((l.drop a.toNat).take (TextFacts.zeroAt (l.drop a.toNat)))).size = ((l.drop a.toNat).take (TextFacts.zeroAt (l.drop a.toNat))).length := strOfNums_size _
        rw [this, List.length_take]
        omega
set_option maxHeartbeats 16000000 in
set_option maxRecDepth 100000 in
theorem versions_calls {w0 w : World} {r : Rc} {T : List Int} (h : Rdr w0 r w T) (G : Gd r) (addr by_ n : Int) (ha : 0 ≤ addr ∧ addr ≤ 18446744073709551615) (hb : 0 ≤ by_ ∧ by_ ≤ 18446744073709551615) (hn : 0 ≤ n ∧ n ≤ 64) (hT : T.length ≤ 100000) :
    Calls Try.prog 60 #[.pointer (some ⟨r.p, 0, none⟩), .int .u64 addr, .int .u64 by_, .int .u64 n] w (VersionsP w0 r w (versionsS r.b r.ps r.ss n.toNat addr by_ T [])) := by
  refine calls_aside fun Post HP => ?_
  obtain ⟨res, hres⟩ : ∃ res, versionsS r.b r.ps r.ss n.toNat addr by_ T [] = res := ⟨_, rfl⟩
  rw [hres] at HP
  have HH := Aside0.mk h
  have HG := Aside0.mk G
  have HA := Aside0.mk ha
  have HB := Aside0.mk hb
  have HN := Aside0.mk hn
  have HTL := Aside0.mk hT
  have HR := Aside0.mk hres
  clear h G ha hb hn hres hT
  have hu24 := Try.underlying24
  have hu68 := Try.underlying68
  have hu104 := Try.underlying104
  go_enter Try.func60, Try.ntmps60
  go_wp2
  go_loopg [1, 2, 10, 17] n.toNat (fun kq v1 v2 v10 v17 w' => ∃ (i : Int) (ad bb : Int) (T1 : List Int) (acc : List Ax), v1 = .int .u64 ad ∧ v2 = .int .u64 bb ∧ v17 = .int .u64 i ∧ Aside0 (0 ≤ i ∧ i ≤ n ∧ kq = (n - i).toNat) ∧ Aside0 ((0 ≤ ad ∧ ad ≤ 18446744073709551615) ∧ 0 ≤ bb ∧ bb ≤ 18446744073709551615) ∧ Aside0 (versionsS r.b r.ps r.ss (n - i).toNat ad bb T1 acc = res) ∧ Aside0 (Kd.R kAx 68 w' w.heap.size (fun k => k ≠ r.m) v10 acc ∧ Rdr w0 r w' T1 ∧ w.grownBy w' (some r.m) ∧ acc.length ≤ i.toNat ∧ T1.length ≤ T.length + i.toNat))
  case atStart => exact ⟨0, addr, by_, T, [], rfl, rfl, rfl, ⟨by have := HN.out; omega⟩, ⟨HA.out, HB.out⟩, ⟨by rw [Int.sub_zero]; exact HR.out⟩, ⟨Kd.R_nil _ _ _ _ _, HH.out, grown_refl _ _, by simp, by simp⟩⟩
  case round =>
    obtain ⟨i, ad, bb, T1, acc, rfl, rfl, rfl, HI, HAB, HX, HW⟩ := hrel
    by_cases c4 : i < n
    · have c4b0 : decide (i < n) = true := decide_eq_true c4
      obtain ⟨k, hk⟩ : ∃ k, (n - i).toNat = k + 1 := ⟨(n - i).toNat - 1, by omega⟩
      have hx := HX.out
      rw [hk, versionsS] at hx
      have HK := Aside0.mk hk
      have HC4 := Aside0.mk c4
      clear hk c4 HX
      cases hq : atS r.b r.ps ad bb 16 with
      | none =>
        rw [hq] at hx
        have HE := Aside0.mk (show (Except.error 4 : Except Int (List Ax × List Int)) = res from hx)
        have HQ := Aside0.mk hq
        clear hx hq
        go_wp2_with (go_at_call 57; (with_reducible refine (at_none HW.out.2.1 HG.out ad bb 16 HAB.out.1 HAB.out.2 (by omega) (by omega) HQ.out).mono ?_); rintro e w2 ⟨a, v, rfl, hw⟩; have HW2 := Aside0.mk (And.intro (HW.out.2.1.low hw) (grown_below HW.out.2.2.1 hw)); clear hw)
        refine HP.out _ _ ?_
        rw [← HE.out]
        exact VersionsP.err (v := .slice none 0 0) rfl HW2.out.1 HW2.out.2
      | some xs =>
        obtain ⟨x, s⟩ := xs
        rw [hq] at hx
        simp only at hx
        have hin := atS_in HG.out HAB.out.1 HAB.out.2.1 (by omega) hq
        have hsl : s.length = 16 := by omega
        obtain ⟨N12, hN12⟩ : ∃ y, num (s.drop 12) = y := ⟨_, rfl⟩
        obtain ⟨NH, hNH⟩ : ∃ y, num (s.take 4) = y := ⟨_, rfl⟩
        obtain ⟨NI, hNI⟩ : ∃ y, num ((s.take 8).drop 6) = y := ⟨_, rfl⟩
        obtain ⟨NT, hNT⟩ : ∃ y, num ((s.take 12).drop 8) = y := ⟨_, rfl⟩
        obtain ⟨X4, hX4⟩ : ∃ y, rd s 4 = y := ⟨_, rfl⟩
        have h12 := num_in8 hin.2.2 (fun y hy => List.mem_of_mem_drop hy) (show (s.drop 12).length ≤ 8 by simp; omega)
        have hH := num_in8 hin.2.2 (fun y hy => List.mem_of_mem_take hy) (show (s.take 4).length ≤ 8 by simp; omega)
        have hI := num_in8 hin.2.2 (fun y hy => List.mem_of_mem_take (List.mem_of_mem_drop hy)) (show ((s.take 8).drop 6).length ≤ 8 by simp; omega)
        have hTT := num_in8 hin.2.2 (fun y hy => List.mem_of_mem_take (List.mem_of_mem_drop hy)) (show ((s.take 12).drop 8).length ≤ 8 by simp; omega)
        have h4 := rd_byte hin.2.2 4 (by omega)
        rw [hN12] at hx h12
        rw [hNH] at hx hH
        rw [hNI] at hx hI
        rw [hNT] at hx hTT
        rw [show rd s ((4 : Nat) : Int) = X4 from hX4] at h4
        rw [hX4] at hx
        have HS := Aside0.mk (And.intro hsl hin.2.2)
        have H12 := Aside0.mk h12
        have HHH := Aside0.mk hH
        have HII := Aside0.mk hI
        have HTT := Aside0.mk hTT
        have H4 := Aside0.mk h4
        have HN12 := Aside0.mk hN12
        have HNH := Aside0.mk hNH
        have HNI := Aside0.mk hNI
        have HNT := Aside0.mk hNT
        have HX4 := Aside0.mk hX4
        have HXI := Aside0.mk hin.1
        have HQ := Aside0.mk hq
        have HX2 := Aside0.mk hx
        clear hin hsl hN12 hNH hNI hNT hX4 h12 hH hI hTT h4 hq hx
        go_wp2_with (first
          | (go_at_call 57; (with_reducible refine (at_some HW.out.2.1 HG.out ad bb 16 HAB.out.1 HAB.out.2 (by omega) (by omega) x s HQ.out 16 rfl).mono ?_); rintro e w2 ⟨A, c, rfl, hc, hC, hw⟩; obtain ⟨adS, eA, hcell⟩ := Kd.at_int hC 4 (by omega) (by omega); subst eA; obtain ⟨A12, c12, hcut12, hnum12⟩ := cut_from_num HS.out.1 hC hc HS.out.2 12 12 4 rfl (by decide) rfl (by decide); obtain ⟨hcutH, hnumH⟩ := cut_to_num HS.out.1 hC hc HS.out.2 4 4 rfl (by decide) (by decide); obtain ⟨AI, cI, hcutI, hnumI⟩ := cut_mid_num HS.out.1 hC hc HS.out.2 6 8 6 8 2 rfl rfl (by decide) (by decide) rfl (by decide); obtain ⟨AT, cT, hcutT, hnumT⟩ := cut_mid_num HS.out.1 hC hc HS.out.2 8 12 8 12 4 rfl rfl (by decide) (by decide) rfl (by decide); have HNUM12 := Aside0.mk hnum12; have HNUMH := Aside0.mk hnumH; have HNUMI := Aside0.mk hnumI; have HNUMT := Aside0.mk hnumT; have HCELL := Aside0.mk hcell; have HL2 := Aside0.mk hw; clear hnum12 hnumH hnumI hnumT hcell hc hC hw)
          | (go_at_call 39; (with_reducible refine (HNUM12.out _ (Below.refl _ _)).mono ?_); rintro e w3 ⟨rfl, hd⟩; have hw3 := below_drawn hd; have HD3 := Aside0.mk hw3; have HL3 := Aside0.mk (below_step HL2.out hw3); clear hd hw3; rw [HN12.out]))
        have hc4 : w3.cell? ⟨adS.block, adS.off + 4, none⟩ = some (.int .u8 X4) := by
          have h := cell_up HD3.out HCELL.out
          rw [HX4.out] at h
          exact h
        obtain ⟨IX, hidx⟩ : ∃ y, wrap64 (Go.bits BinOp.and IntKind.u64 NI 32767) = y := ⟨_, rfl⟩
        obtain ⟨WK, hwk⟩ : ∃ y, (Go.bits BinOp.and IntKind.u8 X4 2 == 2) = y := ⟨_, rfl⟩
        have HIX := Aside0.mk (show idxS NI = IX by rw [← hidx]; exact (idx_is HII.out).symm)
        have HWK := Aside0.mk (show weakS X4 = WK by rw [← hwk]; exact (weak_is H4.out).symm)
        have HR3 := Aside0.mk (HW.out.2.1.up HL3.out)
        have HO3 := Aside0.mk (Kd.R_below HW.out.1 HL3.out)
        have HG3 := Aside0.mk (grown_below HW.out.2.2.1 HL3.out)
        refine start_ (n := 13) (S := fun w' => w'.cell? ⟨adS.block, adS.off + 4, none⟩ = some (.int .u8 X4)) (ds := [12]) #[false, false, false, false, false, false, false, false, false, false, false, false, false] (by kernel_rfl) rfl rfl ((cell_up (below_drew1 (Below.refl _ _)) hc4)) (fun hHeld => ?_)
        refine pure_ (i := 0) (N := some 35) (v := ?_) (a' := ?_) #[true, false, false, false, false, false, false, false, false, false, false, false, false] rfl rfl (by kernel_rfl) (fun _ _ _ h => h) (Or.inl ⟨by rfl, ?_⟩) ?_ ?_
        rotate_left
        · intro w'
          go_simp
          with_reducible rfl
        rotate_left
        · simp only [Act.put, List.setIfInBounds_toArray, List.set_cons_zero, List.set_cons_succ, i64_w, i32_w]
          rfl
        refine pure_ (i := 1) (N := some 36) (v := ?_) (a' := ?_) #[true, true, false, false, false, false, false, false, false, false, false, false, false] rfl rfl (by kernel_rfl) (fun _ _ _ h => h) (Or.inl ⟨by rfl, ?_⟩) ?_ ?_
        rotate_left
        · intro w'
          go_simp
          with_reducible rfl
        rotate_left
        · simp only [Act.put, List.setIfInBounds_toArray, List.set_cons_zero, List.set_cons_succ, i64_w, i32_w]
          rfl
        refine pure_ (i := 5) (N := some 40) (v := ?_) (a' := ?_) #[true, true, false, false, false, true, false, false, false, false, false, false, false] rfl rfl (by kernel_rfl) (fun _ _ _ h => h) (Or.inl ⟨by rfl, ?_⟩) ?_ ?_
        rotate_left
        · intro w'
          go_simp
          with_reducible rfl
        rotate_left
        · simp only [Act.put, List.setIfInBounds_toArray, List.set_cons_zero, List.set_cons_succ, i64_w, i32_w]
          rfl
        refine pure_ (i := 6) (N := some 41) (v := ?_) (a' := ?_) #[true, true, false, false, false, true, true, false, false, false, false, false, false] rfl rfl (by kernel_rfl) (fun _ _ _ h => h) (Or.inl ⟨by rfl, ?_⟩) ?_ ?_
        rotate_left
        · intro w'
          go_simp
          with_reducible rfl
        rotate_left
        · simp only [Act.put, List.setIfInBounds_toArray, List.set_cons_zero, List.set_cons_succ, i64_w, i32_w]
          rfl
        refine take_ (i := 7) (N := some 42) (v := ?_) (a' := ?_) #[true, true, false, false, false, true, true, true, false, false, false, false, false] rfl rfl (by kernel_rfl) (fun _ _ _ h => h) (Or.inl ⟨by rfl, ?_⟩) hHeld ?_ ?_
        rotate_left
        · intro w' s0
          go_simp
          with_reducible rfl
        rotate_left
        · simp only [Act.put, List.setIfInBounds_toArray, List.set_cons_zero, List.set_cons_succ, i64_w, i32_w]
          rfl
        refine pure_ (i := 8) (N := some 43) (v := ?_) (a' := ?_) #[true, true, false, false, false, true, true, true, true, false, false, false, false] rfl rfl (by kernel_rfl) (fun _ _ _ h => h) (Or.inl ⟨by rfl, ?_⟩) ?_ ?_
        rotate_left
        · intro w'
          go_simp
          with_reducible rfl
        rotate_left
        · simp only [Act.put, List.setIfInBounds_toArray, List.set_cons_zero, List.set_cons_succ, i64_w, i32_w]
          rfl
        refine pure_ (i := 9) (N := some 44) (v := ?_) (a' := ?_) #[true, true, false, false, false, true, true, true, true, true, false, false, false] rfl rfl (by kernel_rfl) (fun _ _ _ h => h) (Or.inl ⟨by rfl, ?_⟩) ?_ ?_
        rotate_left
        · intro w'
          go_simp
          with_reducible rfl
        rotate_left
        · simp only [Act.put, List.setIfInBounds_toArray, List.set_cons_zero, List.set_cons_succ, i64_w, i32_w]
          rfl
        refine join_ (σ := Nat) 1 #[true, true, true, true, true, true, true, true, true, true, true, true, false] (fun g => [(37, .int .u64 NI), (38, .int .u64 (Go.bits BinOp.and .u64 NI 32767)), (39, .int .i64 (wrap64 (Go.bits BinOp.and .u64 NI 32767))), (45, .agg #[.int .i64 IX, .bool WK, .string ⟨#[]⟩]), (15, .pointer (some ⟨g, 0, none⟩))]) (fun g w' => w'.heap[g]? = some (.cells #[.int .i64 0, .bool false, .string ⟨#[]⟩] 68 (0, 0)) ∧ g = g ∧ w3.heap.size ≤ g ∧ Below w3.heap.size w3 w' ∧ w'.cell? ⟨adS.block, adS.off + 4, none⟩ = some (.int .u8 X4)) ?_ ?_
        rotate_left
        · intro hCont
          refine two_ (i := 2) (j := 11) (Ni := some 37) (Nj := some 15) #[true, true, true, false, false, true, true, true, true, true, false, false, false] #[true, true, false, false, false, true, true, true, true, true, false, true, false] rfl rfl rfl rfl (by kernel_rfl) (by decide) (by decide) (fun K hK => ?_) (fun K hK => ?_)
          · skip
            refine goes_ Try.func39 (by kernel_rfl) rfl #[.slice AI 2 cI] (by rfl) rfl rfl (by simp only [List.map_toArray, List.map_cons, List.map_nil]; rfl) ?_
            with_reducible refine (HNUMI.out _ (below_step HD3.out (below_drew1 (Below.refl w3.heap.size w3)))).mono ?_
            rintro e w4 ⟨rfl, hd⟩
            refine ⟨_, rfl, ?_⟩
            have hw_ := below_drawn hd
            have hk4 := cell_up hw_ (cell_up (below_drew1 (Below.refl _ _)) hc4)
            have hq4 := below_step (below_drew1 (Below.refl w3.heap.size w3)) hw_
            clear hd hw_
            rw [HNI.out]
            refine hK.out _ _ (hk4) (fun hHeld => ?_)
            clear hK K
            refine norm_ (a' := ?_) ?_ ?_
            rotate_left
            · show Act.put _ (some 37) _ = _
              simp only [Act.put, List.setIfInBounds_toArray, List.set_cons_zero, List.set_cons_succ, i64_w, i32_w]
              rfl
            refine pure_ (i := 3) (N := some 38) (v := ?_) (a' := ?_) #[true, true, true, true, false, true, true, true, true, true, false, false, false] rfl rfl (by kernel_rfl) (fun _ _ _ h => h) (Or.inl ⟨by rfl, ?_⟩) ?_ ?_
            rotate_left
            · intro w'
              go_simp
              with_reducible rfl
            rotate_left
            · simp only [Act.put, List.setIfInBounds_toArray, List.set_cons_zero, List.set_cons_succ, i64_w, i32_w]
              rfl
            refine pure_ (i := 4) (N := some 39) (v := ?_) (a' := ?_) #[true, true, true, true, true, true, true, true, true, true, false, false, false] rfl rfl (by kernel_rfl) (fun _ _ _ h => h) (Or.inl ⟨by rfl, ?_⟩) ?_ ?_
            rotate_left
            · intro w'
              go_simp
              with_reducible rfl
            rotate_left
            · simp only [Act.put, List.setIfInBounds_toArray, List.set_cons_zero, List.set_cons_succ, i64_w, i32_w]
              rfl
            refine pure_ (i := 10) (N := some 45) (v := ?_) (a' := ?_) #[true, true, true, true, true, true, true, true, true, true, true, false, false] rfl rfl (by kernel_rfl) (fun _ _ _ h => h) (Or.inl ⟨by rfl, ?_⟩) ?_ ?_
            rotate_left
            · intro w'
              go_simp
              with_reducible rfl
            rotate_left
            · simp only [Act.put, List.setIfInBounds_toArray, List.set_cons_zero, List.set_cons_succ, i64_w, i32_w]
              rfl
            refine one_ (i := 11) (N := some 15) #[true, true, true, true, true, true, true, true, true, true, true, true, false] rfl rfl (by kernel_rfl) (by decide) (fun K hK => ?_)
            refine box_step (by rfl) (N := 15) rfl (cs := #[.int .i64 0, .bool false, .string ⟨#[]⟩]) (t := 68) (by first | (go_simp; done) | (go_simp; rfl)) ?_
            intro g eg w5 hb5 hw_
            have hk5 := cell_up hw_ hk4
            have hq5 := below_step hq4 hw_
            have hge : w3.heap.size ≤ g := by rw [eg]; exact (hq4).size
            clear hw_
            refine hK.out _ _ (hk5) (fun hHeld => ?_)
            clear hK K
            refine norm_ (a' := ?_) ?_ ?_
            rotate_left
            · show Act.put _ (some 15) _ = _
              simp only [Act.put, List.setIfInBounds_toArray, List.set_cons_zero, List.set_cons_succ, i64_w, i32_w]
              rfl
            exact norm_ (by simp only [putAll, Act.put, List.setIfInBounds_toArray, List.set_cons_zero, List.set_cons_succ]) (hCont g _ ⟨hb5, rfl, hge, hq5, hk5⟩)
          · skip
            refine box_step (by rfl) (N := 15) rfl (cs := #[.int .i64 0, .bool false, .string ⟨#[]⟩]) (t := 68) (by first | (go_simp; done) | (go_simp; rfl)) ?_
            intro g eg w4 hb4 hw_
            have hk4 := cell_up hw_ (cell_up (below_drew1 (Below.refl _ _)) hc4)
            have hq4 := below_step (below_drew1 (Below.refl w3.heap.size w3)) hw_
            have hge : w3.heap.size ≤ g := by rw [eg]; exact ((below_drew1 (Below.refl w3.heap.size w3))).size
            clear hw_
            refine hK.out _ _ (hk4) (fun hHeld => ?_)
            clear hK K
            refine norm_ (a' := ?_) ?_ ?_
            rotate_left
            · show Act.put _ (some 15) _ = _
              simp only [Act.put, List.setIfInBounds_toArray, List.set_cons_zero, List.set_cons_succ, i64_w, i32_w]
              rfl
            refine one_ (i := 2) (N := some 37) #[true, true, true, false, false, true, true, true, true, true, false, true, false] rfl rfl (by kernel_rfl) (by decide) (fun K hK => ?_)
            refine goes_ Try.func39 (by kernel_rfl) rfl #[.slice AI 2 cI] (by rfl) rfl rfl (by simp only [List.map_toArray, List.map_cons, List.map_nil]; rfl) ?_
            with_reducible refine (HNUMI.out _ (below_step HD3.out hq4)).mono ?_
            rintro e w5 ⟨rfl, hd⟩
            refine ⟨_, rfl, ?_⟩
            have hw_ := below_drawn hd
            have hk5 := cell_up hw_ hk4
            have hq5 := below_step hq4 hw_
            have hb5 := (hw_.block _ (lt_of_block hb4)).trans hb4
            clear hd hw_
            rw [HNI.out]
            refine hK.out _ _ (hk5) (fun hHeld => ?_)
            clear hK K
            refine norm_ (a' := ?_) ?_ ?_
            rotate_left
            · show Act.put _ (some 37) _ = _
              simp only [Act.put, List.setIfInBounds_toArray, List.set_cons_zero, List.set_cons_succ, i64_w, i32_w]
              rfl
            refine pure_ (i := 3) (N := some 38) (v := ?_) (a' := ?_) #[true, true, true, true, false, true, true, true, true, true, false, true, false] rfl rfl (by kernel_rfl) (fun _ _ _ h => h) (Or.inl ⟨by rfl, ?_⟩) ?_ ?_
            rotate_left
            · intro w'
              go_simp
              with_reducible rfl
            rotate_left
            · simp only [Act.put, List.setIfInBounds_toArray, List.set_cons_zero, List.set_cons_succ, i64_w, i32_w]
              rfl
            refine pure_ (i := 4) (N := some 39) (v := ?_) (a' := ?_) #[true, true, true, true, true, true, true, true, true, true, false, true, false] rfl rfl (by kernel_rfl) (fun _ _ _ h => h) (Or.inl ⟨by rfl, ?_⟩) ?_ ?_
            rotate_left
            · intro w'
              go_simp
              with_reducible rfl
            rotate_left
            · simp only [Act.put, List.setIfInBounds_toArray, List.set_cons_zero, List.set_cons_succ, i64_w, i32_w]
              rfl
            refine pure_ (i := 10) (N := some 45) (v := ?_) (a' := ?_) #[true, true, true, true, true, true, true, true, true, true, true, true, false] rfl rfl (by kernel_rfl) (fun _ _ _ h => h) (Or.inl ⟨by rfl, ?_⟩) ?_ ?_
            rotate_left
            · intro w'
              go_simp
              with_reducible rfl
            rotate_left
            · simp only [Act.put, List.setIfInBounds_toArray, List.set_cons_zero, List.set_cons_succ, i64_w, i32_w]
              rfl
            exact norm_ (by simp only [putAll, Act.put, List.setIfInBounds_toArray, List.set_cons_zero, List.set_cons_succ]) (hCont g _ ⟨hb5, rfl, hge, hq5, hk5⟩)
        rintro g w5 ⟨hb5, _, hge, hq5, hk5⟩
        have hHeld : w5.cell? ⟨adS.block, adS.off + 4, none⟩ = some (.int .u8 X4) := hk5
        refine norm_ (a' := ?_) ?_ ?_
        rotate_left
        · simp only [putAll, Act.put, List.setIfInBounds_toArray, List.set_cons_zero, List.set_cons_succ]
          rfl
        refine last_ (i := 12) (N := none) #[true, true, true, true, true, true, true, true, true, true, true, true, true] rfl rfl (by kernel_rfl) (by decide) (fun K hK => ?_)
        refine store_row_step (by rfl) rfl 68 (.tmp 15) (.tmp 45) rfl g #[.int .i64 IX, .bool WK, .string ⟨#[]⟩] rfl rfl 68 _ hb5 (by kernel_rfl) rfl (by kernel_rfl) ?_
        intro w6 hb6 hf6
        have hq6 := hf6 _ _ hq5 hge
        have HG6 := Aside0.mk hb6
        have HQ6 := Aside0.mk hq6
        have HGE := Aside0.mk hge
        clear hb6 hf6 hq6
        refine hK.out _ _ ?_
        clear hK K
        refine done_ (by kernel_rfl) ?_
        try go_wp2
        obtain ⟨t, hT⟩ : ∃ t, textS r.ss NT = t := ⟨_, rfl⟩
        have hx := HX2.out
        rw [HIX.out, HWK.out, hT] at hx
        have HT := Aside0.mk hT
        have HTS := Aside0.mk (show t.1.size ≤ 255 by rw [← hT]; exact text_size _ _)
        have HX3 := Aside0.mk hx
        have k4 := (HR3.out.up HQ6.out).c4
        clear hx HX2 hT hc4 hidx hwk
        by_cases ht : t.2 = 0
        · have hx := HX3.out
          rw [if_neg (by omega)] at hx
          have HX4_ := Aside0.mk hx
          have HTZ := Aside0.mk ht
          clear hx HX3 ht
          refine start_ (n := 14) (S := fun w' => w'.cell? ⟨r.p, 4, none⟩ = some (.slice r.As r.ss.length r.cs)) (ds := [12]) #[false, false, false, false, false, false, false, false, false, false, false, false, false, false] (by kernel_rfl) rfl rfl ((cell_up (below_drew1 (Below.refl w6.heap.size w6)) k4)) (fun hHeld => ?_)
          refine pure_ (i := 0) (N := some 47) (v := ?_) (a' := ?_) #[true, false, false, false, false, false, false, false, false, false, false, false, false, false] rfl rfl (by kernel_rfl) (fun _ _ _ h => h) (Or.inl ⟨by rfl, ?_⟩) ?_ ?_
          rotate_left
          · intro w'
            go_simp
            with_reducible rfl
          rotate_left
          · simp only [Act.put, List.setIfInBounds_toArray, List.set_cons_zero, List.set_cons_succ, i64_w, i32_w]
            rfl
          refine pure_ (i := 1) (N := some 48) (v := ?_) (a' := ?_) #[true, true, false, false, false, false, false, false, false, false, false, false, false, false] rfl rfl (by kernel_rfl) (fun _ _ _ h => h) (Or.inl ⟨by rfl, ?_⟩) ?_ ?_
          rotate_left
          · intro w'
            go_simp
            with_reducible rfl
          rotate_left
          · simp only [Act.put, List.setIfInBounds_toArray, List.set_cons_zero, List.set_cons_succ, i64_w, i32_w]
            rfl
          refine pure_ (i := 2) (N := some 49) (v := ?_) (a' := ?_) #[true, true, true, false, false, false, false, false, false, false, false, false, false, false] rfl rfl (by kernel_rfl) (fun _ _ _ h => h) (Or.inl ⟨by rfl, ?_⟩) ?_ ?_
          rotate_left
          · intro w'
            go_simp
            with_reducible rfl
          rotate_left
          · simp only [Act.put, List.setIfInBounds_toArray, List.set_cons_zero, List.set_cons_succ, i64_w, i32_w]
            rfl
          refine pure_ (i := 4) (N := some 51) (v := ?_) (a' := ?_) #[true, true, true, false, true, false, false, false, false, false, false, false, false, false] rfl rfl (by kernel_rfl) (fun _ _ _ h => h) (Or.inl ⟨by rfl, ?_⟩) ?_ ?_
          rotate_left
          · intro w'
            go_simp
            with_reducible rfl
          rotate_left
          · simp only [Act.put, List.setIfInBounds_toArray, List.set_cons_zero, List.set_cons_succ, i64_w, i32_w]
            rfl
          refine pure_ (i := 5) (N := some 52) (v := ?_) (a' := ?_) #[true, true, true, false, true, true, false, false, false, false, false, false, false, false] rfl rfl (by kernel_rfl) (fun _ _ _ h => h) (Or.inl ⟨by rfl, ?_⟩) ?_ ?_
          rotate_left
          · intro w'
            go_simp
            with_reducible rfl
          rotate_left
          · simp only [Act.put, List.setIfInBounds_toArray, List.set_cons_zero, List.set_cons_succ, i64_w, i32_w]
            rfl
          refine take_ (i := 3) (N := some 50) (v := ?_) (a' := ?_) #[true, true, true, true, true, true, false, false, false, false, false, false, false, false] rfl rfl (by kernel_rfl) (fun _ _ _ h => h) (Or.inl ⟨by rfl, ?_⟩) hHeld ?_ ?_
          rotate_left
          · intro w' s0
            go_simp
            with_reducible rfl
          rotate_left
          · simp only [Act.put, List.setIfInBounds_toArray, List.set_cons_zero, List.set_cons_succ, i64_w, i32_w]
            rfl
          refine one_ (i := 6) (N := some 53) #[true, true, true, true, true, true, true, false, false, false, false, false, false, false] rfl rfl (by kernel_rfl) (by decide) (fun K hK => ?_)
          refine goes_ Try.func39 (by kernel_rfl) rfl #[.slice AT 4 cT] (by rfl) rfl rfl (by simp only [List.map_toArray, List.map_cons, List.map_nil]; rfl) ?_
          with_reducible refine (HNUMT.out _ (below_step HD3.out (below_drew1 HQ6.out))).mono ?_
          rintro e w7 ⟨rfl, hd⟩
          refine ⟨_, rfl, ?_⟩
          have hw_ := below_drawn hd
          have hk7 := cell_up hw_ (cell_up (below_drew1 (Below.refl w6.heap.size w6)) k4)
          have HQ7 := Aside0.mk (below_step (below_drew1 HQ6.out) hw_)
          have hg7 := (hw_.block _ (lt_of_block HG6.out)).trans HG6.out
          have HR7 := Aside0.mk (HR3.out.up HQ7.out)
          clear hd hw_
          rw [HNT.out]
          refine hK.out _ _ (hk7) (fun hHeld => ?_)
          clear hK K
          refine norm_ (a' := ?_) ?_ ?_
          rotate_left
          · show Act.put _ (some 53) _ = _
            simp only [Act.put, List.setIfInBounds_toArray, List.set_cons_zero, List.set_cons_succ, i64_w, i32_w]
            rfl
          refine one_ (i := 7) (N := some 54) #[true, true, true, true, true, true, true, true, false, false, false, false, false, false] rfl rfl (by kernel_rfl) (by decide) (fun K hK => ?_)
          refine goes_ Try.func59 (by kernel_rfl) rfl #[.slice r.As r.ss.length r.cs, .int .u64 NT] (by rfl) rfl rfl (by simp only [List.map_toArray, List.map_cons, List.map_nil]; rfl) ?_
          with_reducible refine (text_calls r.As r.cs r.ss NT w7 HR7.out.C_s HR7.out.ls HG.out.s8 HG.out.sl HTT.out.1).mono ?_
          rintro e w8 ⟨rfl, hd⟩
          refine ⟨_, rfl, ?_⟩
          have hw_ := below_drawn hd
          have hk8 := cell_up hw_ hk7
          have HQ8 := Aside0.mk (below_step HQ7.out hw_)
          have hg8 := (hw_.block _ (lt_of_block hg7)).trans hg7
          clear hd hw_
          rw [HT.out, errOf_none HTZ.out, errW_none]
          refine hK.out _ _ (hk8) (fun hHeld => ?_)
          clear hK K
          refine norm_ (a' := ?_) ?_ ?_
          rotate_left
          · show Act.put _ (some 54) _ = _
            simp only [Act.put, List.setIfInBounds_toArray, List.set_cons_zero, List.set_cons_succ, i64_w, i32_w]
            rfl
          refine pure_ (i := 8) (N := some 46) (v := ?_) (a' := ?_) #[true, true, true, true, true, true, true, true, true, false, false, false, false, false] rfl rfl (by kernel_rfl) (fun _ _ _ h => h) (Or.inl ⟨by rfl, ?_⟩) ?_ ?_
          rotate_left
          · intro w'
            go_simp
            with_reducible rfl
          rotate_left
          · simp only [Act.put, List.setIfInBounds_toArray, List.set_cons_zero, List.set_cons_succ, i64_w, i32_w]
            rfl
          refine pure_ (i := 9) (N := some 55) (v := ?_) (a' := ?_) #[true, true, true, true, true, true, true, true, true, true, false, false, false, false] rfl rfl (by kernel_rfl) (fun _ _ _ h => h) (Or.inl ⟨by rfl, ?_⟩) ?_ ?_
          rotate_left
          · intro w'
            go_simp
            with_reducible rfl
          rotate_left
          · simp only [Act.put, List.setIfInBounds_toArray, List.set_cons_zero, List.set_cons_succ, i64_w, i32_w]
            rfl
          refine pure_ (i := 10) (N := some 56) (v := ?_) (a' := ?_) #[true, true, true, true, true, true, true, true, true, true, true, false, false, false] rfl rfl (by kernel_rfl) (fun _ _ _ h => h) (Or.inl ⟨by rfl, ?_⟩) ?_ ?_
          rotate_left
          · intro w'
            go_simp
            with_reducible rfl
          rotate_left
          · simp only [Act.put, List.setIfInBounds_toArray, List.set_cons_zero, List.set_cons_succ, i64_w, i32_w]
            rfl
          refine pure_ (i := 11) (N := some 57) (v := ?_) (a' := ?_) #[true, true, true, true, true, true, true, true, true, true, true, true, false, false] rfl rfl (by kernel_rfl) (fun _ _ _ h => h) (Or.inl ⟨by rfl, ?_⟩) ?_ ?_
          rotate_left
          · intro w'
            go_simp
            with_reducible rfl
          rotate_left
          · simp only [Act.put, List.setIfInBounds_toArray, List.set_cons_zero, List.set_cons_succ, i64_w, i32_w]
            rfl
          refine last_ (i := 12) (N := none) #[true, true, true, true, true, true, true, true, true, true, true, true, true, false] rfl rfl (by kernel_rfl) (by decide) (fun K hK => ?_)
          have hcg : w8.cell? ⟨g, 2, none⟩ = some (.string ⟨#[]⟩) := (cell_of_row w8 g 2 _ _ _ hg8).trans rfl
          have hfg := blk_frozen hg8 2
          refine skip_ (w1 := ?_) (by rfl) rfl ?_ ?_
          rotate_left
          · go_simp
            rfl
          clear hcg hfg
          have HG9 := Aside0.mk (blk_set hg8 2 (.string t.1))
          have HQ9 := Aside0.mk (Below.setCell HQ8.out (p := ⟨g, 2, none⟩) HGE.out (.string t.1))
          clear hg8
          refine hK.out _ _ ?_
          clear hK K
          refine pure_ (i := 13) (N := some 14) (v := ?_) (a' := ?_) #[true, true, true, true, true, true, true, true, true, true, true, true, true, true] rfl rfl (by kernel_rfl) (fun _ _ _ h => h) (Or.inl ⟨by rfl, ?_⟩) ?_ ?_
          rotate_left
          · intro w'
            go_simp
            with_reducible rfl
          rotate_left
          · simp only [Act.put, List.setIfInBounds_toArray, List.set_cons_zero, List.set_cons_succ, i64_w, i32_w]
            rfl
          refine done_ (by kernel_rfl) ?_
          go_wp2
          have HB9 := Aside0.mk (show (w8.setCell ⟨g, 2, none⟩ (.string t.1)).heap[g]? = some (.cells #[.int .i64 IX, .bool WK, .string t.1] 68 (0, 0)) from HG9.out)
          clear HG9
          generalize World.setCell w8 ⟨g, 2, none⟩ (.string t.1) = w9 at HB9 HQ9 ⊢
          obtain ⟨SY, hSY⟩ : ∃ y, sysv t.1 = y := ⟨_, rfl⟩
          have hsy := sysv_in t.1
          have HSYC := Aside0.mk (fun n : Nat => Calls.quiet_of (sysv_calls t.1 (World.drewN w9 n) (by have := HTS.out; omega)))
          have HNQ := Aside0.mk (fun n : Nat => Calls.quiet_of (HNUMH.out (World.drewN w9 n) (pw_below_drewN (below_step HD3.out HQ9.out) n)))
          have hx := HX4_.out
          rw [hSY] at hx hsy HSYC
          rw [HNH.out] at HNQ
          have HX5 := Aside0.mk hx
          have hcv := u64_in SY (by omega) (by omega)
          have e0 : w9.cell? ⟨g, 0, none⟩ = some (.int .i64 IX) := (cell_of_row w9 g 0 _ _ _ HB9.out).trans rfl
          have e2 : w9.cell? ⟨g, 2, none⟩ = some (.string t.1) := (cell_of_row w9 g 2 _ _ _ HB9.out).trans rfl
          clear hSY hsy hx HX4_ k4
          by_cases cs : SY = NH
          · have csb : (SY == NH) = true := beq_t cs
            have csb2 : (SY != NH) = false := by rw [bne, csb]; rfl
            by_cases ci : IX < 2
            · have cib : decide (IX < 2) = true := decide_eq_true ci
              have hx := HX5.out
              rw [if_pos (.inr ci)] at hx
              have HX6 := Aside0.mk hx
              clear hx HX5 cs ci
              go_quiet (first | exact HSYC.out _ | exact HNQ.out _)
              go_wp2
              refine HP.out _ _ ?_
              rw [← HX6.out]
              exact VersionsP.err (v := .slice none 0 0) rfl (HR3.out.low (pw_below_drewN HQ9.out nq)) (grown_below HG3.out (pw_below_drewN HQ9.out nq))
            · have cib : decide (IX < 2) = false := decide_eq_false ci
              have hx := HX5.out
              rw [if_neg (fun h => h.elim (fun h => h cs) ci)] at hx
              have HX6 := Aside0.mk hx
              clear hx HX5 cs ci
              go_quiet (first | exact HSYC.out _ | exact HNQ.out _)
              have HQ10 := Aside0.mk (pw_below_drewN HQ9.out nq)
              have HB10 := Aside0.mk (((pw_below_drewN (Below.refl w9.heap.size w9) nq).block _ (lt_of_block HB9.out)).trans HB9.out)
              clear e0 e2 HSYC HNQ
              generalize World.drewN w9 nq = w10 at HQ10 HB10 ⊢
              clear HB9 HQ9
              have HU := Aside0.mk (u64_in (n - 1) (by have := HI.out; have := HC4.out; omega) (by have := HN.out; omega))
              have HV := Aside0.mk (u64_in (i + 1) (by have := HI.out; omega) (by have := HI.out; have := HN.out; omega))
              have HWF := Aside0.mk (wf_i64 (a := IX) (by have := HIX.out; have := idx_in NI; omega) (by have := HIX.out; have := idx_in NI; omega))
              have HR10 := Aside0.mk (HR3.out.up HQ10.out)
              have e0 : w10.cell? ⟨g, 0, none⟩ = some (.int .i64 IX) := (cell_of_row w10 g 0 _ _ _ HB10.out).trans rfl
              have k5 := HR10.out.c5
              have hlook := fun n : Nat => look_set (HR10.out.drewN n).map IX HWF.out
              by_cases cm : IX ∈ T1
              · simp only [decide_eq_true cm] at hlook
                have hx := HX6.out
                rw [if_pos cm] at hx
                have HX7 := Aside0.mk hx
                clear hx HX6 cm
                go_wp2
                go_quiet (fail)
                go_wp2
                refine HP.out _ _ ?_
                rw [← HX7.out]
                exact VersionsP.err (v := .slice none 0 0) rfl (HR3.out.low (pw_below_drewN HQ10.out nq)) (grown_below HG3.out (pw_below_drewN HQ10.out nq))
              · simp only [decide_eq_false cm] at hlook
                have hx := HX6.out
                rw [if_neg cm] at hx
                have HX7 := Aside0.mk hx
                clear hx HX6 cm
                go_wp2
                go_quiet (fail)
                have HQ11 := Aside0.mk (pw_below_drewN HQ10.out nq)
                have HB11 := Aside0.mk (((pw_below_drewN (Below.refl w10.heap.size w10) nq).block _ (lt_of_block HB10.out)).trans HB10.out)
                clear e0 k5 hlook HR10
                generalize World.drewN w10 nq = w11 at HQ11 HB11 ⊢
                clear HB10 HQ10
                have HR11 := Aside0.mk (HR3.out.up HQ11.out)
                have e0 : w11.cell? ⟨g, 0, none⟩ = some (.int .i64 IX) := (cell_of_row w11 g 0 _ _ _ HB11.out).trans rfl
                have k5 := HR11.out.c5
                by_cases cz : N12 = 0
                · have cz0 : (N12 == 0) = true := beq_t cz
                  by_cases ck : k = 0
                  · have ci2 : decide (i < IntKind.u64.wrap (n - 1)) = false := decide_eq_false (by rw [HU.out]; have := HK.out; have := HI.out; omega)
                    have hx := HX7.out
                    rw [if_neg (fun h => h.2 ck)] at hx
                    have HX8 := Aside0.mk hx
                    clear hx HX7 ck cz
                    go_wp2
                    go_still_tail 6, (by kernel_rfl)
                    change wpList _ _ _ _ _ w11.drew
                    have hdr : Below w11.heap.size w11 w11.drew := below_drew1 (Below.refl _ _)
                    have HR12 := Aside0.mk (HR11.out.up hdr)
                    have HQ12 := Aside0.mk (below_drew1 HQ11.out)
                    have HB12 := Aside0.mk ((hdr.block _ (lt_of_block HB11.out)).trans HB11.out)
                    clear hdr e0 k5
                    generalize w11.drew = w12 at HR12 HQ12 HB12 ⊢
                    clear HR11 HQ11 HB11
                    go_wp2_with (first
                      | (at_mapUpdate; refine wpList_update_set rfl (.tmp 98) (.tmp 100) (.const (.bool true)) rfl HR12.out.map (by have := HW.out.2.2.2.2; have := HTL.out; have := HI.out; have := HN.out; omega) IX HWF.out rfl rfl rfl ?_; intro w13 hm13 hg13; have HR13 := Aside0.mk (HR12.out.told hm13 hg13); have HO13 := Aside0.mk (Kd.R_grown (Kd.R_below HO3.out HQ12.out) hg13 (fun k hk e => hk (by injection e))); have HG13 := Aside0.mk (grown_grown (grown_below HG3.out HQ12.out) hg13); have hb13 := ((hg13.block g (lt_of_block HB12.out) (fun e => HR12.out.map.ne HB12.out (by injection e))).trans HB12.out); have f0 : w13.cell? ⟨g, 0, none⟩ = some (.int .i64 IX) := (cell_of_row w13 g 0 _ _ _ hb13).trans rfl; have f1 : w13.cell? ⟨g, 1, none⟩ = some (.bool WK) := (cell_of_row w13 g 1 _ _ _ hb13).trans rfl; have f2 : w13.cell? ⟨g, 2, none⟩ = some (.string t.1) := (cell_of_row w13 g 2 _ _ _ hb13).trans rfl; clear hm13 hg13 hb13)
                      | ((with_reducible refine gate_builtin (b := .append) (xs := #[.tmp 101, .tmp 103]) rfl ?_); at_builtin; refine Kd.R_append kAx (w0 := w13) w.heap.size rfl (.tmp 101) (.tmp 103) 64 68 (.agg #[.int .i64 0, .bool false, .string ⟨#[]⟩]) 32 rfl Try.underlying64 info68 rfl (by decide) (by omega) u10 acc (IX, WK, t.1) [.int .i64 IX, .bool WK, .string t.1] (fun k => k ≠ r.m) (fun _ => False) rfl (by first | (go_simp; done) | (go_simp; rfl)) ?aP (fun _ hk => hk.elim) ?aF ?aO ?aB ?aS ?aL ?_; (case aP => exact kAx_mkM _ _ _ _); (case aF => exact fun k hk e => by have := HR13.out.map.lt; have e : k = r.m := e; omega); (case aO => exact HO13.out); (case aB => exact Below.refl _ _); (case aS => exact HG13.out.size); (case aL => have := HW.out.2.2.2.1; have := HI.out; have := HN.out; omega); intro v14 w14 ho hb hg hat; have HO14 := Aside0.mk ho; have HR14 := Aside0.mk (HH.out.own HR13.out HO13.out hg); have HG14 := Aside0.mk (grown_own HG13.out HO13.out hg); clear ho hb hg hat f0 f1 f2))
                    go_roundg (n - (i + 1)).toNat
                    case measure => have := HI.out; have := HC4.out; omega
                    case rel => exact ⟨i + 1, x, N12, IX :: T1, acc ++ [(IX, WK, t.1)], rfl, rfl, by rw [HV.out], ⟨by have := HI.out; have := HC4.out; omega⟩, ⟨HXI.out, H12.out⟩, ⟨by rw [show (n - (i + 1)).toNat = k by have := HK.out; omega]; exact HX8.out⟩, ⟨HO14.out, HR14.out, HG14.out, by have := HW.out.2.2.2.1; have := HI.out; simp; omega, by have := HW.out.2.2.2.2; have := HI.out; simp; omega⟩⟩
                  · have ci2 : decide (i < IntKind.u64.wrap (n - 1)) = true := decide_eq_true (by rw [HU.out]; have := HK.out; have := HI.out; omega)
                    have hx := HX7.out
                    rw [if_pos ⟨cz, ck⟩] at hx
                    have HX8 := Aside0.mk hx
                    clear hx HX7 cz ck
                    go_wp2
                    refine HP.out _ _ ?_
                    rw [← HX8.out]
                    exact VersionsP.err (v := .slice none 0 0) rfl (HR3.out.low HQ11.out) (grown_below HG3.out HQ11.out)
                · have cz0 : (N12 == 0) = false := beq_f cz
                  have hx := HX7.out
                  rw [if_neg (fun h => cz h.1)] at hx
                  have HX8 := Aside0.mk hx
                  clear hx HX7 cz
                  go_wp2
                  go_still_tail 6, (by kernel_rfl)
                  change wpList _ _ _ _ _ w11.drew
                  have hdr : Below w11.heap.size w11 w11.drew := below_drew1 (Below.refl _ _)
                  have HR12 := Aside0.mk (HR11.out.up hdr)
                  have HQ12 := Aside0.mk (below_drew1 HQ11.out)
                  have HB12 := Aside0.mk ((hdr.block _ (lt_of_block HB11.out)).trans HB11.out)
                  clear hdr e0 k5
                  generalize w11.drew = w12 at HR12 HQ12 HB12 ⊢
                  clear HR11 HQ11 HB11
                  go_wp2_with (first
                    | (at_mapUpdate; refine wpList_update_set rfl (.tmp 98) (.tmp 100) (.const (.bool true)) rfl HR12.out.map (by have := HW.out.2.2.2.2; have := HTL.out; have := HI.out; have := HN.out; omega) IX HWF.out rfl rfl rfl ?_; intro w13 hm13 hg13; have HR13 := Aside0.mk (HR12.out.told hm13 hg13); have HO13 := Aside0.mk (Kd.R_grown (Kd.R_below HO3.out HQ12.out) hg13 (fun k hk e => hk (by injection e))); have HG13 := Aside0.mk (grown_grown (grown_below HG3.out HQ12.out) hg13); have hb13 := ((hg13.block g (lt_of_block HB12.out) (fun e => HR12.out.map.ne HB12.out (by injection e))).trans HB12.out); have f0 : w13.cell? ⟨g, 0, none⟩ = some (.int .i64 IX) := (cell_of_row w13 g 0 _ _ _ hb13).trans rfl; have f1 : w13.cell? ⟨g, 1, none⟩ = some (.bool WK) := (cell_of_row w13 g 1 _ _ _ hb13).trans rfl; have f2 : w13.cell? ⟨g, 2, none⟩ = some (.string t.1) := (cell_of_row w13 g 2 _ _ _ hb13).trans rfl; clear hm13 hg13 hb13)
                    | ((with_reducible refine gate_builtin (b := .append) (xs := #[.tmp 101, .tmp 103]) rfl ?_); at_builtin; refine Kd.R_append kAx (w0 := w13) w.heap.size rfl (.tmp 101) (.tmp 103) 64 68 (.agg #[.int .i64 0, .bool false, .string ⟨#[]⟩]) 32 rfl Try.underlying64 info68 rfl (by decide) (by omega) u10 acc (IX, WK, t.1) [.int .i64 IX, .bool WK, .string t.1] (fun k => k ≠ r.m) (fun _ => False) rfl (by first | (go_simp; done) | (go_simp; rfl)) ?aP (fun _ hk => hk.elim) ?aF ?aO ?aB ?aS ?aL ?_; (case aP => exact kAx_mkM _ _ _ _); (case aF => exact fun k hk e => by have := HR13.out.map.lt; have e : k = r.m := e; omega); (case aO => exact HO13.out); (case aB => exact Below.refl _ _); (case aS => exact HG13.out.size); (case aL => have := HW.out.2.2.2.1; have := HI.out; have := HN.out; omega); intro v14 w14 ho hb hg hat; have HO14 := Aside0.mk ho; have HR14 := Aside0.mk (HH.out.own HR13.out HO13.out hg); have HG14 := Aside0.mk (grown_own HG13.out HO13.out hg); clear ho hb hg hat f0 f1 f2))
                  go_roundg (n - (i + 1)).toNat
                  case measure => have := HI.out; have := HC4.out; omega
                  case rel => exact ⟨i + 1, x, N12, IX :: T1, acc ++ [(IX, WK, t.1)], rfl, rfl, by rw [HV.out], ⟨by have := HI.out; have := HC4.out; omega⟩, ⟨HXI.out, H12.out⟩, ⟨by rw [show (n - (i + 1)).toNat = k by have := HK.out; omega]; exact HX8.out⟩, ⟨HO14.out, HR14.out, HG14.out, by have := HW.out.2.2.2.1; have := HI.out; simp; omega, by have := HW.out.2.2.2.2; have := HI.out; simp; omega⟩⟩
          · have csb : (SY == NH) = false := beq_f cs
            have csb2 : (SY != NH) = true := by rw [bne, csb]; rfl
            have hx := HX5.out
            rw [if_pos (.inl cs)] at hx
            have HX6 := Aside0.mk hx
            clear hx HX5 cs
            go_quiet (first | exact HSYC.out _ | exact HNQ.out _)
            go_wp2
            refine HP.out _ _ ?_
            rw [← HX6.out]
            exact VersionsP.err (v := .slice none 0 0) rfl (HR3.out.low (pw_below_drewN HQ9.out nq)) (grown_below HG3.out (pw_below_drewN HQ9.out nq))
        · have hx := HX3.out
          rw [if_pos ht] at hx
          have HX4_ := Aside0.mk hx
          have HTZ := Aside0.mk ht
          clear hx HX3 ht
          refine start_ (n := 14) (S := fun w' => w'.cell? ⟨r.p, 4, none⟩ = some (.slice r.As r.ss.length r.cs)) (ds := [12]) #[false, false, false, false, false, false, false, false, false, false, false, false, false, false] (by kernel_rfl) rfl rfl ((cell_up (below_drew1 (Below.refl w6.heap.size w6)) k4)) (fun hHeld => ?_)
          refine pure_ (i := 0) (N := some 47) (v := ?_) (a' := ?_) #[true, false, false, false, false, false, false, false, false, false, false, false, false, false] rfl rfl (by kernel_rfl) (fun _ _ _ h => h) (Or.inl ⟨by rfl, ?_⟩) ?_ ?_
          rotate_left
          · intro w'
            go_simp
            with_reducible rfl
          rotate_left
          · simp only [Act.put, List.setIfInBounds_toArray, List.set_cons_zero, List.set_cons_succ, i64_w, i32_w]
            rfl
          refine pure_ (i := 1) (N := some 48) (v := ?_) (a' := ?_) #[true, true, false, false, false, false, false, false, false, false, false, false, false, false] rfl rfl (by kernel_rfl) (fun _ _ _ h => h) (Or.inl ⟨by rfl, ?_⟩) ?_ ?_
          rotate_left
          · intro w'
            go_simp
            with_reducible rfl
          rotate_left
          · simp only [Act.put, List.setIfInBounds_toArray, List.set_cons_zero, List.set_cons_succ, i64_w, i32_w]
            rfl
          refine pure_ (i := 2) (N := some 49) (v := ?_) (a' := ?_) #[true, true, true, false, false, false, false, false, false, false, false, false, false, false] rfl rfl (by kernel_rfl) (fun _ _ _ h => h) (Or.inl ⟨by rfl, ?_⟩) ?_ ?_
          rotate_left
          · intro w'
            go_simp
            with_reducible rfl
          rotate_left
          · simp only [Act.put, List.setIfInBounds_toArray, List.set_cons_zero, List.set_cons_succ, i64_w, i32_w]
            rfl
          refine pure_ (i := 4) (N := some 51) (v := ?_) (a' := ?_) #[true, true, true, false, true, false, false, false, false, false, false, false, false, false] rfl rfl (by kernel_rfl) (fun _ _ _ h => h) (Or.inl ⟨by rfl, ?_⟩) ?_ ?_
          rotate_left
          · intro w'
            go_simp
            with_reducible rfl
          rotate_left
          · simp only [Act.put, List.setIfInBounds_toArray, List.set_cons_zero, List.set_cons_succ, i64_w, i32_w]
            rfl
          refine pure_ (i := 5) (N := some 52) (v := ?_) (a' := ?_) #[true, true, true, false, true, true, false, false, false, false, false, false, false, false] rfl rfl (by kernel_rfl) (fun _ _ _ h => h) (Or.inl ⟨by rfl, ?_⟩) ?_ ?_
          rotate_left
          · intro w'
            go_simp
            with_reducible rfl
          rotate_left
          · simp only [Act.put, List.setIfInBounds_toArray, List.set_cons_zero, List.set_cons_succ, i64_w, i32_w]
            rfl
          refine take_ (i := 3) (N := some 50) (v := ?_) (a' := ?_) #[true, true, true, true, true, true, false, false, false, false, false, false, false, false] rfl rfl (by kernel_rfl) (fun _ _ _ h => h) (Or.inl ⟨by rfl, ?_⟩) hHeld ?_ ?_
          rotate_left
          · intro w' s0
            go_simp
            with_reducible rfl
          rotate_left
          · simp only [Act.put, List.setIfInBounds_toArray, List.set_cons_zero, List.set_cons_succ, i64_w, i32_w]
            rfl
          refine one_ (i := 6) (N := some 53) #[true, true, true, true, true, true, true, false, false, false, false, false, false, false] rfl rfl (by kernel_rfl) (by decide) (fun K hK => ?_)
          refine goes_ Try.func39 (by kernel_rfl) rfl #[.slice AT 4 cT] (by rfl) rfl rfl (by simp only [List.map_toArray, List.map_cons, List.map_nil]; rfl) ?_
          with_reducible refine (HNUMT.out _ (below_step HD3.out (below_drew1 HQ6.out))).mono ?_
          rintro e w7 ⟨rfl, hd⟩
          refine ⟨_, rfl, ?_⟩
          have hw_ := below_drawn hd
          have hk7 := cell_up hw_ (cell_up (below_drew1 (Below.refl w6.heap.size w6)) k4)
          have HQ7 := Aside0.mk (below_step (below_drew1 HQ6.out) hw_)
          have hg7 := (hw_.block _ (lt_of_block HG6.out)).trans HG6.out
          have HR7 := Aside0.mk (HR3.out.up HQ7.out)
          clear hd hw_
          rw [HNT.out]
          refine hK.out _ _ (hk7) (fun hHeld => ?_)
          clear hK K
          refine norm_ (a' := ?_) ?_ ?_
          rotate_left
          · show Act.put _ (some 53) _ = _
            simp only [Act.put, List.setIfInBounds_toArray, List.set_cons_zero, List.set_cons_succ, i64_w, i32_w]
            rfl
          refine one_ (i := 7) (N := some 54) #[true, true, true, true, true, true, true, true, false, false, false, false, false, false] rfl rfl (by kernel_rfl) (by decide) (fun K hK => ?_)
          refine goes_ Try.func59 (by kernel_rfl) rfl #[.slice r.As r.ss.length r.cs, .int .u64 NT] (by rfl) rfl rfl (by simp only [List.map_toArray, List.map_cons, List.map_nil]; rfl) ?_
          with_reducible refine (text_calls r.As r.cs r.ss NT w7 HR7.out.C_s HR7.out.ls HG.out.s8 HG.out.sl HTT.out.1).mono ?_
          rintro e w8 ⟨rfl, hd⟩
          refine ⟨_, rfl, ?_⟩
          have hw_ := below_drawn hd
          have hk8 := cell_up hw_ hk7
          have HQ8 := Aside0.mk (below_step HQ7.out hw_)
          have hg8 := (hw_.block _ (lt_of_block hg7)).trans hg7
          clear hd hw_
          rw [HT.out, errOf_some HTZ.out, errW_some]
          refine hK.out _ _ (hk8) (fun hHeld => ?_)
          clear hK K
          refine norm_ (a' := ?_) ?_ ?_
          rotate_left
          · show Act.put _ (some 54) _ = _
            simp only [Act.put, List.setIfInBounds_toArray, List.set_cons_zero, List.set_cons_succ, i64_w, i32_w]
            rfl
          refine pure_ (i := 8) (N := some 46) (v := ?_) (a' := ?_) #[true, true, true, true, true, true, true, true, true, false, false, false, false, false] rfl rfl (by kernel_rfl) (fun _ _ _ h => h) (Or.inl ⟨by rfl, ?_⟩) ?_ ?_
          rotate_left
          · intro w'
            go_simp
            with_reducible rfl
          rotate_left
          · simp only [Act.put, List.setIfInBounds_toArray, List.set_cons_zero, List.set_cons_succ, i64_w, i32_w]
            rfl
          refine pure_ (i := 9) (N := some 55) (v := ?_) (a' := ?_) #[true, true, true, true, true, true, true, true, true, true, false, false, false, false] rfl rfl (by kernel_rfl) (fun _ _ _ h => h) (Or.inl ⟨by rfl, ?_⟩) ?_ ?_
          rotate_left
          · intro w'
            go_simp
            with_reducible rfl
          rotate_left
          · simp only [Act.put, List.setIfInBounds_toArray, List.set_cons_zero, List.set_cons_succ, i64_w, i32_w]
            rfl
          refine pure_ (i := 10) (N := some 56) (v := ?_) (a' := ?_) #[true, true, true, true, true, true, true, true, true, true, true, false, false, false] rfl rfl (by kernel_rfl) (fun _ _ _ h => h) (Or.inl ⟨by rfl, ?_⟩) ?_ ?_
          rotate_left
          · intro w'
            go_simp
            with_reducible rfl
          rotate_left
          · simp only [Act.put, List.setIfInBounds_toArray, List.set_cons_zero, List.set_cons_succ, i64_w, i32_w]
            rfl
          refine pure_ (i := 11) (N := some 57) (v := ?_) (a' := ?_) #[true, true, true, true, true, true, true, true, true, true, true, true, false, false] rfl rfl (by kernel_rfl) (fun _ _ _ h => h) (Or.inl ⟨by rfl, ?_⟩) ?_ ?_
          rotate_left
          · intro w'
            go_simp
            with_reducible rfl
          rotate_left
          · simp only [Act.put, List.setIfInBounds_toArray, List.set_cons_zero, List.set_cons_succ, i64_w, i32_w]
            rfl
          refine last_ (i := 12) (N := none) #[true, true, true, true, true, true, true, true, true, true, true, true, true, false] rfl rfl (by kernel_rfl) (by decide) (fun K hK => ?_)
          have hcg : w8.cell? ⟨g, 2, none⟩ = some (.string ⟨#[]⟩) := (cell_of_row w8 g 2 _ _ _ hg8).trans rfl
          have hfg := blk_frozen hg8 2
          refine skip_ (w1 := ?_) (by rfl) rfl ?_ ?_
          rotate_left
          · go_simp
            rfl
          clear hcg hfg
          have HG9 := Aside0.mk (blk_set hg8 2 (.string t.1))
          have HQ9 := Aside0.mk (Below.setCell HQ8.out (p := ⟨g, 2, none⟩) HGE.out (.string t.1))
          clear hg8
          refine hK.out _ _ ?_
          clear hK K
          refine pure_ (i := 13) (N := some 14) (v := ?_) (a' := ?_) #[true, true, true, true, true, true, true, true, true, true, true, true, true, true] rfl rfl (by kernel_rfl) (fun _ _ _ h => h) (Or.inl ⟨by rfl, ?_⟩) ?_ ?_
          rotate_left
          · intro w'
            go_simp
            with_reducible rfl
          rotate_left
          · simp only [Act.put, List.setIfInBounds_toArray, List.set_cons_zero, List.set_cons_succ, i64_w, i32_w]
            rfl
          refine done_ (by kernel_rfl) ?_
          go_wp2
          refine HP.out _ _ ?_
          rw [← HX4_.out]
          exact VersionsP.err (v := .slice none 0 0) rfl (HR3.out.low HQ9.out) (grown_below HG3.out HQ9.out)
    · have c4b0 : decide (i < n) = false := decide_eq_false c4
      have hi : (n - i).toNat = 0 := by omega
      have hx := HX.out
      rw [hi, versionsS] at hx
      have HX2 := Aside0.mk hx
      clear hx hi c4 HX
      go_wp2
      refine HP.out _ _ ?_
      rw [← HX2.out]
      exact VersionsP.ok rfl HW.out.1 HW.out.2.1 HW.out.2.2.1
end Go.Proofs.Ythopdoamajjojaa.VersS
