import Derived.Test.YthopdoamajjojaaVersRead
import Derived.Test.YthopdoamajjojaaVersRefSpec
import Derived.Test.YthopdoamajjojaaQVersx4
namespace Go.Proofs.Ythopdoamajjojaa.VersR
open Go Go.RowKit Go.Proofs.Ythopdoamajjojaa.QVers Go.Proofs.Ythopdoamajjojaa.VersSpec Go.Proofs.Ythopdoamajjojaa.VersS Go.Proofs.YthopdoamajjojaaW.PrintWords Go.Proofs.YthopdoamajjojaaW.PrintLast Go.Proofs.YthopdoamajjojaaW.PrintMore
open TextFacts (textS u64_in)
set_option linter.unusedSimpArgs false
set_option linter.unusedVariables false
theorem rnum_calls (A : Option Addr) (c : Nat) (l : List Int) (a b : Nat) (w : World) (hC : Kd.C (Kd.int .u8) w A l.length l) (hc : l.length ≤ c) (h8 : ∀ x ∈ l, 0 ≤ x ∧ x ≤ 255) (hab : a ≤ b) (hb : b ≤ l.length) (hl : b - a ≤ 8) :
    Calls Try.prog 44 #[.slice A l.length c, .int .i64 (a : Int), .int .i64 (b : Int)] w fun e w' => e = .returned (.int .u64 (num ((l.take b).drop a))) ∧ ∃ n, w' = w.drewN n := by
  obtain ⟨k, hk⟩ := (VersRefSpec.number_f ((l.take b).drop a) (fun x hx => h8 x (List.mem_of_mem_take (List.mem_of_mem_drop hx))) (by simp; omega)).rounds
  refine (shackleref08_n.calls k A c l a b _ w hC hc ?_).mono (by rintro e w' ⟨rfl, ⟨h⟩⟩; exact ⟨rfl, h⟩)
  unfold shackleref08_n.f
  rw [if_pos (by omega), if_pos (by omega), if_pos (by omega), Int.toNat_natCast, Int.toNat_natCast, hk]
  rfl
theorem rtext_calls (A : Option Addr) (c : Nat) (l : List Int) (a : Int) (w : World) (hC : Kd.C (Kd.int .u8) w A l.length l) (hc : l.length ≤ c) (hl : l.length ≤ 140737488351232) (ha : 0 ≤ a) :
    Calls Try.prog 66 #[.slice A l.length c, .int .u64 a] w fun e w' => e = .returned (.tuple #[.string (textS l a).1, .int .i64 (textS l a).2]) ∧ ∃ n, w' = w.drewN n := by
  obtain ⟨k, hk⟩ := (VersRefSpec.text_ev l a hl ha).rounds
  exact (shackleref06_Text.calls k A c l a _ _ w hC hc hk).mono (by rintro e w' ⟨rfl, ⟨h⟩⟩; exact ⟨rfl, h⟩)
theorem rsysv_l0 (s : ByteArray) (hn : s.size ≤ 9223372036854775807) (d : Nat) : ∀ (k : Nat) (i h : Int), 0 ≤ i → i ≤ s.size → (s.size : Int) - i = d → d < k →
    shackleref07_Sysv.l0 k s h i = some (((bytesOf s).drop i.toNat).foldl sstep h) := by
  induction d with
  | zero =>
    intro k i h h0 h1 hd hk
    obtain ⟨k, rfl⟩ : ∃ m, k = m + 1 := ⟨k - 1, by omega⟩
    have hl := bytesOf_length s
    simp only [shackleref07_Sysv.l0]; rw [if_neg (by omega), List.drop_eq_nil_of_le (by omega)]; rfl
  | succ d ih =>
    intro k i h h0 h1 hd hk
    obtain ⟨k, rfl⟩ : ∃ m, k = m + 1 := ⟨k - 1, by omega⟩
    have hl := bytesOf_length s
    have hlt : i.toNat < (bytesOf s).length := by omega
    simp only [shackleref07_Sysv.l0]
    rw [if_pos (by omega), if_pos h0, VersSpec.w64 (i + 1) (by omega) (by omega)]
    rw [ih k (i + 1) _ (by omega) (by omega) (by omega) (by omega)]
    rw [List.drop_eq_getElem_cons hlt, List.foldl_cons, show (i + 1).toNat = i.toNat + 1 by omega]
    have e : bt s i = (bytesOf s)[i.toNat] := by
      rw [← rd_bytesOf, rd, List.getD_eq_getElem?_getD, List.getElem?_eq_getElem hlt]; rfl
    rw [e]
    congr 2
    unfold sstep
    rw [Int.mul_comm 16 h]
    obtain ⟨v, hv⟩ : ∃ v : Nat, (((h * 16) % 4294967296) + ((bytesOf s)[i.toNat] % 4294967296)) % 4294967296 = (v : Int) := ⟨((((h * 16) % 4294967296) + ((bytesOf s)[i.toNat] % 4294967296)) % 4294967296).toNat, by omega⟩
    have hlt : v < 4294967296 := by omega
    rw [hv, HashBits.sysv_step v hlt, Int.emod_eq_of_lt (a := (v : Int) / 268435456 * 16) (by omega) (by omega)]
theorem rsysv_calls (s : ByteArray) (w : World) (hs : s.size ≤ 9223372036854775807) :
    Calls Try.prog 65 #[.string s] w fun e w' => e = .returned (.int .u32 (sysv s)) ∧ ∃ n, w' = w.drewN n := by
  have h := rsysv_l0 s hs s.size (s.size + 1) 0 0 (by omega) (by omega) (by omega) (by omega)
  exact (shackleref07_Sysv.calls (s.size + 1) s _ w h).mono (by rintro e w' ⟨rfl, ⟨h⟩⟩; exact ⟨rfl, h⟩)
def okR (p : Nat) (v : Value) : Nat → Prop := fun k => k ≠ p ∧ some k ≠ v.ownBlock
structure Ref (w0 : World) (r : Rc) (w : World) (vT : Value) (T : List Int) : Prop where
  hb : Kd.C (Kd.int .u8) w0 r.Ab r.b.length r.b
  lb : r.b.length ≤ r.cb
  hp : Kd.C k29 w0 r.Ap r.ps.length r.ps
  lp : r.ps.length ≤ r.cp
  hs : Kd.C (Kd.int .u8) w0 r.As r.ss.length r.ss
  ls : r.ss.length ≤ r.cs
  box : w.heap[r.p]? = some (.cells #[.slice r.Ab r.b.length r.cb, .int .i64 r.h0, .int .u64 r.h1, .slice r.Ap r.ps.length r.cp, .slice r.As r.ss.length r.cs, vT] 115 (0, 0))
  p0 : w0.heap.size ≤ r.p
  hw : Below w0.heap.size w0 w
  told : Kd.R (Kd.int .i64) 3 w w0.heap.size (fun k => k ≠ r.p) vT T.reverse
structure St (w : World) (p : Nat) (v : Value) (w' : World) (v' : Value) : Prop where
  os : w'.os = w.os
  tape : w'.tape = w.tape
  output : w'.output = w.output
  size : w.heap.size ≤ w'.heap.size
  keep : ∀ k, k < w.heap.size → k ≠ p → some k ≠ v.ownBlock → w'.heap[k]? = w.heap[k]?
  own : v'.ownBlock = v.ownBlock ∨ ∃ b, v'.ownBlock = some b ∧ w.heap.size ≤ b
theorem St.refl (w : World) (p : Nat) (v : Value) : St w p v w v := ⟨rfl, rfl, rfl, Nat.le_refl _, fun _ _ _ _ => rfl, .inl rfl⟩
theorem St.below {w w1 w2 : World} {p : Nat} {v v1 : Value} (h : St w p v w1 v1) (hb : Below w1.heap.size w1 w2) : St w p v w2 v1 :=
  ⟨hb.os.trans h.os, hb.tape.trans h.tape, hb.output.trans h.output, Nat.le_trans h.size hb.size, fun k hk hp hv => (hb.block k (Nat.lt_of_lt_of_le hk h.size)).trans (h.keep k hk hp hv), h.own⟩
theorem St.trans {w w1 w2 : World} {p : Nat} {v v1 v2 : Value} (h : St w p v w1 v1) (h2 : St w1 p v1 w2 v2) : St w p v w2 v2 := by
  refine ⟨h2.os.trans h.os, h2.tape.trans h.tape, h2.output.trans h.output, Nat.le_trans h.size h2.size, fun k hk hp hv => (h2.keep k (Nat.lt_of_lt_of_le hk h.size) hp ?_).trans (h.keep k hk hp hv), ?_⟩
  · rcases h.own with e | ⟨b, e, hb⟩
    · rw [e]; exact hv
    · rw [e]; intro e; injection e with e; omega
  · rcases h2.own with e | ⟨b, e, hb⟩
    · rw [e]; exact h.own
    · exact .inr ⟨b, e, Nat.le_trans h.size hb⟩
theorem St.row {w w1 w2 : World} {p : Nat} {v v1 u : Value} (h : St w p v w1 v1) (hg : w1.grownBy w2 u.ownBlock) (hu : ∀ k, u.ownBlock = some k → w.heap.size ≤ k) : St w p v w2 v1 :=
  ⟨hg.os.trans h.os, hg.tape.trans h.tape, hg.output.trans h.output, Nat.le_trans h.size hg.size, fun k hk hp hv => (hg.block k (Nat.lt_of_lt_of_le hk h.size) (fun e => by have := hu k e.symm; omega)).trans (h.keep k hk hp hv), h.own⟩
theorem F_st {α : Type} {d : Kd α} {p n : Nat} {w w' : World} {v v' : Value} {A : Option Addr} {xs : List α} {ok : Nat → Prop} (h : Kd.F d w ok A n xs) (hok : ∀ k, ok k → k ≠ p ∧ some k ≠ v.ownBlock) (st : St w p v w' v') : Kd.F d w' ok A n xs :=
  Kd.F_step h (fun k hk hlt => st.keep k hlt (hok k hk).1 (hok k hk).2)
namespace Ref
variable {w0 w w1 : World} {r : Rc} {vT : Value} {T : List Int}
theorem up (h : Ref w0 r w vT T) (hb : Below w.heap.size w w1) : Ref w0 r w1 vT T :=
  ⟨h.hb, h.lb, h.hp, h.lp, h.hs, h.ls, (hb.block _ (lt_of_block h.box)).trans h.box, h.p0, ⟨hb.os.trans h.hw.os, hb.tape.trans h.hw.tape, hb.output.trans h.hw.output, Nat.le_trans h.hw.size hb.size, fun k hk => (hb.block k (Nat.lt_of_lt_of_le hk h.hw.size)).trans (h.hw.block k hk)⟩, Kd.R_below h.told hb⟩
theorem low (h : Ref w0 r w vT T) (hb : Below w.heap.size w w1) : Below w0.heap.size w0 w1 := (h.up hb).hw
theorem base (h : Ref w0 r w vT T) : ∀ k, vT.ownBlock = some k → w0.heap.size ≤ k := by
  obtain ⟨_, ho⟩ := Kd.R_own h.told
  exact own_base ho
theorem lt (h : Ref w0 r w vT T) : ∀ k, vT.ownBlock = some k → k < w.heap.size := by
  obtain ⟨_, ho⟩ := Kd.R_own h.told
  exact own_lt ho
theorem plt (h : Ref w0 r w vT T) : r.p < w.heap.size := lt_of_block h.box
theorem C_s (h : Ref w0 r w vT T) : Kd.C (Kd.int .u8) w r.As r.ss.length r.ss := Kd.C_below h.hs h.hw
theorem c0 (h : Ref w0 r w vT T) : w.cell? ⟨r.p, 0, none⟩ = some (.slice r.Ab r.b.length r.cb) := (cell_of_row w r.p 0 _ _ _ h.box).trans rfl
theorem c1 (h : Ref w0 r w vT T) : w.cell? ⟨r.p, 1, none⟩ = some (.int .i64 r.h0) := (cell_of_row w r.p 1 _ _ _ h.box).trans rfl
theorem c2 (h : Ref w0 r w vT T) : w.cell? ⟨r.p, 2, none⟩ = some (.int .u64 r.h1) := (cell_of_row w r.p 2 _ _ _ h.box).trans rfl
theorem c3 (h : Ref w0 r w vT T) : w.cell? ⟨r.p, 3, none⟩ = some (.slice r.Ap r.ps.length r.cp) := (cell_of_row w r.p 3 _ _ _ h.box).trans rfl
theorem c4 (h : Ref w0 r w vT T) : w.cell? ⟨r.p, 4, none⟩ = some (.slice r.As r.ss.length r.cs) := (cell_of_row w r.p 4 _ _ _ h.box).trans rfl
theorem c5 (h : Ref w0 r w vT T) : w.cell? ⟨r.p, 5, none⟩ = some vT := (cell_of_row w r.p 5 _ _ _ h.box).trans rfl
theorem row {u : Value} (h : Ref w0 r w vT T) (hg : w.grownBy w1 u.ownBlock) (hu : ∀ k, u.ownBlock = some k → w0.heap.size ≤ k ∧ k ≠ r.p ∧ some k ≠ vT.ownBlock) : Ref w0 r w1 vT T :=
  ⟨h.hb, h.lb, h.hp, h.lp, h.hs, h.ls, (hg.block _ h.plt (fun e => (hu _ e.symm).2.1 rfl)).trans h.box, h.p0, h.hw.grown hg h.hw.size (fun k e => (hu k e).1), Kd.R_mono (Kd.R_grown (Kd.R_tight rfl h.told) hg (fun k hk e => by
    have e1 := (hu k e.symm).2.2
    exact e1 hk)) (fun k hk => h.told.1 k hk.symm)⟩
theorem tell {v1 : Value} {x : Int} (h : Ref w0 r w vT T) (hr : Kd.R (Kd.int .i64) 3 w1 w0.heap.size (fun k => k ≠ r.p) v1 (T.reverse ++ [x])) (hg : w.grownBy w1 vT.ownBlock) (hat : v1.ownBlock = vT.ownBlock ∨ ∃ b, v1.ownBlock = some b ∧ w.heap.size ≤ b) :
    Ref w0 r (w1.setCell ⟨r.p, 5, none⟩ v1) v1 (x :: T) ∧ St w r.p vT (w1.setCell ⟨r.p, 5, none⟩ v1) v1 := by
  have hb1 : w1.heap[r.p]? = some (.cells #[.slice r.Ab r.b.length r.cb, .int .i64 r.h0, .int .u64 r.h1, .slice r.Ap r.ps.length r.cp, .slice r.As r.ss.length r.cs, vT] 115 (0, 0)) := (hg.block _ h.plt (fun e => h.told.1 _ e.symm rfl)).trans h.box
  refine ⟨⟨h.hb, h.lb, h.hp, h.lp, h.hs, h.ls, blk_set hb1 5 v1, h.p0, Below.setCell (h.hw.grown hg h.hw.size h.base) (p := ⟨r.p, 5, none⟩) h.p0 v1, ?_⟩, ?_⟩
  · rw [List.reverse_cons]
    exact Kd.R_far (p := ⟨r.p, 5, none⟩) hr (fun k hk => hk) v1
  · exact ⟨hg.os, hg.tape, hg.output, by simpa [World.setCell] using hg.size, fun k hk hp hv => (Below.heap_setCell _ _ _ _ hp).trans (hg.block k hk hv), hat⟩
end Ref
set_option maxHeartbeats 8000000 in
set_option maxRecDepth 100000 in
theorem had_calls {w0 w : World} {r : Rc} {vT : Value} {T : List Int} (h : Ref w0 r w vT T) (x : Int) (hT : T.length ≤ 1000000) :
    Calls Try.prog 45 #[.pointer (some ⟨r.p, 0, none⟩), .int .i64 x] w fun e w' => e = .returned (.bool (decide (x ∈ T))) ∧ ∃ n, w' = w.drewN n := by
  refine calls_aside fun Post HP => ?_
  obtain ⟨A, c, eT⟩ := Kd.R_slice h.told
  have HC := Aside0.mk (show Kd.C (Kd.int .i64) w A T.reverse.length T.reverse from by have h2 := h.told; rw [eT] at h2; exact (Kd.R_reads' h2).2.2)
  obtain ⟨L, hL⟩ : ∃ y, T.reverse = y := ⟨_, rfl⟩
  have hm : (x ∈ T) ↔ x ∈ L := by rw [← hL, List.mem_reverse]
  have HLL := Aside0.mk (show L.length ≤ 1000000 by rw [← hL, List.length_reverse]; exact hT)
  rw [hL] at HC eT
  have k5 : w.cell? ⟨r.p, 5, none⟩ = some (.slice A L.length c) := by rw [← eT]; exact h.c5
  simp only [hm] at HP
  have K5 := Aside0.mk k5
  clear h hT eT hL hm k5
  have hu115 := Try.underlying115
  have hu37 := Try.underlying37
  go_enter Try.func45, Try.ntmps45
  go_wp2
  go_loopg [5] L.length (fun kq v5 w' => ∃ i : Int, v5 = .int .i64 i ∧ Aside0 (0 ≤ i ∧ i ≤ L.length ∧ kq = L.length - i.toNat) ∧ Aside0 (∃ n, w' = w.drewN n) ∧ Aside0 (decide (x ∈ L.drop i.toNat) = decide (x ∈ L)))
  case atStart => exact ⟨0, rfl, ⟨by omega⟩, ⟨0, rfl⟩, ⟨rfl⟩⟩
  case round =>
    obtain ⟨i, rfl, HI, HW, HX⟩ := hrel
    have hb := below_drawn HW.out
    have k5 := cell_up hb K5.out
    have HV := Aside0.mk (show wrap64 (i + 1) = i + 1 from VersSpec.w64 _ (by have := HI.out; omega) (by have := HI.out; have := HLL.out; omega))
    by_cases c4 : i < (L.length : Int)
    · have c4b0 : decide (i < (L.length : Int)) = true := decide_eq_true c4
      have p1 := HI.out.1
      obtain ⟨ad, eA, hx⟩ := Kd.at_int (Kd.C_below HC.out hb) i p1 c4
      subst eA
      obtain ⟨y, hy⟩ : ∃ y, rd L i = y := ⟨_, rfl⟩
      rw [hy] at hx
      have hd : L.drop i.toNat = y :: L.drop (i.toNat + 1) := by
        have hl : i.toNat < L.length := by omega
        rw [List.drop_eq_getElem_cons hl, ← hy, rd, List.getD_eq_getElem?_getD, List.getElem?_eq_getElem hl]
        rfl
      have hxx := HX.out
      simp only [hd] at hxx
      have HXX := Aside0.mk hxx
      have HC4 := Aside0.mk c4
      have p1b : decide (0 ≤ i) = true := decide_eq_true p1
      replace p1 := eq_true p1
      replace c4 := eq_true c4
      clear hd hxx hy hb HX
      by_cases ce : y = x
      · have ceb : (y == x) = true := beq_t ce
        have hr := HXX.out
        rw [decide_eq_true (show x ∈ y :: L.drop (i.toNat + 1) from by rw [ce]; exact List.mem_cons_self)] at hr
        have HR := Aside0.mk hr
        clear hr ce HXX
        go_wp2
        exact HP.out _ _ ⟨by rw [← HR.out]; rfl, HW.out⟩
      · have ceb : (y == x) = false := beq_f ce
        have hr := HXX.out
        have hm : (x ∈ y :: L.drop (i.toNat + 1)) ↔ x ∈ L.drop (i.toNat + 1) := by simp [Ne.symm ce]
        simp only [hm] at hr
        have HR := Aside0.mk hr
        clear hr ce HXX hm
        go_wp2
        go_roundg (L.length - (i.toNat + 1))
        case measure => have := HI.out; have := HC4.out; omega
        case rel => exact ⟨i + 1, by rw [HV.out], ⟨by have := HI.out; have := HC4.out; omega⟩, HW, ⟨by rw [show (i + 1).toNat = i.toNat + 1 by have := HI.out; omega]; exact HR.out⟩⟩
    · have c4b0 : decide (i < (L.length : Int)) = false := decide_eq_false c4
      have hr := HX.out
      rw [List.drop_eq_nil_of_le (by have := HI.out; omega)] at hr
      have HR := Aside0.mk (show false = decide (x ∈ L) by rw [← hr]; rfl)
      clear hr c4 HX hb
      go_wp2
      exact HP.out _ _ ⟨by rw [← HR.out]; rfl, HW.out⟩
def Pok (w0 w : World) : Nat → Prop := fun k => k < w0.heap.size ∨ w.heap.size ≤ k
theorem rslice_calls {w0 w : World} {r : Rc} {vT : Value} {T : List Int} (h : Ref w0 r w vT T) (G : Gd r) (a n : Int) (ha : 0 ≤ a ∧ a ≤ 18446744073709551615) (hn : 0 ≤ n) (w1 : World) (hw1 : Below w.heap.size w w1) :
    Calls Try.prog 41 #[.slice r.Ab r.b.length r.cb, .agg #[.int .i64 r.h0, .int .u64 r.h1, .slice r.Ap r.ps.length r.cp], .int .u64 a, .int .u64 n] w1 fun e w' => ∃ v0_ : Value, e = .returned (.tuple #[v0_, .int .i64 (VersRefSpec.slcC (slc r.b r.ps a n)).2]) ∧ Kd.V (Kd.int .u8) 5 w' w.heap.size (Pok w0 w) v0_ (VersRefSpec.slcC (slc r.b r.ps a n)).1 ∧ Below w1.heap.size w1 w' := by
  obtain ⟨k, hk⟩ := (VersRefSpec.slice_ev r.b r.ps r.h0 r.h1 a n G.bl G.pl G.po ha hn).rounds
  have hR := h.up hw1
  have hV : Kd.V (Kd.int .u8) 5 w1 w1.heap.size (fun k => k < w0.heap.size) (.slice r.Ab r.b.length r.cb) r.b := Kd.V_mk h.lb (Kd.F_step (Kd.C_F (Kd.heap_int .u8) h.hb) (fun k hk _ => hR.hw.block k hk))
  refine (shackleref05_Slice.calls k (fun k => k < w0.heap.size) r.Ab r.cb r.b r.h0 r.h1 r.Ap r.cp r.ps a n _ _ w1 hV (Kd.C_below h.hp hR.hw) h.lp hk).mono ?_
  rintro e w' ⟨v, rfl, hv, hb⟩
  exact ⟨v, rfl, Kd.V_mono hv (fun k hk => hk.imp id (fun h => Nat.le_trans hw1.size h)), hb⟩
theorem entry_lt {a b : Int} (ha : 0 ≤ a ∧ a ≤ 18446744073709551615) (hb : 0 ≤ b ∧ b ≤ 18446744073709551615) : (IntKind.u64.wrap (a + b) < a) ↔ b > 18446744073709551615 - a := by
  have e : IntKind.u64.wrap (a + b) = (a + b) % 18446744073709551616 := by simp [IntKind.wrap, IntKind.bits, IntKind.signed]
  rw [e]; omega
set_option maxHeartbeats 4000000 in
set_option maxRecDepth 100000 in
theorem entry_calls {w0 w : World} {r : Rc} {vT : Value} {T : List Int} (h : Ref w0 r w vT T) (G : Gd r) (addr by_ size : Int) (ha : 0 ≤ addr ∧ addr ≤ 18446744073709551615) (hb : 0 ≤ by_ ∧ by_ ≤ 18446744073709551615) (hn : 0 ≤ size) :
    Calls Try.prog 63 #[.pointer (some ⟨r.p, 0, none⟩), .int .u64 addr, .int .u64 by_, .int .u64 size] w fun e w' => ∃ a v, e = .returned (.tuple #[.int .u64 a, v, .bool (atS r.b r.ps addr by_ size).isSome]) ∧ (∀ x, atS r.b r.ps addr by_ size = some x → a = x.1 ∧ Kd.V (Kd.int .u8) 5 w' w.heap.size (Pok w0 w) v x.2) ∧ Below w.heap.size w w' := by
  refine calls_aside fun Post HP => ?_
  have HH := Aside0.mk h
  have HG := Aside0.mk G
  have HA := Aside0.mk ha
  have HB := Aside0.mk hb
  have HN := Aside0.mk hn
  have k0 := h.c0
  have k1 := h.c1
  have k2 := h.c2
  have k3 := h.c3
  clear h G ha hb hn
  have hu32 := Try.underlying32
  have hu24 := Try.underlying24
  have hu115 := Try.underlying115
  by_cases c0 : by_ > 18446744073709551615 - addr
  · have c0b : decide (IntKind.u64.wrap (addr + by_) < addr) = true := decide_eq_true ((entry_lt HA.out HB.out).2 c0)
    have HC := Aside0.mk c0
    clear c0
    go_enter Try.func63, Try.ntmps63
    go_wp2
    refine bodyPost_ret (v := .tuple #[.int .u64 0, .slice none 0 0, .bool false]) (results_list (rs := [.tmp 8, .tmp 9, .tmp 10]) (vs := [.int .u64 0, .slice none 0 0, .bool false]) rfl (by simp) (.tmp (.tmp (.tmp .nil)))) rfl ?_
    refine HP.out _ _ ⟨_, _, by rw [atS, if_pos HC.out]; rfl, ?_, Below.refl _ _⟩
    intro x hx
    rw [atS, if_pos HC.out] at hx
    cases hx
  · have c0b : decide (IntKind.u64.wrap (addr + by_) < addr) = false := decide_eq_false (fun h => c0 ((entry_lt HA.out HB.out).1 h))
    have HC := Aside0.mk c0
    have HU2 := Aside0.mk (u64_in (addr + by_) (by have := HA.out; have := HB.out; omega) (by omega))
    clear c0
    go_enter Try.func63, Try.ntmps63
    go_wp2
    refine start_ (n := 16) (S := fun w' => w'.cell? ⟨r.p, 0, none⟩ = some (.slice r.Ab r.b.length r.cb) ∧ w'.cell? ⟨r.p, 1, none⟩ = some (.int .i64 r.h0) ∧ w'.cell? ⟨r.p, 2, none⟩ = some (.int .u64 r.h1) ∧ w'.cell? ⟨r.p, 3, none⟩ = some (.slice r.Ap r.ps.length r.cp)) (ds := [10]) #[false, false, false, false, false, false, false, false, false, false, false, false, false, false, false, false] (by kernel_rfl) rfl rfl ⟨(cell_up (below_drew1 (Below.refl _ _)) k0), (cell_up (below_drew1 (Below.refl _ _)) k1), (cell_up (below_drew1 (Below.refl _ _)) k2), (cell_up (below_drew1 (Below.refl _ _)) k3)⟩ (fun hHeld => ?_)
    refine pure_ (i := 0) (N := some 21) (v := ?_) (a' := ?_) #[true, false, false, false, false, false, false, false, false, false, false, false, false, false, false, false] rfl rfl (by kernel_rfl) (fun _ _ _ h => h) (Or.inl ⟨by rfl, ?_⟩) ?_ ?_
    rotate_left
    · intro w'
      go_simp
      with_reducible rfl
    rotate_left
    · simp only [Act.put, List.setIfInBounds_toArray, List.set_cons_zero, List.set_cons_succ, i64_w, i32_w]
      rfl
    refine pure_ (i := 1) (N := some 22) (v := ?_) (a' := ?_) #[true, true, false, false, false, false, false, false, false, false, false, false, false, false, false, false] rfl rfl (by kernel_rfl) (fun _ _ _ h => h) (Or.inl ⟨by rfl, ?_⟩) ?_ ?_
    rotate_left
    · intro w'
      go_simp
      with_reducible rfl
    rotate_left
    · simp only [Act.put, List.setIfInBounds_toArray, List.set_cons_zero, List.set_cons_succ, i64_w, i32_w]
      rfl
    refine pure_ (i := 2) (N := some 23) (v := ?_) (a' := ?_) #[true, true, true, false, false, false, false, false, false, false, false, false, false, false, false, false] rfl rfl (by kernel_rfl) (fun _ _ _ h => h) (Or.inl ⟨by rfl, ?_⟩) ?_ ?_
    rotate_left
    · intro w'
      go_simp
      with_reducible rfl
    rotate_left
    · simp only [Act.put, List.setIfInBounds_toArray, List.set_cons_zero, List.set_cons_succ, i64_w, i32_w]
      rfl
    refine pure_ (i := 4) (N := some 25) (v := ?_) (a' := ?_) #[true, true, true, false, true, false, false, false, false, false, false, false, false, false, false, false] rfl rfl (by kernel_rfl) (fun _ _ _ h => h) (Or.inl ⟨by rfl, ?_⟩) ?_ ?_
    rotate_left
    · intro w'
      go_simp
      with_reducible rfl
    rotate_left
    · simp only [Act.put, List.setIfInBounds_toArray, List.set_cons_zero, List.set_cons_succ, i64_w, i32_w]
      rfl
    refine pure_ (i := 5) (N := some 26) (v := ?_) (a' := ?_) #[true, true, true, false, true, true, false, false, false, false, false, false, false, false, false, false] rfl rfl (by kernel_rfl) (fun _ _ _ h => h) (Or.inl ⟨by rfl, ?_⟩) ?_ ?_
    rotate_left
    · intro w'
      go_simp
      with_reducible rfl
    rotate_left
    · simp only [Act.put, List.setIfInBounds_toArray, List.set_cons_zero, List.set_cons_succ, i64_w, i32_w]
      rfl
    refine pure_ (i := 6) (N := some 27) (v := ?_) (a' := ?_) #[true, true, true, false, true, true, true, false, false, false, false, false, false, false, false, false] rfl rfl (by kernel_rfl) (fun _ _ _ h => h) (Or.inl ⟨by rfl, ?_⟩) ?_ ?_
    rotate_left
    · intro w'
      go_simp
      with_reducible rfl
    rotate_left
    · simp only [Act.put, List.setIfInBounds_toArray, List.set_cons_zero, List.set_cons_succ, i64_w, i32_w]
      rfl
    refine pure_ (i := 8) (N := some 29) (v := ?_) (a' := ?_) #[true, true, true, false, true, true, true, false, true, false, false, false, false, false, false, false] rfl rfl (by kernel_rfl) (fun _ _ _ h => h) (Or.inl ⟨by rfl, ?_⟩) ?_ ?_
    rotate_left
    · intro w'
      go_simp
      with_reducible rfl
    rotate_left
    · simp only [Act.put, List.setIfInBounds_toArray, List.set_cons_zero, List.set_cons_succ, i64_w, i32_w]
      rfl
    refine pure_ (i := 9) (N := some 30) (v := ?_) (a' := ?_) #[true, true, true, false, true, true, true, false, true, true, false, false, false, false, false, false] rfl rfl (by kernel_rfl) (fun _ _ _ h => h) (Or.inl ⟨by rfl, ?_⟩) ?_ ?_
    rotate_left
    · intro w'
      go_simp
      with_reducible rfl
    rotate_left
    · simp only [Act.put, List.setIfInBounds_toArray, List.set_cons_zero, List.set_cons_succ, i64_w, i32_w]
      rfl
    refine take_ (i := 3) (N := some 24) (v := ?_) (a' := ?_) #[true, true, true, true, true, true, true, false, true, true, false, false, false, false, false, false] rfl rfl (by kernel_rfl) (fun _ _ _ h => h) (Or.inl ⟨by rfl, ?_⟩) hHeld ?_ ?_
    rotate_left
    · rintro w' ⟨s0, s1, s2, s3⟩
      go_simp
      with_reducible rfl
    rotate_left
    · simp only [Act.put, List.setIfInBounds_toArray, List.set_cons_zero, List.set_cons_succ, i64_w, i32_w]
      rfl
    refine take_ (i := 7) (N := some 28) (v := ?_) (a' := ?_) #[true, true, true, true, true, true, true, true, true, true, false, false, false, false, false, false] rfl rfl (by kernel_rfl) (fun _ _ _ h => h) (Or.inl ⟨by rfl, ?_⟩) hHeld ?_ ?_
    rotate_left
    · rintro w' ⟨s0, s1, s2, s3⟩
      go_simp
      with_reducible rfl
    rotate_left
    · simp only [Act.put, List.setIfInBounds_toArray, List.set_cons_zero, List.set_cons_succ, i64_w, i32_w]
      rfl
    refine last_ (i := 10) (N := some 31) #[true, true, true, true, true, true, true, true, true, true, true, false, false, false, false, false] rfl rfl (by kernel_rfl) (by decide) (fun K hK => ?_)
    refine goes_ Try.func41 (by kernel_rfl) rfl #[.slice r.Ab r.b.length r.cb, .agg #[.int .i64 r.h0, .int .u64 r.h1, .slice r.Ap r.ps.length r.cp], .int .u64 (IntKind.u64.wrap (addr + by_)), .int .u64 size] (by rfl) rfl rfl (by simp only [List.map_toArray, List.map_cons, List.map_nil]; rfl) ?_
    with_reducible refine (rslice_calls HH.out HG.out (IntKind.u64.wrap (addr + by_)) size (by rw [HU2.out]; have := HA.out; have := HB.out; have := HC.out; omega) HN.out _ (below_drew1 (Below.refl _ _))).mono ?_
    rintro e w3 ⟨v, rfl, hV, hw3⟩
    refine ⟨_, rfl, ?_⟩
    have HV := Aside0.mk hV
    have HW3 := Aside0.mk hw3
    clear hV hw3
    refine hK.out _ _ ?_
    clear hK K
    refine norm_ (a' := ?_) ?_ ?_
    rotate_left
    · show Act.put _ (some 31) _ = _
      simp only [Act.put, List.setIfInBounds_toArray, List.set_cons_zero, List.set_cons_succ, i64_w, i32_w]
      rfl
    refine pure_ (i := 11) (N := some 20) (v := ?_) (a' := ?_) #[true, true, true, true, true, true, true, true, true, true, true, true, false, false, false, false] rfl rfl (by kernel_rfl) (fun _ _ _ h => h) (Or.inl ⟨by rfl, ?_⟩) ?_ ?_
    rotate_left
    · intro w'
      go_simp
      with_reducible rfl
    rotate_left
    · simp only [Act.put, List.setIfInBounds_toArray, List.set_cons_zero, List.set_cons_succ, i64_w, i32_w]
      rfl
    refine pure_ (i := 12) (N := some 32) (v := ?_) (a' := ?_) #[true, true, true, true, true, true, true, true, true, true, true, true, true, false, false, false] rfl rfl (by kernel_rfl) (fun _ _ _ h => h) (Or.inl ⟨by rfl, ?_⟩) ?_ ?_
    rotate_left
    · intro w'
      go_simp
      with_reducible rfl
    rotate_left
    · simp only [Act.put, List.setIfInBounds_toArray, List.set_cons_zero, List.set_cons_succ, i64_w, i32_w]
      rfl
    refine pure_ (i := 13) (N := some 33) (v := ?_) (a' := ?_) #[true, true, true, true, true, true, true, true, true, true, true, true, true, true, false, false] rfl rfl (by kernel_rfl) (fun _ _ _ h => h) (Or.inl ⟨by rfl, ?_⟩) ?_ ?_
    rotate_left
    · intro w'
      go_simp
      with_reducible rfl
    rotate_left
    · simp only [Act.put, List.setIfInBounds_toArray, List.set_cons_zero, List.set_cons_succ, i64_w, i32_w]
      rfl
    refine pure_ (i := 14) (N := some 12) (v := ?_) (a' := ?_) #[true, true, true, true, true, true, true, true, true, true, true, true, true, true, true, false] rfl rfl (by kernel_rfl) (fun _ _ _ h => h) (Or.inl ⟨by rfl, ?_⟩) ?_ ?_
    rotate_left
    · intro w'
      go_simp
      with_reducible rfl
    rotate_left
    · simp only [Act.put, List.setIfInBounds_toArray, List.set_cons_zero, List.set_cons_succ, i64_w, i32_w]
      rfl
    refine pure_ (i := 15) (N := some 13) (v := ?_) (a' := ?_) #[true, true, true, true, true, true, true, true, true, true, true, true, true, true, true, true] rfl rfl (by kernel_rfl) (fun _ _ _ h => h) (Or.inl ⟨by rfl, ?_⟩) ?_ ?_
    rotate_left
    · intro w'
      go_simp
      with_reducible rfl
    rotate_left
    · simp only [Act.put, List.setIfInBounds_toArray, List.set_cons_zero, List.set_cons_succ, i64_w, i32_w]
      rfl
    refine done_ (by kernel_rfl) ?_
    have hV := HV.out
    have hW3 := HW3.out
    have hcc := HC.out
    rw [HU2.out] at hV ⊢
    cases hq : slc r.b r.ps (addr + by_) size with
    | none =>
      rw [hq] at hV
      go_wp2
      refine bodyPost_ret (v := .tuple #[.int .u64 (addr + by_), v, .bool false]) (results_list (rs := [.tmp 8, .tmp 9, .tmp 10]) (vs := [.int .u64 (addr + by_), v, .bool false]) rfl (by simp) (.tmp (.tmp (.tmp .nil)))) rfl ?_
      refine HP.out _ _ ⟨_, _, by rw [atS, if_neg (fun h => by omega), hq]; rfl, ?_, below_step (below_drew1 (Below.refl _ _)) hW3⟩
      intro x hx
      rw [atS, if_neg (fun h => by omega), hq] at hx
      cases hx
    | some s =>
      rw [hq] at hV
      go_wp2
      refine bodyPost_ret (v := .tuple #[.int .u64 (addr + by_), v, .bool true]) (results_list (rs := [.tmp 8, .tmp 9, .tmp 10]) (vs := [.int .u64 (addr + by_), v, .bool true]) rfl (by simp) (.tmp (.tmp (.tmp .nil)))) rfl ?_
      refine HP.out _ _ ⟨_, _, by rw [atS, if_neg (fun h => by omega), hq]; rfl, ?_, below_step (below_drew1 (Below.refl _ _)) hW3⟩
      intro x hx
      rw [atS, if_neg (fun h => by omega), hq] at hx
      injection hx with hx
      subst hx
      exact ⟨rfl, hV⟩
end Go.Proofs.Ythopdoamajjojaa.VersR
