import Derived.Lib.Bytealg
import Derived.Laws.BytesArg
import Derived.Laws.BitsLemmas
import Derived.Shelf.Bytes.SlIndexAt
import Derived.Test.YthopdoamajjojaaQVersx1
import Derived.Test.YthopdoamajjojaaQVersx2
namespace Go.Proofs.Ythopdoamajjojaa.TextFacts
open Go Go.RowKit
theorem u64_in (n : Int) (h0 : 0 ≤ n) (h1 : n < 18446744073709551616) : IntKind.u64.wrap n = n := by
  have e : IntKind.u64.wrap n = n % 18446744073709551616 := by simp [IntKind.wrap, IntKind.bits, IntKind.signed]
  rw [e]; omega
def zeroAt (l : List Int) : Nat := l.findIdx (fun x => x == 0)
theorem zeroAt_le (l : List Int) : zeroAt l ≤ l.length := List.findIdx_le_length
theorem zeroAt_zero (l : List Int) : zeroAt (0 :: l) = 0 := by simp [zeroAt, List.findIdx_cons]
theorem zeroAt_cons (x : Int) (l : List Int) (h : x ≠ 0) : zeroAt (x :: l) = zeroAt l + 1 := by
  have : (x == 0) = false := by simpa using h
  simp [zeroAt, List.findIdx_cons, this]
theorem byte_zero (x : Int) (h0 : 0 ≤ x) (h1 : x ≤ 255) : ((UInt8.ofNat x.toNat) == (0 : UInt8)) = decide (x = 0) := by
  obtain ⟨n, rfl⟩ := Int.eq_ofNat_of_zero_le h0
  rw [Bool.eq_iff_iff]
  simp only [beq_iff_eq, decide_eq_true_eq, Int.toNat_natCast]
  constructor
  · intro h
    have := congrArg UInt8.toNat h
    simp at this
    omega
  · intro h
    have : n = 0 := by omega
    subst this; rfl
theorem index_zeroAt (l : List Int) (hl : ∀ x ∈ l, 0 ≤ x ∧ x ≤ 255) : Lib.indexByte (Lib.bytesOf l) (0 : Int).toNat.toUInt8 = if zeroAt l = l.length then -1 else (zeroAt l : Int) := by
  induction l with
  | nil => rfl
  | cons x l ih =>
    have hx := hl x (by simp)
    have ih := ih (fun y hy => hl y (by simp [hy]))
    have e : Lib.bytesOf (x :: l) = UInt8.ofNat x.toNat :: Lib.bytesOf l := by simp [Lib.bytesOf]
    have z : (0 : Int).toNat.toUInt8 = 0 := rfl
    rw [z] at ih ⊢
    rw [e, Lib.indexByte, byte_zero x hx.1 hx.2, ih]
    by_cases h : x = 0
    · subst h
      simp [zeroAt_zero]
    · have := zeroAt_le l
      rw [zeroAt_cons x l h]
      simp only [h, decide_false, Bool.false_eq_true, if_false, List.length_cons]
      by_cases g : zeroAt l = l.length
      · simp [g]
      · have h2 : ((zeroAt l : Int) == -1) = false := by rw [beq_eq_false_iff_ne]; omega
        have h3 : ¬ zeroAt l + 1 = l.length + 1 := by omega
        simp [g, h2]
def textS (l : List Int) (a : Int) : ByteArray × Int :=
  if a ≥ (l.length : Int) then (⟨#[]⟩, 4) else
  if zeroAt (l.drop a.toNat) = (l.drop a.toNat).length then (⟨#[]⟩, 4) else
  if zeroAt (l.drop a.toNat) > 255 then (⟨#[]⟩, 2) else (strOfNums ((l.drop a.toNat).take (zeroAt (l.drop a.toNat))), 0)
theorem take_drop_eq (l : List Int) (a n : Nat) : (l.take (a + n)).drop a = (l.drop a).take n := by
  rw [List.drop_take, Nat.add_sub_cancel_left]
end Go.Proofs.Ythopdoamajjojaa.TextFacts
namespace Go.Proofs.Ythopdoamajjojaa.VersSpec
open Go Go.RowKit Go.Proofs.Ythopdoamajjojaa.QVers Go.Proofs.YthopdoamajjojaaW.PrintWords
open TextFacts (zeroAt textS u64_in)
theorem Ev_after {α β : Type} {g : Nat → Option α} {a : Nat → Option β} {x : β} {r : α} (ha : Ev a x) (h : ∀ k, a k = some x → g (k + 1) = some r) : Ev g r := by
  obtain ⟨J, hJ⟩ := ha
  refine ⟨J + 1, fun k hk => ?_⟩
  obtain ⟨k, rfl⟩ : ∃ j, k = j + 1 := ⟨k - 1, by omega⟩
  exact h k (hJ k (by omega))
theorem Ev_one {α β : Type} {g : Nat → Option α} {a : Nat → Option β} {x : β} {r : α} (ha : Ev a x) (h : ∀ k, a k = some x → g k = some r) : Ev g r := by
  obtain ⟨J, hJ⟩ := ha
  exact ⟨J, fun k hk => h k (hJ k hk)⟩
theorem rd_nat (l : List Int) (i : Nat) : rd l (i : Int) = l.getD i 0 := by simp [rd]
theorem getD_at {α : Type} (l : List α) (d : α) (i : Nat) (h : i < l.length) : l.getD i d = l[i] := by
  rw [List.getD_eq_getElem?_getD, List.getElem?_eq_getElem h]; rfl
theorem w64 (n : Int) (h0 : -9223372036854775808 ≤ n) (h : n ≤ 9223372036854775807) : wrap64 n = n := by
  unfold wrap64
  omega
def errOf (c : Int) : Option Int := if c = 0 then none else some c
def fits (p : S29) (a n : Int) : Bool := decide (p.f0 = 1) && decide (p.f3 ≤ a) && decide (a - p.f3 ≤ p.f4) && decide (n ≤ p.f4 - (a - p.f3))
def osp : List S29 → Int → Int → Option Int
  | [], _, _ => none
  | p :: ps, a, n => if fits p a n then (if p.f2 + (a - p.f3) < 18446744073709551616 then some (p.f2 + (a - p.f3)) else none) else osp ps a n
def slc (b : List Int) (ps : List S29) (a n : Int) : Option (List Int) :=
  match osp ps a n with
  | none => none
  | some o => if o > (b.length : Int) ∨ n > (b.length : Int) - o then none else some ((b.drop o.toNat).take n.toNat)
def strS (b : List Int) (ps : List S29) (tab sz : Int) : List Int × Int :=
  if sz > 1048576 then ([], 2) else
  match slc b ps tab sz with
  | none => ([], 4)
  | some l => if l.length ≠ 0 ∧ rd l 0 = 0 ∧ rd l ((l.length : Int) - 1) = 0 then (l, 0) else ([], 3)
def okP (p : S29) : Prop := (0 ≤ p.f2 ∧ p.f2 ≤ 18446744073709551615) ∧ (0 ≤ p.f3 ∧ p.f3 ≤ 18446744073709551615) ∧ (0 ≤ p.f4 ∧ p.f4 ≤ 18446744073709551615)
theorem osp_nonneg {ps : List S29} (h : ∀ p ∈ ps, okP p) (a n o : Int) (e : osp ps a n = some o) : 0 ≤ o ∧ o < 18446744073709551616 := by
  induction ps with
  | nil => cases e
  | cons p ps ih =>
    unfold osp at e
    split at e
    · rename_i hf
      split at e
      · have hp := h p (by simp)
        unfold fits at hf
        simp only [Bool.and_eq_true, decide_eq_true_eq] at hf
        unfold okP at hp
        cases e
        omega
      · cases e
    · exact ih (fun p hp => h p (by simp [hp])) e
theorem rdP (ps : List S29) (i : Nat) (h : i < ps.length) : rd_T29 ps (i : Int) = ps[i] := by
  unfold rd_T29
  rw [Int.toNat_natCast, getD_at _ _ _ h]
def offR (r : Option Int) : Int × Option Int := match r with | none => (0, some 4) | some o => (o, none)
theorem offset_ev (ps : List S29) (hl : ps.length ≤ 9223372036854775807) (hp : ∀ p ∈ ps, okP p) (a n : Int) (ha : 0 ≤ a ∧ a ≤ 18446744073709551615) (d : Nat) : ∀ i : Nat, i ≤ ps.length → ps.length - i = d →
    Ev (fun k => dyn_Offset.l0 k a n ps (ps.length : Int) (i : Int)) (offR (osp (ps.drop i) a n)) := by
  induction d with
  | zero =>
    intro i hi hd
    refine Ev_after (Ev.now (0 : Nat)) (fun k _ => ?_)
    rw [List.drop_of_length_le (by omega)]
    simp only [dyn_Offset.l0]
    rw [if_neg (by omega)]
    rfl
  | succ d ih =>
    intro i hi hd
    have hil : i < ps.length := by omega
    have hpi := hp ps[i] (List.getElem_mem hil)
    have hnext := ih (i + 1) (by omega) (by omega)
    rw [List.drop_eq_getElem_cons hil]
    generalize hps : ps[i] = p at hpi
    unfold okP at hpi
    have hskip : fits p a n = false → ∀ x y0 y1 y2 y3 y4 y5 y6, x = true → Ev (fun k => dyn_Offset.j1 k a n ps (ps.length : Int) (i : Int) x y0 y1 y2 y3 y4 y5 y6) (offR (osp (p :: ps.drop (i + 1)) a n)) := by
      intro hf x y0 y1 y2 y3 y4 y5 y6 hx
      subst hx
      refine Ev_after hnext (fun k h => ?_)
      simp only [dyn_Offset.j1]
      rw [if_pos trivial, w64 ((i : Int) + 1) (by omega) (by omega), show (i : Int) + 1 = ((i + 1 : Nat) : Int) by omega]
      unfold osp
      rw [hf]
      exact h
    have hskip2 : fits p a n = false → ∀ z y0 y1 y2 y3 y4 y5 y6, Ev (fun k => dyn_Offset.j2 k a n z ps (ps.length : Int) (i : Int) true y0 y1 y2 y3 y4 y5 y6) (offR (osp (p :: ps.drop (i + 1)) a n)) := by
      intro hf z y0 y1 y2 y3 y4 y5 y6
      refine Ev_after hnext (fun k h => ?_)
      simp only [dyn_Offset.j2]
      rw [if_pos trivial, w64 ((i : Int) + 1) (by omega) (by omega), show (i : Int) + 1 = ((i + 1 : Nat) : Int) by omega]
      unfold osp
      rw [hf]
      exact h
    have key : Ev (fun k => if p.f0 = 1 then dyn_Offset.j1 k a n ps (ps.length : Int) (i : Int) (decide (a < p.f3)) p.f0 p.f1 p.f2 p.f3 p.f4 p.f5 p.f6 else dyn_Offset.j1 k a n ps (ps.length : Int) (i : Int) true p.f0 p.f1 p.f2 p.f3 p.f4 p.f5 p.f6) (offR (osp (p :: ps.drop (i + 1)) a n)) := by
      by_cases e0 : p.f0 = 1
      · by_cases e1 : a < p.f3
        · refine Ev_one (hskip (by unfold fits; simp; omega) true p.f0 p.f1 p.f2 p.f3 p.f4 p.f5 p.f6 rfl) (fun k h => ?_)
          rw [if_pos e0, decide_eq_true e1]; exact h
        · have hd0 : IntKind.u64.wrap (a - p.f3) = a - p.f3 := u64_in _ (by omega) (by omega)
          have hj1 : ∀ z : Bool, (∀ k, (if a - p.f3 > p.f4 then dyn_Offset.j2 k a n (a - p.f3) ps (ps.length : Int) (i : Int) true p.f0 p.f1 p.f2 p.f3 p.f4 p.f5 p.f6 else dyn_Offset.j2 k a n (a - p.f3) ps (ps.length : Int) (i : Int) (decide (n > IntKind.u64.wrap (p.f4 - (a - p.f3)))) p.f0 p.f1 p.f2 p.f3 p.f4 p.f5 p.f6) = dyn_Offset.j2 k a n (a - p.f3) ps (ps.length : Int) (i : Int) z p.f0 p.f1 p.f2 p.f3 p.f4 p.f5 p.f6) →
              Ev (fun k => dyn_Offset.j2 k a n (a - p.f3) ps (ps.length : Int) (i : Int) z p.f0 p.f1 p.f2 p.f3 p.f4 p.f5 p.f6) (offR (osp (p :: ps.drop (i + 1)) a n)) →
              Ev (fun k => if p.f0 = 1 then dyn_Offset.j1 k a n ps (ps.length : Int) (i : Int) (decide (a < p.f3)) p.f0 p.f1 p.f2 p.f3 p.f4 p.f5 p.f6 else dyn_Offset.j1 k a n ps (ps.length : Int) (i : Int) true p.f0 p.f1 p.f2 p.f3 p.f4 p.f5 p.f6) (offR (osp (p :: ps.drop (i + 1)) a n)) := by
            intro z hz h
            refine Ev_after h (fun k h => ?_)
            rw [if_pos e0, decide_eq_false e1]
            simp only [dyn_Offset.j1]
            rw [if_neg (by simp), hd0, hz]
            exact h
          by_cases e2 : a - p.f3 > p.f4
          · exact hj1 true (fun k => if_pos e2) (hskip2 (by unfold fits; simp; omega) (a - p.f3) p.f0 p.f1 p.f2 p.f3 p.f4 p.f5 p.f6)
          · have hd1 : IntKind.u64.wrap (p.f4 - (a - p.f3)) = p.f4 - (a - p.f3) := u64_in _ (by omega) (by omega)
            by_cases e3 : n > p.f4 - (a - p.f3)
            · exact hj1 true (fun k => by rw [if_neg e2, hd1, decide_eq_true e3]) (hskip2 (by unfold fits; simp; omega) (a - p.f3) p.f0 p.f1 p.f2 p.f3 p.f4 p.f5 p.f6)
            · have hf : fits p a n = true := by unfold fits; simp; omega
              refine hj1 false (fun k => by rw [if_neg e2, hd1, decide_eq_false e3]) (Ev_after (Ev.now (0 : Nat)) (fun k _ => ?_))
              simp only [dyn_Offset.j2]
              rw [if_neg (by simp), u64_in (18446744073709551615 - (a - p.f3)) (by omega) (by omega)]
              unfold osp
              rw [hf, if_pos rfl]
              by_cases e4 : p.f2 > 18446744073709551615 - (a - p.f3)
              · rw [if_pos e4, if_neg (by omega)]; rfl
              · rw [if_neg e4, if_pos (by omega), u64_in _ (by omega) (by omega)]; rfl
      · refine Ev_one (hskip (by unfold fits; simp [e0]) true p.f0 p.f1 p.f2 p.f3 p.f4 p.f5 p.f6 rfl) (fun k h => ?_)
        rw [if_neg e0]; exact h
    refine Ev_after key (fun k h => ?_)
    simp only [dyn_Offset.l0]
    rw [if_pos (by omega), if_pos (by omega), if_pos (by omega), rdP ps i hil, hps]
    exact h
theorem cut_f (b : List Int) (o n : Int) (hb : b.length ≤ 9223372036854775807) (ho : 0 ≤ o) (hn : 0 ≤ n) (hn2 : n ≤ 4294967296) :
    dyn_cut.f b o n = some (if o > (b.length : Int) ∨ n > (b.length : Int) - o then ([], some 4) else ((b.drop o.toNat).take n.toNat, none)) := by
  unfold dyn_cut.f
  rw [u64_in (b.length : Int) (by omega) (by omega)]
  by_cases e1 : o > (b.length : Int)
  · rw [if_pos e1, if_pos (.inl e1)]
  · rw [if_neg e1, u64_in ((b.length : Int) - o) (by omega) (by omega)]
    by_cases e2 : n > (b.length : Int) - o
    · rw [if_pos e2, if_pos (.inr e2)]
    · rw [if_neg e2, if_neg (by omega), u64_in (o + n) (by omega) (by omega), Option.bind_some, if_pos ho, if_pos (by omega), if_pos (by omega), if_pos (by simp; omega), List.nil_append, List.drop_take, show (o + n).toNat - o.toNat = n.toNat by omega]
def slcR (r : Option (List Int)) : List Int × Option Int := match r with | none => ([], some 4) | some l => (l, none)
theorem slice_ev (b : List Int) (ps : List S29) (x y a n : Int) (hb : b.length ≤ 9223372036854775807) (hl : ps.length ≤ 9223372036854775807) (hp : ∀ p ∈ ps, okP p) (ha : 0 ≤ a ∧ a ≤ 18446744073709551615) (hn : 0 ≤ n) (hn2 : n ≤ 4294967296) :
    Ev (fun k => dyn_Slice.f k b x y ps a n) (slcR (slc b ps a n)) := by
  refine Ev_one (offset_ev ps hl hp a n ha ps.length 0 (by omega) (by omega)) (fun k h => ?_)
  unfold dyn_Slice.f dyn_Offset.f
  rw [List.drop_zero] at h
  have h : dyn_Offset.l0 k a n ps (ps.length : Int) 0 = some (offR (osp ps a n)) := h
  rw [h, Option.bind_some]
  unfold slc
  cases e : osp ps a n with
  | none => simp [offR, slcR]
  | some o =>
    have ho := osp_nonneg hp a n o e
    simp only [offR, Option.isNone_none, if_true]
    rw [cut_f b o n hb ho.1 hn hn2, Option.bind_some]
    split <;> rfl
theorem slc_len {b : List Int} {ps : List S29} {a n : Int} {l : List Int} (hp : ∀ p ∈ ps, okP p) (hn : 0 ≤ n) (h : slc b ps a n = some l) : (l.length : Int) = n ∧ l.length ≤ b.length ∧ ∀ x ∈ l, x ∈ b := by
  unfold slc at h
  cases e : osp ps a n with
  | none => rw [e] at h; cases h
  | some o =>
    have ho := osp_nonneg hp a n o e
    rw [e] at h
    simp only at h
    split at h
    · cases h
    · cases h
      refine ⟨by simp; omega, by simp; omega, fun x hx => List.mem_of_mem_drop (List.mem_of_mem_take hx)⟩
end Go.Proofs.Ythopdoamajjojaa.VersSpec
namespace Go.Proofs.Ythopdoamajjojaa.VersSpec
open Go Go.RowKit Go.Proofs.Ythopdoamajjojaa.QVers Go.Proofs.YthopdoamajjojaaW.PrintWords
open TextFacts (zeroAt textS u64_in)
theorem strS_ok {b : List Int} {ps : List S29} {tab sz : Int} (h : (strS b ps tab sz).2 = 0) : slc b ps tab sz = some (strS b ps tab sz).1 ∧ (strS b ps tab sz).1.length ≠ 0 ∧ sz ≤ 1048576 := by
  unfold strS at h ⊢
  split
  · rename_i e; rw [if_pos e] at h; simp at h
  · rename_i e
    rw [if_neg e] at h
    cases e2 : slc b ps tab sz with
    | none => rw [e2] at h; simp at h
    | some l =>
      rw [e2] at h
      simp only at h ⊢
      by_cases e3 : l.length ≠ 0 ∧ rd l 0 = 0 ∧ rd l ((l.length : Int) - 1) = 0
      · rw [if_pos e3]; exact ⟨rfl, e3.1, by omega⟩
      · rw [if_neg e3] at h; simp at h
theorem strings_ev (b : List Int) (ps : List S29) (x y : Int) (l2 : List Int) (a2_1 : Int) (a2_2 : Int) (a2_3 : Int) (a2_4 : Int) (a2_5 : Int) (a2_6 : Int) (a2_7 : Int) (a2_8 : Int) (a2_9 : Int) (a2_10 : Int) (a2_11 : Int) (a2_12 : Int) (a2_13 : Int) (a2_14 : Bool) (a2_15 : Bool) (a2_16 : Bool) (a2_17 : Int) (a2_18 : Int) (a2_19 : Int) (a2_20 : Int) (a2_21 : Int) (a2_22 : Int) (a2_23 : Int) (a2_24 : Int) (a2_25 : Int) (a2_26 : Int) (a2_27 : Int) (a2_28 : Int) (a2_29 : Int) (a2_30 : Int) (a2_31 : Int) (a2_32 : Bool) (a2_33 : Bool) (a2_34 : Bool) (a2_35 : Bool) (a2_36 : Bool) (hb : b.length ≤ 9223372036854775807) (hl : ps.length ≤ 9223372036854775807) (hp : ∀ p ∈ ps, okP p) (h4 : 0 ≤ a2_4 ∧ a2_4 ≤ 18446744073709551615) (h8 : 0 ≤ a2_8 ∧ a2_8 ≤ 18446744073709551615) :
    Ev (fun k => syms_Strings.f k b x y ps l2 a2_1 a2_2 a2_3 a2_4 a2_5 a2_6 a2_7 a2_8 a2_9 a2_10 a2_11 a2_12 a2_13 a2_14 a2_15 a2_16 a2_17 a2_18 a2_19 a2_20 a2_21 a2_22 a2_23 a2_24 a2_25 a2_26 a2_27 a2_28 a2_29 a2_30 a2_31 a2_32 a2_33 a2_34 a2_35 a2_36) ((strS b ps a2_4 a2_8).1, errOf (strS b ps a2_4 a2_8).2) := by
  by_cases e : a2_8 > 1048576
  · refine Ev_one (Ev.now (0 : Nat)) (fun k _ => ?_)
    unfold syms_Strings.f strS
    rw [if_pos e, if_pos e]; rfl
  · refine Ev_one (slice_ev b ps x y a2_4 a2_8 hb hl hp h4 h8.1 (by omega)) (fun k h => ?_)
    unfold syms_Strings.f strS
    rw [if_neg e, if_neg e, h, Option.bind_some]
    cases e2 : slc b ps a2_4 a2_8 with
    | none => rfl
    | some l =>
      have hlen := slc_len hp h8.1 e2
      rw [show slcR (some l) = (l, none) from rfl]
      simp only [Option.isNone_none, if_true]
      by_cases e3 : (l.length : Int) = 0
      · rw [if_pos e3, if_neg (fun z => z.1 (by omega))]; rfl
      · rw [if_neg e3, if_pos (by omega)]
        by_cases e4 : rd l 0 = 0
        · rw [if_pos e4, w64 ((l.length : Int) - 1) (by omega) (by omega), if_pos (by omega), if_pos (by omega)]
          by_cases e5 : rd l ((l.length : Int) - 1) = 0
          · rw [if_pos e5, if_pos ⟨by omega, e4, e5⟩]; rfl
          · rw [if_neg e5, if_neg (fun z => e5 z.2.2)]; rfl
        · rw [if_neg e4, if_neg (fun z => e4 z.2.1)]; rfl
def num : List Int → Int
  | [] => 0
  | x :: l => x + 256 * num l
theorem u64_nat (n : Nat) (h : n < 18446744073709551616) : IntKind.u64.wrap (n : Int) = (n : Int) := u64_in _ (by omega) (by omega)
theorem bits_or64 (a b : Nat) (ha : a < 18446744073709551616) (hb : b < 18446744073709551616) : bits .or .u64 (a : Int) (b : Int) = ((a ||| b : Nat) : Int) := by
  have h := Nat.or_lt_two_pow (n := 64) ha hb
  have ha' : a % 2 ^ IntKind.u64.bits = a := Nat.mod_eq_of_lt ha
  have hb' : b % 2 ^ IntKind.u64.bits = b := Nat.mod_eq_of_lt hb
  simp only [bits, BitVec.ofInt_natCast, BitVec.toNat_or, BitVec.toNat_ofNat, ha', hb']
  exact u64_nat _ h
theorem num_snoc (l : List Int) (x : Int) : num (l ++ [x]) = num l + 256 ^ l.length * x := by
  induction l with
  | nil => simp [num]
  | cons y l ih =>
    simp only [List.cons_append, num, ih, List.length_cons, Int.pow_succ]
    rw [Int.mul_add, ← Int.add_assoc, Int.mul_comm (256 ^ l.length) 256, Int.mul_assoc]
theorem num_in (l : List Int) (h : ∀ x ∈ l, 0 ≤ x ∧ x ≤ 255) : 0 ≤ num l ∧ num l < 256 ^ l.length := by
  induction l with
  | nil => simp [num]
  | cons x l ih =>
    have h1 := h x (by simp)
    have h2 := ih (fun y hy => h y (by simp [hy]))
    simp only [num, List.length_cons, Int.pow_succ]
    omega
theorem num_lt (l : List Int) (h : ∀ x ∈ l, 0 ≤ x ∧ x ≤ 255) (hl : l.length ≤ 8) : 0 ≤ num l ∧ num l < 18446744073709551616 := by
  have h1 := num_in l h
  have h2 : (256 : Int) ^ l.length ≤ 256 ^ 8 := by
    have := Nat.pow_le_pow_right (n := 256) (by decide) hl
    have e : ∀ n : Nat, ((256 ^ n : Nat) : Int) = (256 : Int) ^ n := fun n => by simp
    rw [← e, ← e]; omega
  have h3 : (256 : Int) ^ 8 = 18446744073709551616 := by decide
  omega
theorem step_or (v x : Int) (i : Nat) (hi : i < 8) (hv : 0 ≤ v ∧ v < 256 ^ i) (hx : 0 ≤ x ∧ x ≤ 255) : Go.bits .or .u64 v (shl .u64 (IntKind.u64.wrap x) (wrap64 (8 * (i : Int)))) = v + 256 ^ i * x := by
  obtain ⟨v, rfl⟩ := Int.eq_ofNat_of_zero_le hv.1
  obtain ⟨x, rfl⟩ := Int.eq_ofNat_of_zero_le hx.1
  have e256 : (256 : Nat) ^ i = 2 ^ (8 * i) := by rw [Nat.pow_mul]
  have hpow : 2 ^ (8 * i) ≤ 2 ^ 56 := Nat.pow_le_pow_right (by decide) (by omega)
  have h56 : (2 : Nat) ^ 56 = 72057594037927936 := by decide
  have hv' : v < 2 ^ (8 * i) := by
    have : (v : Int) < ((256 ^ i : Nat) : Int) := by simpa using hv.2
    rw [← e256]; omega
  have hb : 2 ^ (8 * i) * x < 18446744073709551616 := by
    have h1 : 2 ^ (8 * i) * x ≤ 2 ^ (8 * i) * 255 := Nat.mul_le_mul_left _ (by omega)
    omega
  rw [w64 (8 * (i : Int)) (by omega) (by omega), u64_in (x : Int) (by omega) (by omega)]
  unfold shl
  rw [show min (8 * (i : Int)).toNat IntKind.u64.bits = 8 * i by simp only [IntKind.bits]; omega]
  have e1 : (x : Int) * 2 ^ (8 * i) = ((2 ^ (8 * i) * x : Nat) : Int) := by simp [Int.mul_comm]
  rw [e1, u64_nat _ hb, bits_or64 _ _ (by omega) hb]
  have e2 : v ||| (2 ^ (8 * i) * x) = v + 2 ^ (8 * i) * x := by rw [Nat.or_comm, ← Nat.two_pow_add_eq_or_of_lt hv', Nat.add_comm]
  rw [e2, ← e256]
  simp
theorem number_ev (l : List Int) (h : ∀ x ∈ l, 0 ≤ x ∧ x ≤ 255) (hl : l.length ≤ 8) (d : Nat) : ∀ i : Nat, i ≤ l.length → l.length - i = d → Ev (fun k => vers_number.l0 k (num (l.take i)) l (l.length : Int) (i : Int)) (num l) := by
  induction d with
  | zero =>
    intro i hi hd
    refine Ev_after (Ev.now (0 : Nat)) (fun k _ => ?_)
    simp only [vers_number.l0]
    rw [if_neg (by omega), List.take_of_length_le (by omega)]
  | succ d ih =>
    intro i hi hd
    have hil : i < l.length := by omega
    refine Ev_after (ih (i + 1) (by omega) (by omega)) (fun k hk => ?_)
    have hx := h l[i] (List.getElem_mem hil)
    have hv := num_in (l.take i) (fun x hx => h x (List.mem_of_mem_take hx))
    rw [List.length_take, Nat.min_eq_left (by omega)] at hv
    simp only [vers_number.l0]
    rw [if_pos (by omega), if_pos (by omega), if_pos (by omega), if_pos (by rw [w64 _ (by omega) (by omega)]; omega), rd_nat, getD_at _ _ _ hil, step_or _ _ i (by omega) hv hx, w64 ((i : Int) + 1) (by omega) (by omega), show (i : Int) + 1 = ((i + 1 : Nat) : Int) by omega]
    have e : num (l.take (i + 1)) = num (l.take i) + 256 ^ i * l[i] := by
      rw [List.take_succ_eq_append_getElem hil, num_snoc, List.length_take, Nat.min_eq_left (by omega)]
    rw [e] at hk
    exact hk
theorem number_f (l : List Int) (h : ∀ x ∈ l, 0 ≤ x ∧ x ≤ 255) (hl : l.length ≤ 8) : Ev (fun k => vers_number.f k l) (num l) :=
  number_ev l h hl l.length 0 (by omega) (by omega)
theorem text_f (l : List Int) (a : Int) (hl : ∀ x ∈ l, 0 ≤ x ∧ x ≤ 255) (hn : l.length ≤ 140737488351232) (h0 : 0 ≤ a) :
    syms_Text.f l a = some ((textS l a).1, errOf (textS l a).2) := by
  unfold syms_Text.f textS
  rw [u64_in l.length (by omega) (by omega)]
  by_cases h1 : a ≥ (l.length : Int)
  · rw [if_pos h1, if_pos h1]; rfl
  · rw [if_neg h1, if_neg h1, if_pos h0, if_pos (by omega)]
    have hd : (l.drop a.toNat).length = l.length - a.toNat := List.length_drop
    have hle := TextFacts.zeroAt_le (l.drop a.toNat)
    unfold bytes_IndexByte.f
    rw [TextFacts.index_zeroAt (l.drop a.toNat) (fun x hx => hl x (List.mem_of_mem_drop hx))]
    simp only [Option.bind_some]
    by_cases h2 : zeroAt (l.drop a.toNat) = (l.drop a.toNat).length
    · rw [if_pos h2, if_pos h2, if_pos (by omega)]; rfl
    · rw [if_neg h2, if_neg h2, if_neg (by omega)]
      by_cases h3 : zeroAt (l.drop a.toNat) > 255
      · rw [if_pos (by omega), if_pos h3]; rfl
      · rw [if_neg (by omega), if_neg h3]
        have e : IntKind.u64.wrap (a + IntKind.u64.wrap (zeroAt (l.drop a.toNat) : Int)) = a + (zeroAt (l.drop a.toNat) : Int) := by
          rw [u64_in (zeroAt (l.drop a.toNat) : Int) (by omega) (by omega), u64_in _ (by omega) (by omega)]
        rw [e, if_pos (by omega), if_pos (by omega)]
        rw [show (a + (zeroAt (l.drop a.toNat) : Int)).toNat = a.toNat + zeroAt (l.drop a.toNat) by omega, TextFacts.take_drop_eq]
        rfl
end Go.Proofs.Ythopdoamajjojaa.VersSpec
