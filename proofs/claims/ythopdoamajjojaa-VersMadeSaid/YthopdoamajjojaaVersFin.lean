import Derived.Test.YthopdoamajjojaaVersRead
namespace Go.Proofs.Ythopdoamajjojaa.VersS
open Go Go.RowKit Go.Proofs.Ythopdoamajjojaa.QVers Go.Proofs.Ythopdoamajjojaa.VersSpec Go.Proofs.YthopdoamajjojaaW.PrintWords Go.Proofs.YthopdoamajjojaaW.PrintLast Go.Proofs.YthopdoamajjojaaW.PrintMore
open TextFacts (textS u64_in)
set_option linter.unusedVariables false
def goodIn (b : List Int) (ps : List S29) (sz versym verdef defnum verneed neednum tab n : Int) : Bool :=
  b.all (fun x => decide (0 ≤ x) && decide (x ≤ 255)) && ps.all (fun p => decide (0 ≤ p.f2) && decide (p.f2 ≤ 18446744073709551615) && decide (0 ≤ p.f3) && decide (p.f3 ≤ 18446744073709551615) && decide (0 ≤ p.f4) && decide (p.f4 ≤ 18446744073709551615)) &&
  [tab, sz, versym, verdef, defnum, verneed, neednum].all (fun x => decide (0 ≤ x) && decide (x ≤ 18446744073709551615)) && decide (-9223372036854775808 ≤ n) && decide (n ≤ 9223372036854775807)
def outR : Except Int Vs → Vs × Option Int
  | .error c => ((false, [], [], []), some c)
  | .ok x => (x, none)
def readO (b : List Int) (ps : List S29) (tab sz versym verdef defnum verneed neednum n : Int) : Option (Vs × Option Int) :=
  if goodIn b ps sz versym verdef defnum verneed neednum tab n then some (outR (readV b ps tab sz versym verdef defnum verneed neednum n)) else none
theorem strC_of (w : World) (A0 : Option Addr) (c0 : Nat) (b : List Int) (h0 h1 : Int) (A1 : Option Addr) (c1 : Nat) (ps : List S29) (A2_0 : Option Addr) (c2_0 : Nat) (l2_0 : List Int) (a2_1 a2_2 a2_3 a2_4 a2_5 a2_6 a2_7 a2_8 a2_9 a2_10 a2_11 a2_12 a2_13 : Int) (a2_14 a2_15 a2_16 : Bool) (a2_17 a2_18 a2_19 a2_20 a2_21 a2_22 a2_23 a2_24 a2_25 a2_26 a2_27 a2_28 a2_29 a2_30 a2_31 : Int) (a2_32 a2_33 a2_34 a2_35 a2_36 : Bool)
    (hb : Kd.C (Kd.int .u8) w A0 b.length b) (hcb : b.length ≤ c0) (hp : Kd.C k29 w A1 ps.length ps) (hcp : ps.length ≤ c1) (hr2 : Kd.C (Kd.int .u64) w A2_0 l2_0.length l2_0) (hc2 : l2_0.length ≤ c2_0) (po : ∀ p ∈ ps, okP p) (r4 : 0 ≤ a2_4 ∧ a2_4 ≤ 18446744073709551615) (r8 : 0 ≤ a2_8 ∧ a2_8 ≤ 18446744073709551615) :
    StrC w A0 c0 b h0 h1 A1 c1 ps #[.slice A2_0 l2_0.length c2_0, .int .u64 a2_1, .int .u64 a2_2, .int .u64 a2_3, .int .u64 a2_4, .int .u64 a2_5, .int .u64 a2_6, .int .u64 a2_7, .int .u64 a2_8, .int .u64 a2_9, .int .u64 a2_10, .int .u64 a2_11, .int .u64 a2_12, .int .u64 a2_13, .bool a2_14, .bool a2_15, .bool a2_16, .int .u64 a2_17, .int .u64 a2_18, .int .u64 a2_19, .int .u64 a2_20, .int .u64 a2_21, .int .u64 a2_22, .int .u64 a2_23, .int .u64 a2_24, .int .u64 a2_25, .int .u64 a2_26, .int .u64 a2_27, .int .u64 a2_28, .int .u64 a2_29, .int .u64 a2_30, .int .u64 a2_31, .bool a2_32, .bool a2_33, .bool a2_34, .bool a2_35, .bool a2_36] a2_4 a2_8 := by
  intro w1 hw
  obtain ⟨k, hk⟩ := (strings_ev b ps h0 h1 l2_0 a2_1 a2_2 a2_3 a2_4 a2_5 a2_6 a2_7 a2_8 a2_9 a2_10 a2_11 a2_12 a2_13 a2_14 a2_15 a2_16 a2_17 a2_18 a2_19 a2_20 a2_21 a2_22 a2_23 a2_24 a2_25 a2_26 a2_27 a2_28 a2_29 a2_30 a2_31 a2_32 a2_33 a2_34 a2_35 a2_36 hb.2.1 hp.2.1 po r4 r8).rounds
  exact syms_Strings.calls k A0 c0 b h0 h1 A1 c1 ps A2_0 c2_0 l2_0 a2_1 a2_2 a2_3 a2_4 a2_5 a2_6 a2_7 a2_8 a2_9 a2_10 a2_11 a2_12 a2_13 a2_14 a2_15 a2_16 a2_17 a2_18 a2_19 a2_20 a2_21 a2_22 a2_23 a2_24 a2_25 a2_26 a2_27 a2_28 a2_29 a2_30 a2_31 a2_32 a2_33 a2_34 a2_35 a2_36 _ _ w1 (Kd.C_below hb hw) hcb (Kd.C_below hp hw) hcp (Kd.C_below hr2 hw) hc2 hk
theorem slcC_of (w : World) (A0 : Option Addr) (c0 : Nat) (b : List Int) (h0 h1 : Int) (A1 : Option Addr) (c1 : Nat) (ps : List S29) (hb : Kd.C (Kd.int .u8) w A0 b.length b) (hcb : b.length ≤ c0) (hp : Kd.C k29 w A1 ps.length ps) (hcp : ps.length ≤ c1) (po : ∀ p ∈ ps, okP p) : SlcC w A0 c0 b h0 h1 A1 c1 ps := by
  intro a n ha hn hn2 w1 hw
  obtain ⟨k, hk⟩ := (slice_ev b ps h0 h1 a n hb.2.1 hp.2.1 po ha hn hn2).rounds
  exact dyn_Slice.calls k A0 c0 b h0 h1 A1 c1 ps a n _ _ w1 (Kd.C_below hb hw) hcb (Kd.C_below hp hw) hcp hk
theorem goodIn_of {b : List Int} {ps : List S29} {sz versym verdef defnum verneed neednum tab n : Int} (h : goodIn b ps sz versym verdef defnum verneed neednum tab n = true) :
    (∀ x ∈ b, 0 ≤ x ∧ x ≤ 255) ∧ (∀ p ∈ ps, okP p) ∧ (∀ x ∈ [tab, sz, versym, verdef, defnum, verneed, neednum], 0 ≤ x ∧ x ≤ 18446744073709551615) ∧ -9223372036854775808 ≤ n ∧ n ≤ 9223372036854775807 := by
  unfold goodIn at h
  simp only [Bool.and_eq_true, List.all_eq_true, decide_eq_true_eq] at h
  obtain ⟨⟨⟨⟨h1, h2⟩, h3⟩, h4⟩, h5⟩ := h
  exact ⟨h1, fun p hp => by have := h2 p hp; unfold okP; omega, h3, h4, h5⟩
theorem readO_calls (w : World) (A0 : Option Addr) (c0 : Nat) (b : List Int) (h0 h1 : Int) (A1 : Option Addr) (c1 : Nat) (ps : List S29) (A2_0 : Option Addr) (c2_0 : Nat) (l2_0 : List Int) (a2_1 a2_2 a2_3 a2_4 a2_5 a2_6 a2_7 a2_8 a2_9 a2_10 a2_11 a2_12 a2_13 : Int) (a2_14 a2_15 a2_16 : Bool) (a2_17 a2_18 a2_19 a2_20 a2_21 a2_22 a2_23 a2_24 a2_25 a2_26 a2_27 a2_28 a2_29 a2_30 a2_31 : Int) (a2_32 a2_33 a2_34 a2_35 a2_36 : Bool) (a3 : Int) (r : Vs × Option Int)
    (hb : Kd.C (Kd.int .u8) w A0 b.length b) (hcb : b.length ≤ c0) (hp : Kd.C k29 w A1 ps.length ps) (hcp : ps.length ≤ c1) (hr2 : Kd.C (Kd.int .u64) w A2_0 l2_0.length l2_0) (hc2 : l2_0.length ≤ c2_0) (h : readO b ps a2_4 a2_8 a2_26 a2_28 a2_29 a2_30 a2_31 a3 = some r) :
    Calls Try.prog 18 #[.slice A0 b.length c0, .agg #[.int .i64 h0, .int .u64 h1, .slice A1 ps.length c1], .agg #[.slice A2_0 l2_0.length c2_0, .int .u64 a2_1, .int .u64 a2_2, .int .u64 a2_3, .int .u64 a2_4, .int .u64 a2_5, .int .u64 a2_6, .int .u64 a2_7, .int .u64 a2_8, .int .u64 a2_9, .int .u64 a2_10, .int .u64 a2_11, .int .u64 a2_12, .int .u64 a2_13, .bool a2_14, .bool a2_15, .bool a2_16, .int .u64 a2_17, .int .u64 a2_18, .int .u64 a2_19, .int .u64 a2_20, .int .u64 a2_21, .int .u64 a2_22, .int .u64 a2_23, .int .u64 a2_24, .int .u64 a2_25, .int .u64 a2_26, .int .u64 a2_27, .int .u64 a2_28, .int .u64 a2_29, .int .u64 a2_30, .int .u64 a2_31, .bool a2_32, .bool a2_33, .bool a2_34, .bool a2_35, .bool a2_36], .int .i64 a3] w fun e w' =>
      ∃ v1 v2 v3, e = .returned (.tuple #[.agg #[.bool r.1.1, v1, v2, v3], errW r.2]) ∧ Kd.R (Kd.int .i64) 3 w' w.heap.size (fun _ => True) v1 r.1.2.1 ∧ Kd.R kDf 63 w' w.heap.size (fun _ => True) v2 r.1.2.2.1 ∧ Kd.R kNd 66 w' w.heap.size (fun _ => True) v3 r.1.2.2.2 ∧ Below w.heap.size w w' := by
  unfold readO at h
  split at h
  · rename_i hg
    obtain ⟨g1, g2, g3, g4, g5⟩ := goodIn_of hg
    have h := Option.some.inj h
    have m := fun x (hx : x ∈ [a2_4, a2_8, a2_26, a2_28, a2_29, a2_30, a2_31]) => g3 x hx
    refine (read_calls w A0 c0 b h0 h1 A1 c1 ps _ a2_4 a2_8 a2_26 a2_28 a2_29 a2_30 a2_31 a3 hb hcb hp hcp ⟨rfl, by kernel_rfl, rfl, rfl, rfl, rfl, rfl⟩ (strC_of w A0 c0 b h0 h1 A1 c1 ps A2_0 c2_0 l2_0 a2_1 a2_2 a2_3 a2_4 a2_5 a2_6 a2_7 a2_8 a2_9 a2_10 a2_11 a2_12 a2_13 a2_14 a2_15 a2_16 a2_17 a2_18 a2_19 a2_20 a2_21 a2_22 a2_23 a2_24 a2_25 a2_26 a2_27 a2_28 a2_29 a2_30 a2_31 a2_32 a2_33 a2_34 a2_35 a2_36 hb hcb hp hcp hr2 hc2 g2 (m _ (by simp)) (m _ (by simp))) (slcC_of w A0 c0 b h0 h1 A1 c1 ps hb hcb hp hcp g2) g1 hb.2.1 hp.2.1 g2 (m _ (by simp)) (m _ (by simp)) (m _ (by simp)) (m _ (by simp)) (m _ (by simp)) (m a2_8 (by simp)).1 ⟨g4, g5⟩).mono ?_
    intro e w' hP
    cases hq : readV b ps a2_4 a2_8 a2_26 a2_28 a2_29 a2_30 a2_31 a3 with
    | error c =>
      rw [hq] at hP h
      subst h
      obtain ⟨he, hb⟩ := hP
      exact ⟨_, _, _, he, Kd.R_nil _ _ _ _ _, Kd.R_nil _ _ _ _ _, Kd.R_nil _ _ _ _ _, hb⟩
    | ok x =>
      rw [hq] at hP h
      subst h
      exact hP
  · cases h
end Go.Proofs.Ythopdoamajjojaa.VersS
