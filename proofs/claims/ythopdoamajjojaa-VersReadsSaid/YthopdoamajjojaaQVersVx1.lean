import Derived.Test.YthopdoamajjojaaQVersVx0
import Derived.Test.YthopdoamajjojaaVersFacts
namespace Go.Proofs.Ythopdoamajjojaa.QVersV
open Go Go.RowKit Go.Proofs.YthopdoamajjojaaW.PrintWords Go.Proofs.YthopdoamajjojaaW.PrintLast Go.Proofs.YthopdoamajjojaaW.PrintMore
set_option linter.unusedVariables false
def cv29 (p : S29) : QVers.S29 := ⟨p.f0, p.f1, p.f2, p.f3, p.f4, p.f5, p.f6⟩
theorem C_cv29 {w : World} {A : Option Addr} {n : Nat} {l : List S29} (h : Kd.C k29 w A n l) : Kd.C QVers.k29 w A n (l.map cv29) := VersS.C_imp (f := cv29) rfl (fun _ _ _ h => h) h
def shacklelaw08_VersReads.f (l0 : List Int) (a1_0 : Int) (a1_1 : Int) (l1_2 : List (S29)) (l2_0 : List Int) (a2_1 : Int) (a2_2 : Int) (a2_3 : Int) (a2_4 : Int) (a2_5 : Int) (a2_6 : Int) (a2_7 : Int) (a2_8 : Int) (a2_9 : Int) (a2_10 : Int) (a2_11 : Int) (a2_12 : Int) (a2_13 : Int) (a2_14 : Bool) (a2_15 : Bool) (a2_16 : Bool) (a2_17 : Int) (a2_18 : Int) (a2_19 : Int) (a2_20 : Int) (a2_21 : Int) (a2_22 : Int) (a2_23 : Int) (a2_24 : Int) (a2_25 : Int) (a2_26 : Int) (a2_27 : Int) (a2_28 : Int) (a2_29 : Int) (a2_30 : Int) (a2_31 : Int) (a2_32 : Bool) (a2_33 : Bool) (a2_34 : Bool) (a2_35 : Bool) (a2_36 : Bool) (a3 : Int) : Option (Bool) := if VersS.goodIn l0 (l1_2.map cv29) a2_8 a2_26 a2_28 a2_29 a2_30 a2_31 a2_4 a3 then some true else none
set_option maxRecDepth 100000 in
set_option maxHeartbeats 8000000 in
theorem shacklelaw08_VersReads.calls (A0 : Option Addr) (c0 : Nat) (l0 : List Int) (a1_0 : Int) (a1_1 : Int) (A1_2 : Option Addr) (c1_2 : Nat) (l1_2 : List (S29)) (A2_0 : Option Addr) (c2_0 : Nat) (l2_0 : List Int) (a2_1 : Int) (a2_2 : Int) (a2_3 : Int) (a2_4 : Int) (a2_5 : Int) (a2_6 : Int) (a2_7 : Int) (a2_8 : Int) (a2_9 : Int) (a2_10 : Int) (a2_11 : Int) (a2_12 : Int) (a2_13 : Int) (a2_14 : Bool) (a2_15 : Bool) (a2_16 : Bool) (a2_17 : Int) (a2_18 : Int) (a2_19 : Int) (a2_20 : Int) (a2_21 : Int) (a2_22 : Int) (a2_23 : Int) (a2_24 : Int) (a2_25 : Int) (a2_26 : Int) (a2_27 : Int) (a2_28 : Int) (a2_29 : Int) (a2_30 : Int) (a2_31 : Int) (a2_32 : Bool) (a2_33 : Bool) (a2_34 : Bool) (a2_35 : Bool) (a2_36 : Bool) (a3 : Int) (r : Bool) (w : World) (hr0 : Kd.C (Kd.int .u8) w A0 l0.length l0) (hc0 : l0.length ≤ c0) (hr1_2 : Kd.C k29 w A1_2 l1_2.length l1_2) (hc1_2 : l1_2.length ≤ c1_2) (hr2_0 : Kd.C (Kd.int .u64) w A2_0 l2_0.length l2_0) (hc2_0 : l2_0.length ≤ c2_0) (h : shacklelaw08_VersReads.f l0 a1_0 a1_1 l1_2 l2_0 a2_1 a2_2 a2_3 a2_4 a2_5 a2_6 a2_7 a2_8 a2_9 a2_10 a2_11 a2_12 a2_13 a2_14 a2_15 a2_16 a2_17 a2_18 a2_19 a2_20 a2_21 a2_22 a2_23 a2_24 a2_25 a2_26 a2_27 a2_28 a2_29 a2_30 a2_31 a2_32 a2_33 a2_34 a2_35 a2_36 a3 = some r) :
  Calls Try.prog 5 #[.slice A0 l0.length c0, .agg #[.int .i64 a1_0, .int .u64 a1_1, .slice A1_2 l1_2.length c1_2], .agg #[.slice A2_0 l2_0.length c2_0, .int .u64 a2_1, .int .u64 a2_2, .int .u64 a2_3, .int .u64 a2_4, .int .u64 a2_5, .int .u64 a2_6, .int .u64 a2_7, .int .u64 a2_8, .int .u64 a2_9, .int .u64 a2_10, .int .u64 a2_11, .int .u64 a2_12, .int .u64 a2_13, .bool a2_14, .bool a2_15, .bool a2_16, .int .u64 a2_17, .int .u64 a2_18, .int .u64 a2_19, .int .u64 a2_20, .int .u64 a2_21, .int .u64 a2_22, .int .u64 a2_23, .int .u64 a2_24, .int .u64 a2_25, .int .u64 a2_26, .int .u64 a2_27, .int .u64 a2_28, .int .u64 a2_29, .int .u64 a2_30, .int .u64 a2_31, .bool a2_32, .bool a2_33, .bool a2_34, .bool a2_35, .bool a2_36], .int .i64 a3] w fun e w' => e = .returned (.bool r) ∧ Below w.heap.size w w' := by
  unfold shacklelaw08_VersReads.f at h
  split at h
  case isFalse => cases h
  case isTrue hg =>
    obtain rfl := Option.some.inj h
    obtain ⟨g1, g2, g3, g4, g5⟩ := VersS.goodIn_of hg
    obtain ⟨x, hx⟩ : ∃ x, (VersR.outI (VersS.readV l0 (l1_2.map cv29) a2_4 a2_8 a2_26 a2_28 a2_29 a2_30 a2_31 a3)).1 = x := ⟨_, rfl⟩
    obtain ⟨n1, n2, n3, n4, n5⟩ := VersR.readV_lens g1 g2 x hx
    have hl := hr1_2
    have hq := VersR.reads_calls w A0 c0 l0 a1_0 a1_1 A1_2 c1_2 (l1_2.map cv29) #[.slice A2_0 l2_0.length c2_0, .int .u64 a2_1, .int .u64 a2_2, .int .u64 a2_3, .int .u64 a2_4, .int .u64 a2_5, .int .u64 a2_6, .int .u64 a2_7, .int .u64 a2_8, .int .u64 a2_9, .int .u64 a2_10, .int .u64 a2_11, .int .u64 a2_12, .int .u64 a2_13, .bool a2_14, .bool a2_15, .bool a2_16, .int .u64 a2_17, .int .u64 a2_18, .int .u64 a2_19, .int .u64 a2_20, .int .u64 a2_21, .int .u64 a2_22, .int .u64 a2_23, .int .u64 a2_24, .int .u64 a2_25, .int .u64 a2_26, .int .u64 a2_27, .int .u64 a2_28, .int .u64 a2_29, .int .u64 a2_30, .int .u64 a2_31, .bool a2_32, .bool a2_33, .bool a2_34, .bool a2_35, .bool a2_36] a3 x (VersS.outR (VersS.readV l0 (l1_2.map cv29) a2_4 a2_8 a2_26 a2_28 a2_29 a2_30 a2_31 a3)).2 (VersR.outI (VersS.readV l0 (l1_2.map cv29) a2_4 a2_8 a2_26 a2_28 a2_29 a2_30 a2_31 a3)).2 rfl (by kernel_rfl)
      (fun w1 hw => by
        rw [← hx, ← VersR.out_read]
        exact VersS.readO_calls w1 A0 c0 l0 a1_0 a1_1 A1_2 c1_2 (l1_2.map cv29) A2_0 c2_0 l2_0 a2_1 a2_2 a2_3 a2_4 a2_5 a2_6 a2_7 a2_8 a2_9 a2_10 a2_11 a2_12 a2_13 a2_14 a2_15 a2_16 a2_17 a2_18 a2_19 a2_20 a2_21 a2_22 a2_23 a2_24 a2_25 a2_26 a2_27 a2_28 a2_29 a2_30 a2_31 a2_32 a2_33 a2_34 a2_35 a2_36 a3 _ (Kd.C_below hr0 hw) hc0 (by rw [List.length_map]; exact C_cv29 (Kd.C_below hr1_2 hw)) (by rw [List.length_map]; exact hc1_2) (Kd.C_below hr2_0 hw) hc2_0 (if_pos hg))
      (fun w1 hw => by
        rw [← hx]
        exact VersR.rreadO_calls w1 A0 c0 l0 a1_0 a1_1 A1_2 c1_2 (l1_2.map cv29) A2_0 c2_0 l2_0 a2_1 a2_2 a2_3 a2_4 a2_5 a2_6 a2_7 a2_8 a2_9 a2_10 a2_11 a2_12 a2_13 a2_14 a2_15 a2_16 a2_17 a2_18 a2_19 a2_20 a2_21 a2_22 a2_23 a2_24 a2_25 a2_26 a2_27 a2_28 a2_29 a2_30 a2_31 a2_32 a2_33 a2_34 a2_35 a2_36 a3 _ (Kd.C_below hr0 hw) hc0 (by rw [List.length_map]; exact C_cv29 (Kd.C_below hr1_2 hw)) (by rw [List.length_map]; exact hc1_2) (Kd.C_below hr2_0 hw) hc2_0 (if_pos hg))
      (VersR.code_read _ (fun c hc => VersR.readV_er hc)) n1 n2 n3 n4 n5
    rw [List.length_map] at hq
    exact hq
end Go.Proofs.Ythopdoamajjojaa.QVersV
