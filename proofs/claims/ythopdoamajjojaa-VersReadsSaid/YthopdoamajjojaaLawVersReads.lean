import Derived.Test.YthopdoamajjojaaRows
import Derived.Test.YthopdoamajjojaaQVersVx1
import Derived.Test.YthopdoamajjojaaPureVersReads
import Derived.Test.YthopdoamajjojaaOpens
import Derived.Test.YthopdoamajjojaaGoodVersV
import Derived.WalkKit
import Derived.ProofKit
import Derived.OpenShut
import Derived.ShutString
import Derived.ChangeOld
import Derived.Below
import Derived.SizedLaws
import Derived.JoinedCond
import Derived.Carry
namespace Go.Proofs.Ythopdoamajjojaa.versReads
open Go.ChangeShapes Go.WideShapes Go.ChangeAt Go.RowKit Go.Proofs.Ythopdoamajjojaa Go.Proofs.Ythopdoamajjojaa.QVersV Go.Proofs.YthopdoamajjojaaW.PrintWords
open Go.ChangeMaps (open_string shut_string)
set_option linter.unusedVariables false
theorem own : ownKnob Try.prog.godebug = none := by kernel_rfl
theorem laidOut : laidOutB Try.prog = true := by kernel_rfl
theorem op29 {H : Type} {enc : TypeId × Value → H} {W : World} : Opn.Opens enc Try.prog W k29 29 good29 wt29 :=
  Opn.opens_struct (g := fun p => (⟨p.1, p.2.1, p.2.2.1, p.2.2.2.1, p.2.2.2.2.1, p.2.2.2.2.2.1, p.2.2.2.2.2.2⟩ : S29)) (fun _ => rfl) Try.underlying29 (by kernel_rfl) (Opn.opensF_cons (Opn.opens_int Try.underlying26) rfl (by kernel_rfl) (Opn.opensF_cons (Opn.opens_int Try.underlying26) rfl (by kernel_rfl) (Opn.opensF_cons (Opn.opens_int Try.underlying27) rfl (by kernel_rfl) (Opn.opensF_cons (Opn.opens_int Try.underlying27) rfl (by kernel_rfl) (Opn.opensF_cons (Opn.opens_int Try.underlying27) rfl (by kernel_rfl) (Opn.opensF_cons (Opn.opens_int Try.underlying27) rfl (by kernel_rfl) (Opn.opensF_last (Opn.opens_int Try.underlying27) rfl (by kernel_rfl))))))))
theorem okWide_struct {P : Program} {w : World} {r : Reach} {base : Nat} {t : TypeId} {v : Value} {fs : Array Field} (hu : P.underlying t = some (.struct fs)) (h : Value.okWide P w r base t v) : ∃ cs, v = .agg cs ∧ cs.size = P.cellsOf t ∧ Row.okWide P w r base t cs := by
  unfold Value.okWide at h; rw [hu] at h; exact h
set_option maxRecDepth 100000 in
theorem contract (H : Type) (enc : TypeId × Value → H) (W : World) (base : Nat) (args : Array Value) (ds gs : List (DataW H)) (before : List MemPlace)
    (hval0 : ∀ (j : Nat) t v, Try.f5.params[j]? = some t → args[j]? = some v → Value.okWide Try.prog W .any base t v)
    (hW : DataW.Whole enc Try.prog Try.f5.params.toList Rows.versReadsSpec.vars false W args.toList ds gs before) :
    Calls Try.prog 5 args W fun e W' => ∃ v, e = .returned v ∧ Rows.versReadsSpec.post enc Try.prog Try.f5 false true false false W args v W' := by
  have hval : ∀ (j : Nat) t v, Try.f5.params[j]? = some t → args[j]? = some v → Value.okWide Try.prog W .any base t v := hval0
  have hW' := hW
  obtain ⟨p, q, hA0, hV, rfl, hfz, hnd⟩ := hW
  have hA : DataW.TrodAll enc Try.prog W 0 (fun _ => true) true Try.f5.params.toList args.toList ds p := hA0
  rw [Try.params5] at hA hval
  obtain ⟨v0, vs0, d0, ds0, p0, q0, hargs, rfl, rfl, h0, r0⟩ := trodAll_cons hA
  obtain ⟨v1, vs1, d1, ds1, p1, q1, rfl, rfl, rfl, h1, r1⟩ := trodAll_cons r0
  obtain ⟨v2, vs2, d2, ds2, p2, q2, rfl, rfl, rfl, h2, r2⟩ := trodAll_cons r1
  obtain ⟨v3, vs3, d3, ds3, p3, q3, rfl, rfl, rfl, h3, r3⟩ := trodAll_cons r2
  obtain ⟨rfl, rfl, rfl⟩ := trodAll_nil r3
  obtain rfl : args = #[v0, v1, v2, v3] := by cases args; simp_all
  obtain ⟨rfl, rfl⟩ := trodVars_none hV
  obtain ⟨A0, n0, c0, rfl⟩ := okWide_slice Try.underlying24 (hval 0 24 v0 rfl rfl)
  have k0 := h0
  have lt0 : ∀ x ∈ p0, x.block < W.heap.size := by obtain ⟨m, hm⟩ := k0; exact DataW.trod_lt m _ _ _ hm
  obtain ⟨l0, rfl, hl0, hC0, hm0, hg0, hw0⟩ := Opn.slice_arg (good := (fun z : Int => (Lit.int .u8 z).wf = true)) (wt := (fun _ : Int => 1)) (Opn.opens_slice Try.underlying24 (by kernel_rfl) (Opn.opens_int Try.underlying5)) h0
  have k1 := h1
  have lt1 : ∀ x ∈ p1, x.block < W.heap.size := by obtain ⟨m, hm⟩ := k1; exact DataW.trod_lt m _ _ _ hm
  obtain ⟨cs1, rfl⟩ : ∃ cs, v1 = .agg cs := by obtain ⟨cs, h, _⟩ := okWide_struct Try.underlying32 (hval 1 32 v1 rfl rfl); exact ⟨cs, h⟩
  obtain ⟨f1, hf1⟩ := h1
  obtain ⟨⟨a1_0, a1_1, l1_2⟩, hK1, ⟨hg1_0, hg1_1, hg1_2⟩, hw1⟩ := Opn.opens_struct (f := id) (g := id) (fun _ => rfl) Try.underlying32 (by kernel_rfl) (Opn.opensF_cons (Opn.opens_int Try.underlying3) rfl (by kernel_rfl) (Opn.opensF_cons (Opn.opens_int Try.underlying27) rfl (by kernel_rfl) (Opn.opensF_last (Opn.opens_slice Try.underlying30 (by kernel_rfl) op29) rfl (by kernel_rfl)))) f1 _ _ _ hf1
  obtain ⟨_, _, e1,  rfl, ⟨_, _, rfl, rfl, ⟨A1_2, c1_2, rfl, hl1_2, hC1_2⟩⟩⟩ := hK1
  obtain rfl : cs1 = #[.int .i64 a1_0, .int .u64 a1_1, .slice A1_2 l1_2.length c1_2] := by
    apply Array.ext'
    simpa [Value.cells] using e1
  have k2 := h2
  have lt2 : ∀ x ∈ p2, x.block < W.heap.size := by obtain ⟨m, hm⟩ := k2; exact DataW.trod_lt m _ _ _ hm
  obtain ⟨cs2, rfl⟩ : ∃ cs, v2 = .agg cs := by obtain ⟨cs, h, _⟩ := okWide_struct Try.underlying35 (hval 2 35 v2 rfl rfl); exact ⟨cs, h⟩
  obtain ⟨f2, hf2⟩ := h2
  obtain ⟨⟨l2_0, a2_1, a2_2, a2_3, a2_4, a2_5, a2_6, a2_7, a2_8, a2_9, a2_10, a2_11, a2_12, a2_13, a2_14, a2_15, a2_16, a2_17, a2_18, a2_19, a2_20, a2_21, a2_22, a2_23, a2_24, a2_25, a2_26, a2_27, a2_28, a2_29, a2_30, a2_31, a2_32, a2_33, a2_34, a2_35, a2_36⟩, hK2, ⟨hg2_0, hg2_1, hg2_2, hg2_3, hg2_4, hg2_5, hg2_6, hg2_7, hg2_8, hg2_9, hg2_10, hg2_11, hg2_12, hg2_13, hg2_14, hg2_15, hg2_16, hg2_17, hg2_18, hg2_19, hg2_20, hg2_21, hg2_22, hg2_23, hg2_24, hg2_25, hg2_26, hg2_27, hg2_28, hg2_29, hg2_30, hg2_31, hg2_32, hg2_33, hg2_34, hg2_35, hg2_36⟩, hw2⟩ := Opn.opens_struct (f := id) (g := id) (fun _ => rfl) Try.underlying35 (by kernel_rfl) (Opn.opensF_cons (Opn.opens_slice Try.underlying33 (by kernel_rfl) (Opn.opens_int Try.underlying27)) rfl (by kernel_rfl) (Opn.opensF_cons (Opn.opens_int Try.underlying27) rfl (by kernel_rfl) (Opn.opensF_cons (Opn.opens_int Try.underlying27) rfl (by kernel_rfl) (Opn.opensF_cons (Opn.opens_int Try.underlying27) rfl (by kernel_rfl) (Opn.opensF_cons (Opn.opens_int Try.underlying27) rfl (by kernel_rfl) (Opn.opensF_cons (Opn.opens_int Try.underlying27) rfl (by kernel_rfl) (Opn.opensF_cons (Opn.opens_int Try.underlying27) rfl (by kernel_rfl) (Opn.opensF_cons (Opn.opens_int Try.underlying27) rfl (by kernel_rfl) (Opn.opensF_cons (Opn.opens_int Try.underlying27) rfl (by kernel_rfl) (Opn.opensF_cons (Opn.opens_int Try.underlying27) rfl (by kernel_rfl) (Opn.opensF_cons (Opn.opens_int Try.underlying27) rfl (by kernel_rfl) (Opn.opensF_cons (Opn.opens_int Try.underlying27) rfl (by kernel_rfl) (Opn.opensF_cons (Opn.opens_int Try.underlying27) rfl (by kernel_rfl) (Opn.opensF_cons (Opn.opens_int Try.underlying27) rfl (by kernel_rfl) (Opn.opensF_cons (Opn.opens_bool Try.underlying4) rfl (by kernel_rfl) (Opn.opensF_cons (Opn.opens_bool Try.underlying4) rfl (by kernel_rfl) (Opn.opensF_cons (Opn.opens_bool Try.underlying4) rfl (by kernel_rfl) (Opn.opensF_cons (Opn.opens_int Try.underlying27) rfl (by kernel_rfl) (Opn.opensF_cons (Opn.opens_int Try.underlying27) rfl (by kernel_rfl) (Opn.opensF_cons (Opn.opens_int Try.underlying27) rfl (by kernel_rfl) (Opn.opensF_cons (Opn.opens_int Try.underlying27) rfl (by kernel_rfl) (Opn.opensF_cons (Opn.opens_int Try.underlying27) rfl (by kernel_rfl) (Opn.opensF_cons (Opn.opens_int Try.underlying27) rfl (by kernel_rfl) (Opn.opensF_cons (Opn.opens_int Try.underlying27) rfl (by kernel_rfl) (Opn.opensF_cons (Opn.opens_int Try.underlying27) rfl (by kernel_rfl) (Opn.opensF_cons (Opn.opens_int Try.underlying27) rfl (by kernel_rfl) (Opn.opensF_cons (Opn.opens_int Try.underlying27) rfl (by kernel_rfl) (Opn.opensF_cons (Opn.opens_int Try.underlying27) rfl (by kernel_rfl) (Opn.opensF_cons (Opn.opens_int Try.underlying27) rfl (by kernel_rfl) (Opn.opensF_cons (Opn.opens_int Try.underlying27) rfl (by kernel_rfl) (Opn.opensF_cons (Opn.opens_int Try.underlying27) rfl (by kernel_rfl) (Opn.opensF_cons (Opn.opens_int Try.underlying27) rfl (by kernel_rfl) (Opn.opensF_cons (Opn.opens_bool Try.underlying4) rfl (by kernel_rfl) (Opn.opensF_cons (Opn.opens_bool Try.underlying4) rfl (by kernel_rfl) (Opn.opensF_cons (Opn.opens_bool Try.underlying4) rfl (by kernel_rfl) (Opn.opensF_cons (Opn.opens_bool Try.underlying4) rfl (by kernel_rfl) (Opn.opensF_last (Opn.opens_bool Try.underlying4) rfl (by kernel_rfl)))))))))))))))))))))))))))))))))))))) f2 _ _ _ hf2
  obtain ⟨_, _, e2,  ⟨A2_0, c2_0, rfl, hl2_0, hC2_0⟩, ⟨_, _, rfl, rfl, ⟨_, _, rfl, rfl, ⟨_, _, rfl, rfl, ⟨_, _, rfl, rfl, ⟨_, _, rfl, rfl, ⟨_, _, rfl, rfl, ⟨_, _, rfl, rfl, ⟨_, _, rfl, rfl, ⟨_, _, rfl, rfl, ⟨_, _, rfl, rfl, ⟨_, _, rfl, rfl, ⟨_, _, rfl, rfl, ⟨_, _, rfl, rfl, ⟨_, _, rfl, rfl, ⟨_, _, rfl, rfl, ⟨_, _, rfl, rfl, ⟨_, _, rfl, rfl, ⟨_, _, rfl, rfl, ⟨_, _, rfl, rfl, ⟨_, _, rfl, rfl, ⟨_, _, rfl, rfl, ⟨_, _, rfl, rfl, ⟨_, _, rfl, rfl, ⟨_, _, rfl, rfl, ⟨_, _, rfl, rfl, ⟨_, _, rfl, rfl, ⟨_, _, rfl, rfl, ⟨_, _, rfl, rfl, ⟨_, _, rfl, rfl, ⟨_, _, rfl, rfl, ⟨_, _, rfl, rfl, ⟨_, _, rfl, rfl, ⟨_, _, rfl, rfl, ⟨_, _, rfl, rfl, ⟨_, _, rfl, rfl, rfl⟩⟩⟩⟩⟩⟩⟩⟩⟩⟩⟩⟩⟩⟩⟩⟩⟩⟩⟩⟩⟩⟩⟩⟩⟩⟩⟩⟩⟩⟩⟩⟩⟩⟩⟩⟩ := hK2
  obtain rfl : cs2 = #[.slice A2_0 l2_0.length c2_0, .int .u64 a2_1, .int .u64 a2_2, .int .u64 a2_3, .int .u64 a2_4, .int .u64 a2_5, .int .u64 a2_6, .int .u64 a2_7, .int .u64 a2_8, .int .u64 a2_9, .int .u64 a2_10, .int .u64 a2_11, .int .u64 a2_12, .int .u64 a2_13, .bool a2_14, .bool a2_15, .bool a2_16, .int .u64 a2_17, .int .u64 a2_18, .int .u64 a2_19, .int .u64 a2_20, .int .u64 a2_21, .int .u64 a2_22, .int .u64 a2_23, .int .u64 a2_24, .int .u64 a2_25, .int .u64 a2_26, .int .u64 a2_27, .int .u64 a2_28, .int .u64 a2_29, .int .u64 a2_30, .int .u64 a2_31, .bool a2_32, .bool a2_33, .bool a2_34, .bool a2_35, .bool a2_36] := by
    apply Array.ext'
    simpa [Value.cells] using e2
  obtain ⟨a3, rfl, rfl, rfl, w3⟩ := open_int Try.underlying3 (hval 3 3 v3 rfl rfl) h3
  clear hA0 hval0 hA hval
  obtain ⟨k, hf⟩ := Pure.VersReads l0 a1_0 a1_1 l1_2 l2_0 a2_1 a2_2 a2_3 a2_4 a2_5 a2_6 a2_7 a2_8 a2_9 a2_10 a2_11 a2_12 a2_13 a2_14 a2_15 a2_16 a2_17 a2_18 a2_19 a2_20 a2_21 a2_22 a2_23 a2_24 a2_25 a2_26 a2_27 a2_28 a2_29 a2_30 a2_31 a2_32 a2_33 a2_34 a2_35 a2_36 a3 ⟨hm0, hg0⟩ hg1_0 hg1_1 hg1_2 hg2_0 hg2_1 hg2_2 hg2_3 hg2_4 hg2_5 hg2_6 hg2_7 hg2_8 hg2_9 hg2_10 hg2_11 hg2_12 hg2_13 hg2_17 hg2_18 hg2_19 hg2_20 hg2_21 hg2_22 hg2_23 hg2_24 hg2_25 hg2_26 hg2_27 hg2_28 hg2_29 hg2_30 hg2_31 w3
  refine (shacklelaw08_VersReads.calls A0 c0 l0 a1_0 a1_1 A1_2 c1_2 l1_2 A2_0 c2_0 l2_0 a2_1 a2_2 a2_3 a2_4 a2_5 a2_6 a2_7 a2_8 a2_9 a2_10 a2_11 a2_12 a2_13 a2_14 a2_15 a2_16 a2_17 a2_18 a2_19 a2_20 a2_21 a2_22 a2_23 a2_24 a2_25 a2_26 a2_27 a2_28 a2_29 a2_30 a2_31 a2_32 a2_33 a2_34 a2_35 a2_36 a3 true W hC0 hl0 hC1_2 hl1_2 hC2_0 hl2_0 hf).mono fun e W' ⟨he, bel⟩ => ?_
  subst he
  exact ⟨_, rfl, _, _, _, [], _, [], hW', trodAll_mk1 (shut_bool Try.underlying4 _), (trodAll_cons_mk (Below.trod laidOut (by kernel_rfl) (of_decide_eq_true (by kernel_rfl)) k0 bel lt0) (trodAll_cons_mk (Below.trod laidOut (by kernel_rfl) (of_decide_eq_true (by kernel_rfl)) k1 bel lt1) (trodAll_cons_mk (Below.trod laidOut (by kernel_rfl) (of_decide_eq_true (by kernel_rfl)) k2 bel lt2) (trodAll_cons_mk (shut_int Try.underlying3 w3) trodAll_mk0)))), rfl, bel.frame _, fun h => by cases h⟩
set_option maxRecDepth 100000 in
theorem lifted (os : Os) (started : os.Started) (H : Type) (enc : TypeId × Value → H) :
    ReturnsInHanded {} Try.checked os 5 .any (Rows.versReadsSpec.pre6 enc Try.prog Try.f5 Rows.versReadsRow.domain false) (Rows.versReadsSpec.post enc Try.prog Try.f5 false true false false) := by
  refine returnsInHanded_of_change_sized (C := Try.checked) own started (by kernel_rfl) Try.func5
    (ChangeSpec.witness6 (enc := enc) (C := Try.checked) false ⟨#[], #[.slice none 0 0, .agg #[.int .i64 0, .int .u64 0, .slice none 0 0], .agg #[.slice none 0 0, .int .u64 0, .int .u64 0, .int .u64 0, .int .u64 0, .int .u64 0, .int .u64 0, .int .u64 0, .int .u64 0, .int .u64 0, .int .u64 0, .int .u64 0, .int .u64 0, .int .u64 0, .bool false, .bool false, .bool false, .int .u64 0, .int .u64 0, .int .u64 0, .int .u64 0, .int .u64 0, .int .u64 0, .int .u64 0, .int .u64 0, .int .u64 0, .int .u64 0, .int .u64 0, .int .u64 0, .int .u64 0, .int .u64 0, .int .u64 0, .bool false, .bool false, .bool false, .bool false, .bool false], .int .i64 0], []⟩ 8 (by kernel_rfl) (by kernel_rfl) (by kernel_rfl) (by kernel_rfl)) ?_
  intro W base args ds gs before hval0 hW hcnd hsz0 _
  exact contract H enc W base args ds gs before hval0 hW
theorem over : Rows.versReadsRow.holds Try.pinned (OpenSpec.ofChange Rows.versReadsSpec) :=
  OpenClaim.holds_of_wide 5 Try.f5 rfl rfl rfl rfl rfl rfl rfl ⟨rfl, rfl, rfl, rfl, rfl⟩ rfl rfl rfl rfl rfl (by kernel_rfl) Try.func5 (by kernel_rfl)
    (of_decide_eq_true (by kernel_rfl)) (by unfold Func.isWrapper; first | (rw [if_pos (by decide +kernel)]; kernel_rfl) | (rw [if_neg (by decide +kernel)]; exact ⟨rfl, rfl⟩))
    (fun os started H enc _ => lifted os started H enc)
theorem proved : Rows.VersReadsSaid := over
#print axioms proved
end Go.Proofs.Ythopdoamajjojaa.versReads
namespace Go.Proofs.Ythopdoamajjojaa
theorem versReads_holds : Rows.VersReadsSaid := versReads.proved
end Go.Proofs.Ythopdoamajjojaa
