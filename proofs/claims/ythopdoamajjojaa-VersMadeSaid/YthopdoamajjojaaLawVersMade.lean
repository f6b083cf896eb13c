import Derived.Test.YthopdoamajjojaaRows
import Derived.Test.YthopdoamajjojaaQVersMx2
import Derived.Test.YthopdoamajjojaaPureVersMade
import Derived.Test.YthopdoamajjojaaOpens
import Derived.Test.YthopdoamajjojaaGoodVersM
import Derived.WalkKit
import Derived.ProofKit
import Derived.OpenShut
import Derived.ShutString
import Derived.ChangeOld
import Derived.Below
import Derived.SizedLaws
import Derived.JoinedCond
import Derived.Carry
namespace Go.Proofs.Ythopdoamajjojaa.versMade
open Go.ChangeShapes Go.WideShapes Go.ChangeAt Go.RowKit Go.Proofs.Ythopdoamajjojaa Go.Proofs.Ythopdoamajjojaa.QVersM Go.Proofs.YthopdoamajjojaaW.PrintWords
open Go.ChangeMaps (open_string shut_string)
set_option linter.unusedVariables false
theorem own : ownKnob Try.prog.godebug = none := by kernel_rfl
theorem laidOut : laidOutB Try.prog = true := by kernel_rfl
set_option maxRecDepth 100000 in
theorem contract (H : Type) (enc : TypeId × Value → H) (W : World) (base : Nat) (args : Array Value) (ds gs : List (DataW H)) (before : List MemPlace)
    (hval0 : ∀ (j : Nat) t v, Try.f7.params[j]? = some t → args[j]? = some v → Value.okWide Try.prog W .any base t v)
    (hW : DataW.Whole enc Try.prog Try.f7.params.toList Rows.versMadeSpec.vars false W args.toList ds gs before) :
    Calls Try.prog 7 args W fun e W' => ∃ v, e = .returned v ∧ Rows.versMadeSpec.post enc Try.prog Try.f7 false true false false W args v W' := by
  have hval : ∀ (j : Nat) t v, Try.f7.params[j]? = some t → args[j]? = some v → Value.okWide Try.prog W .any base t v := hval0
  have hW' := hW
  obtain ⟨p, q, hA0, hV, rfl, hfz, hnd⟩ := hW
  have hA : DataW.TrodAll enc Try.prog W 0 (fun _ => true) true Try.f7.params.toList args.toList ds p := hA0
  rw [Try.params7] at hA hval
  obtain ⟨v0, vs0, d0, ds0, p0, q0, hargs, rfl, rfl, h0, r0⟩ := trodAll_cons hA
  obtain ⟨v1, vs1, d1, ds1, p1, q1, rfl, rfl, rfl, h1, r1⟩ := trodAll_cons r0
  obtain ⟨v2, vs2, d2, ds2, p2, q2, rfl, rfl, rfl, h2, r2⟩ := trodAll_cons r1
  obtain ⟨v3, vs3, d3, ds3, p3, q3, rfl, rfl, rfl, h3, r3⟩ := trodAll_cons r2
  obtain ⟨rfl, rfl, rfl⟩ := trodAll_nil r3
  obtain rfl : args = #[v0, v1, v2, v3] := by cases args; simp_all
  obtain ⟨rfl, rfl⟩ := trodVars_none hV
  obtain ⟨A0, n0, c0, rfl⟩ := okWide_slice Try.underlying22 (hval 0 22 v0 rfl rfl)
  have k0 := h0
  have lt0 : ∀ x ∈ p0, x.block < W.heap.size := by obtain ⟨m, hm⟩ := k0; exact DataW.trod_lt m _ _ _ hm
  obtain ⟨l0, rfl, hl0, hC0, hm0, hg0, hw0⟩ := Opn.slice_arg (good := (fun z : ByteArray => z.size ≤ maxLen)) (wt := (fun z : ByteArray => (z.size + 1))) (Opn.opens_slice Try.underlying22 (by kernel_rfl) (Opn.opens_string Try.underlying9)) h0
  obtain ⟨a1, rfl, rfl, rfl, y1⟩ := open_string Try.underlying9 (hval 1 9 v1 rfl rfl) h1
  obtain ⟨A2, n2, c2, rfl⟩ := okWide_slice Try.underlying22 (hval 2 22 v2 rfl rfl)
  have k2 := h2
  have lt2 : ∀ x ∈ p2, x.block < W.heap.size := by obtain ⟨m, hm⟩ := k2; exact DataW.trod_lt m _ _ _ hm
  obtain ⟨l2, rfl, hl2, hC2, hm2, hg2, hw2⟩ := Opn.slice_arg (good := (fun z : ByteArray => z.size ≤ maxLen)) (wt := (fun z : ByteArray => (z.size + 1))) (Opn.opens_slice Try.underlying22 (by kernel_rfl) (Opn.opens_string Try.underlying9)) h2
  obtain ⟨A3, n3, c3, rfl⟩ := okWide_slice Try.underlying37 (hval 3 37 v3 rfl rfl)
  have k3 := h3
  have lt3 : ∀ x ∈ p3, x.block < W.heap.size := by obtain ⟨m, hm⟩ := k3; exact DataW.trod_lt m _ _ _ hm
  obtain ⟨l3, rfl, hl3, hC3, hm3, hg3, hw3⟩ := Opn.slice_arg (good := (fun z : Int => (Lit.int .i64 z).wf = true)) (wt := (fun _ : Int => 1)) (Opn.opens_slice Try.underlying37 (by kernel_rfl) (Opn.opens_int Try.underlying3)) h3
  clear hA0 hval0 hA hval
  obtain ⟨k, hf⟩ := Pure.VersMade l0 a1 l2 l3 ⟨hm0, hg0⟩ y1 ⟨hm2, hg2⟩ ⟨hm3, hg3⟩
  refine (shacklelaw08_VersMade.calls k A0 c0 l0 a1 A2 c2 l2 A3 c3 l3 true W hC0 hl0 hC2 hl2 hC3 hl3 hf).mono fun e W' ⟨he, bel⟩ => ?_
  subst he
  exact ⟨_, rfl, _, _, _, [], _, [], hW', trodAll_mk1 (shut_bool Try.underlying4 _), (trodAll_cons_mk (Below.trod laidOut (by kernel_rfl) (of_decide_eq_true (by kernel_rfl)) k0 bel lt0) (trodAll_cons_mk (shut_string Try.underlying9 y1) (trodAll_cons_mk (Below.trod laidOut (by kernel_rfl) (of_decide_eq_true (by kernel_rfl)) k2 bel lt2) (trodAll_cons_mk (Below.trod laidOut (by kernel_rfl) (of_decide_eq_true (by kernel_rfl)) k3 bel lt3) trodAll_mk0)))), rfl, bel.frame _, fun h => by cases h⟩
set_option maxRecDepth 100000 in
theorem lifted (os : Os) (started : os.Started) (H : Type) (enc : TypeId × Value → H) :
    ReturnsInHanded {} Try.checked os 7 .any (Rows.versMadeSpec.pre6 enc Try.prog Try.f7 Rows.versMadeRow.domain false) (Rows.versMadeSpec.post enc Try.prog Try.f7 false true false false) := by
  refine returnsInHanded_of_change_sized (C := Try.checked) own started (by kernel_rfl) Try.func7
    (ChangeSpec.witness6 (enc := enc) (C := Try.checked) false ⟨#[], #[.slice none 0 0, .string ByteArray.empty, .slice none 0 0, .slice none 0 0], []⟩ 8 (by kernel_rfl) (by kernel_rfl) (by kernel_rfl) (by kernel_rfl)) ?_
  intro W base args ds gs before hval0 hW hcnd hsz0 _
  exact contract H enc W base args ds gs before hval0 hW
theorem over : Rows.versMadeRow.holds Try.pinned (OpenSpec.ofChange Rows.versMadeSpec) :=
  OpenClaim.holds_of_wide 7 Try.f7 rfl rfl rfl rfl rfl rfl rfl ⟨rfl, rfl, rfl, rfl, rfl⟩ rfl rfl rfl rfl rfl (by kernel_rfl) Try.func7 (by kernel_rfl)
    (of_decide_eq_true (by kernel_rfl)) (by unfold Func.isWrapper; first | (rw [if_pos (by decide +kernel)]; kernel_rfl) | (rw [if_neg (by decide +kernel)]; exact ⟨rfl, rfl⟩))
    (fun os started H enc _ => lifted os started H enc)
theorem proved : Rows.VersMadeSaid := over
#print axioms proved
end Go.Proofs.Ythopdoamajjojaa.versMade
namespace Go.Proofs.Ythopdoamajjojaa
theorem versMade_holds : Rows.VersMadeSaid := versMade.proved
end Go.Proofs.Ythopdoamajjojaa
