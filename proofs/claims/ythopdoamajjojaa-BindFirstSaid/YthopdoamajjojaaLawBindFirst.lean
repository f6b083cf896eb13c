import Derived.Test.YthopdoamajjojaaRows
import Derived.Test.YthopdoamajjojaaQBindFx11
import Derived.Test.YthopdoamajjojaaPureBindFirst
import Derived.Test.YthopdoamajjojaaOpens
import Derived.Test.YthopdoamajjojaaGoodBindF
import Derived.WalkKit
import Derived.ProofKit
import Derived.OpenShut
import Derived.ShutString
import Derived.ChangeOld
import Derived.Below
import Derived.SizedLaws
import Derived.JoinedCond
import Derived.Carry
namespace Go.Proofs.Ythopdoamajjojaa.bindFirst
open Go.ChangeShapes Go.WideShapes Go.ChangeAt Go.RowKit Go.Proofs.Ythopdoamajjojaa Go.Proofs.Ythopdoamajjojaa.QBindF Go.Proofs.YthopdoamajjojaaW.PrintWords
open Go.ChangeMaps (open_string shut_string)
set_option linter.unusedVariables false
theorem own : ownKnob Try.prog.godebug = none := by kernel_rfl
theorem laidOut : laidOutB Try.prog = true := by kernel_rfl
theorem op29 {H : Type} {enc : TypeId × Value → H} {W : World} : Opn.Opens enc Try.prog W k29 29 good29 wt29 :=
  Opn.opens_struct (g := fun p => (⟨p.1, p.2.1, p.2.2.1, p.2.2.2.1, p.2.2.2.2.1, p.2.2.2.2.2.1, p.2.2.2.2.2.2⟩ : S29)) (fun _ => rfl) Try.underlying29 (by kernel_rfl) (Opn.opensF_cons (Opn.opens_int Try.underlying26) rfl (by kernel_rfl) (Opn.opensF_cons (Opn.opens_int Try.underlying26) rfl (by kernel_rfl) (Opn.opensF_cons (Opn.opens_int Try.underlying27) rfl (by kernel_rfl) (Opn.opensF_cons (Opn.opens_int Try.underlying27) rfl (by kernel_rfl) (Opn.opensF_cons (Opn.opens_int Try.underlying27) rfl (by kernel_rfl) (Opn.opensF_cons (Opn.opens_int Try.underlying27) rfl (by kernel_rfl) (Opn.opensF_last (Opn.opens_int Try.underlying27) rfl (by kernel_rfl))))))))
theorem op32 {H : Type} {enc : TypeId × Value → H} {W : World} : Opn.Opens enc Try.prog W k32 32 good32 wt32 :=
  Opn.opens_struct (g := fun p => (⟨p.1, p.2.1, p.2.2⟩ : S32)) (fun _ => rfl) Try.underlying32 (by kernel_rfl) (Opn.opensF_cons (Opn.opens_int Try.underlying3) rfl (by kernel_rfl) (Opn.opensF_cons (Opn.opens_int Try.underlying27) rfl (by kernel_rfl) (Opn.opensF_last (Opn.opens_slice Try.underlying30 (by kernel_rfl) op29) rfl (by kernel_rfl))))
theorem op35 {H : Type} {enc : TypeId × Value → H} {W : World} : Opn.Opens enc Try.prog W k35 35 good35 wt35 :=
  Opn.opens_struct (g := fun p => (⟨p.1, p.2.1, p.2.2.1, p.2.2.2.1, p.2.2.2.2.1, p.2.2.2.2.2.1, p.2.2.2.2.2.2.1, p.2.2.2.2.2.2.2.1, p.2.2.2.2.2.2.2.2.1, p.2.2.2.2.2.2.2.2.2.1, p.2.2.2.2.2.2.2.2.2.2.1, p.2.2.2.2.2.2.2.2.2.2.2.1, p.2.2.2.2.2.2.2.2.2.2.2.2.1, p.2.2.2.2.2.2.2.2.2.2.2.2.2.1, p.2.2.2.2.2.2.2.2.2.2.2.2.2.2.1, p.2.2.2.2.2.2.2.2.2.2.2.2.2.2.2.1, p.2.2.2.2.2.2.2.2.2.2.2.2.2.2.2.2.1, p.2.2.2.2.2.2.2.2.2.2.2.2.2.2.2.2.2.1, p.2.2.2.2.2.2.2.2.2.2.2.2.2.2.2.2.2.2.1, p.2.2.2.2.2.2.2.2.2.2.2.2.2.2.2.2.2.2.2.1, p.2.2.2.2.2.2.2.2.2.2.2.2.2.2.2.2.2.2.2.2.1, p.2.2.2.2.2.2.2.2.2.2.2.2.2.2.2.2.2.2.2.2.2.1, p.2.2.2.2.2.2.2.2.2.2.2.2.2.2.2.2.2.2.2.2.2.2.1, p.2.2.2.2.2.2.2.2.2.2.2.2.2.2.2.2.2.2.2.2.2.2.2.1, p.2.2.2.2.2.2.2.2.2.2.2.2.2.2.2.2.2.2.2.2.2.2.2.2.1, p.2.2.2.2.2.2.2.2.2.2.2.2.2.2.2.2.2.2.2.2.2.2.2.2.2.1, p.2.2.2.2.2.2.2.2.2.2.2.2.2.2.2.2.2.2.2.2.2.2.2.2.2.2.1, p.2.2.2.2.2.2.2.2.2.2.2.2.2.2.2.2.2.2.2.2.2.2.2.2.2.2.2.1, p.2.2.2.2.2.2.2.2.2.2.2.2.2.2.2.2.2.2.2.2.2.2.2.2.2.2.2.2.1, p.2.2.2.2.2.2.2.2.2.2.2.2.2.2.2.2.2.2.2.2.2.2.2.2.2.2.2.2.2.1, p.2.2.2.2.2.2.2.2.2.2.2.2.2.2.2.2.2.2.2.2.2.2.2.2.2.2.2.2.2.2.1, p.2.2.2.2.2.2.2.2.2.2.2.2.2.2.2.2.2.2.2.2.2.2.2.2.2.2.2.2.2.2.2.1, p.2.2.2.2.2.2.2.2.2.2.2.2.2.2.2.2.2.2.2.2.2.2.2.2.2.2.2.2.2.2.2.2.1, p.2.2.2.2.2.2.2.2.2.2.2.2.2.2.2.2.2.2.2.2.2.2.2.2.2.2.2.2.2.2.2.2.2.1, p.2.2.2.2.2.2.2.2.2.2.2.2.2.2.2.2.2.2.2.2.2.2.2.2.2.2.2.2.2.2.2.2.2.2.1, p.2.2.2.2.2.2.2.2.2.2.2.2.2.2.2.2.2.2.2.2.2.2.2.2.2.2.2.2.2.2.2.2.2.2.2.1, p.2.2.2.2.2.2.2.2.2.2.2.2.2.2.2.2.2.2.2.2.2.2.2.2.2.2.2.2.2.2.2.2.2.2.2.2⟩ : S35)) (fun _ => rfl) Try.underlying35 (by kernel_rfl) (Opn.opensF_cons (Opn.opens_slice Try.underlying33 (by kernel_rfl) (Opn.opens_int Try.underlying27)) rfl (by kernel_rfl) (Opn.opensF_cons (Opn.opens_int Try.underlying27) rfl (by kernel_rfl) (Opn.opensF_cons (Opn.opens_int Try.underlying27) rfl (by kernel_rfl) (Opn.opensF_cons (Opn.opens_int Try.underlying27) rfl (by kernel_rfl) (Opn.opensF_cons (Opn.opens_int Try.underlying27) rfl (by kernel_rfl) (Opn.opensF_cons (Opn.opens_int Try.underlying27) rfl (by kernel_rfl) (Opn.opensF_cons (Opn.opens_int Try.underlying27) rfl (by kernel_rfl) (Opn.opensF_cons (Opn.opens_int Try.underlying27) rfl (by kernel_rfl) (Opn.opensF_cons (Opn.opens_int Try.underlying27) rfl (by kernel_rfl) (Opn.opensF_cons (Opn.opens_int Try.underlying27) rfl (by kernel_rfl) (Opn.opensF_cons (Opn.opens_int Try.underlying27) rfl (by kernel_rfl) (Opn.opensF_cons (Opn.opens_int Try.underlying27) rfl (by kernel_rfl) (Opn.opensF_cons (Opn.opens_int Try.underlying27) rfl (by kernel_rfl) (Opn.opensF_cons (Opn.opens_int Try.underlying27) rfl (by kernel_rfl) (Opn.opensF_cons (Opn.opens_bool Try.underlying4) rfl (by kernel_rfl) (Opn.opensF_cons (Opn.opens_bool Try.underlying4) rfl (by kernel_rfl) (Opn.opensF_cons (Opn.opens_bool Try.underlying4) rfl (by kernel_rfl) (Opn.opensF_cons (Opn.opens_int Try.underlying27) rfl (by kernel_rfl) (Opn.opensF_cons (Opn.opens_int Try.underlying27) rfl (by kernel_rfl) (Opn.opensF_cons (Opn.opens_int Try.underlying27) rfl (by kernel_rfl) (Opn.opensF_cons (Opn.opens_int Try.underlying27) rfl (by kernel_rfl) (Opn.opensF_cons (Opn.opens_int Try.underlying27) rfl (by kernel_rfl) (Opn.opensF_cons (Opn.opens_int Try.underlying27) rfl (by kernel_rfl) (Opn.opensF_cons (Opn.opens_int Try.underlying27) rfl (by kernel_rfl) (Opn.opensF_cons (Opn.opens_int Try.underlying27) rfl (by kernel_rfl) (Opn.opensF_cons (Opn.opens_int Try.underlying27) rfl (by kernel_rfl) (Opn.opensF_cons (Opn.opens_int Try.underlying27) rfl (by kernel_rfl) (Opn.opensF_cons (Opn.opens_int Try.underlying27) rfl (by kernel_rfl) (Opn.opensF_cons (Opn.opens_int Try.underlying27) rfl (by kernel_rfl) (Opn.opensF_cons (Opn.opens_int Try.underlying27) rfl (by kernel_rfl) (Opn.opensF_cons (Opn.opens_int Try.underlying27) rfl (by kernel_rfl) (Opn.opensF_cons (Opn.opens_int Try.underlying27) rfl (by kernel_rfl) (Opn.opensF_cons (Opn.opens_bool Try.underlying4) rfl (by kernel_rfl) (Opn.opensF_cons (Opn.opens_bool Try.underlying4) rfl (by kernel_rfl) (Opn.opensF_cons (Opn.opens_bool Try.underlying4) rfl (by kernel_rfl) (Opn.opensF_cons (Opn.opens_bool Try.underlying4) rfl (by kernel_rfl) (Opn.opensF_last (Opn.opens_bool Try.underlying4) rfl (by kernel_rfl))))))))))))))))))))))))))))))))))))))
theorem op39 {H : Type} {enc : TypeId × Value → H} {W : World} : Opn.Opens enc Try.prog W k39 39 good39 wt39 :=
  Opn.opens_struct (g := fun p => (⟨p.1, p.2.1, p.2.2.1, p.2.2.2.1, p.2.2.2.2.1, p.2.2.2.2.2.1, p.2.2.2.2.2.2⟩ : S39)) (fun _ => rfl) Try.underlying39 (by kernel_rfl) (Opn.opensF_cons (Opn.opens_string Try.underlying9) rfl (by kernel_rfl) (Opn.opensF_cons (Opn.opens_int Try.underlying3) rfl (by kernel_rfl) (Opn.opensF_cons (Opn.opens_int Try.underlying3) rfl (by kernel_rfl) (Opn.opensF_cons (Opn.opens_int Try.underlying3) rfl (by kernel_rfl) (Opn.opensF_cons (Opn.opens_int Try.underlying3) rfl (by kernel_rfl) (Opn.opensF_cons (Opn.opens_int Try.underlying27) rfl (by kernel_rfl) (Opn.opensF_last (Opn.opens_int Try.underlying27) rfl (by kernel_rfl))))))))
theorem op63 {H : Type} {enc : TypeId × Value → H} {W : World} : Opn.Opens enc Try.prog W k63 63 good63 wt63 :=
  Opn.opens_struct (g := fun p => (⟨p.1, p.2.1, p.2.2.1, p.2.2.2⟩ : S63)) (fun _ => rfl) Try.underlying63 (by kernel_rfl) (Opn.opensF_cons (Opn.opens_int Try.underlying3) rfl (by kernel_rfl) (Opn.opensF_cons (Opn.opens_bool Try.underlying4) rfl (by kernel_rfl) (Opn.opensF_cons (Opn.opens_string Try.underlying9) rfl (by kernel_rfl) (Opn.opensF_last (Opn.opens_slice Try.underlying22 (by kernel_rfl) (Opn.opens_string Try.underlying9)) rfl (by kernel_rfl)))))
theorem op68 {H : Type} {enc : TypeId × Value → H} {W : World} : Opn.Opens enc Try.prog W k68 68 good68 wt68 :=
  Opn.opens_struct (g := fun p => (⟨p.1, p.2.1, p.2.2⟩ : S68)) (fun _ => rfl) Try.underlying68 (by kernel_rfl) (Opn.opensF_cons (Opn.opens_int Try.underlying3) rfl (by kernel_rfl) (Opn.opensF_cons (Opn.opens_bool Try.underlying4) rfl (by kernel_rfl) (Opn.opensF_last (Opn.opens_string Try.underlying9) rfl (by kernel_rfl))))
theorem op66 {H : Type} {enc : TypeId × Value → H} {W : World} : Opn.Opens enc Try.prog W k66 66 good66 wt66 :=
  Opn.opens_struct (g := fun p => (⟨p.1, p.2⟩ : S66)) (fun _ => rfl) Try.underlying66 (by kernel_rfl) (Opn.opensF_cons (Opn.opens_string Try.underlying9) rfl (by kernel_rfl) (Opn.opensF_last (Opn.opens_slice Try.underlying64 (by kernel_rfl) op68) rfl (by kernel_rfl)))
theorem op54 {H : Type} {enc : TypeId × Value → H} {W : World} : Opn.Opens enc Try.prog W k54 54 good54 wt54 :=
  Opn.opens_struct (g := fun p => (⟨p.1, p.2.1, p.2.2.1, p.2.2.2⟩ : S54)) (fun _ => rfl) Try.underlying54 (by kernel_rfl) (Opn.opensF_cons (Opn.opens_bool Try.underlying4) rfl (by kernel_rfl) (Opn.opensF_cons (Opn.opens_slice Try.underlying37 (by kernel_rfl) (Opn.opens_int Try.underlying3)) rfl (by kernel_rfl) (Opn.opensF_cons (Opn.opens_slice Try.underlying51 (by kernel_rfl) op63) rfl (by kernel_rfl) (Opn.opensF_last (Opn.opens_slice Try.underlying52 (by kernel_rfl) op66) rfl (by kernel_rfl)))))
theorem op186 {H : Type} {enc : TypeId × Value → H} {W : World} : Opn.Opens enc Try.prog W k186 186 good186 wt186 :=
  Opn.opens_struct (g := fun p => (⟨p.1, p.2.1, p.2.2.1, p.2.2.2⟩ : S186)) (fun _ => rfl) Try.underlying186 (by kernel_rfl) (Opn.opensF_cons (Opn.opens_int Try.underlying27) rfl (by kernel_rfl) (Opn.opensF_cons (Opn.opens_int Try.underlying3) rfl (by kernel_rfl) (Opn.opensF_cons (Opn.opens_int Try.underlying3) rfl (by kernel_rfl) (Opn.opensF_last (Opn.opens_int Try.underlying2) rfl (by kernel_rfl)))))
theorem op127 {H : Type} {enc : TypeId × Value → H} {W : World} : Opn.Opens enc Try.prog W k127 127 good127 wt127 :=
  Opn.opens_struct (g := fun p => (⟨p.1, p.2.1, p.2.2.1, p.2.2.2.1, p.2.2.2.2.1, p.2.2.2.2.2.1, p.2.2.2.2.2.2.1, p.2.2.2.2.2.2.2.1, p.2.2.2.2.2.2.2.2.1, p.2.2.2.2.2.2.2.2.2.1, p.2.2.2.2.2.2.2.2.2.2.1, p.2.2.2.2.2.2.2.2.2.2.2.1, p.2.2.2.2.2.2.2.2.2.2.2.2⟩ : S127)) (fun _ => rfl) Try.underlying127 (by kernel_rfl) (Opn.opensF_cons op32 rfl (by kernel_rfl) (Opn.opensF_cons (Opn.opens_bool Try.underlying4) rfl (by kernel_rfl) (Opn.opensF_cons op35 rfl (by kernel_rfl) (Opn.opensF_cons (Opn.opens_string Try.underlying9) rfl (by kernel_rfl) (Opn.opensF_cons (Opn.opens_string Try.underlying9) rfl (by kernel_rfl) (Opn.opensF_cons (Opn.opens_string Try.underlying9) rfl (by kernel_rfl) (Opn.opensF_cons (Opn.opens_slice Try.underlying22 (by kernel_rfl) (Opn.opens_string Try.underlying9)) rfl (by kernel_rfl) (Opn.opensF_cons (Opn.opens_slice Try.underlying36 (by kernel_rfl) op39) rfl (by kernel_rfl) (Opn.opensF_cons op54 rfl (by kernel_rfl) (Opn.opensF_cons (Opn.opens_slice Try.underlying125 (by kernel_rfl) op186) rfl (by kernel_rfl) (Opn.opensF_cons (Opn.opens_slice Try.underlying125 (by kernel_rfl) op186) rfl (by kernel_rfl) (Opn.opensF_cons (Opn.opens_slice Try.underlying33 (by kernel_rfl) (Opn.opens_int Try.underlying27)) rfl (by kernel_rfl) (Opn.opensF_last (Opn.opens_slice Try.underlying24 (by kernel_rfl) (Opn.opens_int Try.underlying5)) rfl (by kernel_rfl))))))))))))))
theorem okWide_struct {P : Program} {w : World} {r : Reach} {base : Nat} {t : TypeId} {v : Value} {fs : Array Field} (hu : P.underlying t = some (.struct fs)) (h : Value.okWide P w r base t v) : ∃ cs, v = .agg cs ∧ cs.size = P.cellsOf t ∧ Row.okWide P w r base t cs := by
  unfold Value.okWide at h; rw [hu] at h; exact h
set_option maxRecDepth 100000 in
theorem contract (H : Type) (enc : TypeId × Value → H) (W : World) (base : Nat) (args : Array Value) (ds gs : List (DataW H)) (before : List MemPlace)
    (hval0 : ∀ (j : Nat) t v, Try.f8.params[j]? = some t → args[j]? = some v → Value.okWide Try.prog W .any base t v)
    (hW : DataW.Whole enc Try.prog Try.f8.params.toList Rows.bindFirstSpec.vars false W args.toList ds gs before) :
    Calls Try.prog 8 args W fun e W' => ∃ v, e = .returned v ∧ Rows.bindFirstSpec.post enc Try.prog Try.f8 false true false false W args v W' := by
  have hval : ∀ (j : Nat) t v, Try.f8.params[j]? = some t → args[j]? = some v → Value.okWide Try.prog W .any base t v := hval0
  have hW' := hW
  obtain ⟨p, q, hA0, hV, rfl, hfz, hnd⟩ := hW
  have hA : DataW.TrodAll enc Try.prog W 0 (fun _ => true) true Try.f8.params.toList args.toList ds p := hA0
  rw [Try.params8] at hA hval
  obtain ⟨v0, vs0, d0, ds0, p0, q0, hargs, rfl, rfl, h0, r0⟩ := trodAll_cons hA
  obtain ⟨v1, vs1, d1, ds1, p1, q1, rfl, rfl, rfl, h1, r1⟩ := trodAll_cons r0
  obtain ⟨v2, vs2, d2, ds2, p2, q2, rfl, rfl, rfl, h2, r2⟩ := trodAll_cons r1
  obtain ⟨rfl, rfl, rfl⟩ := trodAll_nil r2
  obtain rfl : args = #[v0, v1, v2] := by cases args; simp_all
  obtain ⟨rfl, rfl⟩ := trodVars_none hV
  obtain ⟨A0, n0, c0, rfl⟩ := okWide_slice Try.underlying72 (hval 0 72 v0 rfl rfl)
  have k0 := h0
  have lt0 : ∀ x ∈ p0, x.block < W.heap.size := by obtain ⟨m, hm⟩ := k0; exact DataW.trod_lt m _ _ _ hm
  obtain ⟨l0, rfl, hl0, hC0, hm0, hg0, hw0⟩ := Opn.slice_arg (good := (fun z : S127 => good127 z)) (wt := (fun z : S127 => wt127 z)) (Opn.opens_slice Try.underlying72 (by kernel_rfl) op127) h0
  obtain ⟨A1, n1, c1, rfl⟩ := okWide_slice Try.underlying37 (hval 1 37 v1 rfl rfl)
  have k1 := h1
  have lt1 : ∀ x ∈ p1, x.block < W.heap.size := by obtain ⟨m, hm⟩ := k1; exact DataW.trod_lt m _ _ _ hm
  obtain ⟨l1, rfl, hl1, hC1, hm1, hg1, hw1⟩ := Opn.slice_arg (good := (fun z : Int => (Lit.int .i64 z).wf = true)) (wt := (fun _ : Int => 1)) (Opn.opens_slice Try.underlying37 (by kernel_rfl) (Opn.opens_int Try.underlying3)) h1
  have k2 := h2
  have lt2 : ∀ x ∈ p2, x.block < W.heap.size := by obtain ⟨m, hm⟩ := k2; exact DataW.trod_lt m _ _ _ hm
  obtain ⟨cs2, rfl⟩ : ∃ cs, v2 = .agg cs := by obtain ⟨cs, h, _⟩ := okWide_struct Try.underlying74 (hval 2 74 v2 rfl rfl); exact ⟨cs, h⟩
  obtain ⟨f2, hf2⟩ := h2
  obtain ⟨⟨a2_0, a2_1, a2_2⟩, hK2, ⟨hg2_0, hg2_1, hg2_2⟩, hw2⟩ := Opn.opens_struct (f := id) (g := id) (fun _ => rfl) Try.underlying74 (by kernel_rfl) (Opn.opensF_cons (Opn.opens_string Try.underlying9) rfl (by kernel_rfl) (Opn.opensF_cons (Opn.opens_string Try.underlying9) rfl (by kernel_rfl) (Opn.opensF_last (Opn.opens_string Try.underlying9) rfl (by kernel_rfl)))) f2 _ _ _ hf2
  obtain ⟨_, _, e2,  rfl, ⟨_, _, rfl, rfl, rfl⟩⟩ := hK2
  obtain rfl : cs2 = #[.string a2_0, .string a2_1, .string a2_2] := by
    apply Array.ext'
    simpa [Value.cells] using e2
  clear hA0 hval0 hA hval
  obtain ⟨k, hf⟩ := Pure.BindFirst l0 l1 a2_0 a2_1 a2_2 ⟨hm0, hg0⟩ ⟨hm1, hg1⟩ hg2_0 hg2_1 hg2_2
  refine (shacklelaw17_BindFirst.calls k A0 c0 l0 A1 c1 l1 a2_0 a2_1 a2_2 true W hC0 hl0 hC1 hl1 hf).mono fun e W' ⟨he, bel⟩ => ?_
  subst he
  exact ⟨_, rfl, _, _, _, [], _, [], hW', trodAll_mk1 (shut_bool Try.underlying4 _), (trodAll_cons_mk (Below.trod laidOut (by kernel_rfl) (of_decide_eq_true (by kernel_rfl)) k0 bel lt0) (trodAll_cons_mk (Below.trod laidOut (by kernel_rfl) (of_decide_eq_true (by kernel_rfl)) k1 bel lt1) (trodAll_cons_mk (Below.trod laidOut (by kernel_rfl) (of_decide_eq_true (by kernel_rfl)) k2 bel lt2) trodAll_mk0))), rfl, bel.frame _, fun h => by cases h⟩
set_option maxRecDepth 100000 in
theorem lifted (os : Os) (started : os.Started) (H : Type) (enc : TypeId × Value → H) :
    ReturnsInHanded {} Try.checked os 8 .any (Rows.bindFirstSpec.pre6 enc Try.prog Try.f8 Rows.bindFirstRow.domain false) (Rows.bindFirstSpec.post enc Try.prog Try.f8 false true false false) := by
  refine returnsInHanded_of_change_sized (C := Try.checked) own started (by kernel_rfl) Try.func8
    (ChangeSpec.witness6 (enc := enc) (C := Try.checked) false ⟨#[], #[.slice none 0 0, .slice none 0 0, .agg #[.string ByteArray.empty, .string ByteArray.empty, .string ByteArray.empty]], []⟩ 8 (by kernel_rfl) (by kernel_rfl) (by kernel_rfl) (by kernel_rfl)) ?_
  intro W base args ds gs before hval0 hW hcnd hsz0 _
  exact contract H enc W base args ds gs before hval0 hW
theorem over : Rows.bindFirstRow.holds Try.pinned (OpenSpec.ofChange Rows.bindFirstSpec) :=
  OpenClaim.holds_of_wide 8 Try.f8 rfl rfl rfl rfl rfl rfl rfl ⟨rfl, rfl, rfl, rfl, rfl⟩ rfl rfl rfl rfl rfl (by kernel_rfl) Try.func8 (by kernel_rfl)
    (of_decide_eq_true (by kernel_rfl)) (by unfold Func.isWrapper; first | (rw [if_pos (by decide +kernel)]; kernel_rfl) | (rw [if_neg (by decide +kernel)]; exact ⟨rfl, rfl⟩))
    (fun os started H enc _ => lifted os started H enc)
theorem proved : Rows.BindFirstSaid := over
#print axioms proved
end Go.Proofs.Ythopdoamajjojaa.bindFirst
namespace Go.Proofs.Ythopdoamajjojaa
theorem bindFirst_holds : Rows.BindFirstSaid := bindFirst.proved
end Go.Proofs.Ythopdoamajjojaa
