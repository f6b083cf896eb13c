/- What lives is not fewer, if a count rises; of any dependencies of a bulk of at most 1048576. -/
import Derived.Test.YtlohkhadbkahdaaSaidGraphMore
import Derived.Test.YtlohkhadbkahdaaGraphRunC
namespace Go.Proofs.Ytlohkhadbkahdaa.Pure
open Go.RowKit Go.Proofs.Ytlohkhadbkahdaa.QGraph Go.Proofs.YtlohkhadbkahdaaW.PrintWords Go.Proofs.YtlohkhadbkahdaaW.PrintLast Go.Proofs.Ytlohkhadbkahdaa.GraphS Go.Proofs.Ytlohkhadbkahdaa
set_option linter.unusedVariables false
namespace Gr
theorem rd_seti {l : List Int} {x y v : Int} (h0 : 0 ≤ x) (h1 : x < (l.length : Int)) (hy : 0 ≤ y) : rd (l.set x.toNat v) y = if y = x then v else rd l y := by
  obtain ⟨j, rfl⟩ := Int.eq_ofNat_of_zero_le h0
  obtain ⟨i, rfl⟩ := Int.eq_ofNat_of_zero_le hy
  unfold rd
  simp only [Int.toNat_natCast]
  by_cases h : i = j
  · subst h
    have : i < l.length := by omega
    simp [this]
  · rw [if_neg (by omega)]
    simp [List.getD_eq_getElem?_getD, List.getElem?_set_ne (Ne.symm h)]
theorem more_l (counts : List Int) (a2 : Int) (A B : List Bool) (hl : A.length = B.length) (hA : A.length ≤ 1048576) (hab : ∀ x, Okx A.length x → rdOf false A x = true → rdOf false B x = true) : ∀ (d : Nat) (i : Int), 0 ≤ i → i + d = A.length → Ev (fun k => shacklelaw16_GraphMore.l0 k counts a2 true A B i) true := by
  intro d
  induction d with
  | zero =>
    intro i h0 h1
    refine Ev.step (f := fun _ => some true) (fun k => ?_) (Ev.now _)
    rw [shacklelaw16_GraphMore.l0, if_neg (by omega)]
  | succ d ih =>
    intro i h0 h1
    refine Ev.step (fun k => ?_) (ih (i + 1) (by omega) (by omega))
    rw [shacklelaw16_GraphMore.l0, if_pos (by omega), if_pos h0, wrap_in i h0 (by omega)]
    by_cases h : rdOf false A i = true
    · rw [if_pos h, if_pos (by omega), if_pos (hab i ⟨h0, by omega⟩ h)]
    · rw [if_neg h]
end Gr
theorem GraphMore : shacklelaw16_GraphMore.PureU := by
  intro l0 l1 a2 _ _ _ hb
  obtain ⟨hn, hr, hl⟩ := Gr.bounds (l0 := l0) (l1 := l1) (by omega)
  obtain ⟨b, hs⟩ := Gr.small l0 hn
  have hj : ∀ t, t = true → Ev (fun k => shacklelaw16_GraphMore.j0 k l0 l1 a2 true t) true := by
    intro t ht
    refine Ev.step (f := fun _ => some true) (fun k => ?_) (Ev.now _)
    rw [shacklelaw16_GraphMore.j0, if_pos ht]
  unfold shacklelaw16_GraphMore.f
  refine Ev.rounds (Ev.bind Gr.up (Ev.bind hs ?_))
  cases b with
  | false => exact hj true rfl
  | true =>
    by_cases h1 : a2 < 0
    · refine Ev.congr (fun k => ?_) (hj true rfl)
      rw [if_pos rfl, if_pos h1]
    · by_cases h2 : a2 ≥ (l1.length : Int)
      · refine Ev.congr (fun k => ?_) (hj true rfl)
        rw [if_pos rfl, if_neg h1, decide_eq_true h2]
      · have hsub : ∀ x ∈ Gr.rootsTo l1 l0.length, x ∈ Gr.rootsTo (l1.set a2.toNat 1) l0.length := by
          intro x hx
          obtain ⟨ho, hx1, hx2⟩ := (Gr.mem_rootsTo l1 x l0.length).1 hx
          refine (Gr.mem_rootsTo _ x l0.length).2 ⟨ho, by simpa using hx1, ?_⟩
          rw [Gr.rd_seti (by omega) (by omega) ho.1]
          by_cases e : x = a2
          · rw [if_pos e]; decide
          · rw [if_neg e]; exact hx2
        have hA := Gr.liveF_spec l0 l1
        have hB := Gr.liveF_spec l0 (l1.set a2.toNat 1)
        have hlen : (Gr.liveF l0 l1).length = (Gr.liveF l0 (l1.set a2.toNat 1)).length := by rw [hA.1, hB.1]
        have hm := Gr.more_l l1 a2 _ _ hlen (by rw [hA.1]; exact hn) (fun x hx h => (hB.2 x (by rw [hA.1] at hx; exact hx)).2 (GraphS.Reach.mono (fun y hy _ => hsub y hy) ((hA.2 x (by rw [hA.1] at hx; exact hx)).1 h))) (Gr.liveF l0 l1).length 0 (by omega) (by omega)
        have hstep : Ev (fun k => (graph_Live.f k l0 l1).bind fun t331 => (graph_Live.f k l0 (l1.set a2.toNat 1)).bind fun t338 => if (t331.length : Int) = (t338.length : Int) then shacklelaw16_GraphMore.l0 k l1 a2 true t331 t338 0 else some false) true := by
          refine Ev.bind (Gr.live l0 l1 hn hl) (Ev.bind (Gr.live l0 (l1.set a2.toNat 1) hn (by simpa using hl)) ?_)
          refine Ev.congr (fun k => ?_) hm
          rw [if_pos (by rw [hlen])]
        refine Ev.congr (f := fun k => shacklelaw16_GraphMore.j0 k l0 l1 a2 true false) (fun k => ?_) (Ev.step (fun k => ?_) hstep)
        · rw [if_pos rfl, if_neg h1, decide_eq_false h2]
        · rw [shacklelaw16_GraphMore.j0, if_neg (by decide)]
          simp only [List.nil_append, List.length_nil, Nat.zero_add, Option.bind_some]
          refine congrArg _ (funext fun t => ?_)
          rw [if_pos (by omega), if_pos (by omega), if_pos (by omega)]
end Go.Proofs.Ytlohkhadbkahdaa.Pure
