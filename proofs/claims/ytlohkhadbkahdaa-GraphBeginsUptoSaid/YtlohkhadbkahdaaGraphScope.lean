/- graph.Scope, walked: over its closure's contract. Condition: no more objects than fit into memory. -/
import Derived.Test.YtlohkhadbkahdaaGraphLayC
import Derived.Test.YtlohkhadbkahdaaGraphWalk
import Derived.StillTailTactics
namespace Go.Proofs.Ytlohkhadbkahdaa.GraphS
open Go Go.RowKit Go.Proofs.YtlohkhadbkahdaaW.PrintWords Go.Proofs.YtlohkhadbkahdaaW.PrintLast Go.Proofs.YtlohkhadbkahdaaW.PrintMore
set_option linter.unusedVariables false
set_option linter.unusedSimpArgs false
theorem Parts.mk0 {w w1 w2 w3 w4 w5 : World} {bd bh bo : Nat} {vd vh : Value} {n : Nat} (hd : w1.heap[bd]? = some (.cells #[vd] 41 (0, 0))) (e1 : bd = w.heap.size) (b1 : Below w.heap.size w w1)
    (r2 : Kd.R Kd.bool 4 w2 w1.heap.size (fun _ => True) vh (List.replicate n false)) (b2 : Below w1.heap.size w1 w2)
    (hh : w3.heap[bh]? = some (.cells #[.slice none 0 0] 47 (0, 0))) (e3 : bh = w2.heap.size) (b3 : Below w2.heap.size w2 w3)
    (e4 : w4 = w3.setCell ⟨bh, 0, none⟩ vh)
    (ho : w5.heap[bo]? = some (.cells #[.slice none 0 0] 42 (0, 0))) (e5 : bo = w4.heap.size) (b5 : Below w4.heap.size w4 w5) :
    Parts w bd bh bo vd vh (.slice none 0 0) (List.replicate n false) [] w5 := by
  have k1 := b1.size
  have k2 := b2.size
  have k3 := b3.size
  have B2 := below_step b1 b2
  have B3 := below_step B2 b3
  have hd2 : w2.heap[bd]? = some (.cells #[vd] 41 (0, 0)) := (b2.block bd (lt_of_block hd)).trans hd
  have hd3 : w3.heap[bd]? = some (.cells #[vd] 41 (0, 0)) := (b3.block bd (lt_of_block hd2)).trans hd2
  have B4 : Below w.heap.size w w4 := by rw [e4]; exact below_set B3 (by omega)
  have hd4 : w4.heap[bd]? = some (.cells #[vd] 41 (0, 0)) := by rw [e4, Below.heap_setCell _ _ _ _ (blk_ne hd3 hh (by decide))]; exact hd3
  have hh4 : w4.heap[bh]? = some (.cells #[vh] 47 (0, 0)) := by rw [e4]; exact one_setCell hh
  have r4 : Kd.R Kd.bool 4 w4 w.heap.size (fun _ => True) vh (List.replicate n false) := by
    rw [e4]
    exact Kd.R_set (Kd.R_below (Kd.R_lower r2 (by omega)) b3) hh (by decide) 0 vh
  have hd5 : w5.heap[bd]? = some (.cells #[vd] 41 (0, 0)) := (b5.block bd (lt_of_block hd4)).trans hd4
  have hh5 : w5.heap[bh]? = some (.cells #[vh] 47 (0, 0)) := (b5.block bh (lt_of_block hh4)).trans hh4
  exact ⟨below_step B4 b5, hd5, hh5, ho, Kd.R_below r4 b5, Kd.R_nil _ _ _ _ _, by omega, by omega, by have := B4.size; omega⟩
set_option maxHeartbeats 8000000 in
set_option maxRecDepth 100000 in
theorem scope_calls (A0 : Option Addr) (c0 : Nat) (l0 : List (List Int)) (A1 : Option Addr) (c1 : Nat) (l1 : List Int) (w : World) (hr0 : Kd.C (Kd.slice 3 (Kd.int .i64)) w A0 l0.length l0) (hr1 : Kd.C (Kd.int .i64) w A1 l1.length l1) (hN : l0.length ≤ 2199023255552) :
    Calls Try.prog 25 #[.slice A0 l0.length c0, .slice A1 l1.length c1] w fun e w' => ∃ v0_ : Value, e = .returned (v0_) ∧ Kd.R (Kd.int .i64) 3 w' w.heap.size (fun _ => True) v0_ (scopeF l0 l1) ∧ Below w.heap.size w w' := by
  have HR0 := Aside0.mk hr0
  have HR1 := Aside0.mk hr1
  have HNN := Aside0.mk hN
  clear hr0 hr1 hN
  have hmf : ∀ (fn : Fn) (first cap : Array Value) (w : World), (Instr.makeFunc fn first cap).run Try.prog w = .ok (.func fn first cap) w := fun _ _ _ _ => rfl
  go_enter Try.func25, Try.ntmps25
  go_wp2_with (first
    | ((with_reducible refine gate_dst (N := 2) rfl ?_); refine box_event ?hg (N := 2) ?hd (cs := #[.slice A0 l0.length c0]) (t := 41) ?hr ?_; (case hd => rfl); (case hg => rfl); (case hr => first | (go_simp; done) | (go_simp; rfl)); intro bd ebd w1 hb1 hw1; have cd := cell_of_one hb1; have HD := Aside0.mk (And.intro hb1 (And.intro ebd hw1)); clear hb1 ebd hw1)
    | ((with_reducible refine gate_dst (N := 11) rfl ?_); refine Kd.R_make Kd.bool _ 4 rfl (N := 11) rfl 47 _ _ rfl (l0.length : Int) rfl rfl Try.underlying47 (.bool false) 1 info4 rfl (by decide) (by omega) false (ok := fun _ => True) (okp := fun _ => True) rfl (fun _ hk => hk) trivial (by omega) (by have := HNN.out; omega) (Below.refl _ _) (Nat.le_refl _) ?_; intro v11 w2 ho6 hb hg_ hnew_; clear hg_ hnew_; rw [Int.toNat_natCast] at ho6; obtain ⟨A11, c11, e11⟩ := Kd.R_slice ho6; subst e11; rw [List.length_replicate] at ho6; have HM := Aside0.mk (And.intro ho6 hb); clear ho6 hb)
    | ((with_reducible refine gate_dst (N := 5) rfl ?_); refine box_event ?hg (N := 5) ?hd (cs := #[.slice none 0 0]) (t := 47) ?hr ?_; (case hd => rfl); (case hg => rfl); (case hr => first | (go_simp; done) | (go_simp; rfl)); intro bh ebh w3 hb3 hw3; have ch := cell_of_one hb3; have fh := free_of_one hb3; have HH := Aside0.mk (And.intro hb3 (And.intro ebh hw3)); clear hb3 ebh hw3)
    | ((with_reducible refine gate_store (t := 47) (p := 5) rfl ?_); refine store_event (t := 47) (p := 5) (v := ?vo_w4) (w1 := (w3.setCell ⟨bh, 0, none⟩ (.slice A11 l0.length c11))) ?hg ?ho ?hn ?hr ?_; (case ho => rfl); (case hg => rfl); (case hn => rfl); (case hr => first | (go_simp; done) | (go_simp; rfl)); intro w4 hw4; have HS := Aside0.mk hw4; clear hw4)
    | ((with_reducible refine gate_dst (N := 6) rfl ?_); refine box_event ?hg (N := 6) ?hd (cs := #[.slice none 0 0]) (t := 42) ?hr ?_; (case hd => rfl); (case hg => rfl); (case hr => first | (go_simp; done) | (go_simp; rfl)); intro bo ebo w5 hb5 hw5; have HP := Aside0.mk (Parts.mk0 HD.out.1 HD.out.2.1 HD.out.2.2 HM.out.1 HM.out.2 HH.out.1 HH.out.2.1 HH.out.2.2 HS.out hb5 ebo hw5); clear hb5 ebo hw5 HD HM HH HS)
    | (go_at_call 41; (with_reducible refine (lay_calls w _ bd bh bo A0 c0 l0.length _ _ _ _ A1 c1 l1 HP.out HR1.out (by simp) HNN.out (by simp [List.count_replicate])).mono ?_); rintro e w' ⟨rfl, vo1, hp1⟩; have HP1 := Aside0.mk hp1; clear hp1 HP))
  clear cd ch fh
  go_loopg [8] (l0.length + 1) (fun kq v8 w' => ∃ (i : Int) (had : List Bool) (out : List Int) (vo : Value), v8 = .int .i64 i ∧ Aside0 (0 ≤ i ∧ i ≤ out.length ∧ kq + i.toNat = l0.length + 1) ∧ Aside0 (scopeL l0 kq i had out = scopeF l0 l1) ∧ Aside0 (had.length = l0.length ∧ out.length = had.count true) ∧ Aside0 (∀ y ∈ out, 0 ≤ y ∧ y < (l0.length : Int)) ∧ Aside0 (Parts w bd bh bo (.slice A0 l0.length c0) (.slice A11 l0.length c11) vo had out w'))
  case atStart => exact ⟨0, _, _, _, rfl, ⟨by simp⟩, ⟨rfl⟩, ⟨by rw [layF_len]; simp, layF_count _ _ _ _ (by simp) (by simp [List.count_replicate])⟩, ⟨layF_mem _ _ _ _ (by simp)⟩, HP1⟩
  case round =>
    clear HP1
    obtain ⟨i, had, out, vo, rfl, HI, HL, HC, HM, HP⟩ := hrel
    obtain ⟨Ao, co, eo⟩ := Kd.R_slice HP.out.ro
    subst eo
    have hb := HP.out.o
    have cO := cell_of_one hb
    have cD := cell_of_one HP.out.d
    clear hb
    have p1 := HI.out.1
    have hlt : out.length ≤ l0.length := by have h1 := HC.out; have h3 : had.count true ≤ had.length := List.count_le_length; omega
    have HLT := Aside0.mk hlt
    clear hlt
    cases gk with
    | zero => exact absurd HI.out.2 (by have := HLT.out; omega)
    | succ k1 =>
    by_cases c4 : i < (out.length : Int)
    · have q1 := c4
      have hw : wrap64 (i + 1) = i + 1 := by unfold wrap64; have := HI.out.1; have := HLT.out; have := HNN.out; omega
      have HW := Aside0.mk hw
      clear hw
      have HL2 := Aside0.mk (show scopeL l0 k1 (i + 1) (layF l0.length (l0.getD (rd out i).toNat []) had out).1 (layF l0.length (l0.getD (rd out i).toNat []) had out).2 = scopeF l0 l1 by have h := HL.out; rw [scopeL, if_pos c4] at h; exact h)
      have c4b0 : decide (i < (out.length : Int)) = true := decide_eq_true c4
      obtain ⟨ad, e153, hx⟩ := Kd.at_int (Kd.R_reads' HP.out.ro).2.2 i p1 q1
      subst e153
      have hmem : rd out i ∈ out := by
        have h : i.toNat < out.length := by omega
        have : rd out i = out[i.toNat] := by simp [rd, h]
        rw [this]; exact List.getElem_mem _
      have hxr := HM.out _ hmem
      clear hmem
      obtain ⟨x, hxx⟩ : ∃ x, x = rd out i := ⟨_, rfl⟩
      rw [← hxx] at hx HL2 hxr
      clear hxx c4 HL
      obtain ⟨px, qx⟩ := hxr
      obtain ⟨ad2, A2, c2, e2, hx2, hle2, hC2⟩ := at_row HR0.out x px qx
      subst e2
      have hx2' := HP.out.hB.cell (World.block_lt_of_cell? w _ hx2)
      rw [hx2] at hx2'
      clear hx2
      obtain ⟨row, hrow⟩ : ∃ row, row = l0.getD x.toNat [] := ⟨_, rfl⟩
      rw [← hrow] at hC2 hx2' HL2
      clear hrow
      have HC2 := Aside0.mk hC2
      have HG := Aside0.mk (layF_grow l0.length row had out)
      have HQ := Aside0.mk q1
      clear hC2 hle2
      have pxb : decide (0 ≤ x) = true := decide_eq_true px
      have qxb : decide (x < (l0.length : Int)) = true := decide_eq_true qx
      have HPX := Aside0.mk px
      replace p1 := eq_true p1
      replace q1 := eq_true q1
      replace px := eq_true px
      replace qx := eq_true qx
      go_wp2
      go_still_tail 8, (by kernel_rfl)
      change wpList _ _ _ _ _ wr.drew
      have HP2 := Aside0.mk (show Parts w bd bh bo (.slice (some ad2) l0.length c0) (.slice A11 l0.length c11) (.slice (some ad) out.length co) had out wr.drew from HP.out.drewN 1)
      generalize wr.drew = w6 at HP2
      go_wp2_with (go_at_call 41; (with_reducible refine (lay_calls w _ bd bh bo (some ad2) c0 l0.length _ _ _ _ A2 c2 row HP2.out HC2.out HC.out.1 HNN.out HC.out.2).mono ?_); rintro e w' ⟨rfl, vo1, hp1⟩; have HP1 := Aside0.mk hp1; clear hp1 HP HP2)
      go_roundg k1
      case measure => omega
      case rel => exact ⟨_, _, _, vo1, rfl, ⟨by rw [HW.out]; have := HI.out; have := HG.out; have := HQ.out; omega⟩, ⟨by rw [HW.out]; exact HL2.out⟩, ⟨by rw [layF_len]; exact HC.out.1, layF_count _ _ _ _ (by have := HC.out.1; omega) HC.out.2⟩, ⟨layF_mem _ _ _ _ HM.out⟩, HP1⟩
    · have c4b0 : decide (i < (out.length : Int)) = false := decide_eq_false c4
      have HL2 := Aside0.mk (show out = scopeF l0 l1 by have h := HL.out; rw [scopeL, if_neg c4] at h; exact h)
      clear c4 HL
      go_wp2
      go_ret
      exact ⟨_, rfl, by rw [← HL2.out]; exact HP.out.ro, HP.out.hB⟩
end Go.Proofs.Ytlohkhadbkahdaa.GraphS
