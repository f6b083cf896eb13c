/- The strings and symbols of any file, or how they are amiss: the program's answers and the reference's are one. -/
import Derived.Test.YtlohkhadbkahdaaSaidSymsReads
import Derived.Test.YtlohkhadbkahdaaSymsRead
import Derived.Test.YtlohkhadbkahdaaSymsRef
namespace Go.Proofs.Ytlohkhadbkahdaa.Pure
open Go Go.RowKit Go.Proofs.Ytlohkhadbkahdaa.QSyms Go.Proofs.YtlohkhadbkahdaaW.PrintWords Go.Proofs.Ytlohkhadbkahdaa.SymsSpec
namespace Reads
theorem same_l0 (l : List S68) (hl : l.length ≤ 4096) (d : Nat) : ∀ i : Nat, i ≤ l.length → l.length - i = d → Ev (fun k => shackleref06_Same.l0 k l l (i : Int)) true := by
  induction d with
  | zero =>
    intro i hi hd
    refine Ev_after (Ev.now (0 : Nat)) (fun k _ => ?_)
    simp only [shackleref06_Same.l0]
    rw [if_neg (by omega)]
  | succ d ih =>
    intro i hi hd
    refine Ev_after (ih (i + 1) (by omega) (by omega)) (fun k h => ?_)
    simp only [shackleref06_Same.l0]
    rw [if_pos (by omega), if_pos (by omega), if_pos (by omega), if_neg (by simp), w64 ((i : Int) + 1) (by omega) (by omega), show (i : Int) + 1 = ((i + 1 : Nat) : Int) by omega]
    exact h
theorem same_f (l : List S68) (hl : l.length ≤ 4096) : Ev (fun k => shackleref06_Same.f k l l) true := by
  refine Ev_one (same_l0 l hl l.length 0 (by omega) (by omega)) (fun k h => ?_)
  unfold shackleref06_Same.f
  rw [if_pos rfl]
  exact h
theorem readL_len (s t : List Int) : ∀ d i acc, (readL s t d i acc).1.length ≤ acc.length + d
  | 0, _, _ => Nat.le_refl _
  | d + 1, i, acc => by
    unfold readL
    split
    · simp
    · split
      · simp
      · have := readL_len s t d (i + 1) (acc ++ [(row s (cell t i)).1])
        simp only [List.length_append, List.length_cons, List.length_nil] at this
        omega
theorem readS_len (b : List Int) (ps : List S95) (tab sz sym n : Int) : (readS b ps tab sz sym n).1.length ≤ 4096 := by
  unfold readS
  split
  · simp
  · split
    · simp
    · split
      · simp
      · split
        · simp
        · rename_i t _
          have := readL_len (strS b ps tab sz).1 t n.toNat 0 []
          simp only [List.length_nil] at this
          omega
end Reads

theorem SymsReads : shacklelaw06_SymsReads.PureU := by
  intro b x y ps l2 a2_1 a2_2 a2_3 a2_4 a2_5 a2_6 a2_7 a2_8 a2_9 a2_10 a2_11 a2_12 a2_13 a2_14 a2_15 a2_16 a2_17 a2_18 a2_19 a2_20 a2_21 a2_22 a2_23 a2_24 a2_25 a2_26 a2_27 a2_28 a2_29 a2_30 a2_31 a2_32 a2_33 a2_34 a2_35 a2_36 n ⟨hb, hbw⟩ _ _ ⟨hps, hpg⟩ _ ha2_1 ha2_2 ha2_3 ha2_4 ha2_5 ha2_6 ha2_7 ha2_8 ha2_9 ha2_10 ha2_11 ha2_12 ha2_13 ha2_17 ha2_18 ha2_19 ha2_20 ha2_21 ha2_22 ha2_23 ha2_24 ha2_25 ha2_26 ha2_27 ha2_28 ha2_29 ha2_30 ha2_31 _
  have hbb := wf8 hbw
  have hp := ok_of hpg
  have hb' : b.length ≤ 9223372036854775807 := by unfold maxLen at hb; omega
  have hps' : ps.length ≤ 9223372036854775807 := by unfold maxLen at hps; omega
  have s1 := strings_ev b ps x y l2 a2_1 a2_2 a2_3 a2_4 a2_5 a2_6 a2_7 a2_8 a2_9 a2_10 a2_11 a2_12 a2_13 a2_14 a2_15 a2_16 a2_17 a2_18 a2_19 a2_20 a2_21 a2_22 a2_23 a2_24 a2_25 a2_26 a2_27 a2_28 a2_29 a2_30 a2_31 a2_32 a2_33 a2_34 a2_35 a2_36 hb' hps' hp (wf64 ha2_4) (wf64 ha2_8)
  have s2 := SymsRef.strings_ev b ps x y l2 a2_1 a2_2 a2_3 a2_4 a2_5 a2_6 a2_7 a2_8 a2_9 a2_10 a2_11 a2_12 a2_13 a2_14 a2_15 a2_16 a2_17 a2_18 a2_19 a2_20 a2_21 a2_22 a2_23 a2_24 a2_25 a2_26 a2_27 a2_28 a2_29 a2_30 a2_31 a2_32 a2_33 a2_34 a2_35 a2_36 hb' hps' hp (wf64 ha2_4) (wf64 ha2_8)
  have r1 := read_ev b ps x y l2 a2_1 a2_2 a2_3 a2_4 a2_5 a2_6 a2_7 a2_8 a2_9 a2_10 a2_11 a2_12 a2_13 a2_14 a2_15 a2_16 a2_17 a2_18 a2_19 a2_20 a2_21 a2_22 a2_23 a2_24 a2_25 a2_26 a2_27 a2_28 a2_29 a2_30 a2_31 a2_32 a2_33 a2_34 a2_35 a2_36 n hb' hbb hps' hp (wf64 ha2_4) (wf64 ha2_5) (wf64 ha2_8)
  have r2 := SymsRef.read_ev b ps x y l2 a2_1 a2_2 a2_3 a2_4 a2_5 a2_6 a2_7 a2_8 a2_9 a2_10 a2_11 a2_12 a2_13 a2_14 a2_15 a2_16 a2_17 a2_18 a2_19 a2_20 a2_21 a2_22 a2_23 a2_24 a2_25 a2_26 a2_27 a2_28 a2_29 a2_30 a2_31 a2_32 a2_33 a2_34 a2_35 a2_36 n hb' hbb hps' hp (wf64 ha2_4) (wf64 ha2_5) (wf64 ha2_8)
  have sm := Reads.same_f (readS b ps a2_4 a2_8 a2_5 n).1 (Reads.readS_len b ps a2_4 a2_8 a2_5 n)
  have hup : shacklelaw06_up.f = some true := rfl
  have c1 : shacklelaw00_Code.f (errOf (strS b ps a2_4 a2_8).2) = some (strS b ps a2_4 a2_8).2 := by
    rcases strS_code b ps a2_4 a2_8 with h | ⟨_, h⟩
    · exact code_errOf _ (by omega) (by omega)
    · exact code_errOf _ (by omega) (by omega)
  have c2 : shacklelaw00_Code.f (errOf (readS b ps a2_4 a2_8 a2_5 n).2) = some (readS b ps a2_4 a2_8 a2_5 n).2 := by
    rcases readS_code b ps a2_4 a2_8 a2_5 n with h | ⟨_, h⟩
    · exact code_errOf _ (by omega) (by omega)
    · exact code_errOf _ (by omega) (by omega)
  obtain ⟨A, hA⟩ := s1
  obtain ⟨B, hB⟩ := s2
  obtain ⟨C, hC⟩ := r1
  obtain ⟨D, hD⟩ := r2
  obtain ⟨E, hE⟩ := sm
  refine ⟨A + B + C + D + E, ?_⟩
  have h1 := hA (A + B + C + D + E) (by omega)
  (try dsimp only at h1)
  have h2 := hB (A + B + C + D + E) (by omega)
  (try dsimp only at h2)
  have h3 : syms_Read.f (A + B + C + D + E) b x y ps l2 a2_1 a2_2 a2_3 a2_4 a2_5 a2_6 a2_7 a2_8 a2_9 a2_10 a2_11 a2_12 a2_13 a2_14 a2_15 a2_16 a2_17 a2_18 a2_19 a2_20 a2_21 a2_22 a2_23 a2_24 a2_25 a2_26 a2_27 a2_28 a2_29 a2_30 a2_31 a2_32 a2_33 a2_34 a2_35 a2_36 n = some ((readS b ps a2_4 a2_8 a2_5 n).1, errOf (readS b ps a2_4 a2_8 a2_5 n).2) := hC _ (by omega)
  have h4 := hD (A + B + C + D + E) (by omega)
  (try dsimp only at h4)
  have h5 : shackleref06_Same.f (A + B + C + D + E) (readS b ps a2_4 a2_8 a2_5 n).1 (readS b ps a2_4 a2_8 a2_5 n).1 = some true := hE _ (by omega)
  unfold shacklelaw06_SymsReads.f
  rw [hup, Option.bind_some, h1, Option.bind_some, h2, Option.bind_some, h3, Option.bind_some, h4, Option.bind_some, h5, Option.bind_some, if_pos rfl, if_pos rfl, c1, Option.bind_some, if_pos rfl, if_pos rfl, c2, Option.bind_some, beq_self_eq_true]
end Go.Proofs.Ytlohkhadbkahdaa.Pure
