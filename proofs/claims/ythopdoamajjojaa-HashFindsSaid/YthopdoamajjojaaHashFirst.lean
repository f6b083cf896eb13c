/- The table of the first kind that the statement makes: each bucket's chain tells the places of its names. -/
import Derived.Test.YthopdoamajjojaaHashRead
namespace Go.Proofs.Ythopdoamajjojaa.HashFirst
open Go.RowKit Go.Proofs.Ythopdoamajjojaa Go.Proofs.Ythopdoamajjojaa.QHashF Go.Proofs.YthopdoamajjojaaW.PrintWords Go.Proofs.Ythopdoamajjojaa.HashTab Go.Proofs.Ythopdoamajjojaa.HashRead

structure Tab (h : Nat → Nat) (n N m : Nat) (w : List Int) : Prop where
  len : w.length = 2 + n + N
  w0 : w.getD 0 0 = (n : Int)
  w1 : w.getD 1 0 = (N : Int)
  rng : ∀ x ∈ w, 0 ≤ x ∧ x < 4294967296
  ch : ∀ b, b < n → chain (fun i => w.getD (2 + n + i) 0) (w.getD (2 + b) 0) ((ups N m).filter (fun i => h i % n = b))

theorem step (h : Nat → Nat) (n N m : Nat) (w : List Int) (hn : 0 < n) (hm : 0 < m) (hmN : m < N) (hN : N < 4294967296) (T : Tab h n N (m + 1) w) :
    Tab h n N m ((w.set (2 + n + m) (w.getD (2 + h m % n) 0)).set (2 + h m % n) (m : Int)) := by
  have hq : h m % n < n := Nat.mod_lt _ hn
  generalize hqq : h m % n = q at hq ⊢
  have hlen := T.len
  have hget : w.getD (2 + q) 0 ∈ w := by rw [getD_at _ _ _ (by omega)]; exact List.getElem_mem _
  have hc : ∀ i, i < N → ((w.set (2 + n + m) (w.getD (2 + q) 0)).set (2 + q) (m : Int)).getD (2 + n + i) 0 = if i = m then w.getD (2 + q) 0 else w.getD (2 + n + i) 0 := by
    intro i hi
    rw [HashTab.getD_set_ne _ _ _ _ _ (by omega)]
    by_cases e : i = m
    · subst e; rw [if_pos rfl, getD_set_same _ _ _ _ (by omega)]
    · rw [if_neg e, HashTab.getD_set_ne _ _ _ _ _ (by omega)]
  refine ⟨by simp [hlen], ?_, ?_, ?_, ?_⟩
  · rw [HashTab.getD_set_ne _ _ _ _ _ (by omega), HashTab.getD_set_ne _ _ _ _ _ (by omega)]; exact T.w0
  · rw [HashTab.getD_set_ne _ _ _ _ _ (by omega), HashTab.getD_set_ne _ _ _ _ _ (by omega)]; exact T.w1
  · intro x hx
    rcases List.mem_or_eq_of_mem_set hx with hx | rfl
    · rcases List.mem_or_eq_of_mem_set hx with hx | rfl
      · exact T.rng x hx
      · exact T.rng _ hget
    · omega
  · intro b hb
    have hrest : chain (fun i => ((w.set (2 + n + m) (w.getD (2 + q) 0)).set (2 + q) (m : Int)).getD (2 + n + i) 0) (w.getD (2 + b) 0) ((ups N (m + 1)).filter (fun i => h i % n = b)) := by
      refine chain_same _ _ _ _ (fun i hi => ?_) (T.ch b hb)
      have hi := ((ups_mem _ _ _).1 ((List.mem_filter.1 hi).1))
      rw [hc i hi.2, if_neg (by omega)]
    rw [ups_step N m hmN]
    by_cases e : q = b
    · subst e
      rw [List.filter_cons_of_pos (by simpa using hqq), getD_set_same _ _ _ _ (by simp; omega)]
      refine ⟨rfl, hm, ?_⟩
      show chain _ (((w.set (2 + n + m) (w.getD (2 + q) 0)).set (2 + q) (m : Int)).getD (2 + n + m) 0) _
      rw [hc m hmN, if_pos rfl]
      exact hrest
    · rw [List.filter_cons_of_neg (by simpa [hqq] using e), HashTab.getD_set_ne _ _ _ _ _ (by omega), HashTab.getD_set_ne _ _ _ _ _ (by omega)]
      exact hrest

theorem start (h : Nat → Nat) (n N : Nat) (hN : N < 4294967296) (hn : n < 4294967296) :
    Tab h n N N (((List.replicate (2 + n + N) (0 : Int)).set 0 (n : Int)).set 1 (N : Int)) := by
  refine ⟨by simp, ?_, ?_, ?_, ?_⟩
  · rw [HashTab.getD_set_ne _ _ _ _ _ (by omega), getD_set_same _ _ _ _ (by simp; omega)]
  · rw [getD_set_same _ _ _ _ (by simp; omega)]
  · intro x hx
    rcases List.mem_or_eq_of_mem_set hx with hx | rfl
    · rcases List.mem_or_eq_of_mem_set hx with hx | rfl
      · have := List.eq_of_mem_replicate hx; omega
      · omega
    · omega
  · intro b hb
    rw [ups_end, HashTab.getD_set_ne _ _ _ _ _ (by omega), HashTab.getD_set_ne _ _ _ _ _ (by omega), getD_at _ _ _ (by simp; omega), List.getElem_replicate]
    rfl

/-- a name's hash, as a number -/
def hs (all : List ByteArray) (i : Nat) : Nat := (sysv (all.getD i ByteArray.empty)).toNat
theorem loop_ev (all : List ByteArray) (n : Nat) (hn : 0 < n) (hn' : n < 1000000) (hN : all.length < 1000000) (hz : ∀ s ∈ all, s.size ≤ 9223372036854775807) : ∀ (m : Nat) (w : List Int), m + 1 ≤ all.length → Tab (hs all) n all.length (m + 1) w →
    ∃ w', Tab (hs all) n all.length 1 w' ∧ Ev (fun k => shacklelaw07_first.l0 k all (n : Int) w (m : Int)) (four w')
  | 0, w, hm, T => by
    have hlen := T.len
    refine ⟨w, T, Ev_two (four_ev w (by omega) T.rng w.length 0 (by omega) (by omega)) (Ev.now (four w)) (fun k h _ => ?_)⟩
    simp only [shacklelaw07_first.l0]
    rw [if_neg (by omega)]
    show (shacklelaw07_four.l0 k w [] 0).bind _ = _
    have h : shacklelaw07_four.l0 k w [] 0 = some (four w) := h
    rw [h]
    rfl
  | m + 1, w, hm, T => by
    have hlen := T.len
    obtain ⟨w', T', h'⟩ := loop_ev all n hn hn' hN hz m _ (by omega) (step (hs all) n all.length (m + 1) w hn (by omega) (by omega) (by omega) T)
    refine ⟨w', T', ?_⟩
    have hs' : (all.getD (m + 1) ByteArray.empty).size ≤ 9223372036854775807 := hz _ (by rw [getD_at _ _ _ (by omega)]; exact List.getElem_mem _)
    have hin := sysv_in (all.getD (m + 1) ByteArray.empty)
    have hq : hs all (m + 1) % n < n := Nat.mod_lt _ hn
    refine Ev_two (sysv_ev _ hs') h' (fun k h1 h2 => ?_)
    simp only [shacklelaw07_first.l0]
    have ha : rdOf ByteArray.empty all ((m + 1 : Nat) : Int) = all.getD (m + 1) ByteArray.empty := by simp [rdOf]
    have e0 : Int.tmod (sysv (all.getD (m + 1) ByteArray.empty)) (n : Int) = ((hs all (m + 1) % n : Nat) : Int) := by
      rw [Int.tmod_eq_emod_of_nonneg hin.1]
      unfold hs
      rw [Int.natCast_emod, Int.toNat_of_nonneg hin.1]
    rw [if_pos (by omega), if_pos (by omega), if_pos (by omega), ha, h1]
    simp only [Option.bind_some]
    rw [if_neg (by omega), e0, show (2 + ((hs all (m + 1) % n : Nat) : Int)) % 4294967296 = ((2 + hs all (m + 1) % n : Nat) : Int) by omega,
      w64 (n : Int) (by omega) (by omega), w64 (2 + (n : Int)) (by omega) (by omega), w64 (2 + (n : Int) + ((m + 1 : Nat) : Int)) (by omega) (by omega),
      show 2 + (n : Int) + ((m + 1 : Nat) : Int) = ((2 + n + (m + 1) : Nat) : Int) by omega,
      if_pos (by omega), if_pos (by omega), if_pos (by omega), if_pos (by omega), rd_nat, Int.toNat_natCast, Int.toNat_natCast, show ((m + 1 : Nat) : Int) % 4294967296 = ((m + 1 : Nat) : Int) by omega,
      w64 (((m + 1 : Nat) : Int) - 1) (by omega) (by omega), show ((m + 1 : Nat) : Int) - 1 = (m : Int) by omega]
    exact h2
theorem first_ev (all : List ByteArray) (n : Nat) (hn : 0 < n) (hn' : n < 1000000) (h0 : 0 < all.length) (hN : all.length < 1000000) (hz : ∀ s ∈ all, s.size ≤ 9223372036854775807) :
    ∃ w', Tab (hs all) n all.length 1 w' ∧ Ev (fun k => shacklelaw07_first.f k all (n : Int)) (four w') := by
  obtain ⟨m, hm⟩ : ∃ m, all.length = m + 1 := ⟨all.length - 1, by omega⟩
  obtain ⟨w', T, h⟩ := loop_ev all n hn hn' hN hz m (((List.replicate (2 + n + all.length) (0 : Int)).set 0 (n : Int)).set 1 (all.length : Int)) (by omega) (by rw [← hm]; exact start _ n _ (by omega) (by omega))
  refine ⟨w', T, Ev_one h (fun k h => ?_)⟩
  unfold shacklelaw07_first.f
  have e : ((2 + (n : Int)) + (all.length : Int)) = ((2 + n + all.length : Nat) : Int) := by omega
  rw [w64 (n : Int) (by omega) (by omega), w64 (2 + (n : Int)) (by omega) (by omega), w64 (2 + (n : Int) + (all.length : Int)) (by omega) (by omega), e, if_pos (by omega), Int.toNat_natCast, if_pos (by omega)]
  simp only [Option.bind_some]
  rw [if_pos (by simp; omega), if_pos (by simp; omega), w64 ((all.length : Int) - 1) (by omega) (by omega), show (all.length : Int) % 4294967296 = (all.length : Int) by omega, show (all.length : Int) - 1 = (m : Int) by omega]
  exact h
end Go.Proofs.Ythopdoamajjojaa.HashFirst
