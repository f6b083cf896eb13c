/- The table of the second kind that the statement makes of names that stand by their buckets. -/
import Derived.Test.YthopdoamajjojaaHashOrd
namespace Go.Proofs.Ythopdoamajjojaa.HashSecond
open Go Go.RowKit Go.Proofs.Ythopdoamajjojaa Go.Proofs.YthopdoamajjojaaW.PrintWords Go.Proofs.Ythopdoamajjojaa.HashTab Go.Proofs.Ythopdoamajjojaa.HashOrd

/-- behind the place: the last of its bucket -/
def ends (h : Nat → Nat) (n N i : Nat) : Prop := i + 1 = N ∨ h (i + 1) % n ≠ h i % n
instance (h : Nat → Nat) (n N i : Nat) : Decidable (ends h n N i) := inferInstanceAs (Decidable (_ ∨ _))
def word (h : Nat → Nat) (n N i : Nat) : Nat := h i / 2 * 2 + (if ends h n N i then 1 else 0)
structure St (h : Nat → Nat) (n N sh m : Nat) (bl fi ch : List Int) : Prop where
  lbl : bl.length = 4
  lfi : fi.length = n
  lch : ch.length = N
  rbl : ∀ x ∈ bl, 0 ≤ x ∧ x < 18446744073709551616
  rfi : ∀ x ∈ fi, 0 ≤ x ∧ x < 4294967296
  rch : ∀ x ∈ ch, 0 ≤ x ∧ x < 4294967296
  bit : ∀ i, 1 ≤ i → i < m → (bl.getD (h i / 64 % 4) 0).toNat.testBit (h i % 64) = true ∧ (bl.getD (h i / 64 % 4) 0).toNat.testBit (h i / 2 ^ sh % 64) = true
  fst : ∀ b, b < n → (fi.getD b 0 = 0 ∧ ∀ i, 1 ≤ i → i < m → h i % n ≠ b) ∨ (∃ t : Nat, 1 ≤ t ∧ t < m ∧ fi.getD b 0 = (t : Int) ∧ h t % n = b ∧ ∀ i, 1 ≤ i → i < t → h i % n ≠ b)
  chn : ∀ i, 1 ≤ i → i < m → ch.getD i 0 = (word h n N i : Int)

def nb (bl : List Int) (sh t : Nat) : List Int := bl.set (t / 64 % 4) ((((bl.getD (t / 64 % 4) 0).toNat ||| 2 ^ (t % 64)) ||| 2 ^ (t / 2 ^ sh % 64) : Nat) : Int)
def nf (fi : List Int) (b m : Nat) : List Int := if fi.getD b 0 = 0 then fi.set b (m : Int) else fi

theorem two_lt (j : Nat) (h : j < 64) : 2 ^ j < 18446744073709551616 := by
  have hp : 2 ^ j < 2 ^ 64 := Nat.pow_lt_pow_right (by decide) h
  exact hp
theorem nb_val (x t sh : Nat) (hx : x < 18446744073709551616) : ((x ||| 2 ^ (t % 64)) ||| 2 ^ (t / 2 ^ sh % 64)) < 18446744073709551616 :=
  Nat.or_lt_two_pow (n := 64) (Nat.or_lt_two_pow (n := 64) hx (two_lt _ (Nat.mod_lt _ (by decide)))) (two_lt _ (Nat.mod_lt _ (by decide)))

theorem step {h : Nat → Nat} {n N sh m : Nat} {bl fi ch : List Int} (S : St h n N sh m bl fi ch) (hn : 0 < n) (h1 : 1 ≤ m) (hm : m < N) (hN : N < 4294967296) (hh : ∀ i, h i < 4294967296) :
    St h n N sh (m + 1) (nb bl sh (h m)) (nf fi (h m % n) m) (ch.set m (word h n N m : Int)) := by
  have hw : word h n N m < 4294967296 := by unfold word; have := hh m; split <;> omega
  have hq : h m / 64 % 4 < bl.length := by rw [S.lbl]; omega
  have hx : (bl.getD (h m / 64 % 4) 0).toNat < 18446744073709551616 := by
    have := S.rbl (bl.getD (h m / 64 % 4) 0) (by rw [getD_at _ _ _ hq]; exact List.getElem_mem hq)
    omega
  have hv := nb_val _ (h m) sh hx
  have hb : h m % n < n := Nat.mod_lt _ hn
  refine ⟨by simp [nb, S.lbl], ?_, by simp [S.lch], ?_, ?_, ?_, ?_, ?_, ?_⟩
  · unfold nf; split <;> simp [S.lfi]
  · intro x hx
    rcases List.mem_or_eq_of_mem_set hx with hx | rfl
    · exact S.rbl x hx
    · exact ⟨by omega, by omega⟩
  · intro x hx
    unfold nf at hx
    split at hx
    · rcases List.mem_or_eq_of_mem_set hx with hx | rfl
      · exact S.rfi x hx
      · omega
    · exact S.rfi x hx
  · intro x hx
    rcases List.mem_or_eq_of_mem_set hx with hx | rfl
    · exact S.rch x hx
    · omega
  · intro i hi hlt
    by_cases e : h i / 64 % 4 = h m / 64 % 4
    · have eq : (nb bl sh (h m)).getD (h i / 64 % 4) 0 = ((((bl.getD (h m / 64 % 4) 0).toNat ||| 2 ^ (h m % 64)) ||| 2 ^ (h m / 2 ^ sh % 64) : Nat) : Int) := by
        unfold nb; rw [e, getD_set_same _ _ _ _ hq]
      rw [eq, Int.toNat_natCast]
      by_cases em : i = m
      · subst em
        simp only [Nat.testBit_or, Nat.testBit_two_pow_self, Bool.or_true, Bool.true_or, and_self]
      · have hb := S.bit i hi (by omega)
        rw [e] at hb
        simp only [Nat.testBit_or, hb.1, hb.2, Bool.true_or, and_self]
    · have em : i ≠ m := fun z => e (by rw [z])
      have eq : (nb bl sh (h m)).getD (h i / 64 % 4) 0 = bl.getD (h i / 64 % 4) 0 := by
        unfold nb; rw [HashTab.getD_set_ne _ _ _ _ _ (fun z => e z.symm)]
      rw [eq]
      exact S.bit i hi (by omega)
  · intro b hbn
    by_cases e : b = h m % n
    · subst e
      rcases S.fst _ hbn with ⟨z, hno⟩ | ⟨t, t1, t2, t3, t4, t5⟩
      · refine .inr ⟨m, h1, by omega, ?_, rfl, fun i hi hlt => hno i hi hlt⟩
        unfold nf; rw [if_pos z, getD_set_same _ _ _ _ (by rw [S.lfi]; exact hb)]
      · refine .inr ⟨t, t1, by omega, ?_, t4, t5⟩
        unfold nf; rw [if_neg (by omega), t3]
    · have eq : (nf fi (h m % n) m).getD b 0 = fi.getD b 0 := by
        unfold nf; split
        · rw [HashTab.getD_set_ne _ _ _ _ _ (fun z => e z.symm)]
        · rfl
      rw [eq]
      rcases S.fst _ hbn with ⟨z, hno⟩ | ⟨t, t1, t2, t3, t4, t5⟩
      · refine .inl ⟨z, fun i hi hlt => ?_⟩
        by_cases em : i = m
        · subst em; exact fun z => e z.symm
        · exact hno i hi (by omega)
      · exact .inr ⟨t, t1, by omega, t3, t4, t5⟩
  · intro i hi hlt
    by_cases em : i = m
    · subst em; rw [getD_set_same _ _ _ _ (by rw [S.lch]; exact hm)]
    · rw [HashTab.getD_set_ne _ _ _ _ _ (fun z => em z.symm)]; exact S.chn i hi (by omega)
theorem start (h : Nat → Nat) (n N sh : Nat) : St h n N sh 1 (List.replicate 4 0) (List.replicate n 0) (List.replicate N 0) := by
  have hr : ∀ (k : Nat) (B : Int), 0 < B → ∀ x ∈ List.replicate k (0 : Int), 0 ≤ x ∧ x < B := by
    intro k B hB x hx
    have := List.eq_of_mem_replicate hx; omega
  refine ⟨by simp, by simp, by simp, hr _ _ (by decide), hr _ _ (by decide), hr _ _ (by decide), fun i h1 h2 => by omega, fun b hb => .inl ⟨?_, fun i h1 h2 => by omega⟩, fun i h1 h2 => by omega⟩
  rw [getD_at _ _ _ (by simpa using hb), List.getElem_replicate]

/-! ### what a reader of the table meets -/
/-- places stand by their buckets -/
def Srt (h : Nat → Nat) (n N : Nat) : Prop := ∀ i j, 1 ≤ i → i < j → j < N → h i % n ≤ h j % n
/-- the greatest of the first places: the first of the last place's bucket -/
theorem top {h : Nat → Nat} {n N sh : Nat} {bl fi ch : List Int} (S : St h n N sh N bl fi ch) (hs : Srt h n N) (hn : 0 < n) (h0 : 0 < N) :
    ∃ (B T : Nat), B < n ∧ fi.getD B 0 = (T : Int) ∧ (∀ b, b < n → fi.getD b 0 ≤ (T : Int)) ∧ ((T = 0 ∧ N = 1) ∨ (1 ≤ T ∧ T < N ∧ ∀ i, T ≤ i → i < N → h i % n = B)) := by
  by_cases hN : N = 1
  · refine ⟨0, 0, hn, ?_, fun b hb => ?_, .inl ⟨rfl, hN⟩⟩
    · rcases S.fst 0 hn with ⟨z, _⟩ | ⟨t, t1, t2, _⟩
      · exact z
      · omega
    · rcases S.fst b hb with ⟨z, _⟩ | ⟨t, t1, t2, _⟩
      · rw [z]; omega
      · omega
  have hB : h (N - 1) % n < n := Nat.mod_lt _ hn
  rcases S.fst _ hB with ⟨_, hno⟩ | ⟨t, t1, t2, t3, t4, t5⟩
  · exact absurd rfl (hno (N - 1) (by omega) (by omega))
  refine ⟨h (N - 1) % n, t, hB, t3, fun b hb => ?_, .inr ⟨t1, t2, fun i hi hlt => ?_⟩⟩
  · rcases S.fst b hb with ⟨z, _⟩ | ⟨u, u1, u2, u3, u4, u5⟩
    · rw [z]; omega
    · rw [u3]
      by_cases e : u ≤ t
      · omega
      have e1 := hs t u t1 (by omega) u2
      have e2 : h u % n ≤ h (N - 1) % n := by
        by_cases e : u = N - 1
        · rw [e]; exact Nat.le_refl _
        · exact hs u (N - 1) u1 (by omega) (by omega)
      exact absurd (show h t % n = b by omega) (u5 t t1 (by omega))
  · have e1 : h t % n ≤ h i % n := by
      by_cases e : t = i
      · rw [e]; exact Nat.le_refl _
      · exact hs t i t1 (by omega) hlt
    have e2 : h i % n ≤ h (N - 1) % n := by
      by_cases e : i = N - 1
      · rw [e]; exact Nat.le_refl _
      · exact hs i (N - 1) (by omega) (by omega) (by omega)
    omega
/-- behind the end of a bucket there's no more of it -/
theorem beyond {h : Nat → Nat} {n N e : Nat} (hs : Srt h n N) (h1 : 1 ≤ e) (he : ends h n N e) (i : Nat) (hi : e < i) (hN : i < N) : h i % n ≠ h e % n := by
  rcases he with he | he
  · omega
  have e1 := hs e (e + 1) h1 (by omega) (by omega)
  by_cases ei : i = e + 1
  · rw [ei]; exact he
  · have e2 := hs (e + 1) i (by omega) (by omega) hN
    omega
theorem word_odd (h : Nat → Nat) (n N i : Nat) : word h n N i % 2 = if ends h n N i then 1 else 0 := by
  unfold word; split <;> omega
theorem word_half (h : Nat → Nat) (n N i : Nat) : word h n N i / 2 * 2 + 1 = h i / 2 * 2 + 1 := by
  unfold word; split <;> omega
theorem word_lt (h : Nat → Nat) (n N i : Nat) (hh : h i < 4294967296) : word h n N i < 4294967296 := by
  unfold word; split <;> omega
end Go.Proofs.Ythopdoamajjojaa.HashSecond
