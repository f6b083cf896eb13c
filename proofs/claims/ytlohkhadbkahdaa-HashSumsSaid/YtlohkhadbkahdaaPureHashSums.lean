/- Both hashes of every name: the program's loop and the reference's loop come to one and the same 32-bit number. No condition. -/
import Derived.Test.YtlohkhadbkahdaaQHashSumsx1
import Derived.Test.YtlohkhadbkahdaaHashBits
namespace Go.Proofs.Ytlohkhadbkahdaa.Pure
open Go.RowKit Go.Proofs.Ytlohkhadbkahdaa.QHashSums Go.Proofs.YtlohkhadbkahdaaW.PrintWords Go.Proofs.YtlohkhadbkahdaaW.PrintLast

theorem wrap_in (i n : Int) (h0 : 0 ≤ i) (h : i < n) (hn : n ≤ 140737488351232) : wrap64 (i + 1) = i + 1 := by
  unfold wrap64
  omega

theorem gnu_same (s : ByteArray) : ∀ (k : Nat) (i h : Int), hash_Gnu.l0 k s h (s.size : Int) i = shackleref07_Gnu.l0 k s h i := by
  intro k
  induction k with
  | zero => intro i h; rfl
  | succ k ih =>
    intro i h
    simp only [hash_Gnu.l0, shackleref07_Gnu.l0]
    by_cases h1 : i < (s.size : Int)
    · rw [if_pos h1, if_pos h1]
      by_cases h2 : 0 ≤ i
      · rw [if_pos h2, if_pos h2, if_pos h1, ih, Int.mul_comm 33 h]
      · rw [if_neg h2, if_pos h1, if_neg h2]
    · rw [if_neg h1, if_neg h1]

theorem sysv_same (s : ByteArray) : ∀ (k : Nat) (i h : Int), hash_Sysv.l0 k s h (s.size : Int) i = shackleref07_Sysv.l0 k s h i := by
  intro k
  induction k with
  | zero => intro i h; rfl
  | succ k ih =>
    intro i h
    simp only [hash_Sysv.l0, shackleref07_Sysv.l0]
    by_cases h1 : i < (s.size : Int)
    · rw [if_pos h1, if_pos h1]
      by_cases h2 : 0 ≤ i
      · rw [if_pos h2, if_pos h2, if_pos h1, ih, Int.mul_comm 16 h]
        obtain ⟨v, hv⟩ : ∃ v : Nat, (((h * 16) % 4294967296) + ((bt s i) % 4294967296)) % 4294967296 = (v : Int) := ⟨((((h * 16) % 4294967296) + ((bt s i) % 4294967296)) % 4294967296).toNat, by omega⟩
        have hlt : v < 4294967296 := by omega
        rw [hv, HashBits.sysv_step v hlt, Int.emod_eq_of_lt (a := (v : Int) / 268435456 * 16) (by omega) (by omega)]
      · rw [if_neg h2, if_pos h1, if_neg h2]
    · rw [if_neg h1, if_neg h1]

theorem gnu_ends (s : ByteArray) (hn : s.size ≤ 140737488351232) (d : Nat) : ∀ (k : Nat) (i h : Int), 0 ≤ i → i ≤ s.size → (s.size : Int) - i = d → d < k → ∃ r, shackleref07_Gnu.l0 k s h i = some r := by
  induction d with
  | zero =>
    intro k i h h0 h1 hd hk
    obtain ⟨k, rfl⟩ : ∃ m, k = m + 1 := ⟨k - 1, by omega⟩
    exact ⟨h, by simp only [shackleref07_Gnu.l0]; rw [if_neg (by omega)]⟩
  | succ d ih =>
    intro k i h h0 h1 hd hk
    obtain ⟨k, rfl⟩ : ∃ m, k = m + 1 := ⟨k - 1, by omega⟩
    simp only [shackleref07_Gnu.l0]
    rw [if_pos (by omega), if_pos h0, wrap_in i s.size h0 (by omega) (by omega)]
    exact ih k (i + 1) _ (by omega) (by omega) (by omega) (by omega)

theorem sysv_ends (s : ByteArray) (hn : s.size ≤ 140737488351232) (d : Nat) : ∀ (k : Nat) (i h : Int), 0 ≤ i → i ≤ s.size → (s.size : Int) - i = d → d < k → ∃ r, shackleref07_Sysv.l0 k s h i = some r := by
  induction d with
  | zero =>
    intro k i h h0 h1 hd hk
    obtain ⟨k, rfl⟩ : ∃ m, k = m + 1 := ⟨k - 1, by omega⟩
    exact ⟨h, by simp only [shackleref07_Sysv.l0]; rw [if_neg (by omega)]⟩
  | succ d ih =>
    intro k i h h0 h1 hd hk
    obtain ⟨k, rfl⟩ : ∃ m, k = m + 1 := ⟨k - 1, by omega⟩
    simp only [shackleref07_Sysv.l0]
    rw [if_pos (by omega), if_pos h0, wrap_in i s.size h0 (by omega) (by omega)]
    exact ih k (i + 1) _ (by omega) (by omega) (by omega) (by omega)

theorem up_true : shacklelaw07_up.f 10 = some true := by decide +kernel

theorem HashSums : shacklelaw07_HashSums.Pure := by
  intro s hn
  obtain ⟨a, ha⟩ := sysv_ends s hn s.size (s.size + 10) 0 0 (by omega) (by omega) (by omega) (by omega)
  obtain ⟨b, hb⟩ := gnu_ends s hn s.size (s.size + 10) 0 5381 (by omega) (by omega) (by omega) (by omega)
  refine ⟨s.size + 10, ?_⟩
  have hu : shacklelaw07_up.f (s.size + 10) = some true := at_rounds shacklelaw07_up.mono (by omega) up_true
  unfold shacklelaw07_HashSums.f hash_Sysv.f hash_Gnu.f shackleref07_Sysv.f shackleref07_Gnu.f
  rw [hu, sysv_same, gnu_same, ha, hb]
  simp

end Go.Proofs.Ytlohkhadbkahdaa.Pure
