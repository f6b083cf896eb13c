/- A name's hash with a byte more hangs on the hash alone, of both kinds; the first kind's is below 2^28; the second kind's is 33 times the elder one and the byte. No condition. -/
import Derived.Test.YtlohkhadbkahdaaQHashGrowsx1
import Derived.Test.YtlohkhadbkahdaaHashBits
namespace Go.Proofs.Ytlohkhadbkahdaa.Pure
open Go.RowKit Go.Proofs.Ytlohkhadbkahdaa.QHashGrows Go.Proofs.YtlohkhadbkahdaaW.PrintWords Go.Proofs.YtlohkhadbkahdaaW.PrintLast

namespace Grows
theorem wrap_in (i n : Int) (h0 : 0 ≤ i) (h : i < n) (hn : n ≤ 9223372036854775807) : wrap64 (i + 1) = i + 1 := by
  unfold wrap64
  omega

def gstep (h b : Int) : Int := (((h * 33) % 4294967296) + (b % 4294967296)) % 4294967296
def mix (v : Int) : Int := Go.bits .andNot .u32 (Go.bits .xor .u32 v ((Go.bits .and .u32 v 4026531840) / 16777216)) (Go.bits .and .u32 v 4026531840)
def sstep (h b : Int) : Int := mix ((((h * 16) % 4294967296) + (b % 4294967296)) % 4294967296)

theorem gnu_ends (s : ByteArray) (hn : s.size ≤ 9223372036854775807) (d : Nat) : ∀ (k : Nat) (i h : Int), 0 ≤ i → i ≤ s.size → (s.size : Int) - i = d → d < k →
    hash_Gnu.l0 k s h (s.size : Int) i = some (((bytesOf s).drop i.toNat).foldl gstep h) := by
  induction d with
  | zero =>
    intro k i h h0 h1 hd hk
    obtain ⟨k, rfl⟩ : ∃ m, k = m + 1 := ⟨k - 1, by omega⟩
    have hl := bytesOf_length s
    simp only [hash_Gnu.l0]; rw [if_neg (by omega), List.drop_eq_nil_of_le (by omega)]; rfl
  | succ d ih =>
    intro k i h h0 h1 hd hk
    obtain ⟨k, rfl⟩ : ∃ m, k = m + 1 := ⟨k - 1, by omega⟩
    have hl := bytesOf_length s
    have hlt : i.toNat < (bytesOf s).length := by omega
    simp only [hash_Gnu.l0]
    rw [if_pos (by omega), if_pos h0, if_pos (by omega), wrap_in i s.size h0 (by omega) (by omega)]
    rw [ih k (i + 1) _ (by omega) (by omega) (by omega) (by omega)]
    rw [List.drop_eq_getElem_cons hlt, List.foldl_cons, show (i + 1).toNat = i.toNat + 1 by omega]
    have e : bt s i = (bytesOf s)[i.toNat] := by
      rw [← rd_bytesOf, rd, List.getD_eq_getElem?_getD, List.getElem?_eq_getElem hlt]; rfl
    rw [e]; rfl

theorem sysv_ends (s : ByteArray) (hn : s.size ≤ 9223372036854775807) (d : Nat) : ∀ (k : Nat) (i h : Int), 0 ≤ i → i ≤ s.size → (s.size : Int) - i = d → d < k →
    hash_Sysv.l0 k s h (s.size : Int) i = some (((bytesOf s).drop i.toNat).foldl sstep h) := by
  induction d with
  | zero =>
    intro k i h h0 h1 hd hk
    obtain ⟨k, rfl⟩ : ∃ m, k = m + 1 := ⟨k - 1, by omega⟩
    have hl := bytesOf_length s
    simp only [hash_Sysv.l0]; rw [if_neg (by omega), List.drop_eq_nil_of_le (by omega)]; rfl
  | succ d ih =>
    intro k i h h0 h1 hd hk
    obtain ⟨k, rfl⟩ : ∃ m, k = m + 1 := ⟨k - 1, by omega⟩
    have hl := bytesOf_length s
    have hlt : i.toNat < (bytesOf s).length := by omega
    simp only [hash_Sysv.l0]
    rw [if_pos (by omega), if_pos h0, if_pos (by omega), wrap_in i s.size h0 (by omega) (by omega)]
    rw [ih k (i + 1) _ (by omega) (by omega) (by omega) (by omega)]
    rw [List.drop_eq_getElem_cons hlt, List.foldl_cons, show (i + 1).toNat = i.toNat + 1 by omega]
    have e : bt s i = (bytesOf s)[i.toNat] := by
      rw [← rd_bytesOf, rd, List.getD_eq_getElem?_getD, List.getElem?_eq_getElem hlt]; rfl
    rw [e]; rfl

def gnu (s : ByteArray) : Int := (bytesOf s).foldl gstep 5381
def sysv (s : ByteArray) : Int := (bytesOf s).foldl sstep 0
theorem gnu_f (s : ByteArray) (hn : s.size ≤ 9223372036854775807) (k : Nat) (hk : s.size < k) : hash_Gnu.f k s = some (gnu s) := by
  unfold hash_Gnu.f
  rw [gnu_ends s hn s.size k 0 5381 (by omega) (by omega) (by omega) hk]; rfl
theorem sysv_f (s : ByteArray) (hn : s.size ≤ 9223372036854775807) (k : Nat) (hk : s.size < k) : hash_Sysv.f k s = some (sysv s) := by
  unfold hash_Sysv.f
  rw [sysv_ends s hn s.size k 0 0 (by omega) (by omega) (by omega) hk]; rfl
theorem bytes_more (a x : ByteArray) : bytesOf (a ++ x) = bytesOf a ++ bytesOf x := by
  simp [bytesOf]
theorem gnu_more (a x : ByteArray) : gnu (a ++ x) = (bytesOf x).foldl gstep (gnu a) := by unfold gnu; rw [bytes_more, List.foldl_append]
theorem sysv_more (a x : ByteArray) : sysv (a ++ x) = (bytesOf x).foldl sstep (sysv a) := by unfold sysv; rw [bytes_more, List.foldl_append]
theorem sstep_in (h b : Int) : 0 ≤ sstep h b ∧ sstep h b < 268435456 := by
  unfold sstep mix
  obtain ⟨v, hv⟩ : ∃ v : Nat, (((h * 16) % 4294967296) + (b % 4294967296)) % 4294967296 = (v : Int) := ⟨((((h * 16) % 4294967296) + (b % 4294967296)) % 4294967296).toNat, by omega⟩
  have hlt : v < 4294967296 := by omega
  rw [hv]
  exact ⟨(HashBits.sysv_lt v hlt).2, (HashBits.sysv_lt v hlt).1⟩
theorem sysv_in (s : ByteArray) : 0 ≤ sysv s ∧ sysv s < 268435456 := by
  unfold sysv
  have g : ∀ (l : List Int) (h : Int), 0 ≤ h → h < 268435456 → 0 ≤ l.foldl sstep h ∧ l.foldl sstep h < 268435456 := by
    intro l
    induction l with
    | nil => intro h h0 h1; exact ⟨h0, h1⟩
    | cons b l ih => intro h _ _; exact ih _ (sstep_in h b).1 (sstep_in h b).2
  exact g _ 0 (by omega) (by omega)
theorem one_byte (c : Int) (h0 : 0 ≤ c) (h1 : c ≤ 255) : bytesOf (strOfNums [c]) = [c] := by
  simp [bytesOf, strOfNums]
  omega
theorem one_size (c : Int) : (strOfNums [c]).size = 1 := rfl

theorem up_true : shacklelaw07_up.f 10 = some true := by decide +kernel
end Grows

theorem HashGrows : shacklelaw07_HashGrows.Pure := by
  intro a b c ha hb hc
  have hx : 0 ≤ c ∧ c ≤ 255 := by simpa [Lit.wf, IntKind.min, IntKind.max, IntKind.signed, IntKind.bits] using hc
  have hs : ∀ (s : ByteArray), (s ++ strOfNums [c]).size = s.size + 1 := fun s => by rw [ByteArray.size_append, Grows.one_size]
  have h1 := Grows.one_size c
  refine ⟨a.size + b.size + 20, ?_⟩
  have hu : shacklelaw07_up.f (a.size + b.size + 20) = some true := at_rounds shacklelaw07_up.mono (by omega) Grows.up_true
  unfold shacklelaw07_HashGrows.f
  rw [hu]
  simp only [Option.bind_some]
  rw [Grows.gnu_f a (by omega) _ (by omega), Grows.gnu_f b (by omega) _ (by omega)]
  simp only [Option.bind_some]
  have key : ∀ x : Bool, x = true → shacklelaw07_HashGrows.j0 (a.size + b.size + 20) a b c true (strOfNums [c]) x = some true := by
    rintro _ rfl
    rw [show a.size + b.size + 20 = (a.size + b.size + 19) + 1 from rfl]
    simp only [shacklelaw07_HashGrows.j0]
    rw [Grows.sysv_f a (by omega) _ (by omega), Grows.sysv_f b (by omega) _ (by omega)]
    simp only [Option.bind_some, if_true]
    have p1 : a.size + (strOfNums [c]).size ≤ 9223372036854775807 := by omega
    have p2 : b.size + (strOfNums [c]).size ≤ 9223372036854775807 := by omega
    have e1 := Grows.gnu_f (a ++ strOfNums [c]) (by rw [hs]; omega) (a.size + b.size + 19) (by rw [hs]; omega)
    have e2 := Grows.gnu_f a (by omega) (a.size + b.size + 19) (by omega)
    have e3 := Grows.sysv_f (a ++ strOfNums [c]) (by rw [hs]; omega) (a.size + b.size + 19) (by rw [hs]; omega)
    have e4 := Grows.sysv_f (b ++ strOfNums [c]) (by rw [hs]; omega) (a.size + b.size + 19) (by rw [hs]; omega)
    simp only [if_pos p1, if_pos p2, e1, e2, e3, e4, Option.bind_some]
    have hl := (Grows.sysv_in a).2
    have hg : Grows.gnu (a ++ strOfNums [c]) = (((33 * Grows.gnu a) % 4294967296) + ((c) % 4294967296)) % 4294967296 := by
      rw [Grows.gnu_more, Grows.one_byte c hx.1 hx.2, Int.mul_comm 33]; rfl
    by_cases e : Grows.sysv a = Grows.sysv b
    · rw [if_pos e, Grows.sysv_more, Grows.sysv_more, e, if_pos rfl, if_pos (e ▸ hl), hg]; simp
    · rw [if_neg e, if_pos hl, hg]; simp
  by_cases e : Grows.gnu a = Grows.gnu b
  · have p1 : a.size + (strOfNums [c]).size ≤ 9223372036854775807 := by omega
    have p2 : b.size + (strOfNums [c]).size ≤ 9223372036854775807 := by omega
    have e1 := Grows.gnu_f (a ++ strOfNums [c]) (by rw [hs]; omega) (a.size + b.size + 20) (by rw [hs]; omega)
    have e2 := Grows.gnu_f (b ++ strOfNums [c]) (by rw [hs]; omega) (a.size + b.size + 20) (by rw [hs]; omega)
    rw [if_pos e]
    simp only [if_pos p1, if_pos p2, e1, e2, Option.bind_some]
    exact key _ (by rw [Grows.gnu_more, Grows.gnu_more, e]; simp)
  · rw [if_neg e]
    exact key _ rfl

end Go.Proofs.Ytlohkhadbkahdaa.Pure
