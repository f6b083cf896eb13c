import Derived.Test.YthopdoamajjojaaVersMkR
import Derived.Test.YthopdoamajjojaaQVersx5
namespace Go.Proofs.Ythopdoamajjojaa.VersMk
open Go Go.RowKit Go.Proofs.Ythopdoamajjojaa.QVers Go.Proofs.Ythopdoamajjojaa.VersSpec Go.Proofs.Ythopdoamajjojaa.VersS Go.Proofs.YthopdoamajjojaaW.PrintWords Go.Proofs.YthopdoamajjojaaW.PrintLast Go.Proofs.YthopdoamajjojaaW.PrintMore
set_option linter.unusedSimpArgs false
set_option linter.unusedVariables false
def namedB (s : ByteArray) : Bool := (bytesOf s).all (fun x => decide (x ≠ 0)) && (s.toList != ([] : List UInt8)) && decide ((s.size : Int) ≤ 255)
theorem namedB_ok {s : ByteArray} (h : namedB s = true) : okN s := by
  unfold namedB at h
  simp only [Bool.and_eq_true, List.all_eq_true, decide_eq_true_eq] at h
  exact ⟨by omega, h.1.1⟩
theorem named_ends (s : ByteArray) (hn : s.size ≤ 9223372036854775807) (d : Nat) : ∀ (k i : Nat), i ≤ s.size → s.size - i = d → d < k → (∀ x ∈ (bytesOf s).take i, x ≠ 0) → shacklelaw08_named.l0 k s (i : Int) = some (namedB s) := by
  induction d with
  | zero =>
    intro k i hi hd hk hz
    obtain ⟨k, rfl⟩ : ∃ j, k = j + 1 := ⟨k - 1, by omega⟩
    simp only [shacklelaw08_named.l0]
    rw [if_neg (by omega)]
    have hz : ∀ x ∈ bytesOf s, x ≠ 0 := by rw [List.take_of_length_le (by rw [bytesOf_length]; omega)] at hz; exact hz
    have ha : (bytesOf s).all (fun x => decide (x ≠ 0)) = true := List.all_eq_true.2 (fun x hx => decide_eq_true (hz x hx))
    unfold namedB
    rw [ha]
    by_cases he : s.toList = ([] : List UInt8)
    · rw [if_pos he, he]; rfl
    · rw [if_neg he, bne_iff_ne.2 he]; rfl
  | succ d ih =>
    intro k i hi hd hk hz
    obtain ⟨k, rfl⟩ : ∃ j, k = j + 1 := ⟨k - 1, by omega⟩
    have hil : i < s.size := by omega
    have hbl : i < (bytesOf s).length := by rw [bytesOf_length]; exact hil
    have hb : bt s (i : Int) = (bytesOf s)[i] := by rw [← rd_bytesOf, rd_nat, getD_at _ _ _ hbl]
    simp only [shacklelaw08_named.l0]
    rw [if_pos (by omega), if_pos (by omega), hb]
    by_cases hx : (bytesOf s)[i] = 0
    · rw [if_pos hx]
      have ha : (bytesOf s).all (fun x => decide (x ≠ 0)) = false := by
        rw [List.all_eq_false]
        exact ⟨_, List.getElem_mem hbl, by simp [hx]⟩
      unfold namedB
      rw [ha]; rfl
    · rw [if_neg hx, w64 ((i : Int) + 1) (by omega) (by omega), show (i : Int) + 1 = ((i + 1 : Nat) : Int) by omega]
      refine ih k (i + 1) (by omega) (by omega) (by omega) (fun x hm => ?_)
      rw [List.take_succ_eq_append_getElem hbl] at hm
      rcases List.mem_append.1 hm with h | h
      · exact hz x h
      · rw [List.mem_singleton.1 h]; exact hx
theorem named_c (s : ByteArray) (hn : s.size ≤ 9223372036854775807) (w : World) : Calls Try.prog 22 #[.string s] w fun e w' => e = .returned (.bool (namedB s)) ∧ Below w.heap.size w w' := by
  refine (shacklelaw08_named.calls (s.size + 1) s _ w (named_ends s hn s.size (s.size + 1) 0 (by omega) (by omega) (by omega) (by simp))).mono ?_
  rintro e w' ⟨rfl, ⟨hd⟩⟩
  exact ⟨rfl, below_drawn hd⟩
theorem lay_ends (n : Nat) : ∀ (m i : Nat) (l : List Int) (v : Int) (k : Nat), i + m = n → n ≤ 8 → l.length + m < 140737488355328 → 0 ≤ v → v ≤ 9223372036854775807 → m < k → shacklelaw08_lay.l0 k l v (n : Int) (i : Int) = some (l ++ leN m v)
  | 0, i, l, v, k, hn, h8, hl, h0, h1, hk => by
    obtain ⟨k, rfl⟩ : ∃ j, k = j + 1 := ⟨k - 1, by omega⟩
    simp only [shacklelaw08_lay.l0]
    rw [if_neg (by omega)]
    simp [leN]
  | m + 1, i, l, v, k, hn, h8, hl, h0, h1, hk => by
    obtain ⟨k, rfl⟩ : ∃ j, k = j + 1 := ⟨k - 1, by omega⟩
    simp only [shacklelaw08_lay.l0]
    rw [if_pos (by omega), if_pos (by omega), Int.tmod_eq_emod_of_nonneg h0, Int.tdiv_eq_ediv_of_nonneg h0, w64 (v / 256) (by omega) (by omega), w64 ((i : Int) + 1) (by omega) (by omega), show (i : Int) + 1 = ((i + 1 : Nat) : Int) by omega, lay_ends n m (i + 1) (l ++ [v % 256 % 256]) (v / 256) k (by omega) h8 (by simp; omega) (by omega) (by omega) (by omega)]
    simp [leN]
def Lays (w0 w : World) (v : Value) (l : List Int) : Prop := Kd.R (Kd.int .u8) 5 w w0.heap.size (fun _ => True) v l ∧ Below w0.heap.size w0 w
theorem lay_c {w0 w : World} {v : Value} {l : List Int} (h : Lays w0 w v l) (a : Int) (N : Int) (n : Nat) (hN : N = (n : Int)) (h8 : n ≤ 8) (ha : 0 ≤ a ∧ a ≤ 9223372036854775807) (hl : l.length ≤ 1000000) :
    Calls Try.prog 23 #[v, .int .i64 a, .int .i64 N] w fun e w' => ∃ v1, e = .returned v1 ∧ Lays w0 w' v1 (l ++ leN n a) ∧ Kept w w' (fun k => some k = v.ownBlock) := by
  subst hN
  refine (shacklelaw08_lay.calls (n + 1) (fun k => some k = v.ownBlock) v l a (n : Int) _ w0 w h.2 (Kd.R_tight rfl h.1) (lay_ends n n 0 l a (n + 1) (by omega) h8 (by omega) ha.1 ha.2 (by omega))).mono ?_
  rintro e w' ⟨v1, rfl, hR, hB, hK⟩
  exact ⟨v1, rfl, ⟨Kd.R_mono hR (fun _ _ => trivial), hB⟩, hK⟩
end Go.Proofs.Ythopdoamajjojaa.VersMk
