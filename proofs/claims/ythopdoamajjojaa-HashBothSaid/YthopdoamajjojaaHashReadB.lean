/- What a file of one part answers that is a table of words: its words. And the bytes of words as the statement makes them. -/
import Derived.Test.YthopdoamajjojaaQHashBx1
import Derived.Test.YthopdoamajjojaaQHashBx2
import Derived.Test.YthopdoamajjojaaQHashBx6
import Derived.Test.YthopdoamajjojaaHashTab
namespace Go.Proofs.Ythopdoamajjojaa.HashReadB
open Go.RowKit Go.Proofs.Ythopdoamajjojaa Go.Proofs.Ythopdoamajjojaa.QHashB Go.Proofs.YthopdoamajjojaaW.PrintWords Go.Proofs.Ythopdoamajjojaa.HashTab

theorem Ev_imp {α : Type} {g f : Nat → Option α} {r : α} (h : ∀ k, f k = some r → g (k + 1) = some r) (e : Ev f r) : Ev g r := by
  obtain ⟨K, hK⟩ := e
  refine ⟨K + 1, fun k hk => ?_⟩
  obtain ⟨k, rfl⟩ : ∃ j, k = j + 1 := ⟨k - 1, by omega⟩
  exact h k (hK k (by omega))
theorem Ev_two {α β : Type} {g f : Nat → Option α} {a : Nat → Option β} {x : β} {r : α} (ha : Ev a x) (e : Ev f r) (h : ∀ k, a k = some x → f k = some r → g (k + 1) = some r) : Ev g r := by
  obtain ⟨K, hK⟩ := e
  obtain ⟨J, hJ⟩ := ha
  refine ⟨K + J + 1, fun k hk => ?_⟩
  obtain ⟨k, rfl⟩ : ∃ j, k = j + 1 := ⟨k - 1, by omega⟩
  exact h k (hJ k (by omega)) (hK k (by omega))
theorem Ev_one {α β : Type} {g : Nat → Option α} {a : Nat → Option β} {x : β} {r : α} (ha : Ev a x) (h : ∀ k, a k = some x → g k = some r) : Ev g r := by
  obtain ⟨J, hJ⟩ := ha
  exact ⟨J, fun k hk => h k (hJ k hk)⟩
theorem Ev_both {α β γ : Type} {g : Nat → Option α} {a : Nat → Option β} {b : Nat → Option γ} {x : β} {y : γ} {r : α} (ha : Ev a x) (hb : Ev b y) (h : ∀ k, a k = some x → b k = some y → g k = some r) : Ev g r := by
  obtain ⟨J, hJ⟩ := ha
  obtain ⟨K, hK⟩ := hb
  exact ⟨J + K, fun k hk => h k (hJ k (by omega)) (hK k (by omega))⟩

/-! ### the hashes -/
def gstep (h b : Int) : Int := (((h * 33) % 4294967296) + (b % 4294967296)) % 4294967296
theorem gnu_ends (s : ByteArray) (hn : s.size ≤ 9223372036854775807) (d : Nat) : ∀ (k : Nat) (i h : Int), 0 ≤ i → i ≤ s.size → (s.size : Int) - i = d → d < k →
    hash_Gnu.l0 k s h (s.size : Int) i = some (((bytesOf s).drop i.toNat).foldl gstep h) := by
  induction d with
  | zero =>
    intro k i h h0 h1 hd hk
    obtain ⟨k, rfl⟩ : ∃ m, k = m + 1 := ⟨k - 1, by omega⟩
    have hl := bytesOf_length s
    simp only [hash_Gnu.l0]; rw [if_neg (by omega), List.drop_eq_nil_of_le (by omega)]; rfl
  | succ d ih =>
    intro k i h h0 h1 hd hk
    obtain ⟨k, rfl⟩ : ∃ m, k = m + 1 := ⟨k - 1, by omega⟩
    have hl := bytesOf_length s
    have hlt : i.toNat < (bytesOf s).length := by omega
    simp only [hash_Gnu.l0]
    rw [if_pos (by omega), if_pos h0, if_pos (by omega), wrap_in i s.size h0 (by omega) (by omega)]
    rw [ih k (i + 1) _ (by omega) (by omega) (by omega) (by omega)]
    rw [List.drop_eq_getElem_cons hlt, List.foldl_cons, show (i + 1).toNat = i.toNat + 1 by omega]
    have e : bt s i = (bytesOf s)[i.toNat] := by
      rw [← rd_bytesOf, rd, List.getD_eq_getElem?_getD, List.getElem?_eq_getElem hlt]; rfl
    rw [e]; rfl
def gnu (s : ByteArray) : Int := (bytesOf s).foldl gstep 5381
theorem gnu_ev (s : ByteArray) (hn : s.size ≤ 9223372036854775807) : Ev (fun k => hash_Gnu.f k s) (gnu s) :=
  ⟨s.size + 1, fun k hk => by show hash_Gnu.f k s = _; unfold hash_Gnu.f; rw [gnu_ends s hn s.size k 0 5381 (by omega) (by omega) (by omega) hk]; rfl⟩
theorem gnu_in (s : ByteArray) : 0 ≤ gnu s ∧ gnu s < 4294967296 := by
  unfold gnu
  have g : ∀ (l : List Int) (h : Int), 0 ≤ h → h < 4294967296 → 0 ≤ l.foldl gstep h ∧ l.foldl gstep h < 4294967296 := by
    intro l
    induction l with
    | nil => intro h h0 h1; exact ⟨h0, h1⟩
    | cons b l ih => intro h _ _; exact ih _ (by unfold gstep; omega) (by unfold gstep; omega)
  exact g _ 5381 (by omega) (by omega)
theorem bytes_same (s t : ByteArray) (h : s.toList = t.toList) : bytesOf s = bytesOf t := by
  rw [ByteArray.toList_eq, ByteArray.toList_eq] at h
  unfold bytesOf
  rw [h]
theorem up_true : shacklelaw07_up.f 10 = some true := by decide +kernel
theorem up_ev : Ev (fun k => shacklelaw07_up.f k) true := ⟨10, fun _ hk => at_rounds shacklelaw07_up.mono hk up_true⟩

/-! ### four -/
theorem four_step (k : Nat) (w x3 : List Int) (i v x6 : Int) (h0 : 0 ≤ v) (h1 : v < 4294967296) (hx : 0 ≤ x6) (h6 : x6 < 4) (hl : x3.length < 140737488355328) :
    shacklelaw07_four.l1 (k + 1) w x3 i v x6 = shacklelaw07_four.l1 k w (x3 ++ [v % 256]) i (v / 256) (x6 + 1) := by
  simp only [shacklelaw07_four.l1]
  rw [if_pos h6, if_pos hl, Int.tmod_eq_emod_of_nonneg h0, Int.tdiv_eq_ediv_of_nonneg h0, w64 (x6 + 1) (by omega) (by omega), show v % 256 % 256 = v % 256 by omega, show v / 256 % 4294967296 = v / 256 by omega]
theorem four_l1 (w x3 : List Int) (i v : Int) (h0 : 0 ≤ v) (h1 : v < 4294967296) (hl : x3.length + 4 ≤ 140737488355328) {r : List Int} (h : Ev (fun k => shacklelaw07_four.l0 k w (x3 ++ by4 v) (wrap64 (i + 1))) r) :
    Ev (fun k => shacklelaw07_four.l1 k w x3 i v 0) r := by
  refine Ev.step (fun k => four_step k w x3 i v 0 h0 h1 (by omega) (by omega) (by omega)) ?_
  refine Ev.step (fun k => four_step k w _ i _ (0 + 1) (by omega) (by omega) (by omega) (by omega) (by simp; omega)) ?_
  refine Ev.step (fun k => four_step k w _ i _ (0 + 1 + 1) (by omega) (by omega) (by omega) (by omega) (by simp; omega)) ?_
  refine Ev.step (fun k => four_step k w _ i _ (0 + 1 + 1 + 1) (by omega) (by omega) (by omega) (by omega) (by simp; omega)) ?_
  refine Ev.step (f := fun k => shacklelaw07_four.l0 k w (x3 ++ by4 v) (wrap64 (i + 1))) (fun k => ?_) h
  simp only [shacklelaw07_four.l1]
  rw [if_neg (by omega)]
  have e : x3 ++ [v % 256] ++ [v / 256 % 256] ++ [v / 256 / 256 % 256] ++ [v / 256 / 256 / 256 % 256] = x3 ++ by4 v := by
    have e1 : v / 256 / 256 = v / 65536 := by omega
    have e2 : v / 65536 / 256 = v / 16777216 := by omega
    rw [e1, e2]
    simp [by4]
  rw [e]
theorem four_ev (w : List Int) (hl : w.length < 4294967296) (hw : ∀ x ∈ w, 0 ≤ x ∧ x < 4294967296) (d : Nat) : ∀ i : Nat, i ≤ w.length → w.length - i = d →
    Ev (fun k => shacklelaw07_four.l0 k w (four (w.take i)) (i : Int)) (four w) := by
  induction d with
  | zero =>
    intro i hi hd
    refine Ev.step (f := fun _ => some (four w)) (fun k => ?_) (Ev.now _)
    simp only [shacklelaw07_four.l0]
    rw [if_neg (by omega), List.take_of_length_le (by omega)]
  | succ d ih =>
    intro i hi hd
    have hil : i < w.length := by omega
    have hv := hw w[i] (List.getElem_mem hil)
    refine Ev.step (f := fun k => shacklelaw07_four.l1 k w (four (w.take i)) (i : Int) w[i] 0) (fun k => ?_) ?_
    · simp only [shacklelaw07_four.l0]
      rw [if_pos (by omega), if_pos (by omega), rd_nat, getD_at _ _ _ hil]
    · refine four_l1 w _ _ _ hv.1 hv.2 (by rw [four_length]; simp; omega) ?_
      have e : four (w.take i) ++ by4 w[i] = four (w.take (i + 1)) := by
        rw [List.take_succ_eq_append_getElem hil, four_append]
        simp [four]
      rw [e, wrap_in (i : Int) w.length (by omega) (by omega) (by omega)]
      exact ih (i + 1) (by omega) (by omega)

/-! ### words of a file -/
def progs (n : Int) : List S29 := [⟨1, 0, 0, 256, n, 0, 0⟩]
theorem offset_ev (o n F : Int) (x y : Int) (ho : 0 ≤ o) (h0 : 0 ≤ n) (hn : o + n ≤ F) (hF : F < 18446744073709551000) : Ev (fun k => dyn_Offset.f k x y (progs F) (256 + o) n) (o, none) := by
  unfold dyn_Offset.f
  have e : rd_T29 (progs F) 0 = ⟨1, 0, 0, 256, F, 0, 0⟩ := rfl
  refine Ev.step (f := fun k => dyn_Offset.j1 k (256 + o) n (progs F) 1 0 false 1 0 0 256 F 0 0) (fun k => ?_) ?_
  · show dyn_Offset.l0 (k + 1) (256 + o) n (progs F) 1 0 = _
    simp only [dyn_Offset.l0]
    rw [if_pos (by omega), if_pos (by omega), if_pos (by simp [progs]), e]
    simp only []
    rw [if_pos trivial, decide_eq_false (by omega)]
  refine Ev.step (f := fun k => dyn_Offset.j2 k (256 + o) n o (progs F) 1 0 false 1 0 0 256 F 0 0) (fun k => ?_) ?_
  · simp only [dyn_Offset.j1]
    rw [if_neg (by simp), show (256 : Int) + o - 256 = o by omega, u64_in o (by omega) (by omega), if_neg (by omega), u64_in (F - o) (by omega) (by omega), decide_eq_false (by omega)]
  refine Ev.step (f := fun _ => some (o, none)) (fun k => ?_) (Ev.now _)
  simp only [dyn_Offset.j2]
  rw [if_neg (by simp), u64_in (18446744073709551615 - o) (by omega) (by omega), if_neg (by omega), Int.zero_add, u64_in o (by omega) (by omega)]
theorem cut_f (b : List Int) (o n : Nat) (hn : o + n ≤ b.length) (hb : b.length < 140737488355328) : dyn_cut.f b (o : Int) (n : Int) = some ((b.drop o).take n, none) := by
  unfold dyn_cut.f
  rw [u64_in (b.length : Int) (by omega) (by omega), if_neg (by omega), u64_in ((b.length : Int) - (o : Int)) (by omega) (by omega), if_neg (by omega), u64_in ((o : Int) + (n : Int)) (by omega) (by omega)]
  simp only [Option.bind_some]
  rw [if_pos (by omega), if_pos (by omega), if_pos (by omega), if_pos (by simp; omega), show (o : Int) + (n : Int) = ((o + n : Nat) : Int) by omega, Int.toNat_natCast, Int.toNat_natCast, List.nil_append, List.drop_take, show o + n - o = n by omega]
theorem slice_ev (b : List Int) (o n : Nat) (x y : Int) (hn : o + n ≤ b.length) (hb : b.length < 140737488355328) :
    Ev (fun k => dyn_Slice.f k b x y (progs (IntKind.u64.wrap (b.length : Int))) (256 + (o : Int)) (n : Int)) ((b.drop o).take n, none) := by
  refine Ev_one (offset_ev (o : Int) (n : Int) (IntKind.u64.wrap (b.length : Int)) x y (by omega) (by omega) (by rw [u64_in _ (by omega) (by omega)]; omega) (by rw [u64_in _ (by omega) (by omega)]; omega)) (fun k h => ?_)
  unfold dyn_Slice.f
  rw [h]
  simp only [Option.bind_some, Option.isNone_none, if_true]
  rw [cut_f b o n hn hb]
  rfl
theorem put_at (w : List Int) (i d : Nat) (hi : i < w.length) : (w.take i ++ List.replicate (d + 1) (0 : Int)).set i (w.getD i 0) = w.take (i + 1) ++ List.replicate d 0 := by
  have hl : (w.take i).length = i := by simp; omega
  rw [List.set_append_right _ _ (by omega), hl, Nat.sub_self, List.replicate_succ, List.set_cons_zero, getD_at _ _ _ hi, List.take_succ_eq_append_getElem hi, List.append_assoc]
  rfl
theorem words_l0 (w : List Int) (n : Nat) (hn : n ≤ w.length) (hw : ∀ x ∈ w, 0 ≤ x ∧ x < 4294967296) (hl : w.length < 4294967296) (d : Nat) : ∀ i : Nat, i ≤ n → n - i = d →
    Ev (fun k => hash_file_words.l0 k (four (w.take n)) (w.take i ++ List.replicate d 0) (n : Int) (i : Int)) (w.take n, none) := by
  induction d with
  | zero =>
    intro i hi hd
    obtain rfl : i = n := by omega
    refine Ev.step (f := fun _ => some (w.take i, none)) (fun k => ?_) (Ev.now _)
    simp only [hash_file_words.l0]
    rw [if_neg (by omega)]
    simp
  | succ d ih =>
    intro i hi hd
    have hlen : (w.take n).length = n := by simp; omega
    have h4 : (four (w.take n)).length = 4 * n := by rw [four_length, hlen]
    have hv := word_at (w.take n) i (by omega) (fun x hx => hw x (List.mem_of_mem_take hx))
    have hg : (w.take n).getD i 0 = w.getD i 0 := by
      rw [getD_at _ _ _ (by omega), getD_at _ _ _ (by omega)]; simp
    refine Ev.step (f := fun k => hash_file_words.l0 k (four (w.take n)) (w.take (i + 1) ++ List.replicate d 0) (n : Int) ((i + 1 : Nat) : Int)) (fun k => ?_) (ih (i + 1) (by omega) (by omega))
    have hx : (w.take i ++ List.replicate (d + 1) (0 : Int)).length = n := by simp; omega
    simp only [hash_file_words.l0]
    rw [w64 (4 * (i : Int)) (by omega) (by omega), w64 (4 * (i : Int) + 1) (by omega) (by omega), w64 (4 * (i : Int) + 2) (by omega) (by omega), w64 (4 * (i : Int) + 3) (by omega) (by omega), h4, hx,
      if_pos (by omega), if_pos (by omega), if_pos (by omega), if_pos (by omega), if_pos (by omega), if_pos (by omega), if_pos (by omega), if_pos (by omega), if_pos (by omega), if_pos (by omega), if_pos (by omega),
      hv, hg, Int.toNat_natCast, put_at w i d (by omega), w64 ((i : Int) + 1) (by omega) (by omega)]
    rfl
theorem four_drop (w : List Int) (n : Nat) : (four w).drop (4 * n) = four (w.drop n) := by
  induction w generalizing n with
  | nil => simp [four_nil]
  | cons v w ih =>
    cases n with
    | zero => simp
    | succ n =>
      have h4 : (by4 v).length = 4 := rfl
      rw [four_cons, List.drop_succ_cons, List.drop_append, h4, List.drop_eq_nil_of_le (by rw [h4]; omega), show 4 * (n + 1) - 4 = 4 * n by omega, ih]
      rfl
theorem words_at (w : List Int) (j n : Nat) (x y : Int) (hn : j + n ≤ w.length) (hw : ∀ x ∈ w, 0 ≤ x ∧ x < 4294967296) (hl : w.length < 4294967296) :
    Ev (fun k => hash_file_words.f k (four w) x y (progs (IntKind.u64.wrap ((four w).length : Int))) (256 + 4 * (j : Int)) (n : Int)) ((w.drop j).take n, none) := by
  have h4 := four_length w
  refine Ev_both (slice_ev (four w) (4 * j) (4 * n) x y (by omega) (by omega)) (words_l0 (w.drop j) n (by simp; omega) (fun x hx => hw x (List.mem_of_mem_drop hx)) (by simp; omega) n 0 (by omega) (by omega)) (fun k h1 h2 => ?_)
  unfold hash_file_words.f
  have h1 : dyn_Slice.f k (four w) x y (progs (IntKind.u64.wrap ((four w).length : Int))) (256 + 4 * (j : Int)) (4 * (n : Int)) = some (((four w).drop (4 * j)).take (4 * n), none) := by
    rw [show (4 * (j : Int)) = ((4 * j : Nat) : Int) by omega, show (4 * (n : Int)) = ((4 * n : Nat) : Int) by omega]; exact h1
  rw [u64_in (4 * (n : Int)) (by omega) (by omega), h1]
  simp only [Option.bind_some, Option.isNone_none, if_true]
  rw [if_pos (by omega), if_pos (by omega), four_drop, four_take]
  simp only [Int.toNat_natCast, List.length_replicate]
  simpa using h2
end Go.Proofs.Ythopdoamajjojaa.HashReadB
