import Derived.Test.YthopdoamajjojaaVersFin
namespace Go.Proofs.Ythopdoamajjojaa.VersMk
open Go Go.RowKit Go.Proofs.Ythopdoamajjojaa.QVers Go.Proofs.Ythopdoamajjojaa.VersSpec Go.Proofs.Ythopdoamajjojaa.VersS Go.Proofs.YthopdoamajjojaaW.PrintWords
open TextFacts (zeroAt textS u64_in)
set_option linter.unusedSimpArgs false
set_option linter.unusedVariables false
def leN : Nat → Int → List Int
  | 0, _ => []
  | n + 1, v => (v % 256) :: leN n (v / 256)
theorem leN_len (n : Nat) (v : Int) : (leN n v).length = n := by
  induction n generalizing v with
  | zero => rfl
  | succ n ih => simp [leN, ih]
theorem leN_in (n : Nat) (v : Int) : ∀ x ∈ leN n v, 0 ≤ x ∧ x ≤ 255 := by
  induction n generalizing v with
  | zero => simp [leN]
  | succ n ih =>
    intro x hx
    simp only [leN, List.mem_cons] at hx
    rcases hx with rfl | hx
    · omega
    · exact ih _ x hx
theorem num_leN (n : Nat) (v : Int) (h0 : 0 ≤ v) (h1 : v < 256 ^ n) : num (leN n v) = v := by
  induction n generalizing v with
  | zero => simp at h1; simp [leN, num]; omega
  | succ n ih =>
    rw [Int.pow_succ] at h1
    simp only [leN, num]
    rw [ih (v / 256) (by omega) (by omega)]
    omega
theorem num2 (v : Int) (h0 : 0 ≤ v) (h1 : v < 65536) : num (leN 2 v) = v := num_leN 2 v h0 (by simpa using h1)
theorem num4 (v : Int) (h0 : 0 ≤ v) (h1 : v < 4294967296) : num (leN 4 v) = v := num_leN 4 v h0 (by simpa using h1)
def oneT (s : ByteArray) : List Int := bytesOf s ++ [0]
def stringsT (l : List ByteArray) : List Int := 0 :: l.flatMap oneT
def atO (l : List ByteArray) (i : Nat) : Int := ((stringsT (l.take i)).length : Int)
def okN (s : ByteArray) : Prop := s.size ≤ 255 ∧ ∀ x ∈ bytesOf s, x ≠ 0
theorem bytesOf_in (s : ByteArray) : ∀ x ∈ bytesOf s, 0 ≤ x ∧ x ≤ 255 := by
  intro x hx
  unfold bytesOf at hx
  obtain ⟨b, _, rfl⟩ := List.mem_map.1 hx
  have := b.toNat_lt
  omega
theorem stringsT_snoc (l : List ByteArray) (s : ByteArray) : stringsT (l ++ [s]) = stringsT l ++ bytesOf s ++ [0] := by
  simp [stringsT, oneT]
theorem stringsT_in (l : List ByteArray) : ∀ x ∈ stringsT l, 0 ≤ x ∧ x ≤ 255 := by
  intro x hx
  unfold stringsT at hx
  rcases List.mem_cons.1 hx with rfl | hx
  · omega
  · obtain ⟨s, _, hs⟩ := List.mem_flatMap.1 hx
    rcases List.mem_append.1 hs with h | h
    · exact bytesOf_in s x h
    · simp at h; omega
theorem stringsT_len (l : List ByteArray) (h : ∀ s ∈ l, okN s) : (stringsT l).length ≤ 1 + 256 * l.length := by
  induction l with
  | nil => simp [stringsT]
  | cons s l ih =>
    have h1 := (h s (by simp)).1
    have h2 := ih (fun t ht => h t (by simp [ht]))
    simp only [stringsT, List.flatMap_cons, List.length_cons, List.length_append, oneT, bytesOf_length, List.length_nil] at h2 ⊢
    omega
theorem stringsT_split (l : List ByteArray) (i : Nat) (hi : i < l.length) : ∃ post, stringsT l = stringsT (l.take i) ++ (bytesOf l[i] ++ 0 :: post) := by
  refine ⟨(l.drop (i + 1)).flatMap oneT, ?_⟩
  have e : l = l.take i ++ l[i] :: l.drop (i + 1) := by rw [← List.drop_eq_getElem_cons hi, List.take_append_drop]
  have e2 : stringsT l = stringsT (l.take i ++ l[i] :: l.drop (i + 1)) := congrArg stringsT e
  rw [e2]
  simp only [stringsT, oneT, List.flatMap_append, List.flatMap_cons, List.cons_append, List.append_assoc, List.nil_append]
theorem zeroAt_app (s : List Int) (h : ∀ x ∈ s, x ≠ 0) (t : List Int) : zeroAt (s ++ 0 :: t) = s.length := by
  induction s with
  | nil => exact TextFacts.zeroAt_zero t
  | cons x s ih => rw [List.cons_append, TextFacts.zeroAt_cons _ _ (h x (by simp)), ih (fun y hy => h y (by simp [hy]))]; rfl
theorem str_bytes (s : ByteArray) : strOfNums (bytesOf s) = s := by
  unfold strOfNums bytesOf
  rw [List.map_map]
  have e : ((fun n : Int => UInt8.ofNat n.toNat) ∘ fun b : UInt8 => (b.toNat : Int)) = id := by funext b; simp
  rw [e, List.map_id]
theorem text_at (l : List ByteArray) (h : ∀ s ∈ l, okN s) (i : Nat) (hi : i < l.length) : textS (stringsT l) (atO l i) = (l[i], 0) := by
  obtain ⟨post, e⟩ := stringsT_split l i hi
  have hs := h l[i] (List.getElem_mem hi)
  have hd : (stringsT l).drop (atO l i).toNat = bytesOf l[i] ++ 0 :: post := by
    rw [e]; unfold atO; rw [Int.toNat_natCast, List.drop_left]
  have hz := zeroAt_app (bytesOf l[i]) hs.2 post
  unfold textS
  rw [hd, hz]
  rw [if_neg (by rw [e]; unfold atO; simp; omega), if_neg (by simp), if_neg (by have := hs.1; rw [bytesOf_length]; omega), List.take_left, str_bytes]
theorem atO_in (l : List ByteArray) (h : ∀ s ∈ l, okN s) (hl : l.length ≤ 41) (i : Nat) : 0 ≤ atO l i ∧ atO l i ≤ 10497 := by
  unfold atO
  have := stringsT_len (l.take i) (fun s hs => h s (List.mem_of_mem_take hs))
  have h2 : (l.take i).length ≤ l.length := by simp; omega
  omega
def p0 (n : Int) : S29 := ⟨1, 0, 0, 4096, n, 0, 0⟩
theorem slc_at (X Y Z : List Int) (hl : (X ++ (Y ++ Z)).length ≤ 1000000) (a n : Int) (ha : a = 4096 + (X.length : Int)) (hn : n = (Y.length : Int)) :
    slc (X ++ (Y ++ Z)) [p0 ((X ++ (Y ++ Z)).length : Int)] a n = some Y := by
  subst ha; subst hn
  have hlen : (X ++ (Y ++ Z)).length = X.length + (Y.length + Z.length) := by simp
  have hf : fits (p0 ((X ++ (Y ++ Z)).length : Int)) (4096 + (X.length : Int)) (Y.length : Int) = true := by
    have k1 : (4096 : Int) ≤ 4096 + (X.length : Int) := by omega
    have k2 : 4096 + (X.length : Int) - 4096 ≤ ((X ++ (Y ++ Z)).length : Int) := by omega
    have k3 : (Y.length : Int) ≤ ((X ++ (Y ++ Z)).length : Int) - (4096 + (X.length : Int) - 4096) := by omega
    unfold fits p0
    simp only [k1, k2, k3, decide_true, Bool.and_self]
  unfold slc
  rw [show osp [p0 ((X ++ (Y ++ Z)).length : Int)] (4096 + (X.length : Int)) (Y.length : Int) = some (X.length : Int) by
    unfold osp
    rw [hf, if_pos rfl]
    unfold p0
    simp only
    rw [if_pos (by omega)]
    congr 1; omega]
  simp only
  rw [if_neg (by omega), Int.toNat_natCast, Int.toNat_natCast, List.drop_left, List.take_left]
theorem at_at (X Y Z : List Int) (hl : (X ++ (Y ++ Z)).length ≤ 1000000) (a y n : Int) (h0 : 0 ≤ a) (hy : 0 ≤ y) (ha : a + y = 4096 + (X.length : Int)) (hn : n = (Y.length : Int)) :
    atS (X ++ (Y ++ Z)) [p0 ((X ++ (Y ++ Z)).length : Int)] a y n = some (a + y, Y) := by
  unfold atS
  have hlen : (X ++ (Y ++ Z)).length = X.length + (Y.length + Z.length) := by simp
  rw [if_neg (by omega), slc_at X Y Z hl (a + y) n ha hn]
  rfl
theorem flat_at {f : Nat → List Int} {k : Nat} (hk : ∀ i, (f i).length = k) (m i : Nat) (hi : i < m) : ∃ pre post, (List.range m).flatMap f = pre ++ (f i ++ post) ∧ pre.length = k * i := by
  refine ⟨(List.range i).flatMap f, ((List.range (m - i - 1)).map (i + 1 + ·)).flatMap f, ?_, ?_⟩
  · have e : m = i + (1 + (m - i - 1)) := by omega
    conv => lhs; rw [e, List.range_add, List.range_add]
    simp [List.flatMap_append, List.map_map, Function.comp_def, Nat.add_assoc]
  · clear hi
    induction i with
    | zero => simp
    | succ i ih => rw [List.range_succ, List.flatMap_append, List.length_append, ih]; simp [hk, Nat.mul_add]
theorem flat_len {f : Nat → List Int} {k : Nat} (hk : ∀ i, (f i).length = k) (m : Nat) : ((List.range m).flatMap f).length = k * m := by
  induction m with
  | zero => simp
  | succ i ih => rw [List.range_succ, List.flatMap_append, List.length_append, ih]; simp [hk, Nat.mul_add]
end Go.Proofs.Ythopdoamajjojaa.VersMk
