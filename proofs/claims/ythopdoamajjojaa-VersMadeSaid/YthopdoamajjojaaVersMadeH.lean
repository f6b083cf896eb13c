import Derived.Test.YthopdoamajjojaaVersLay
import Derived.Test.YthopdoamajjojaaVersUp
namespace Go.Proofs.Ythopdoamajjojaa.VersMk
open Go Go.RowKit Go.Proofs.Ythopdoamajjojaa.QVers Go.Proofs.Ythopdoamajjojaa.VersSpec Go.Proofs.Ythopdoamajjojaa.VersS Go.Proofs.YthopdoamajjojaaW.PrintWords Go.Proofs.YthopdoamajjojaaW.PrintLast Go.Proofs.YthopdoamajjojaaW.PrintMore
set_option linter.unusedSimpArgs false
set_option linter.unusedVariables false
def zDf : Df := (0, false, ByteArray.empty, [])
def zNd : Nd := (ByteArray.empty, [])
def zAx : Ax := (0, false, ByteArray.empty)
theorem at_kDf {w : World} {A : Option Addr} {n : Nat} {xs : List Df} (h : Kd.C kDf w A n xs) (i : Int) (h0 : 0 ≤ i) (h1 : i < n) (p : Df) (hp : xs.getD i.toNat zDf = p) : ∃ ad A3 c3, A = some ad ∧ w.cell? (ad.add (i.toNat * 4)) = some (.int .i64 p.1) ∧ w.cell? ⟨(ad.add (i.toNat * 4)).block, (ad.add (i.toNat * 4)).off + 1, none⟩ = some (.bool p.2.1) ∧ w.cell? ⟨(ad.add (i.toNat * 4)).block, (ad.add (i.toNat * 4)).off + 2, none⟩ = some (.string p.2.2.1) ∧ w.cell? ⟨(ad.add (i.toNat * 4)).block, (ad.add (i.toNat * 4)).off + 3, none⟩ = some (.slice A3 p.2.2.2.length c3) ∧ p.2.2.2.length ≤ c3 ∧ Kd.string.C w A3 p.2.2.2.length p.2.2.2 := by
  obtain ⟨ad, c, e, _, hK, hc0⟩ := Kd.C_get h zDf i h0 h1
  have hc : ∀ j u, c[j]? = some u → w.cell? (ad.add (i.toNat * 4 + j)) = some u := hc0
  rw [hp] at hK
  obtain ⟨_, _, rfl, rfl, ⟨_, _, rfl, rfl, ⟨_, _, rfl, rfl, ⟨A3, c3, rfl, l3, g3⟩⟩⟩⟩ := hK
  exact ⟨ad, A3, c3, e, hc 0 _ rfl, by rw [← add_field _ _ 1 (by omega)]; exact hc 1 _ rfl, by rw [← add_field _ _ 2 (by omega)]; exact hc 2 _ rfl, by rw [← add_field _ _ 3 (by omega)]; exact hc 3 _ rfl, l3, g3⟩
theorem at_kNd {w : World} {A : Option Addr} {n : Nat} {xs : List Nd} (h : Kd.C kNd w A n xs) (i : Int) (h0 : 0 ≤ i) (h1 : i < n) (p : Nd) (hp : xs.getD i.toNat zNd = p) : ∃ ad A1 c1, A = some ad ∧ w.cell? (ad.add (i.toNat * 2)) = some (.string p.1) ∧ w.cell? ⟨(ad.add (i.toNat * 2)).block, (ad.add (i.toNat * 2)).off + 1, none⟩ = some (.slice A1 p.2.length c1) ∧ p.2.length ≤ c1 ∧ Kd.C kAx w A1 p.2.length p.2 := by
  obtain ⟨ad, c, e, _, hK, hc0⟩ := Kd.C_get h zNd i h0 h1
  have hc : ∀ j u, c[j]? = some u → w.cell? (ad.add (i.toNat * 2 + j)) = some u := hc0
  rw [hp] at hK
  obtain ⟨_, _, rfl, rfl, ⟨A1, c1, rfl, l1, g1⟩⟩ := hK
  exact ⟨ad, A1, c1, e, hc 0 _ rfl, by rw [← add_field _ _ 1 (by omega)]; exact hc 1 _ rfl, l1, g1⟩
theorem at_kAx {w : World} {A : Option Addr} {n : Nat} {xs : List Ax} (h : Kd.C kAx w A n xs) (i : Int) (h0 : 0 ≤ i) (h1 : i < n) (p : Ax) (hp : xs.getD i.toNat zAx = p) : ∃ ad, A = some ad ∧ w.cell? (ad.add (i.toNat * 3)) = some (.int .i64 p.1) ∧ w.cell? ⟨(ad.add (i.toNat * 3)).block, (ad.add (i.toNat * 3)).off + 1, none⟩ = some (.bool p.2.1) ∧ w.cell? ⟨(ad.add (i.toNat * 3)).block, (ad.add (i.toNat * 3)).off + 2, none⟩ = some (.string p.2.2) := by
  obtain ⟨ad, c, e, _, hK, hc0⟩ := Kd.C_get h zAx i h0 h1
  have hc : ∀ j u, c[j]? = some u → w.cell? (ad.add (i.toNat * 3 + j)) = some u := hc0
  rw [hp] at hK
  obtain ⟨_, _, rfl, rfl, ⟨_, _, rfl, rfl, rfl⟩⟩ := hK
  exact ⟨ad, e, hc 0 _ rfl, by rw [← add_field _ _ 1 (by omega)]; exact hc 1 _ rfl, by rw [← add_field _ _ 2 (by omega)]; exact hc 2 _ rfl⟩
def dynV (t z v a b c d : Int) : Array Value := #[.slice none 0 0, .int .u64 0, .int .u64 0, .int .u64 0, .int .u64 t, .int .u64 0, .int .u64 0, .int .u64 0, .int .u64 z, .int .u64 0, .int .u64 0, .int .u64 0, .int .u64 0, .int .u64 0, .bool false, .bool false, .bool false, .int .u64 0, .int .u64 0, .int .u64 0, .int .u64 0, .int .u64 0, .int .u64 0, .int .u64 0, .int .u64 0, .int .u64 0, .int .u64 v, .int .u64 0, .int .u64 a, .int .u64 b, .int .u64 c, .int .u64 d, .bool false, .bool false, .bool false, .bool false, .bool false]
structure BxA (wP : World) (g h : Nat) (hc : Array Value) (t z v a b c d : Int) (W : World) : Prop where
  bg : W.heap[g]? = some (.cells hc 32 (0, 0))
  bh : W.heap[h]? = some (.cells (dynV t z v a b c d) 35 (0, 0))
  lw : Below wP.heap.size wP W
  ne : g ≠ h
  lh : wP.heap.size ≤ h
theorem below_set {B : Nat} {w0 w : World} (hb : Below B w0 w) {a : Addr} (ha : B ≤ a.block) (u : Value) : Below B w0 (w.setCell a u) :=
  hb.trans ⟨rfl, rfl, rfl, by simp [World.setCell], fun k hk => Below.heap_setCell _ _ _ _ (by omega)⟩
section
variable {wP W : World} {g h : Nat} {hc : Array Value} {t z v a b c d : Int}
theorem BxA.s28 (x : BxA wP g h hc t z v a b c d W) (u : Int) : BxA wP g h hc t z v u b c d (W.setCell ⟨h, 28, none⟩ (.int .u64 u)) :=
  ⟨(Below.heap_setCell _ _ _ _ x.ne).trans x.bg, (heap_setCell_same W h 28 _ _ _ x.bh).trans rfl, below_set x.lw x.lh _, x.ne, x.lh⟩
theorem BxA.s29 (x : BxA wP g h hc t z v a b c d W) (u : Int) : BxA wP g h hc t z v a u c d (W.setCell ⟨h, 29, none⟩ (.int .u64 u)) :=
  ⟨(Below.heap_setCell _ _ _ _ x.ne).trans x.bg, (heap_setCell_same W h 29 _ _ _ x.bh).trans rfl, below_set x.lw x.lh _, x.ne, x.lh⟩
theorem BxA.s30 (x : BxA wP g h hc t z v a b c d W) (u : Int) : BxA wP g h hc t z v a b u d (W.setCell ⟨h, 30, none⟩ (.int .u64 u)) :=
  ⟨(Below.heap_setCell _ _ _ _ x.ne).trans x.bg, (heap_setCell_same W h 30 _ _ _ x.bh).trans rfl, below_set x.lw x.lh _, x.ne, x.lh⟩
theorem BxA.s31 (x : BxA wP g h hc t z v a b c d W) (u : Int) : BxA wP g h hc t z v a b c u (W.setCell ⟨h, 31, none⟩ (.int .u64 u)) :=
  ⟨(Below.heap_setCell _ _ _ _ x.ne).trans x.bg, (heap_setCell_same W h 31 _ _ _ x.bh).trans rfl, below_set x.lw x.lh _, x.ne, x.lh⟩
end
theorem dfs_at (D : List ByteArray) : ∀ (k i : Nat), i < D.length → (dfsOf k D).getD i zDf = (((k + i : Nat) : Int) + 1, false, gN D i, []) := by
  induction D with
  | nil => intro k i h; simp at h
  | cons s l ih =>
    intro k i h
    cases i with
    | zero => rfl
    | succ i =>
      have := ih (k + 1) i (by simpa using h)
      simp only [dfsOf, List.getD_cons_succ, gN] at this ⊢
      rw [this, show k + 1 + i = k + (i + 1) by omega]
theorem ax_at (f : Int) (N : List ByteArray) : ∀ (k i : Nat), i < N.length → (axOfN f k N).getD i zAx = (f + ((k + i : Nat) : Int), false, gN N i) := by
  induction N with
  | nil => intro k i h; simp at h
  | cons s l ih =>
    intro k i h
    cases i with
    | zero => rfl
    | succ i =>
      have := ih (k + 1) i (by simpa using h)
      simp only [axOfN, List.getD_cons_succ, gN] at this ⊢
      rw [this, show k + 1 + i = k + (i + 1) by omega]
theorem goodIn_mk (b : List Int) (n : Int) (sz v a bb c d t k : Int) (h8 : ∀ x ∈ b, 0 ≤ x ∧ x ≤ 255) (hn : 0 ≤ n ∧ n ≤ 18446744073709551615) (hl : ∀ x ∈ [t, sz, v, a, bb, c, d], 0 ≤ x ∧ x ≤ 18446744073709551615) (hk : -9223372036854775808 ≤ k ∧ k ≤ 9223372036854775807) :
    goodIn b [p0 n] sz v a bb c d t k = true := by
  unfold goodIn
  simp only [Bool.and_eq_true, List.all_eq_true, decide_eq_true_eq]
  refine ⟨⟨⟨⟨h8, fun p hp => ?_⟩, hl⟩, hk.1⟩, hk.2⟩
  rw [List.mem_singleton.1 hp]
  simp only [p0]
  omega
theorem blob_in (A D N : List ByteArray) (W : List Int) : ∀ x ∈ blob A D N W, 0 ≤ x ∧ x ≤ 255 := by
  have hle : ∀ (m : Nat) (u : Int) (x : Int), x ∈ leN m u → 0 ≤ x ∧ x ≤ 255 := fun m u x h => leN_in m u x h
  have hf : ∀ (m : Nat) (f : Nat → List Int), (∀ i x, x ∈ f i → 0 ≤ x ∧ x ≤ 255) → ∀ x ∈ (List.range m).flatMap f, 0 ≤ x ∧ x ≤ 255 := by
    intro m f h x hx
    obtain ⟨i, _, hi⟩ := List.mem_flatMap.1 hx
    exact h i x hi
  intro x hx
  unfold blob at hx
  rcases List.mem_append.1 hx with h | hx
  · refine hf _ _ (fun i y hy => ?_) x h
    simp only [defE, defH, defA, List.mem_append] at hy
    rcases hy with (((((((h | h) | h) | h) | h) | h) | h) | (h | h)) <;> exact hle _ _ _ h
  rcases List.mem_append.1 hx with h | hx
  · unfold headB at h
    split at h
    · simp only [needH, List.mem_append] at h
      rcases h with ((((h | h) | h) | h) | h) <;> exact hle _ _ _ h
    · simp at h
  rcases List.mem_append.1 hx with h | hx
  · refine hf _ _ (fun i y hy => ?_) x h
    simp only [verE, verH, List.mem_append] at hy
    rcases hy with ((((h | h) | h) | h) | h) <;> exact hle _ _ _ h
  rcases List.mem_append.1 hx with h | hx
  · obtain ⟨u, _, hu⟩ := List.mem_flatMap.1 h
    exact hle _ _ _ hu
  · exact stringsT_in A x hx
theorem read_made (wP : World) (A : Option Addr) (c : Nat) (F : ByteArray) (D N : List ByteArray) (W : List Int) (Ap : Option Addr) (cp : Nat) (hA : ∀ s ∈ allA F D N, okN s) (hD : D.length ≤ 20) (hN : N.length ≤ 20) (hW : W.length ≤ 60) (hw : ∀ x ∈ W, 0 ≤ x ∧ (x ≤ (D.length : Int) ∨ (firstI D.length ≤ x ∧ x < firstI D.length + (N.length : Int))))
    (words text : Nat) (h1 : words = (defsB (allA F D N) D).length + ((headB (allA F D N) N).length + (versB (allA F D N) N D.length).length)) (h2 : text = words + 2 * W.length)
    (hb : Kd.C (Kd.int .u8) wP A (blob (allA F D N) D N W).length (blob (allA F D N) D N W)) (hcb : (blob (allA F D N) D N W).length ≤ c) (hp : Kd.C k29 wP Ap [p0 ((blob (allA F D N) D N W).length : Int)].length [p0 ((blob (allA F D N) D N W).length : Int)]) (hcp : [p0 ((blob (allA F D N) D N W).length : Int)].length ≤ cp) :
    ∀ W1, Below wP.heap.size wP W1 → Calls Try.prog 18 #[.slice A (blob (allA F D N) D N W).length c, .agg #[.int .i64 0, .int .u64 0, .slice Ap [p0 ((blob (allA F D N) D N W).length : Int)].length cp], .agg (dynV (4096 + (text : Int)) ((stringsT (allA F D N)).length : Int) (4096 + (words : Int)) (if 0 < D.length then 4096 else 0) (if 0 < D.length then (D.length : Int) else 0) (if 0 < N.length then 4096 + ((defsB (allA F D N) D).length : Int) else 0) (if 0 < N.length then 1 else 0)), .int .i64 (W.length : Int)] W1 fun e w' =>
      ∃ v1 v2 v3, e = .returned (.tuple #[.agg #[.bool true, v1, v2, v3], .nilIface]) ∧ Kd.R (Kd.int .i64) 3 w' W1.heap.size (fun _ => True) v1 W ∧ Kd.R kDf 63 w' W1.heap.size (fun _ => True) v2 (dfsOf 0 D) ∧ Kd.R kNd 66 w' W1.heap.size (fun _ => True) v3 (if 0 < N.length then [(F, axOfN (firstI D.length) 0 N)] else []) ∧ Below W1.heap.size W1 w' := by
  intro W1 hW1
  have hl := blob_len F D N W hA hD hN hW
  have hTl := stringsT_len _ hA
  have hAl : (allA F D N).length = 1 + D.length + N.length := by simp [allA]; omega
  have hdl := defsB_len (allA F D N) D
  have hhl := headB_len (allA F D N) N
  have hvl := versB_len (allA F D N) N D.length
  have hwd : words ≤ 900 := by rw [h1, hdl, hhl, hvl]; split <;> omega
  have hr := made_read F D N W hA hD hN hW hw words text h1 h2
  have hg := goodIn_mk (blob (allA F D N) D N W) ((blob (allA F D N) D N W).length : Int) ((stringsT (allA F D N)).length : Int) (4096 + (words : Int)) (if 0 < D.length then 4096 else 0) (if 0 < D.length then (D.length : Int) else 0) (if 0 < N.length then 4096 + ((defsB (allA F D N) D).length : Int) else 0) (if 0 < N.length then 1 else 0) (4096 + (text : Int)) (W.length : Int) (blob_in _ _ _ _) (by omega) (by
    intro x hx
    simp only [List.mem_cons, List.not_mem_nil, or_false] at hx
    rcases hx with rfl | rfl | rfl | rfl | rfl | rfl | rfl
    · omega
    · omega
    · omega
    · split <;> omega
    · split <;> omega
    · split <;> omega
    · split <;> omega) (by omega)
  have ho : readO (blob (allA F D N) D N W) [p0 ((blob (allA F D N) D N W).length : Int)] (4096 + (text : Int)) ((stringsT (allA F D N)).length : Int) (4096 + (words : Int)) (if 0 < D.length then 4096 else 0) (if 0 < D.length then (D.length : Int) else 0) (if 0 < N.length then 4096 + ((defsB (allA F D N) D).length : Int) else 0) (if 0 < N.length then 1 else 0) (W.length : Int) = some ((true, W, dfsOf 0 D, if 0 < N.length then [(F, axOfN (firstI D.length) 0 N)] else []), none) := by
    unfold readO; rw [if_pos hg, hr]; rfl
  have hq := readO_calls W1 A c (blob (allA F D N) D N W) 0 0 Ap cp [p0 ((blob (allA F D N) D N W).length : Int)] none 0 [] 0 0 0 (4096 + (text : Int)) 0 0 0 ((stringsT (allA F D N)).length : Int) 0 0 0 0 0 false false false 0 0 0 0 0 0 0 0 0 (4096 + (words : Int)) 0 (if 0 < D.length then 4096 else 0) (if 0 < D.length then (D.length : Int) else 0) (if 0 < N.length then 4096 + ((defsB (allA F D N) D).length : Int) else 0) (if 0 < N.length then 1 else 0) false false false false false (W.length : Int) _ (Kd.C_below hb hW1) hcb (Kd.C_below hp hW1) hcp ⟨rfl, by simp, fun h => by simp at h⟩ (Nat.le_refl _) ho
  rw [errW_none] at hq
  exact hq
end Go.Proofs.Ythopdoamajjojaa.VersMk
