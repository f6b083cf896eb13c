/- What a table of the second kind, made of names, answers. -/
import Derived.Test.YthopdoamajjojaaHashMade
import Derived.Test.YthopdoamajjojaaQHashBx3
import Derived.Test.YthopdoamajjojaaQHashBx4
import Derived.Test.YthopdoamajjojaaQHashBx5
namespace Go.Proofs.Ythopdoamajjojaa.HashTwo
open Go Go.RowKit Go.Proofs.Ythopdoamajjojaa Go.Proofs.Ythopdoamajjojaa.QHashB Go.Proofs.YthopdoamajjojaaW.PrintWords Go.Proofs.Ythopdoamajjojaa.HashTab Go.Proofs.Ythopdoamajjojaa.HashReadB Go.Proofs.Ythopdoamajjojaa.HashOrd Go.Proofs.Ythopdoamajjojaa.HashSecond Go.Proofs.Ythopdoamajjojaa.HashMade

/-- the table's parts -/
structure Parts (n sh N : Nat) (bl fi ch w : List Int) : Prop where
  len : w.length = 12 + n + (N - 1)
  rng : ∀ x ∈ w, 0 ≤ x ∧ x < 4294967296
  head : w.take 4 = [(n : Int), 1, 4, (sh : Int)]
  blm : (w.take 12).drop 4 = bl.flatMap two
  fst : (w.take (12 + n)).drop 12 = fi
  chn : ∀ i, 1 ≤ i → i < N → w.getD (12 + n + i - 1) 0 = ch.getD i 0
theorem two_len (bl : List Int) : (bl.flatMap two).length = 2 * bl.length := by
  induction bl with
  | nil => rfl
  | cons b bl ih => rw [List.flatMap_cons, List.length_append, ih, List.length_cons]; simp [two]; omega
theorem two_lo (bl : List Int) : ∀ q, q < bl.length → (bl.flatMap two).getD (2 * q) 0 = bl.getD q 0 % 4294967296 := by
  induction bl with
  | nil => intro q h; simp at h
  | cons b bl ih =>
    intro q h
    cases q with
    | zero => rfl
    | succ q =>
      have := ih q (by simpa using h)
      simp only [List.flatMap_cons, two, List.cons_append, List.nil_append, show 2 * (q + 1) = (2 * q) + 1 + 1 by omega, List.getD_cons_succ] at this ⊢
      exact this
theorem two_hi (bl : List Int) : ∀ q, q < bl.length → (bl.flatMap two).getD (2 * q + 1) 0 = bl.getD q 0 / 4294967296 := by
  induction bl with
  | nil => intro q h; simp at h
  | cons b bl ih =>
    intro q h
    cases q with
    | zero => rfl
    | succ q =>
      have := ih q (by simpa using h)
      simp only [List.flatMap_cons, two, List.cons_append, List.nil_append, show 2 * (q + 1) + 1 = (2 * q + 1) + 1 + 1 by omega, List.getD_cons_succ] at this ⊢
      exact this
theorem parts {h : Nat → Nat} {n N sh : Nat} {bl fi ch : List Int} (S : St h n N sh N bl fi ch) (hn : n < 4294967296) (hsh : sh < 32) : Parts n sh N bl fi ch (W n sh bl fi ch) := by
  have hl2 : (bl.flatMap two).length = 8 := by rw [two_len, S.lbl]
  have l4 : ([(n : Int), 1, 4, (sh : Int)]).length = 4 := rfl
  have l12 : ([(n : Int), 1, 4, (sh : Int)] ++ bl.flatMap two).length = 12 := by rw [List.length_append, hl2]; rfl
  have lf : ([(n : Int), 1, 4, (sh : Int)] ++ bl.flatMap two ++ fi).length = 12 + n := by rw [List.length_append, l12, S.lfi]
  have lc := S.lch
  refine ⟨?_, W_rng S hn hsh, ?_, ?_, ?_, ?_⟩
  · unfold W; rw [List.length_append, lf, List.length_drop, lc]
  · unfold W; simp
  · unfold W
    rw [List.append_assoc, List.take_append, l12, Nat.sub_self, List.take_zero, List.append_nil, List.take_of_length_le (by omega), List.drop_append, l4, Nat.sub_self, List.drop_of_length_le (by rw [l4]; exact Nat.le_refl _)]
    rfl
  · unfold W
    rw [List.take_append, lf, Nat.sub_self, List.take_zero, List.append_nil, List.take_of_length_le (by omega), List.drop_append, l12, Nat.sub_self, List.drop_of_length_le (by omega)]
    rfl
  · intro i h1 hi
    unfold W
    rw [List.getD_eq_getElem?_getD, List.getElem?_append_right (by omega), lf, show 12 + n + i - 1 - (12 + n) = i - 1 by omega, List.getElem?_drop, show 1 + (i - 1) = i by omega, ← List.getD_eq_getElem?_getD]

/-- where the chains begin -/
def CH (n : Nat) : Int := 256 + 4 * ((12 + n : Nat) : Int)
theorem ones : bits_OnesCount32.f 4 = some 1 := by decide +kernel
theorem firsts_ev {R : List Int × Int × Int × (List (S29)) × List Int × List Int × Int × Int × Int × Option Int} (F : List Int) (hF : ∀ x ∈ F, 0 ≤ x) (hl : F.length < 1000000) (b : List Int) (x y : Int) (pr : List S29) (blw : List Int) (sh ca : Int) (hR : R = (b, x, y, pr, blw, F, 1, sh, ca, none)) (d : Nat) : ∀ i : Nat, i ≤ F.length → F.length - i = d →
    Ev (fun k => hash_file_gnu.l0 k F (F.length : Int) (i : Int) b x y pr blw F 1 sh ca) R := by
  subst hR
  induction d with
  | zero =>
    intro i hi hd
    refine Ev_after (Ev.now (0 : Nat)) (fun k _ => ?_)
    simp only [hash_file_gnu.l0]
    rw [if_neg (by omega)]
  | succ d ih =>
    intro i hi hd
    have hx := hF (F.getD i 0) (by rw [getD_at _ _ _ (by omega)]; exact List.getElem_mem _)
    refine Ev_after (ih (i + 1) (by omega) (by omega)) (fun k h => ?_)
    simp only [hash_file_gnu.l0]
    rw [if_pos (by omega), if_pos (by omega), if_pos (by omega), rd_nat, w64 ((i : Int) + 1) (by omega) (by omega), show (i : Int) + 1 = ((i + 1 : Nat) : Int) by omega]
    by_cases e : F.getD i 0 = 0
    · rw [if_pos e]; exact h
    · rw [if_neg e, if_neg (by omega)]; exact h
theorem gnu_tab {n sh N : Nat} {bl fi ch w : List Int} (P : Parts n sh N bl fi ch w) (hfi : ∀ x ∈ fi, 0 ≤ x) (lfi : fi.length = n) (hn : 0 < n) (hn' : n ≤ 4096) (hsh : sh < 32) (hN : N < 1000000) :
    Ev (fun k => hash_file_gnu.f k (four w) 0 0 (progs (IntKind.u64.wrap ((four w).length : Int))) 256)
      (four w, 0, 0, progs (IntKind.u64.wrap ((four w).length : Int)), bl.flatMap two, fi, 1, (sh : Int), CH n, none) := by
  have hlen := P.len
  have l4 : (w.take 4).length = 4 := by rw [P.head]; rfl
  have r0 : rd (w.take 4) 0 = (n : Int) := by rw [P.head]; rfl
  have r1 : rd (w.take 4) 1 = 1 := by rw [P.head]; rfl
  have r2 : rd (w.take 4) 2 = 4 := by rw [P.head]; rfl
  have r3 : rd (w.take 4) 3 = (sh : Int) := by rw [P.head]; rfl
  have hw1 : Ev (fun k => hash_file_words.f k (four w) 0 0 (progs (IntKind.u64.wrap ((four w).length : Int))) 256 4) (w.take 4, none) := words_at w 0 4 0 0 (by omega) P.rng (by omega)
  have hw2 : Ev (fun k => hash_file_words.f k (four w) 0 0 (progs (IntKind.u64.wrap ((four w).length : Int))) 256 ((12 + n : Nat) : Int)) (w.take (12 + n), none) := words_at w 0 (12 + n) 0 0 (by omega) P.rng (by omega)
  have hl0 := firsts_ev fi hfi (by omega) (four w) 0 0 (progs (IntKind.u64.wrap ((four w).length : Int))) (bl.flatMap two) (sh : Int) (CH n) rfl fi.length 0 (by omega) (by omega)
  have hj : Ev (fun k => hash_file_gnu.j0 k 256 (w.take 4) false (four w) 0 0 (progs (IntKind.u64.wrap ((four w).length : Int)))) (four w, 0, 0, progs (IntKind.u64.wrap ((four w).length : Int)), bl.flatMap two, fi, 1, (sh : Int), CH n, none) := by
    refine Ev_after (Ev_both (g := fun k => (hash_file_words.f k (four w) 0 0 (progs (IntKind.u64.wrap ((four w).length : Int))) 256 ((12 + n : Nat) : Int)).bind fun a => (hash_file_gnu.l0 k fi (fi.length : Int) ((0 : Nat) : Int) (four w) 0 0 (progs (IntKind.u64.wrap ((four w).length : Int))) (bl.flatMap two) fi 1 (sh : Int) (CH n)).bind fun b => some (a, b)) hw2 hl0 (fun k h1 h2 => by rw [h1, Option.bind_some, h2]; rfl)) (fun k h => ?_)
    obtain ⟨a, h3, h⟩ := Option.bind_eq_some_iff.1 h
    obtain ⟨b, h4, h⟩ := Option.bind_eq_some_iff.1 h
    cases h
    have e12 : IntKind.u64.wrap (4 + IntKind.u64.wrap (2 * IntKind.u64.wrap 4)) = ((12 : Nat) : Int) := by decide
    simp only [hash_file_gnu.j0]
    rw [if_neg (by simp), l4, if_pos (by omega), r0, if_neg (by omega), if_pos (by omega), r1, if_neg (by omega), if_pos (by omega), r2, if_neg (by omega), e12, u64_in (n : Int) (by omega) (by omega), u64_in (((12 : Nat) : Int) + (n : Int)) (by omega) (by omega),
      show ((12 : Nat) : Int) + (n : Int) = ((12 + n : Nat) : Int) by omega, h3]
    simp only [Option.bind_some, Option.isNone_none, if_true]
    rw [if_pos (by omega), if_pos (by simp; omega), if_pos (by omega), if_pos (by omega), r3, Int.toNat_natCast, List.take_take, Nat.min_eq_left (by omega), P.blm, P.fst, u64_in (4 * ((12 + n : Nat) : Int)) (by omega) (by omega), u64_in (256 + 4 * ((12 + n : Nat) : Int)) (by omega) (by omega)]
    exact h4
  refine Ev_both hw1 hj (fun k h1 h2 => ?_)
  unfold hash_file_gnu.f
  rw [h1]
  simp only [Option.bind_some, Option.isNone_none, if_true]
  rw [l4, if_pos (by omega), r0, if_neg (by omega), if_pos (by omega), r2, if_neg (by omega), ones]
  simp only [Option.bind_some]
  rw [if_pos trivial, if_pos (by omega), r3, decide_eq_false (by omega)]
  exact h2
theorem chain_ev {h : Nat → Nat} {n sh N : Nat} {bl fi ch w : List Int} (S : St h n N sh N bl fi ch) (P : Parts n sh N bl fi ch w) (blw F : List Int) (s : Int) (i : Nat) (h1 : 1 ≤ i) (hi : i < N) (hn' : n ≤ 4096) (hN : N < 1000000) :
    Ev (fun k => hash_second_chain.f k (four w) 0 0 (progs (IntKind.u64.wrap ((four w).length : Int))) blw F 1 s (CH n) (i : Int)) (((word h n N i : Nat) : Int), none) := by
  have hlen := P.len
  have hw := words_at w (12 + n + i - 1) 1 0 0 (by omega) P.rng (by omega)
  refine Ev_one hw (fun k h2 => ?_)
  have he : ((w.drop (12 + n + i - 1)).take 1) = [((word h n N i : Nat) : Int)] := by
    have hlt : 12 + n + i - 1 < w.length := by omega
    rw [List.drop_eq_getElem_cons hlt, List.take_succ_cons, List.take_zero, ← getD_at w 0 _ hlt, P.chn i h1 hi, S.chn i h1 hi]
  unfold hash_second_chain.f
  rw [show ((i : Int) - 1) % 4294967296 = ((i - 1 : Nat) : Int) by omega, u64_in (CH n + 4 * ((i - 1 : Nat) : Int)) (by unfold CH; omega) (by unfold CH; omega), show CH n + 4 * ((i - 1 : Nat) : Int) = 256 + 4 * ((12 + n + i - 1 : Nat) : Int) by unfold CH; omega]
  have h2 : hash_file_words.f k (four w) 0 0 (progs (IntKind.u64.wrap ((four w).length : Int))) (256 + 4 * ((12 + n + i - 1 : Nat) : Int)) 1 = some ((w.drop (12 + n + i - 1)).take 1, none) := h2
  rw [h2, he]
  rfl

/-! ### how many there are -/
theorem count_l1 {h : Nat → Nat} {n sh N : Nat} {bl fi ch w : List Int} (S : St h n N sh N bl fi ch) (P : Parts n sh N bl fi ch w) (hh : ∀ i, h i < 4294967296) (blw F : List Int) (s : Int) (hn' : n ≤ 4096) (hN : N ≤ 4096) (B : Nat) (d : Nat) : ∀ i, 1 ≤ i → i < N → N - i = d + 1 → (∀ j, i ≤ j → j < N → h j % n = B) →
    Ev (fun k => hash_second_count.l1 k (i : Int) (four w) 0 0 (progs (IntKind.u64.wrap ((four w).length : Int))) blw F 1 s (CH n)) ((N : Int), none) := by
  induction d with
  | zero =>
    intro i h1 hi hd hB
    refine Ev_after (chain_ev S P blw F s i h1 hi hn' (by omega)) (fun k h2 => ?_)
    simp only [hash_second_count.l1]
    rw [if_neg (by omega), h2]
    simp only [Option.bind_some, Option.isNone_none, if_true]
    rw [and_one32 _ (word_lt h n N i (hh i)), word_odd, if_pos (show ends h n N i from .inl (by omega)), if_pos (by rfl), w64 (i : Int) (by omega) (by omega), w64 ((i : Int) + 1) (by omega) (by omega), show (i : Int) + 1 = (N : Int) by omega]
  | succ d ih =>
    intro i h1 hi hd hB
    have hnot : ¬ ends h n N i := by
      rintro (z | z)
      · omega
      · exact z (by rw [hB (i + 1) (by omega) (by omega), hB i (by omega) (by omega)])
    refine Ev_two (chain_ev S P blw F s i h1 hi hn' (by omega)) (ih (i + 1) (by omega) (by omega) (by omega) (fun j hj hl => hB j (by omega) hl)) (fun k h2 h3 => ?_)
    simp only [hash_second_count.l1]
    rw [if_neg (by omega), h2]
    simp only [Option.bind_some, Option.isNone_none, if_true]
    rw [and_one32 _ (word_lt h n N i (hh i)), word_odd, if_neg hnot, if_neg (by omega), show ((i : Int) + 1) % 4294967296 = ((i + 1 : Nat) : Int) by omega]
    exact h3
theorem count_ev {h : Nat → Nat} {n sh N : Nat} {bl fi ch w : List Int} (S : St h n N sh N bl fi ch) (P : Parts n sh N bl fi ch w) (hh : ∀ i, h i < 4294967296) (hs : Srt h n N) (blw : List Int) (s : Int) (hn : 0 < n) (hn' : n ≤ 4096) (h0 : 0 < N) (hN : N ≤ 4096) :
    Ev (fun k => hash_second_count.f k (four w) 0 0 (progs (IntKind.u64.wrap ((four w).length : Int))) blw fi 1 s (CH n)) ((N : Int), none) := by
  obtain ⟨B, T, hB, hT, hle, hcase⟩ := top S hs hn h0
  have hend : Ev (fun k => hash_second_count.l0 k (T : Int) fi (fi.length : Int) (fi.length : Int) (four w) 0 0 (progs (IntKind.u64.wrap ((four w).length : Int))) blw fi 1 s (CH n)) ((N : Int), none) := by
    rcases hcase with ⟨rfl, rfl⟩ | ⟨t1, t2, t3⟩
    · refine Ev_after (Ev.now (0 : Nat)) (fun k _ => ?_)
      simp only [hash_second_count.l0]
      rw [if_neg (by omega), if_pos (by rfl), w64 1 (by omega) (by omega)]
      rfl
    · refine Ev_after (count_l1 S P hh blw fi s hn' hN B (N - T - 1) T t1 t2 (by omega) t3) (fun k h2 => ?_)
      simp only [hash_second_count.l0]
      rw [if_neg (by omega), if_neg (by omega)]
      exact h2
  have hloop : ∀ (d i : Nat) (x : Int), i ≤ n → n - i = d → 0 ≤ x → x ≤ (T : Int) → (B < i → x = (T : Int)) → Ev (fun k => hash_second_count.l0 k x fi (fi.length : Int) (i : Int) (four w) 0 0 (progs (IntKind.u64.wrap ((four w).length : Int))) blw fi 1 s (CH n)) ((N : Int), none) := by
    intro d
    induction d with
    | zero =>
      intro i x hi hd hx0 hx hxT
      obtain rfl : i = n := by omega
      rw [hxT hB, show (i : Int) = (fi.length : Int) by rw [S.lfi]]
      exact hend
    | succ d ih =>
      intro i x hi hd hx0 hx hxT
      have hfi := hle i (by omega)
      have hf0 := (S.rfi (fi.getD i 0) (by rw [getD_at _ _ _ (by rw [S.lfi]; omega)]; exact List.getElem_mem _)).1
      have hlf := S.lfi
      refine Ev_after (ih (i + 1) (mx x (fi.getD i 0)) (by omega) (by omega) (by unfold mx; split <;> omega) (by unfold mx; split <;> omega) (fun hlt => ?_)) (fun k h2 => ?_)
      · by_cases e : i = B
        · subst e; unfold mx; split <;> omega
        · have := hxT (by omega)
          unfold mx; split <;> omega
      · simp only [hash_second_count.l0]
        rw [if_pos (by omega), if_pos (by omega), if_pos (by omega), rd_nat, w64 ((i : Int) + 1) (by omega) (by omega), show (i : Int) + 1 = ((i + 1 : Nat) : Int) by omega]
        exact h2
  exact hloop n 0 0 (by omega) (by omega) (by omega) (by omega) (fun z => by omega)

/-! ### a name's places -/
def isN (all : List ByteArray) (name : ByteArray) (i : Nat) : Bool := decide ((all.getD i ByteArray.empty).toList = name.toList)
def told (l : List Nat) : List Int := l.map (fun i : Nat => (i : Int))
theorem told_length (l : List Nat) : (told l).length = l.length := by simp [told]
def wants (all : List ByteArray) (name : ByteArray) (i : Nat) : List Int := told ((List.range' 1 (i - 1)).filter (isN all name))
theorem wants_len (all : List ByteArray) (name : ByteArray) (i : Nat) : (wants all name i).length ≤ i - 1 := by
  unfold wants
  rw [told_length]
  have := List.length_filter_le (isN all name) (List.range' 1 (i - 1))
  rw [List.length_range'] at this
  exact this
theorem wants_succ (all : List ByteArray) (name : ByteArray) (i : Nat) (h : 1 ≤ i) : wants all name (i + 1) = if isN all name i = true then wants all name i ++ [(i : Int)] else wants all name i := by
  obtain ⟨i, rfl⟩ : ∃ j, i = j + 1 := ⟨i - 1, by omega⟩
  unfold wants
  rw [show i + 1 + 1 - 1 = i + 1 by omega, show i + 1 - 1 = i by omega, List.range'_concat, List.filter_append]
  cases e : isN all name (i + 1) with
  | false => simp [told, Nat.add_comm 1 i, e]
  | true => simp [told, Nat.add_comm 1 i, e]
theorem wants_skip (all : List ByteArray) (name : ByteArray) (i : Nat) (h : 1 ≤ i) : ∀ d, (∀ p, i ≤ p → p < i + d → isN all name p = false) → wants all name (i + d) = wants all name i
  | 0, _ => rfl
  | d + 1, hp => by
    rw [show i + (d + 1) = (i + d) + 1 by omega, wants_succ _ _ _ (by omega), hp (i + d) (by omega) (by omega), if_neg (by simp)]
    exact wants_skip all name i h d (fun p h1 h2 => hp p h1 (by omega))
theorem wants_none (all : List ByteArray) (name : ByteArray) (N : Nat) (h0 : 1 ≤ N) (hp : ∀ p, 1 ≤ p → p < N → isN all name p = false) : wants all name N = [] := by
  have := wants_skip all name 1 (by omega) (N - 1) (fun p h1 h2 => hp p h1 (by omega))
  rw [show 1 + (N - 1) = N by omega] at this
  rw [this]
  rfl
theorem isN_hash (all : List ByteArray) (name : ByteArray) (i : Nat) (h : isN all name i = true) : hs all i = gh name := by
  have h : (all.getD i ByteArray.empty).toList = name.toList := of_decide_eq_true h
  unfold hs gh gnu
  rw [bytes_same _ _ h]

theorem look_go {n sh : Nat} {bl fi ch w : List Int} (L : List S39) (all : List ByteArray) (name : ByteArray) (S : St (hs all) n all.length sh all.length bl fi ch) (P : Parts n sh all.length bl fi ch w) (blw F : List Int) (s : Int) (hn' : n ≤ 4096) (hN : all.length ≤ 4096)
    (hL : L.length = all.length) (hf : ∀ i, i < all.length → (rd_T39 L (i : Int)).f0 = all.getD i ByteArray.empty) (i : Nat) (h1 : 1 ≤ i) (hi : i < all.length)
    (hnext : (ends (hs all) n all.length i ∧ wants all name all.length = wants all name (i + 1)) ∨ (¬ ends (hs all) n all.length i ∧ Ev (fun k => hash_second_look.l0 k L name ((gh name : Nat) : Int) (wants all name (i + 1)) ((i + 1 : Nat) : Int) (four w) 0 0 (progs (IntKind.u64.wrap ((four w).length : Int))) blw F 1 s (CH n)) (wants all name all.length, none))) :
    Ev (fun k => hash_second_look.l0 k L name ((gh name : Nat) : Int) (wants all name i) (i : Int) (four w) 0 0 (progs (IntKind.u64.wrap ((four w).length : Int))) blw F 1 s (CH n)) (wants all name all.length, none) := by
  have hlt : hs all i < 4294967296 := gh_lt _
  have hwl := word_lt (hs all) n all.length i hlt
  have hlen := wants_len all name i
  have hj : Ev (fun k => hash_second_look.j2 k L name ((gh name : Nat) : Int) (wants all name i) (i : Int) ((word (hs all) n all.length i : Nat) : Int) (isN all name i) (four w) 0 0 (progs (IntKind.u64.wrap ((four w).length : Int))) blw F 1 s (CH n)) (wants all name all.length, none) := by
    have hws := wants_succ all name i h1
    rcases hnext with ⟨he, hw⟩ | ⟨he, hr⟩
    · refine Ev_after (Ev.now (0 : Nat)) (fun k _ => ?_)
      simp only [hash_second_look.j2]
      rw [and_one32 _ hwl, word_odd, if_pos he, hw, hws, w64 (i : Int) (by omega) (by omega)]
      cases e : isN all name i with
      | true => simp only [↓reduceIte]; rw [if_pos (by omega)]; rfl
      | false => rfl
    · refine Ev_after hr (fun k h => ?_)
      rw [hws] at h
      simp only [hash_second_look.j2]
      rw [and_one32 _ hwl, word_odd, if_neg he, w64 (i : Int) (by omega) (by omega), show ((i : Int) + 1) % 4294967296 = ((i + 1 : Nat) : Int) by omega]
      cases e : isN all name i with
      | true =>
        rw [e] at h
        simp only [↓reduceIte] at h ⊢
        rw [if_pos (by omega)]
        exact h
      | false =>
        rw [e] at h
        exact h
  refine Ev_two (chain_ev S P blw F s i h1 hi hn' (by omega)) hj (fun k h2 h3 => ?_)
  simp only [hash_second_look.l0]
  rw [w64 (i : Int) (by omega) (by omega), if_neg (by omega), h2]
  simp only [Option.bind_some, Option.isNone_none, if_true]
  rw [or_one32 _ hwl, or_one32 _ (gh_lt name), word_half]
  by_cases e : hs all i / 2 * 2 + 1 = gh name / 2 * 2 + 1
  · rw [if_pos (by omega), if_pos (by omega), if_pos (by omega), hf i hi]
    have e2 : ((all.getD i ByteArray.empty).toList == name.toList) = isN all name i := by
      unfold isN
      by_cases z : (all.getD i ByteArray.empty).toList = name.toList
      · rw [decide_eq_true z, beq_iff_eq.2 z]
      · rw [decide_eq_false z, beq_eq_false_iff_ne.2 z]
    rw [e2]
    exact h3
  · have e2 : isN all name i = false := by
      cases z : isN all name i with
      | false => rfl
      | true => exact absurd (by rw [isN_hash all name i z]) e
    rw [if_neg (by omega)]
    rw [e2] at h3
    exact h3
theorem look_l0 {n sh : Nat} {bl fi ch w : List Int} (L : List S39) (all : List ByteArray) (name : ByteArray) (S : St (hs all) n all.length sh all.length bl fi ch) (P : Parts n sh all.length bl fi ch w) (hsr : Srt (hs all) n all.length) (blw F : List Int) (s : Int) (hn' : n ≤ 4096) (hN : all.length ≤ 4096)
    (hL : L.length = all.length) (hf : ∀ i, i < all.length → (rd_T39 L (i : Int)).f0 = all.getD i ByteArray.empty) (d : Nat) : ∀ i, 1 ≤ i → i < all.length → all.length - i = d + 1 → hs all i % n = gh name % n →
    Ev (fun k => hash_second_look.l0 k L name ((gh name : Nat) : Int) (wants all name i) (i : Int) (four w) 0 0 (progs (IntKind.u64.wrap ((four w).length : Int))) blw F 1 s (CH n)) (wants all name all.length, none) := by
  induction d with
  | zero =>
    intro i h1 hi hd hb
    exact look_go L all name S P blw F s hn' hN hL hf i h1 hi (.inl ⟨.inl (by omega), by rw [show all.length = i + 1 by omega]⟩)
  | succ d ih =>
    intro i h1 hi hd hb
    by_cases he : ends (hs all) n all.length i
    · refine look_go L all name S P blw F s hn' hN hL hf i h1 hi (.inl ⟨he, ?_⟩)
      have := wants_skip all name (i + 1) (by omega) (all.length - (i + 1)) (fun p h2 h3 => by
        cases e : isN all name p with
        | false => rfl
        | true =>
          have h4 := isN_hash all name p e
          exact absurd (by rw [h4, hb]) (beyond hsr h1 he p (by omega) (by omega)))
      rw [show i + 1 + (all.length - (i + 1)) = all.length by omega] at this
      exact this
    · refine look_go L all name S P blw F s hn' hN hL hf i h1 hi (.inr ⟨he, ih (i + 1) (by omega) ?_ (by omega) ?_⟩)
      · by_cases e : i + 1 = all.length
        · exact absurd (.inl e) he
        · omega
      · have : ¬ (hs all (i + 1) % n ≠ hs all i % n) := fun z => he (.inr z)
        omega
theorem look_ev {n sh : Nat} {bl fi ch w : List Int} (L : List S39) (all : List ByteArray) (name : ByteArray) (S : St (hs all) n all.length sh all.length bl fi ch) (P : Parts n sh all.length bl fi ch w) (hsr : Srt (hs all) n all.length) (hn : 0 < n) (hn' : n ≤ 4096) (hsh : sh < 32) (h0 : 0 < all.length) (hN : all.length ≤ 4096) (hz : name.size ≤ 9223372036854775807)
    (hL : L.length = all.length) (hf : ∀ i, i < all.length → (rd_T39 L (i : Int)).f0 = all.getD i ByteArray.empty) :
    Ev (fun k => hash_second_look.f k (four w) 0 0 (progs (IntKind.u64.wrap ((four w).length : Int))) (bl.flatMap two) fi 1 (sh : Int) (CH n) L name) (wants all name all.length, none) := by
  have hg := gnu_ev name hz
  rw [gh_int] at hg
  have hk := gh_lt name
  obtain ⟨K, hK⟩ : ∃ K, K = gh name := ⟨_, rfl⟩
  rw [← hK] at hg hk
  have hq : K / 64 % 4 < bl.length := by rw [S.lbl]; exact Nat.mod_lt _ (by decide)
  have hxr := S.rbl (bl.getD (K / 64 % 4) 0) (by rw [getD_at _ _ _ hq]; exact List.getElem_mem hq)
  obtain ⟨x, hx⟩ := Int.eq_ofNat_of_zero_le hxr.1
  have tm : ∀ (x y : Nat), Int.tmod (x : Int) (y : Int) = ((x % y : Nat) : Int) := fun x y => by rw [Int.tmod_eq_emod_of_nonneg (by omega)]; simp
  have td : ∀ (x y : Nat), Int.tdiv (x : Int) (y : Int) = ((x / y : Nat) : Int) := fun x y => by rw [Int.tdiv_eq_ediv_of_nonneg (by omega)]; simp
  have e64 := tm K 64
  have d64 := td K 64
  have e64s := tm (K / 2 ^ sh) 64
  rw [show ((64 : Nat) : Int) = 64 from rfl] at e64 d64 e64s
  have esh := shr_nat32 K sh hsh
  have hb : K % n < n := Nat.mod_lt _ hn
  have l8 : (bl.flatMap two).length = 8 := by rw [two_len, S.lbl]
  have hnb : ∀ p, 1 ≤ p → p < all.length → isN all name p = true → x.testBit (K % 64) = true ∧ x.testBit (K / 2 ^ sh % 64) = true := by
    intro p h1 h2 h3
    have := S.bit p h1 h2
    rw [isN_hash all name p h3, ← hK, hx] at this
    simpa using this
  -- behind the bloom words
  have hj : Ev (fun k => hash_second_look.j0 k L name (K : Int) (!(x.testBit (K % 64) && x.testBit (K / 2 ^ sh % 64))) (four w) 0 0 (progs (IntKind.u64.wrap ((four w).length : Int))) (bl.flatMap two) fi 1 (sh : Int) (CH n)) (wants all name all.length, none) := by
    cases hbits : (x.testBit (K % 64) && x.testBit (K / 2 ^ sh % 64)) with
    | false =>
      have hno : wants all name all.length = [] := by
        refine wants_none all name _ h0 (fun p h1 h2 => ?_)
        cases e : isN all name p with
        | false => rfl
        | true =>
          have := hnb p h1 h2 e
          rw [this.1, this.2] at hbits
          cases hbits
      rw [hno]
      refine Ev_after (Ev.now (0 : Nat)) (fun k _ => ?_)
      simp only [hash_second_look.j0]
      rfl
    | true =>
      have hlf := S.lfi
      rcases S.fst (K % n) hb with ⟨z, hno⟩ | ⟨t, t1, t2, t3, t4, t5⟩
      · have hno : wants all name all.length = [] := by
          refine wants_none all name _ h0 (fun p h1 h2 => ?_)
          cases e : isN all name p with
          | false => rfl
          | true => exact absurd (by rw [isN_hash all name p e, hK]) (hno p h1 h2)
        rw [hno]
        refine Ev_after (Ev.now (0 : Nat)) (fun k _ => ?_)
        simp only [hash_second_look.j0]
        rw [if_neg (by simp), hlf, show (n : Int) % 4294967296 = (n : Int) by omega, if_neg (by omega), tm, if_pos (by omega), if_pos (by omega), rd_nat, z, if_pos rfl]
      · have hw : wants all name t = [] := wants_none all name _ t1 (fun p h1 h2 => by
          cases e : isN all name p with
          | false => rfl
          | true => exact absurd (by rw [isN_hash all name p e, hK]) (t5 p h1 h2))
        have hl := look_l0 L all name S P hsr (bl.flatMap two) fi (sh : Int) hn' hN hL hf (all.length - t - 1) t t1 t2 (by omega) (by rw [t4, hK])
        rw [hw, ← hK] at hl
        refine Ev_after hl (fun k h => ?_)
        simp only [hash_second_look.j0]
        rw [if_neg (by simp), hlf, show (n : Int) % 4294967296 = (n : Int) by omega, if_neg (by omega), tm, if_pos (by omega), if_pos (by omega), rd_nat, t3, if_neg (by omega)]
        exact h
  refine Ev_both hg hj (fun k h1 h2 => ?_)
  unfold hash_second_look.f
  rw [h1, Option.bind_some]
  have e4 : (wrap64 (((8 : Nat) : Int) / 2)) % 4294967296 = 4 := by
    rw [show ((8 : Nat) : Int) / 2 = 4 from rfl, w64 4 (by omega) (by omega)]; rfl
  have eat : (2 * (((K / 64 : Nat) : Int) % 4294967296 % 4)) % 4294967296 = ((2 * (K / 64 % 4) : Nat) : Int) := by omega
  have eat1 : (((2 * (K / 64 % 4) : Nat) : Int) + 1) % 4294967296 = ((2 * (K / 64 % 4) + 1 : Nat) : Int) := by omega
  have hxlt : x < 18446744073709551616 := by omega
  have eword : Go.bits .or .u64 (IntKind.u64.wrap (rd (bl.flatMap two) ((2 * (K / 64 % 4) : Nat) : Int))) (IntKind.u64.wrap ((IntKind.u64.wrap (rd (bl.flatMap two) ((2 * (K / 64 % 4) + 1 : Nat) : Int))) * 4294967296)) = (x : Int) := by
    rw [rd_nat, rd_nat, two_lo bl _ hq, two_hi bl _ hq, hx]
    exact two_words x hxlt
  rw [l8, e4, if_neg (by omega), d64, eat, if_pos (by omega), if_pos (by omega), eat1, if_pos (by omega), if_pos (by omega), e64, if_pos (by omega), eword, bit_of x _ hxlt (Nat.mod_lt _ (by decide)), esh, e64s, bit_of x _ hxlt (Nat.mod_lt _ (by decide))]
  cases b1 : x.testBit (K % 64) with
  | false =>
    rw [b1] at h2
    simp only [Bool.false_and, Bool.not_false] at h2
    simp only [Bool.false_eq_true, ↓reduceIte]
    exact h2
  | true =>
    rw [b1] at h2
    simp only [Bool.true_and] at h2
    simp only [↓reduceIte]
    have hfin : ((if x.testBit (K / 2 ^ sh % 64) = true then (1 : Int) else 0) == 0) = !(x.testBit (K / 2 ^ sh % 64)) := by
      cases x.testBit (K / 2 ^ sh % 64) <;> rfl
    rw [if_neg (by omega), if_pos (by omega), if_pos (by omega), hfin]
    exact h2
end Go.Proofs.Ythopdoamajjojaa.HashTwo
