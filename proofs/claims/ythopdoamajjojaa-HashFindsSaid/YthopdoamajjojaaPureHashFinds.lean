/- Of a table of the first kind that was made of names: each name's symbols are told, in their order, and no others; and how many there are. -/
import Derived.Test.YthopdoamajjojaaSaidHashFinds
import Derived.Test.YthopdoamajjojaaHashFirst
namespace Go.Proofs.Ythopdoamajjojaa.Pure
open Go.RowKit Go.Proofs.Ythopdoamajjojaa Go.Proofs.Ythopdoamajjojaa.QHashF Go.Proofs.YthopdoamajjojaaW.PrintWords Go.Proofs.Ythopdoamajjojaa.HashTab Go.Proofs.Ythopdoamajjojaa.HashRead Go.Proofs.Ythopdoamajjojaa.HashFirst
namespace Finds
theorem Ev_after {α β : Type} {g : Nat → Option α} {a : Nat → Option β} {x : β} {r : α} (ha : Ev a x) (h : ∀ k, a k = some x → g (k + 1) = some r) : Ev g r := by
  obtain ⟨J, hJ⟩ := ha
  refine ⟨J + 1, fun k hk => ?_⟩
  obtain ⟨k, rfl⟩ : ∃ j, k = j + 1 := ⟨k - 1, by omega⟩
  exact h k (hJ k (by omega))

theorem sysv_tab {h : Nat → Nat} {n N : Nat} {w : List Int} (x y : Int) (T : Tab h n N 1 w) (hn : 0 < n) (hn' : n ≤ 4096) (hN : 0 < N) (hN' : N ≤ 4096) :
    Ev (fun k => hash_file_sysv.f k (four w) x y (progs (IntKind.u64.wrap ((four w).length : Int))) 256) ((w.take (2 + n)).drop 2, w.drop (2 + n), none) := by
  have hlen := T.len
  have t0 : rd (w.take 2) 0 = (n : Int) := by
    rw [show (0 : Int) = ((0 : Nat) : Int) from rfl, rd_nat, getD_at _ _ _ (by simp; omega), List.getElem_take, ← getD_at w 0 0 (by omega)]; exact T.w0
  have t1 : rd (w.take 2) 1 = (N : Int) := by
    rw [show (1 : Int) = ((1 : Nat) : Int) from rfl, rd_nat, getD_at _ _ _ (by simp; omega), List.getElem_take, ← getD_at w 0 1 (by omega)]; exact T.w1
  have l2 : (w.take 2).length = 2 := by simp; omega
  have h1 : Ev (fun k => hash_file_sysv.j1 k 256 (w.take 2) false (four w) x y (progs (IntKind.u64.wrap ((four w).length : Int)))) ((w.take (2 + n)).drop 2, w.drop (2 + n), none) := by
    refine Ev_after (words_ev w w.length x y (by omega) T.rng (by omega)) (fun k h => ?_)
    simp only [hash_file_sysv.j1]
    rw [if_neg (by simp), l2, if_pos (by omega), if_pos (by omega), t0, t1, u64_in (n : Int) (by omega) (by omega), u64_in (N : Int) (by omega) (by omega), u64_in (2 + (n : Int)) (by omega) (by omega), u64_in (2 + (n : Int) + (N : Int)) (by omega) (by omega),
      show 2 + (n : Int) + (N : Int) = (w.length : Int) by omega, h]
    simp only [Option.bind_some, Option.isNone_none, if_true, List.take_length]
    rw [show (2 + (n : Int)) % 4294967296 = ((2 + n : Nat) : Int) by omega, if_pos (by omega), if_pos (by omega), if_pos (by omega), Int.toNat_natCast]
  have h0 : Ev (fun k => hash_file_sysv.j0 k 256 (w.take 2) false (four w) x y (progs (IntKind.u64.wrap ((four w).length : Int)))) ((w.take (2 + n)).drop 2, w.drop (2 + n), none) := by
    refine Ev_after h1 (fun k h => ?_)
    simp only [hash_file_sysv.j0]
    rw [if_neg (by simp), l2, if_pos (by omega), t0, if_neg (by omega), if_pos (by omega), t1, decide_eq_false (by omega)]
    exact h
  refine Ev_both (words_ev w 2 x y (by omega) T.rng (by omega)) h0 (fun k h1 h2 => ?_)
  unfold hash_file_sysv.f
  have h1 : hash_file_words.f k (four w) x y (progs (IntKind.u64.wrap ((four w).length : Int))) 256 2 = some (w.take 2, none) := h1
  rw [h1]
  simp only [Option.bind_some, Option.isNone_none, if_true]
  rw [l2, if_pos (by omega), t0, if_neg (by omega), if_pos (by omega), t1, show ((N : Int) == 0) = false by rw [beq_eq_false_iff_ne]; omega]
  exact h2

/-- a place's name is the name -/
def isN (all : List ByteArray) (name : ByteArray) (i : Nat) : Bool := decide ((all.getD i ByteArray.empty).toList = name.toList)
def told (l : List Nat) : List Int := l.map (fun i : Nat => (i : Int))
theorem look_l0 (L : List S39) (all : List ByteArray) (name : ByteArray) (B C : List Int) (hL : L.length = all.length) (hC : C.length = all.length) (hN : all.length < 1000000) (hf : ∀ i, i < all.length → (rd_T39 L (i : Int)).f0 = all.getD i ByteArray.empty) :
    ∀ (is : List Nat) (s : Int) (x8 : List Int) (cnt : Nat), chain (fun i => C.getD i 0) s is → (∀ i ∈ is, i < all.length) → cnt + is.length < all.length → x8.length ≤ cnt →
    Ev (fun k => hash_first_look.l0 k L name x8 (cnt : Int) s B C) (x8 ++ told (is.filter (isN all name)), none)
  | [], s, x8, cnt, hc, _, _, _ => by
    refine Ev_after (Ev.now (0 : Nat)) (fun k _ => ?_)
    have hc : s = 0 := hc
    subst hc
    simp only [hash_first_look.l0]
    simp [told]
  | i :: is, s, x8, cnt, hc, hi, hcnt, hx => by
    obtain ⟨rfl, hpos, hc⟩ := hc
    have hiN := hi i (by simp)
    have hlen : (i :: is).length = is.length + 1 := rfl
    have hj : Ev (fun k => hash_first_look.j1 k L name x8 (cnt : Int) (i : Int) false B C) (x8 ++ told ((i :: is).filter (isN all name)), none) := by
      have ih := look_l0 L all name B C hL hC hN hf is (C.getD i 0) (if isN all name i then x8 ++ [(i : Int)] else x8) (cnt + 1) hc (fun j hj => hi j (by simp [hj])) (by omega) (by split <;> (try simp) <;> omega)
      refine Ev_after ih (fun k h => ?_)
      simp only [hash_first_look.j1]
      rw [if_neg (by simp), if_neg (by omega), if_pos (by omega), if_pos (by omega), hf i hiN, w64 (i : Int) (by omega) (by omega), w64 ((cnt : Int) + 1) (by omega) (by omega), rd_nat, show (cnt : Int) + 1 = ((cnt + 1 : Nat) : Int) by omega]
      by_cases e : (all.getD i ByteArray.empty).toList = name.toList
      · have e' : isN all name i = true := decide_eq_true e
        rw [if_pos e, if_pos (by omega), if_pos (by omega)]
        rw [e', if_pos rfl] at h
        rw [h, List.filter_cons_of_pos e']
        simp [told]
      · have e' : isN all name i = false := decide_eq_false e
        rw [if_neg e, if_pos (by omega)]
        rw [e', if_neg (by simp)] at h
        rw [h, List.filter_cons_of_neg (by simp [e'])]
    refine Ev_after hj (fun k h => ?_)
    simp only [hash_first_look.l0]
    rw [if_neg (by omega), w64 (i : Int) (by omega) (by omega), if_neg (by omega), decide_eq_false (by omega)]
    exact h

theorem hs_same (all : List ByteArray) (name : ByteArray) (i : Nat) (h : isN all name i = true) : hs all i = (sysv name).toNat := by
  have h : (all.getD i ByteArray.empty).toList = name.toList := of_decide_eq_true h
  unfold hs sysv
  rw [bytes_same _ _ h]

theorem look_tab {n : Nat} {w : List Int} (L : List S39) (all : List ByteArray) (name : ByteArray) (T : Tab (hs all) n all.length 1 w) (hn : 0 < n) (hn' : n ≤ 4096) (h0 : 0 < all.length) (hN : all.length < 1000000) (hz : name.size ≤ 9223372036854775807)
    (hL : L.length = all.length) (hf : ∀ i, i < all.length → (rd_T39 L (i : Int)).f0 = all.getD i ByteArray.empty) :
    Ev (fun k => hash_first_look.f k ((w.take (2 + n)).drop 2) (w.drop (2 + n)) L name) (told ((ups all.length 1).filter (isN all name)), none) := by
  have hlen := T.len
  have hin := sysv_in name
  have lB : ((w.take (2 + n)).drop 2).length = n := by simp; omega
  have lC : (w.drop (2 + n)).length = all.length := by simp; omega
  have hb : (sysv name).toNat % n < n := Nat.mod_lt _ hn
  have gB : ((w.take (2 + n)).drop 2).getD ((sysv name).toNat % n) 0 = w.getD (2 + (sysv name).toNat % n) 0 := by
    rw [getD_at _ _ _ (by omega), getD_at _ _ _ (by omega)]; simp
  have gC : ∀ i, i < all.length → (w.drop (2 + n)).getD i 0 = w.getD (2 + n + i) 0 := by
    intro i hi
    rw [getD_at _ _ _ (by omega), getD_at _ _ _ (by omega)]; simp
  have hch := T.ch _ hb
  have hmem : ∀ i ∈ (ups all.length 1).filter (fun i => hs all i % n = (sysv name).toNat % n), i < all.length := fun i hi => ((ups_mem _ _ _).1 (List.mem_filter.1 hi).1).2
  have hch' := chain_same _ (fun i => (w.drop (2 + n)).getD i 0) _ _ (fun i hi => (gC i (hmem i hi)).symm) hch
  have hle : ((ups all.length 1).filter (fun i => hs all i % n = (sysv name).toNat % n)).length ≤ all.length - 1 := by
    have := List.length_filter_le (fun i => decide (hs all i % n = (sysv name).toNat % n)) (ups all.length 1)
    rw [ups_length] at this
    exact this
  have hl := look_l0 L all name ((w.take (2 + n)).drop 2) (w.drop (2 + n)) hL lC hN hf _ _ [] 0 hch' hmem (by omega) (by simp)
  have hfil : ((ups all.length 1).filter (fun i => hs all i % n = (sysv name).toNat % n)).filter (isN all name) = (ups all.length 1).filter (isN all name) := by
    rw [List.filter_filter]
    refine List.filter_congr (fun i _ => ?_)
    cases e : isN all name i with
    | false => simp
    | true => simp [hs_same all name i e]
  rw [hfil, List.nil_append] at hl
  refine Ev_both (sysv_ev name hz) hl (fun k h1 h2 => ?_)
  unfold hash_first_look.f
  rw [h1]
  simp only [Option.bind_some]
  have e0 : Int.tmod (sysv name) (n : Int) = (((sysv name).toNat % n : Nat) : Int) := by
    rw [Int.tmod_eq_emod_of_nonneg hin.1, Int.natCast_emod, Int.toNat_of_nonneg hin.1]
  rw [lB, show (n : Int) % 4294967296 = (n : Int) by omega, if_neg (by omega), e0, if_pos (by omega), if_pos (by omega), rd_nat, gB]
  exact h2

theorem same_ev (l : List Int) (hl : l.length < 1000000) (d : Nat) : ∀ i : Nat, i ≤ l.length → l.length - i = d → Ev (fun k => shackleref07_Same.l0 k l l (i : Int)) true := by
  induction d with
  | zero =>
    intro i hi hd
    refine Ev_after (Ev.now (0 : Nat)) (fun k _ => ?_)
    simp only [shackleref07_Same.l0]
    rw [if_neg (by omega)]
  | succ d ih =>
    intro i hi hd
    refine Ev_after (ih (i + 1) (by omega) (by omega)) (fun k h => ?_)
    simp only [shackleref07_Same.l0]
    rw [if_pos (by omega), if_pos (by omega), if_pos (by omega), if_pos trivial, w64 ((i : Int) + 1) (by omega) (by omega)]
    exact h
theorem same_f (l : List Int) (hl : l.length < 1000000) : Ev (fun k => shackleref07_Same.f k l l) true := by
  refine Ev_one (same_ev l hl l.length 0 (by omega) (by omega)) (fun k h => ?_)
  unfold shackleref07_Same.f
  rw [if_pos rfl]
  exact h
theorem told_length (l : List Nat) : (told l).length = l.length := by simp [told]

def HF (k : Nat) (name : ByteArray) (all : List ByteArray) (b : List Int) (L : List S39) (want : List Int) (i : Int) : Option Bool :=
  shacklelaw07_HashFinds.l0 k name true all b L want i 0 0 (progs (IntKind.u64.wrap (b.length : Int)))
def wants (all : List ByteArray) (name : ByteArray) (i : Nat) : List Int := told ((List.range' 1 (i - 1)).filter (isN all name))
theorem rd_set (L : List S39) (v : S39) (i j : Nat) (hi : i < L.length) : rd_T39 (L.set i v) (j : Int) = if j = i then v else rd_T39 L (j : Int) := by
  unfold rd_T39
  rw [Int.toNat_natCast]
  by_cases e : j = i
  · subst e; rw [if_pos rfl, getD_set_same _ _ _ _ hi]
  · rw [if_neg e, HashTab.getD_set_ne _ _ _ _ _ (by omega)]
theorem loop_ev {n : Nat} {w : List Int} (all : List ByteArray) (name : ByteArray) (T : Tab (hs all) n all.length 1 w) (hn : 0 < n) (hn' : n ≤ 4096) (h0 : 0 < all.length) (hN : all.length ≤ 4096) (hz : name.size ≤ 9223372036854775807) (d : Nat) :
    ∀ (i : Nat) (L : List S39), i ≤ all.length → all.length - i = d → L.length = all.length → (∀ j, j < i → (rd_T39 L (j : Int)).f0 = all.getD j ByteArray.empty) →
    Ev (fun k => HF k name all (four w) L (wants all name i) (i : Int)) true := by
  induction d with
  | zero =>
    intro i L hi hd hL hf
    obtain rfl : i = all.length := by omega
    have hw : (wants all name all.length).length < 1000000 := by
      unfold wants
      rw [told_length]
      have := List.length_filter_le (isN all name) (List.range' 1 (all.length - 1))
      rw [List.length_range'] at this
      omega
    have hlen := T.len
    refine Ev_after (Ev_both (g := fun _ => some (0 : Nat)) (sysv_tab 0 0 T hn hn' h0 hN) (Ev.now (0 : Nat)) (fun k _ _ => rfl) |> fun _ => Ev_both (g := fun k => (hash_file_sysv.f k (four w) 0 0 (progs (IntKind.u64.wrap ((four w).length : Int))) 256).bind fun a => (hash_first_look.f k ((w.take (2 + n)).drop 2) (w.drop (2 + n)) L name).bind fun b => (shackleref07_Same.f k (wants all name all.length) (wants all name all.length)).bind fun c => some (a, b, c)) (sysv_tab 0 0 T hn hn' h0 hN) (Ev_both (g := fun k => (hash_first_look.f k ((w.take (2 + n)).drop 2) (w.drop (2 + n)) L name).bind fun b => (shackleref07_Same.f k (wants all name all.length) (wants all name all.length)).bind fun c => some (b, c)) (look_tab L all name T hn hn' h0 (by omega) hz hL hf) (same_f _ hw) (fun k h1 h2 => by rw [h1, h2]; rfl)) (fun k h1 h2 => by
      rw [h1]
      obtain ⟨b, h3, h4⟩ := Option.bind_eq_some_iff.1 h2
      obtain ⟨c, h5, h6⟩ := Option.bind_eq_some_iff.1 h4
      rw [h3, Option.bind_some, Option.bind_some, h5]
      cases h6
      rfl)) (fun k h => ?_)
    obtain ⟨a, h1, h⟩ := Option.bind_eq_some_iff.1 h
    obtain ⟨b, h2, h⟩ := Option.bind_eq_some_iff.1 h
    obtain ⟨c, h3, h⟩ := Option.bind_eq_some_iff.1 h
    cases h
    have lC : (w.drop (2 + n)).length = all.length := by simp; omega
    simp only [HF, shacklelaw07_HashFinds.l0]
    rw [if_neg (by omega)]
    have hc : ∀ z14 z15 z16 z32 z33 z34 z35 z36, hash_Count.f k (four w) 0 0 (progs (IntKind.u64.wrap ((four w).length : Int))) [] 0 0 256 0 0 0 0 0 0 0 0 0 0 z14 z15 z16 0 0 0 0 0 0 0 0 0 0 0 0 0 0 0 z32 z33 z34 z35 z36 = some ((all.length : Int), none) := by
      intros
      unfold hash_Count.f
      rw [if_neg (by omega), h1]
      simp only [Option.bind_some]
      rw [lC]
    unfold hash_Look.f
    rw [hc]
    simp only [Option.bind_some, Option.isNone_none, if_true]
    rw [if_neg (by omega), h1]
    simp only [Option.bind_some, Option.isNone_none, if_true]
    rw [h2]
    simp only [Option.bind_some, Option.isNone_none, if_true]
    have hu : told ((ups all.length 1).filter (isN all name)) = wants all name all.length := rfl
    rw [hu, h3]
    rfl
  | succ d ih =>
    intro i L hi hd hL hf
    have hil : i < all.length := by omega
    have hrd : rdOf ByteArray.empty all (i : Int) = all.getD i ByteArray.empty := by simp [rdOf]
    have hw : (wants all name i).length < 17592186044416 := by
      unfold wants
      rw [told_length]
      have := List.length_filter_le (isN all name) (List.range' 1 (i - 1))
      rw [List.length_range'] at this
      omega
    have hws : wants all name (i + 1) = if 0 < i ∧ isN all name i = true then wants all name i ++ [(i : Int)] else wants all name i := by
      unfold wants
      cases i with
      | zero => simp
      | succ i =>
        rw [show i + 1 + 1 - 1 = i + 1 by omega, show i + 1 - 1 = i by omega, List.range'_concat, List.filter_append]
        cases e : isN all name (i + 1) with
        | false => simp [told, Nat.add_comm 1 i, e]
        | true => simp [told, Nat.add_comm 1 i, e]
    refine Ev_after (ih (i + 1) (L.set i ⟨all.getD i ByteArray.empty, (rd_T39 L (i : Int)).f1, (rd_T39 L (i : Int)).f2, (rd_T39 L (i : Int)).f3, (rd_T39 L (i : Int)).f4, (rd_T39 L (i : Int)).f5, (rd_T39 L (i : Int)).f6⟩) (by omega) (by omega) (by simpa using hL) (fun j hj => ?_)) (fun k h => ?_)
    · rw [rd_set _ _ _ _ (by omega)]
      by_cases e : j = i
      · rw [if_pos e, e]
      · rw [if_neg e]; exact hf j (by omega)
    · simp only [HF, shacklelaw07_HashFinds.l0]
      rw [if_pos (by omega), if_pos (by omega), if_pos (by omega), hrd, Int.toNat_natCast]
      simp only [Option.bind_some]
      rw [w64 ((i : Int) + 1) (by omega) (by omega), show (i : Int) + 1 = ((i + 1 : Nat) : Int) by omega]
      rw [hws] at h
      by_cases e0 : 0 < i
      · rw [if_pos (show (i : Int) > 0 by omega)]
        by_cases e : (all.getD i ByteArray.empty).toList = name.toList
        · have e' : isN all name i = true := decide_eq_true e
          rw [if_pos e, if_pos hw]
          rw [if_pos ⟨e0, e'⟩] at h
          exact h
        · have e' : ¬ (0 < i ∧ isN all name i = true) := fun z => e (of_decide_eq_true z.2)
          rw [if_neg e]
          rw [if_neg e'] at h
          exact h
      · rw [if_neg (show ¬ (i : Int) > 0 by omega)]
        rw [if_neg (fun z => e0 z.1)] at h
        exact h
end Finds

theorem HashFinds : shacklelaw07_HashFinds.PureU := by
  intro names a name ⟨hl, hz⟩ ha hn
  by_cases h1000 : (names.length : Int) > 1000
  · obtain ⟨k, hk⟩ := up_ev.rounds
    refine ⟨k, ?_⟩
    unfold shacklelaw07_HashFinds.f
    have hk : shacklelaw07_up.f k = some true := hk
    rw [hk, Option.bind_some, if_pos h1000]
  obtain ⟨all, hall⟩ : ∃ l, l = [(⟨#[]⟩ : ByteArray)] ++ names := ⟨_, rfl⟩
  have hlen : all.length = names.length + 1 := by rw [hall]; simp
  have hza : ∀ s ∈ all, s.size ≤ 9223372036854775807 := by
    intro s hs
    rw [hall] at hs
    rcases List.mem_append.1 hs with h | h
    · have : s = ⟨#[]⟩ := by simpa using h
      subst this
      decide
    · have := hz s h
      unfold maxLen at this
      omega
  have hz' : name.size ≤ 9223372036854775807 := by unfold maxLen at hn; omega
  have ha' : -9223372036854775808 ≤ a ∧ a ≤ 9223372036854775807 := by simpa [Lit.wf, IntKind.min, IntKind.max, IntKind.signed, IntKind.bits] using ha
  obtain ⟨n, hn0, hn1, hnn⟩ : ∃ n : Nat, 0 < n ∧ n ≤ 64 ∧ (wrap64 (1 + (Int.tmod (wrap64 ((Int.tmod a 64) + 64)) 64))) % 4294967296 = (n : Int) := by
    have h1 : -64 < Int.tmod a 64 ∧ Int.tmod a 64 < 64 := ⟨by have := Int.lt_tmod_of_pos a (b := 64) (by omega); omega, Int.tmod_lt_of_pos a (by omega)⟩
    rw [w64 (Int.tmod a 64 + 64) (by omega) (by omega), Int.tmod_eq_emod_of_nonneg (by omega), w64 _ (by omega) (by omega)]
    exact ⟨(1 + (Int.tmod a 64 + 64) % 64).toNat, by omega, by omega, by omega⟩
  obtain ⟨w, T, hw⟩ := first_ev all n hn0 (by omega) (by omega) (by omega) hza
  have hloop := Finds.loop_ev all name T hn0 (by omega) (by omega) (by omega) hz' all.length 0 (List.replicate all.length z39) (by omega) (by omega) (by simp) (fun j hj => by omega)
  have hall2 : Ev (fun k => shacklelaw07_HashFinds.f k names a name) true := by
    refine Ev_both (Ev_both (g := fun k => (shacklelaw07_up.f k).bind fun a => (shacklelaw07_first.f k all (n : Int)).bind fun b => some (a, b)) up_ev hw (fun k h1 h2 => by rw [h1, h2]; rfl)) hloop (fun k h1 h2 => ?_)
    obtain ⟨x, h3, h4⟩ := Option.bind_eq_some_iff.1 h1
    obtain ⟨y, h5, h6⟩ := Option.bind_eq_some_iff.1 h4
    cases h6
    unfold shacklelaw07_HashFinds.f
    rw [h3, Option.bind_some, if_neg h1000]
    simp only [Option.bind_some]
    rw [← hall, hnn, if_pos (by simp; omega), h5]
    simp only [Option.bind_some]
    rw [if_pos (by omega), Int.toNat_natCast, if_pos (by omega)]
    exact h2
  exact hall2.rounds
end Go.Proofs.Ythopdoamajjojaa.Pure
