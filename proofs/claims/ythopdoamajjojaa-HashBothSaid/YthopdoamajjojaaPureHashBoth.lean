/- Of a table of the second kind that was made of names, standing by their buckets: each name's symbols are told, in their order, and no others; as many as there are. -/
import Derived.Test.YthopdoamajjojaaSaidHashBoth
import Derived.Test.YthopdoamajjojaaHashTwo
namespace Go.Proofs.Ythopdoamajjojaa.Pure
open Go Go.RowKit Go.Proofs.Ythopdoamajjojaa Go.Proofs.Ythopdoamajjojaa.QHashB Go.Proofs.YthopdoamajjojaaW.PrintWords Go.Proofs.Ythopdoamajjojaa.HashTab Go.Proofs.Ythopdoamajjojaa.HashReadB Go.Proofs.Ythopdoamajjojaa.HashOrd Go.Proofs.Ythopdoamajjojaa.HashSecond Go.Proofs.Ythopdoamajjojaa.HashMade Go.Proofs.Ythopdoamajjojaa.HashTwo
namespace Both
theorem same_ev (l : List Int) (hl : l.length < 1000000) (d : Nat) : ∀ i : Nat, i ≤ l.length → l.length - i = d → Ev (fun k => shackleref07_Same.l0 k l l (i : Int)) true := by
  induction d with
  | zero =>
    intro i hi hd
    refine Ev_after (Ev.now (0 : Nat)) (fun k _ => ?_)
    simp only [shackleref07_Same.l0]
    rw [if_neg (by omega)]
  | succ d ih =>
    intro i hi hd
    refine Ev_after (ih (i + 1) (by omega) (by omega)) (fun k h => ?_)
    simp only [shackleref07_Same.l0]
    rw [if_pos (by omega), if_pos (by omega), if_pos (by omega), if_pos trivial, w64 ((i : Int) + 1) (by omega) (by omega)]
    exact h
theorem same_f (l : List Int) (hl : l.length < 1000000) : Ev (fun k => shackleref07_Same.f k l l) true := by
  refine Ev_one (same_ev l hl l.length 0 (by omega) (by omega)) (fun k h => ?_)
  unfold shackleref07_Same.f
  rw [if_pos rfl]
  exact h
theorem rd_set (L : List S39) (v : S39) (i j : Nat) (hi : i < L.length) : rd_T39 (L.set i v) (j : Int) = if j = i then v else rd_T39 L (j : Int) := by
  unfold rd_T39
  rw [Int.toNat_natCast]
  by_cases e : j = i
  · subst e; rw [if_pos rfl, getD_set_same _ _ _ _ hi]
  · rw [if_neg e, HashTab.getD_set_ne _ _ _ _ _ (by omega)]

def HB (k : Nat) (name : ByteArray) (all : List ByteArray) (b : List Int) (L : List S39) (want : List Int) (i : Int) : Option Bool :=
  shacklelaw07_HashBoth.l2 k name true all b L want i 0 0 (progs (IntKind.u64.wrap (b.length : Int)))
theorem Ev_four {α β γ δ ε : Type} {g : Nat → Option α} {a : Nat → Option β} {b : Nat → Option γ} {c : Nat → Option δ} {d : Nat → Option ε} {x : β} {y : γ} {z : δ} {u : ε} {r : α} (ha : Ev a x) (hb : Ev b y) (hc : Ev c z) (hd : Ev d u)
    (h : ∀ k, a k = some x → b k = some y → c k = some z → d k = some u → g (k + 1) = some r) : Ev g r := by
  obtain ⟨A, hA⟩ := ha
  obtain ⟨B, hB⟩ := hb
  obtain ⟨C, hC⟩ := hc
  obtain ⟨D, hD⟩ := hd
  refine ⟨A + B + C + D + 1, fun k hk => ?_⟩
  obtain ⟨k, rfl⟩ : ∃ j, k = j + 1 := ⟨k - 1, by omega⟩
  exact h k (hA k (by omega)) (hB k (by omega)) (hC k (by omega)) (hD k (by omega))
theorem l2_ev {n sh : Nat} {bl fi ch w : List Int} (all : List ByteArray) (name : ByteArray) (S : St (hs all) n all.length sh all.length bl fi ch) (P : Parts n sh all.length bl fi ch w) (hsr : Srt (hs all) n all.length) (hn : 0 < n) (hn' : n ≤ 4096) (hsh : sh < 32) (h0 : 0 < all.length) (hN : all.length ≤ 4096) (hz : name.size ≤ 9223372036854775807) (d : Nat) :
    ∀ (i : Nat) (L : List S39), i ≤ all.length → all.length - i = d → L.length = all.length → (∀ j, j < i → (rd_T39 L (j : Int)).f0 = all.getD j ByteArray.empty) →
    Ev (fun k => HB k name all (four w) L (wants all name i) (i : Int)) true := by
  induction d with
  | zero =>
    intro i L hi hd hL hf
    obtain rfl : i = all.length := by omega
    have hw : (wants all name all.length).length < 1000000 := by
      have := wants_len all name all.length; omega
    refine Ev_four (gnu_tab P (fun x hx => (S.rfi x hx).1) S.lfi hn hn' hsh (by omega)) (count_ev S P (fun i => gh_lt _) hsr (bl.flatMap two) (sh : Int) hn hn' h0 hN) (look_ev L all name S P hsr hn hn' hsh h0 hN hz hL hf) (same_f _ hw) (fun k h1 h2 h3 h4 => ?_)
    simp only [HB, shacklelaw07_HashBoth.l2]
    rw [if_neg (by omega)]
    have hc : ∀ z14 z15 z16 z32 z33 z34 z35 z36, hash_Count.f k (four w) 0 0 (progs (IntKind.u64.wrap ((four w).length : Int))) [] 0 0 0 0 0 0 0 0 0 0 0 0 0 z14 z15 z16 0 0 0 0 0 0 0 0 256 0 0 0 0 0 0 z32 z33 z34 z35 z36 = some ((all.length : Int), none) := by
      intros
      unfold hash_Count.f
      rw [if_pos rfl, if_neg (by omega), h1, Option.bind_some]
      simp only [Option.isNone_none, if_true]
      rw [h2, Option.bind_some]
    unfold hash_Look.f
    rw [hc, Option.bind_some, Option.bind_some]
    simp only [Option.isNone_none, if_true]
    rw [if_neg (by omega), h1, Option.bind_some]
    simp only [Option.isNone_none, if_true]
    rw [h2, Option.bind_some]
    simp only [Option.isNone_none, if_true]
    rw [h3, Option.bind_some, Option.bind_some, h4, Option.bind_some]
    simp only [Option.isNone_none, if_true]
  | succ d ih =>
    intro i L hi hd hL hf
    have hil : i < all.length := by omega
    have hrd : rdOf ByteArray.empty all (i : Int) = all.getD i ByteArray.empty := by simp [rdOf]
    have hw : (wants all name i).length < 17592186044416 := by
      have := wants_len all name i; omega
    refine Ev_after (ih (i + 1) (L.set i ⟨all.getD i ByteArray.empty, (rd_T39 L (i : Int)).f1, (rd_T39 L (i : Int)).f2, (rd_T39 L (i : Int)).f3, (rd_T39 L (i : Int)).f4, (rd_T39 L (i : Int)).f5, (rd_T39 L (i : Int)).f6⟩) (by omega) (by omega) (by simpa using hL) (fun j hj => ?_)) (fun k h => ?_)
    · rw [rd_set _ _ _ _ (by omega)]
      by_cases e : j = i
      · rw [if_pos e, e]
      · rw [if_neg e]; exact hf j (by omega)
    · simp only [HB, shacklelaw07_HashBoth.l2]
      rw [if_pos (by omega), if_pos (by omega), if_pos (by omega), hrd, Int.toNat_natCast, Option.bind_some]
      rw [w64 ((i : Int) + 1) (by omega) (by omega), show (i : Int) + 1 = ((i + 1 : Nat) : Int) by omega]
      by_cases e0 : 0 < i
      · have hws := wants_succ all name i (by omega)
        rw [hws] at h
        rw [if_pos (show (i : Int) > 0 by omega)]
        by_cases e : (all.getD i ByteArray.empty).toList = name.toList
        · have e' : isN all name i = true := decide_eq_true e
          rw [if_pos e, if_pos hw]
          rw [if_pos e'] at h
          exact h
        · have e' : ¬ (isN all name i = true) := fun z => e (of_decide_eq_true z)
          rw [if_neg e]
          rw [if_neg e'] at h
          exact h
      · rw [if_neg (show ¬ (i : Int) > 0 by omega)]
        have : i = 0 := by omega
        subst this
        exact h

/-! ### names in the order of their buckets -/
theorem l1_ev (names : List ByteArray) (name : ByteArray) (n sh b : Nat) (base : List ByteArray) (hn : 0 < n) (hn' : n < 1000) (hN : names.length ≤ 200) (hb : base.length ≤ 1000) (hz : ∀ s ∈ names, s.size ≤ 9223372036854775807)
    (h : Ev (fun k => shacklelaw07_HashBoth.l0 k names name true (n : Int) (sh : Int) (base ++ names.filter (fun s => gh s % n = b)) (((b : Int) + 1) % 4294967296)) true) (d : Nat) : ∀ i : Nat, i ≤ names.length → names.length - i = d →
    Ev (fun k => shacklelaw07_HashBoth.l1 k names name true (n : Int) (sh : Int) (base ++ (names.take i).filter (fun s => gh s % n = b)) (b : Int) (i : Int)) true := by
  induction d with
  | zero =>
    intro i hi hd
    refine Ev_after h (fun k h => ?_)
    simp only [shacklelaw07_HashBoth.l1]
    rw [if_neg (by omega), List.take_of_length_le (by omega)]
    exact h
  | succ d ih =>
    intro i hi hd
    have hil : i < names.length := by omega
    have hrd : rdOf ByteArray.empty names (i : Int) = names[i] := by rw [show rdOf ByteArray.empty names (i : Int) = names.getD i ByteArray.empty by simp [rdOf], getD_at _ _ _ hil]
    have hg := gnu_ev names[i] (hz _ (List.getElem_mem hil))
    rw [gh_int] at hg
    have hlen : (base ++ (names.take i).filter (fun s => decide (gh s % n = b))).length ≤ 1200 := by
      rw [List.length_append]
      have := List.length_filter_le (fun s => decide (gh s % n = b)) (names.take i)
      rw [List.length_take] at this
      omega
    have hfs : (names.take (i + 1)).filter (fun s => decide (gh s % n = b)) = (names.take i).filter (fun s => decide (gh s % n = b)) ++ (if gh names[i] % n = b then [names[i]] else []) := by
      rw [List.take_succ_eq_append_getElem hil, List.filter_append]
      congr 1
      by_cases e : gh names[i] % n = b
      · rw [if_pos e, List.filter_cons_of_pos (by simpa using e)]; rfl
      · rw [if_neg e, List.filter_cons_of_neg (by simpa using e)]; rfl
    refine Ev_two hg (ih (i + 1) (by omega) (by omega)) (fun k h1 h2 => ?_)
    have h2 : shacklelaw07_HashBoth.l1 k names name true (n : Int) (sh : Int) (base ++ (names.take (i + 1)).filter (fun s => gh s % n = b)) (b : Int) ((i + 1 : Nat) : Int) = some true := h2
    rw [hfs] at h2
    simp only [shacklelaw07_HashBoth.l1]
    rw [if_pos (by omega), if_pos (by omega), hrd, h1, Option.bind_some, if_neg (by omega), Int.tmod_eq_emod_of_nonneg (by omega), show ((gh names[i] : Nat) : Int) % (n : Int) = ((gh names[i] % n : Nat) : Int) by simp, w64 ((i : Int) + 1) (by omega) (by omega), show (i : Int) + 1 = ((i + 1 : Nat) : Int) by omega]
    by_cases e : gh names[i] % n = b
    · rw [if_pos e, ← List.append_assoc] at h2
      rw [if_pos (by omega), if_pos (by omega)]
      exact h2
    · rw [if_neg e, List.append_nil] at h2
      rw [if_neg (by omega)]
      exact h2
theorem l0_ev (names : List ByteArray) (name : ByteArray) (n sh : Nat) (hn : 0 < n) (hn' : n < 1000) (hN : names.length ≤ 200) (hz : ∀ s ∈ names, s.size ≤ 9223372036854775807)
    (h : Ev (fun k => shacklelaw07_HashBoth.l0 k names name true (n : Int) (sh : Int) ((⟨#[]⟩ : ByteArray) :: upto names n n) (n : Int)) true) (d : Nat) : ∀ b : Nat, b ≤ n → n - b = d →
    Ev (fun k => shacklelaw07_HashBoth.l0 k names name true (n : Int) (sh : Int) ((⟨#[]⟩ : ByteArray) :: upto names n b) (b : Int)) true := by
  induction d with
  | zero =>
    intro b hb hd
    obtain rfl : b = n := by omega
    exact h
  | succ d ih =>
    intro b hb hd
    have hlen : ((⟨#[]⟩ : ByteArray) :: upto names n b).length ≤ 1000 := by
      rw [List.length_cons, upto_len]
      have := List.length_filter_le (fun s => decide (gh s % n < b)) names
      omega
    have hnext := ih (b + 1) (by omega) (by omega)
    rw [upto_succ, show ((b + 1 : Nat) : Int) = ((b : Int) + 1) % 4294967296 by omega] at hnext
    refine Ev_after (l1_ev names name n sh b ((⟨#[]⟩ : ByteArray) :: upto names n b) hn hn' hN hlen hz hnext names.length 0 (by omega) (by omega)) (fun k h => ?_)
    simp only [shacklelaw07_HashBoth.l0]
    rw [if_pos (by omega)]
    simpa using h
end Both

theorem HashBoth : shacklelaw07_HashBoth.PureU := by
  intro names a s name ⟨hl, hz⟩ ha hs' hn
  by_cases h200 : (names.length : Int) > 200
  · obtain ⟨k, hk⟩ := up_ev.rounds
    refine ⟨k, ?_⟩
    unfold shacklelaw07_HashBoth.f
    have hk : shacklelaw07_up.f k = some true := hk
    rw [hk, Option.bind_some, if_pos h200]
  have hzn : ∀ s ∈ names, s.size ≤ 9223372036854775807 := by
    intro s hs
    have := hz s hs
    unfold maxLen at this
    omega
  have hz' : name.size ≤ 9223372036854775807 := by unfold maxLen at hn; omega
  have ha' : -9223372036854775808 ≤ a ∧ a ≤ 9223372036854775807 := by simpa [Lit.wf, IntKind.min, IntKind.max, IntKind.signed, IntKind.bits] using ha
  have hs'' : -9223372036854775808 ≤ s ∧ s ≤ 9223372036854775807 := by simpa [Lit.wf, IntKind.min, IntKind.max, IntKind.signed, IntKind.bits] using hs'
  obtain ⟨n, hn0, hn1, hnn⟩ : ∃ n : Nat, 0 < n ∧ n ≤ 16 ∧ (wrap64 (1 + (Int.tmod (wrap64 ((Int.tmod a 16) + 16)) 16))) % 4294967296 = (n : Int) := by
    have h1 : -16 < Int.tmod a 16 ∧ Int.tmod a 16 < 16 := ⟨by have := Int.lt_tmod_of_pos a (b := 16) (by omega); omega, Int.tmod_lt_of_pos a (by omega)⟩
    rw [w64 (Int.tmod a 16 + 16) (by omega) (by omega), Int.tmod_eq_emod_of_nonneg (by omega), w64 _ (by omega) (by omega)]
    exact ⟨(1 + (Int.tmod a 16 + 16) % 16).toNat, by omega, by omega, by omega⟩
  obtain ⟨sh, hs1, hss⟩ : ∃ n : Nat, n < 32 ∧ (Int.tmod (wrap64 ((Int.tmod s 32) + 32)) 32) % 4294967296 = (n : Int) := by
    have h1 : -32 < Int.tmod s 32 ∧ Int.tmod s 32 < 32 := ⟨by have := Int.lt_tmod_of_pos s (b := 32) (by omega); omega, Int.tmod_lt_of_pos s (by omega)⟩
    rw [w64 (Int.tmod s 32 + 32) (by omega) (by omega), Int.tmod_eq_emod_of_nonneg (by omega)]
    exact ⟨((Int.tmod s 32 + 32) % 32).toNat, by omega, by omega⟩
  obtain ⟨all, hall⟩ : ∃ l, l = (⟨#[]⟩ : ByteArray) :: upto names n n := ⟨_, rfl⟩
  have hlen : all.length = names.length + 1 := by rw [hall, List.length_cons, upto_all _ _ hn0]
  have hza : ∀ s ∈ all, s.size ≤ 9223372036854775807 := by
    intro s hs
    rw [hall] at hs
    rcases List.mem_cons.1 hs with rfl | h
    · decide
    · exact hzn s (upto_mem _ _ _ _ h).2
  have hsr : Srt (HashMade.hs all) n all.length := by
    intro i j h1 h2 h3
    have hp := List.pairwise_iff_getElem.1 (upto_sorted names n n)
    have hu : (upto names n n).length = names.length := upto_all _ _ hn0
    have e : ∀ i, 1 ≤ i → (hi : i < all.length) → all.getD i ByteArray.empty = (upto names n n)[i - 1]'(by omega) := by
      intro i h1 hi
      rw [getD_at _ _ _ hi]
      subst hall
      obtain ⟨i, rfl⟩ : ∃ m, i = m + 1 := ⟨i - 1, by omega⟩
      rfl
    have := hp (i - 1) (j - 1) (by omega) (by omega) (by omega)
    unfold HashMade.hs
    rw [e i h1 (by omega), e j (by omega) h3]
    exact this
  obtain ⟨bl, fi, ch, S, hw⟩ := second_ev all n sh hn0 (by omega) hs1 (by omega) (by omega) hza
  have P := parts S (by omega) hs1
  have hloop := Both.l2_ev all name S P hsr hn0 (by omega) hs1 (by omega) (by omega) hz' all.length 0 (List.replicate all.length z39) (by omega) (by omega) (by simp) (fun j hj => by omega)
  have hend : Ev (fun k => shacklelaw07_HashBoth.l0 k names name true (n : Int) (sh : Int) all (n : Int)) true := by
    refine Ev_two hw hloop (fun k h1 h2 => ?_)
    simp only [shacklelaw07_HashBoth.l0]
    rw [if_neg (by omega), w64 ((names.length : Int) + 1) (by omega) (by omega), if_pos (by omega), h1, Option.bind_some, if_pos (by omega), Int.toNat_natCast, if_pos (by omega)]
    exact h2
  have hstart := Both.l0_ev names name n sh hn0 (by omega) (by omega) hzn (by rw [← hall]; exact hend) n 0 (by omega) (by omega)
  have hfin : Ev (fun k => shacklelaw07_HashBoth.f k names a s name) true := by
    refine Ev_both up_ev hstart (fun k h1 h2 => ?_)
    unfold shacklelaw07_HashBoth.f
    rw [h1, Option.bind_some, if_neg h200, hnn, hss]
    exact h2
  exact hfin.rounds
end Go.Proofs.Ythopdoamajjojaa.Pure
