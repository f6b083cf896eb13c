/- The first version that isn't there, of any objects: the document's answer is the program's. -/
import Derived.Test.YthopdoamajjojaaSaidBindVersions
namespace Go.Proofs.Ythopdoamajjojaa.Pure
open Go.RowKit Go.Proofs.Ythopdoamajjojaa Go.Proofs.Ythopdoamajjojaa.QBindW Go.Proofs.YthopdoamajjojaaW.PrintWords
namespace VersEq
theorem w64 (n : Int) (h0 : -9223372036854775808 ≤ n) (h : n ≤ 9223372036854775807) : wrap64 n = n := by
  unfold wrap64
  omega
theorem Ev_after {α β : Type} {g : Nat → Option α} {a : Nat → Option β} {x : β} {r : α} (ha : Ev a x) (h : ∀ k, a k = some x → g (k + 1) = some r) : Ev g r := by
  obtain ⟨J, hJ⟩ := ha
  refine ⟨J + 1, fun k hk => ?_⟩
  obtain ⟨k, rfl⟩ : ∃ j, k = j + 1 := ⟨k - 1, by omega⟩
  exact h k (hJ k (by omega))
theorem Ev_after2 {α β γ : Type} {g : Nat → Option α} {a : Nat → Option β} {b : Nat → Option γ} {x : β} {y : γ} {r : α} (ha : Ev a x) (hb : Ev b y) (h : ∀ k, a k = some x → b k = some y → g (k + 1) = some r) : Ev g r := by
  obtain ⟨J, hJ⟩ := ha
  obtain ⟨K, hK⟩ := hb
  refine ⟨J + K + 1, fun k hk => ?_⟩
  obtain ⟨k, rfl⟩ : ∃ j, k = j + 1 := ⟨k - 1, by omega⟩
  exact h k (hJ k (by omega)) (hK k (by omega))
theorem drop_at {α : Type} {d : List α} {z x : α} {r : List α} {i : Nat} (h : d.drop i = x :: r) : i < d.length ∧ d.getD i z = x ∧ d.drop (i + 1) = r := by
  have hi : i < d.length := by
    by_cases hi : i < d.length
    · exact hi
    · rw [List.drop_eq_nil_of_le (by omega)] at h; cases h
  rw [List.drop_eq_getElem_cons hi] at h
  injection h with h1 h2
  exact ⟨hi, by rw [List.getD_eq_getElem?_getD, List.getElem?_eq_getElem hi]; exact h1, h2⟩
theorem drop_nil {α : Type} {d : List α} {i : Nat} (h : d.drop i = []) : d.length ≤ i := by
  have := congrArg List.length h
  simp at this
  omega
theorem prov_l1 (d : List S63) (nm : ByteArray) (hd : d.length ≤ 9223372036854775807) : ∀ (r : List S63) (i : Nat), d.drop i = r →
    Ev (fun k => shackleref17_provides.l1 k nm d (i : Int)) (if 0 ≤ BindS.idxS nm (r.map (fun x => x.f2)) (i : Int) then true else ((d.length : Int) == 0))
  | [], i, h => by
    have h := drop_nil h
    refine Ev_after (Ev.now (0 : Nat)) (fun k _ => ?_)
    rw [shackleref17_provides.l1, if_neg (by omega)]
    simp [BindS.idxS]
  | x :: r, i, h => by
    obtain ⟨h1, h2, h3⟩ := drop_at (z := z63) h
    refine Ev_after (prov_l1 d nm hd r (i + 1) h3) (fun k e => ?_)
    rw [shackleref17_provides.l1, if_pos (by omega), if_pos (by omega)]
    have e0 : rd_T63 d (i : Int) = x := by unfold rd_T63; rw [Int.toNat_natCast]; exact h2
    rw [e0, w64 _ (by omega) (by omega)]
    simp only [List.map_cons, BindS.idxS]
    by_cases hx : x.f2.toList = nm.toList
    · have e1 : (x.f2.toList == nm.toList) = true := by rw [beq_iff_eq]; exact hx
      simp only [e1, if_true, if_pos hx]
      rw [if_pos (by omega)]
    · have e1 : (x.f2.toList == nm.toList) = false := by rw [beq_eq_false_iff_ne]; exact hx
      simp only [e1, if_neg hx, Bool.false_eq_true, if_false]
      exact e
theorem prov_d (d : List S63) (nm : ByteArray) (hd : d.length ≤ 9223372036854775807) : Ev (fun k => shackleref17_provides.l1 k nm d 0) (BindS.definesF (d.map (fun x => x.f2)) nm) := by
  have h := prov_l1 d nm hd d 0 rfl
  have e : (if 0 ≤ BindS.idxS nm (d.map (fun x => x.f2)) ((0 : Nat) : Int) then true else ((d.length : Int) == 0)) = BindS.definesF (d.map (fun x => x.f2)) nm := by
    unfold BindS.definesF
    cases d with
    | nil => rfl
    | cons x r =>
      have e2 : ¬ ((x :: r).map (fun x => x.f2) = []) := by simp
      by_cases hx : (0 : Int) ≤ BindS.idxS nm ((x :: r).map (fun x => x.f2)) 0
      · rw [if_neg e2, decide_eq_true hx]
        exact if_pos hx
      · rw [if_neg e2, decide_eq_false hx]
        refine (if_neg hx).trans ?_
        rw [beq_eq_false_iff_ne, List.length_cons]; omega
  rw [e] at h
  exact h
/-- the lists of an object are as long as a machine's may be -/
def Lens (l0 : List S127) : Prop := l0.length ≤ 9223372036854775807 ∧ ∀ x ∈ l0, x.f8.f2.length ≤ 9223372036854775807 ∧ x.f8.f3.length ≤ 9223372036854775807 ∧ ∀ y ∈ x.f8.f3, y.f1.length ≤ 9223372036854775807
theorem prov_l0 (l0 : List S127) (l1 : List ByteArray) (file nm : ByteArray) (hl : Lens l0) : ∀ (r : List S127) (i : Nat), l0.drop i = r →
    Ev (fun k => shackleref17_provides.l0 k l0 l1 file nm (i : Int)) (BindS.provF (l0.map ovOf) (BindS.atF l1 file (r.map ovOf) (i : Int)) nm)
  | [], i, h => by
    have h := drop_nil h
    refine Ev_after (Ev.now (0 : Nat)) (fun k _ => ?_)
    rw [shackleref17_provides.l0, if_neg (by omega)]
    rfl
  | x :: r, i, h => by
    obtain ⟨h1, h2, h3⟩ := drop_at (z := z127) h
    have hx : x ∈ l0 := by have := List.mem_of_mem_drop (l := l0) (i := i) (a := x) (by rw [h]; simp); exact this
    have hll := hl.1
    have hlx := hl.2 x hx
    have e0 : rd_T127 l0 (i : Int) = x := by unfold rd_T127; rw [Int.toNat_natCast]; exact h2
    have hs : Ev (fun k => shackleref17_provides.j1 k l0 l1 file nm (i : Int) true) (BindS.provF (l0.map ovOf) (BindS.atF l1 file (r.map ovOf) ((i : Int) + 1)) nm) := by
      refine Ev_after (prov_l0 l0 l1 file nm hl r (i + 1) h3) (fun k e => ?_)
      rw [shackleref17_provides.j1, if_pos rfl, w64 _ (by omega) (by omega)]
      exact e
    have hd : Ev (fun k => shackleref17_provides.j1 k l0 l1 file nm (i : Int) false) (BindS.provF (l0.map ovOf) (i : Int) nm) := by
      refine Ev_after (prov_d x.f8.f2 nm hlx.1) (fun k e => ?_)
      rw [shackleref17_provides.j1, if_neg (by decide), if_pos (by omega), if_pos (by omega), e0, e]
      unfold BindS.provF
      rw [if_neg (by omega), QBindW.rd_map (d := z127) (by omega) (by omega), Int.toNat_natCast, h2]
      rfl
    refine Ev_after2 hs hd (fun k hs hd => ?_)
    rw [shackleref17_provides.l0, if_pos (by omega), if_pos (by omega), e0]
    simp only [List.map_cons, BindS.atF]
    have ef : (ovOf x).1 = x.f3 := rfl
    rw [ef]
    by_cases hx : x.f3.toList = file.toList
    · rw [if_pos hx, hd, if_pos (by rw [hx]; simp)]
    · have hx' : (x.f3.toList == file.toList) = false := by rw [beq_eq_false_iff_ne]; exact hx
      rw [if_neg hx, hx', Bool.or_false]
      by_cases hn : (i : Int) ≥ (l1.length : Int)
      · rw [if_pos hn, hs, decide_eq_false (by omega), Bool.false_and, if_neg (by decide)]
      · rw [if_neg hn, if_pos (by omega), decide_eq_true (by omega), Bool.true_and]
        by_cases hy : (rdOf ByteArray.empty l1 (i : Int)).toList = file.toList
        · rw [hy, if_pos (by exact beq_self_eq_true _), bne_self_eq_false, hd]
        · rw [if_neg (by rw [beq_iff_eq]; exact hy), show ((rdOf ByteArray.empty l1 (i : Int)).toList != file.toList) = true by rw [bne_iff_ne]; exact hy, hs]
theorem prov (l0 : List S127) (l1 : List ByteArray) (file nm : ByteArray) (hl : Lens l0) : Ev (fun k => shackleref17_provides.f k l0 l1 file nm) (BindS.provF (l0.map ovOf) (BindS.atF l1 file (l0.map ovOf) 0) nm) :=
  prov_l0 l0 l1 file nm hl l0 0 rfl
abbrev Out := Int × ByteArray × ByteArray × ByteArray × Bool
theorem vers_l2 (l0 : List S127) (l1 : List ByteArray) (hl : Lens l0) (i : Int) (j : Int) (R : Out) (file : ByteArray) (xs : List S68) (hx : xs.length ≤ 9223372036854775807)
    (hj : Ev (fun k => shackleref17_Versions.l1 k l0 l1 i (wrap64 (j + 1))) R ∨ ∃ nm, BindS.auxF (BindS.provF (l0.map ovOf) (BindS.atF l1 file (l0.map ovOf) 0)) (xs.map axOf) = some nm ∧ R = (i, ⟨#[]⟩, nm, file, false))
    (hj2 : BindS.auxF (BindS.provF (l0.map ovOf) (BindS.atF l1 file (l0.map ovOf) 0)) (xs.map axOf) = none → Ev (fun k => shackleref17_Versions.l1 k l0 l1 i (wrap64 (j + 1))) R)
    (hj3 : ∀ nm, BindS.auxF (BindS.provF (l0.map ovOf) (BindS.atF l1 file (l0.map ovOf) 0)) (xs.map axOf) = some nm → R = (i, ⟨#[]⟩, nm, file, false)) :
    ∀ (r : List S68) (m : Nat), xs.drop m = r → BindS.auxF (BindS.provF (l0.map ovOf) (BindS.atF l1 file (l0.map ovOf) 0)) (r.map axOf) = BindS.auxF (BindS.provF (l0.map ovOf) (BindS.atF l1 file (l0.map ovOf) 0)) (xs.map axOf) →
    Ev (fun k => shackleref17_Versions.l2 k l0 l1 i j (m : Int) file xs) R
  | [], m, h, ha => by
    have h := drop_nil h
    refine Ev_after (hj2 (ha.symm.trans rfl)) (fun k e => ?_)
    rw [shackleref17_Versions.l2, if_neg (by omega)]
    exact e
  | x :: r, m, h, ha => by
    obtain ⟨h1, h2, h3⟩ := drop_at (z := z68) h
    have e0 : rd_T68 xs (m : Int) = x := by unfold rd_T68; rw [Int.toNat_natCast]; exact h2
    have hp := prov l0 l1 file x.f2 hl
    by_cases hw : x.f1 = false ∧ BindS.provF (l0.map ovOf) (BindS.atF l1 file (l0.map ovOf) 0) x.f2 = false
    · have ha2 : BindS.auxF (BindS.provF (l0.map ovOf) (BindS.atF l1 file (l0.map ovOf) 0)) ((x :: r).map axOf) = some x.f2 := by
        simp only [List.map_cons, BindS.auxF]
        exact if_pos hw
      have hR := hj3 x.f2 (ha.symm.trans ha2)
      refine Ev_after hp (fun k e => ?_)
      rw [shackleref17_Versions.l2, if_pos (by omega), if_pos (by omega), e0, e, Option.bind_some, if_neg (by rw [hw.1]; decide), if_neg (by rw [hw.2]; decide), hR]
    · have ha2 : BindS.auxF (BindS.provF (l0.map ovOf) (BindS.atF l1 file (l0.map ovOf) 0)) ((x :: r).map axOf) = BindS.auxF (BindS.provF (l0.map ovOf) (BindS.atF l1 file (l0.map ovOf) 0)) (r.map axOf) := by
        simp only [List.map_cons, BindS.auxF]
        exact if_neg hw
      refine Ev_after2 hp (vers_l2 l0 l1 hl i j R file xs hx hj hj2 hj3 r (m + 1) h3 (ha2.symm.trans ha)) (fun k e e2 => ?_)
      rw [shackleref17_Versions.l2, if_pos (by omega), if_pos (by omega), e0, e, Option.bind_some, w64 _ (by omega) (by omega)]
      by_cases hw1 : x.f1 = true
      · rw [if_pos hw1]; exact e2
      · rw [if_neg hw1]
        by_cases hw2 : BindS.provF (l0.map ovOf) (BindS.atF l1 file (l0.map ovOf) 0) x.f2 = true
        · rw [if_pos hw2]; exact e2
        · exact absurd ⟨by simpa using hw1, by simpa using hw2⟩ hw
theorem vers_l1 (l0 : List S127) (l1 : List ByteArray) (hl : Lens l0) (i : Nat) (hi : i < l0.length) (R : Out)
    (hR1 : BindS.needF (l0.map ovOf) l1 ((l0.getD i z127).f8.f3.map ndOf) = none → Ev (fun k => shackleref17_Versions.l0 k l0 l1 (wrap64 ((i : Int) + 1))) R)
    (hR2 : ∀ y, BindS.needF (l0.map ovOf) l1 ((l0.getD i z127).f8.f3.map ndOf) = some y → R = ((i : Int), ⟨#[]⟩, y.1, y.2, false)) :
    ∀ (r : List S66) (j : Nat), (l0.getD i z127).f8.f3.drop j = r → BindS.needF (l0.map ovOf) l1 (r.map ndOf) = BindS.needF (l0.map ovOf) l1 ((l0.getD i z127).f8.f3.map ndOf) →
    Ev (fun k => shackleref17_Versions.l1 k l0 l1 (i : Int) (j : Int)) R
  | [], j, h, ha => by
    have h := drop_nil h
    refine Ev_after (hR1 (ha.symm.trans rfl)) (fun k e => ?_)
    rw [shackleref17_Versions.l1, if_pos (by omega), if_pos (by omega), if_neg (by unfold rd_T127; rw [Int.toNat_natCast]; omega)]
    exact e
  | x :: r, j, h, ha => by
    obtain ⟨h1, h2, h3⟩ := drop_at (z := z66) h
    have hmem : l0.getD i z127 ∈ l0 := by rw [List.getD_eq_getElem?_getD, List.getElem?_eq_getElem hi]; exact List.getElem_mem hi
    have hlx := hl.2 _ hmem
    have hxm : x ∈ (l0.getD i z127).f8.f3 := List.mem_of_mem_drop (i := j) (by rw [h]; simp)
    have hax := hlx.2.2 x hxm
    have e0 : rd_T127 l0 (i : Int) = l0.getD i z127 := by unfold rd_T127; rw [Int.toNat_natCast]
    have e1 : rd_T66 (l0.getD i z127).f8.f3 (j : Int) = x := by unfold rd_T66; rw [Int.toNat_natCast]; exact h2
    have hl2 : Ev (fun k => shackleref17_Versions.l2 k l0 l1 (i : Int) (j : Int) 0 x.f0 x.f1) R := by
      have hn : BindS.needF (l0.map ovOf) l1 ((x :: r).map ndOf) = (match BindS.auxF (BindS.provF (l0.map ovOf) (BindS.atF l1 x.f0 (l0.map ovOf) 0)) (x.f1.map axOf) with | some nm => some (nm, x.f0) | none => BindS.needF (l0.map ovOf) l1 (r.map ndOf)) := by
        simp only [List.map_cons, BindS.needF]
        rfl
      cases hq : BindS.auxF (BindS.provF (l0.map ovOf) (BindS.atF l1 x.f0 (l0.map ovOf) 0)) (x.f1.map axOf) with
      | none =>
        rw [hq] at hn
        have ih := vers_l1 l0 l1 hl i hi R hR1 hR2 r (j + 1) h3 (hn.symm.trans ha)
        have ih : Ev (fun k => shackleref17_Versions.l1 k l0 l1 (i : Int) (wrap64 ((j : Int) + 1))) R := by rw [w64 _ (by omega) (by omega)]; exact ih
        exact vers_l2 l0 l1 hl i j R x.f0 x.f1 hax (Or.inl ih) (fun _ => ih) (fun nm hnm => by rw [hq] at hnm; cases hnm) x.f1 0 rfl rfl
      | some nm =>
        rw [hq] at hn
        have hR := hR2 (nm, x.f0) (ha.symm.trans hn)
        exact vers_l2 l0 l1 hl i j R x.f0 x.f1 hax (Or.inr ⟨nm, hq, hR⟩) (fun hh => by rw [hq] at hh; cases hh) (fun nm' hnm => by rw [hq] at hnm; injection hnm with hnm; rw [← hnm]; exact hR) x.f1 0 rfl rfl
    refine Ev_after hl2 (fun k e => ?_)
    rw [shackleref17_Versions.l1, if_pos (by omega), if_pos (by omega), e0, if_pos (by omega), if_pos (by omega), e1]
    exact e
theorem vers_l0 (l0 : List S127) (l1 : List ByteArray) (hl : Lens l0) : ∀ (r : List S127) (i : Nat), l0.drop i = r →
    Ev (fun k => shackleref17_Versions.l0 k l0 l1 (i : Int)) (versOut (BindS.versF (l0.map ovOf) l1 (r.map ovOf) (i : Int)))
  | [], i, h => by
    have h := drop_nil h
    refine Ev_after (Ev.now (0 : Nat)) (fun k _ => ?_)
    rw [shackleref17_Versions.l0, if_neg (by omega)]
    rfl
  | x :: r, i, h => by
    obtain ⟨h1, h2, h3⟩ := drop_at (z := z127) h
    have hll := hl.1
    have ih := vers_l0 l0 l1 hl r (i + 1) h3
    have ih : Ev (fun k => shackleref17_Versions.l0 k l0 l1 (wrap64 ((i : Int) + 1))) (versOut (BindS.versF (l0.map ovOf) l1 (r.map ovOf) ((i : Int) + 1))) := by rw [w64 _ (by omega) (by omega)]; exact ih
    have hv : BindS.versF (l0.map ovOf) l1 ((x :: r).map ovOf) (i : Int) = (match BindS.needF (l0.map ovOf) l1 (x.f8.f3.map ndOf) with | some y => some ((i : Int), y.1, y.2) | none => BindS.versF (l0.map ovOf) l1 (r.map ovOf) ((i : Int) + 1)) := by
      simp only [List.map_cons, BindS.versF]
      rfl
    have hq0 : (l0.getD i z127).f8.f3 = x.f8.f3 := by rw [h2]
    have hl1 : Ev (fun k => shackleref17_Versions.l1 k l0 l1 (i : Int) 0) (versOut (BindS.versF (l0.map ovOf) l1 ((x :: r).map ovOf) (i : Int))) := by
      refine vers_l1 l0 l1 hl i h1 _ (fun hn => ?_) (fun y hn => ?_) _ 0 rfl rfl
      · rw [hq0] at hn
        rw [hn] at hv
        rw [hv]
        exact ih
      · rw [hq0] at hn
        rw [hn] at hv
        rw [hv]
        rfl
    refine Ev_after hl1 (fun k e => ?_)
    rw [shackleref17_Versions.l0, if_pos (by omega)]
    exact e
theorem same (x : Option (Int × ByteArray × ByteArray)) : (if (versOut x).1 = (versOut x).1 then (if ((versOut x).2.1.toList == (versOut x).2.1.toList && ((versOut x).2.2.1.toList == (versOut x).2.2.1.toList && ((versOut x).2.2.2.1.toList == (versOut x).2.2.2.1.toList))) = true then (some ((versOut x).2.2.2.2 == (versOut x).2.2.2.2)) else (some false)) else (some false)) = some true := by
  simp
end VersEq
open VersEq
theorem BindVersions : shacklelaw17_BindVersions.PureU := by
  intro l0 l1 h0 h1
  have hl : Lens l0 := by
    refine ⟨Nat.le_trans h0.1 (by decide), fun x hx => ?_⟩
    obtain ⟨_, _, _, _, _, _, _, _, g, _⟩ := h0.2 x hx
    obtain ⟨_, _, g2, g3⟩ := g
    exact ⟨Nat.le_trans g2.1 (by decide), Nat.le_trans g3.1 (by decide), fun y hy => Nat.le_trans (g3.2 y hy).2.1 (by decide)⟩
  obtain ⟨k, hk⟩ := (vers_l0 l0 l1 hl l0 0 rfl).rounds
  refine ⟨k, ?_⟩
  have hk : shackleref17_Versions.f k l0 l1 = some (versOut (BindS.versF (l0.map ovOf) l1 (l0.map ovOf) 0)) := hk
  rw [shacklelaw17_BindVersions.f, hk]
  rw [show shacklelaw17_up.f = some true from rfl, show bind_Versions.f l0 l1 = some (versOut (BindS.versF (l0.map ovOf) l1 (l0.map ovOf) 0)) from rfl, Option.bind_some, Option.bind_some, Option.bind_some, if_pos rfl]
  exact same _
end Go.Proofs.Ythopdoamajjojaa.Pure
