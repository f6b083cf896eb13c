import Derived.Test.YthopdoamajjojaaBindFR
import Derived.Test.YthopdoamajjojaaGoodBindF
import Derived.Test.YthopdoamajjojaaQBindFx2
namespace Go.Proofs.Ythopdoamajjojaa.BindF
open Go Go.RowKit Go.Proofs.YthopdoamajjojaaW.PrintWords Go.Proofs.YthopdoamajjojaaW.PrintLast Go.Proofs.YthopdoamajjojaaW.PrintMore QBindF
open BindS (DRow ARow NRow Holds Parts0 Cells Sm s0 smOf sRow_of goodF inF in_ok in_err)
open BSpec (okP)
set_option linter.unusedVariables false
set_option linter.unusedSimpArgs false
theorem rd_map {α β : Type} {d : α} {e : β} {f : α → β} {l : List α} {i : Int} (h0 : 0 ≤ i) (h1 : i < (l.length : Int)) : rdOf e (l.map f) i = f (l.getD i.toNat d) := by
  obtain ⟨j, rfl⟩ := Int.eq_ofNat_of_zero_le h0
  have hj : j < l.length := by omega
  simp [rdOf, hj]
def dfOf (x : S63) : Int × Bool × ByteArray := (x.f0, x.f1, x.f2)
def axOf (x : S68) : Int × ByteArray := (x.f0, x.f2)
def ndOf (x : S66) : ByteArray × List (Int × ByteArray) := (x.f0, x.f1.map axOf)
theorem dRow_of {w : World} {A : Option Addr} {l : List S63} (h : Kd.C k63 w A l.length l) : DRow w A (l.map dfOf) := by
  intro i h0 h1
  have h1' : i < (l.length : Int) := by simpa using h1
  rw [rd_map (d := z63) h0 h1']
  obtain ⟨ad, A3, c3, e, a, b, c, d, _⟩ := at_T63 h i h0 h1'
  exact ⟨ad, A3, _, c3, e, a, b, c, d⟩
theorem aRow_of {w : World} {A : Option Addr} {l : List S68} (h : Kd.C k68 w A l.length l) : ARow w A (l.map axOf) := by
  intro i h0 h1
  have h1' : i < (l.length : Int) := by simpa using h1
  rw [rd_map (d := z68) h0 h1']
  obtain ⟨ad, e, a, b, c⟩ := at_T68 h i h0 h1'
  exact ⟨ad, _, e, a, b, c⟩
theorem nRow_of {w : World} {A : Option Addr} {l : List S66} (h : Kd.C k66 w A l.length l) : NRow w A (l.map ndOf) := by
  intro i h0 h1
  have h1' : i < (l.length : Int) := by simpa using h1
  rw [rd_map (d := z66) h0 h1']
  obtain ⟨ad, A1, c1, e, a, b, _, c⟩ := at_T66 h i h0 h1'
  have hl : (ndOf (l.getD i.toNat z66)).2.length = (rd_T66 l i).f1.length := by simp [ndOf, rd_T66]
  refine ⟨ad, A1, c1, e, a, by rw [hl]; exact b, aRow_of c, by rw [hl]; exact c.2.1⟩
theorem u64_of {a : Int} (h : (Lit.int .u64 a).wf = true) : 0 ≤ a ∧ a ≤ 18446744073709551615 := by
  simpa [Lit.wf, IntKind.min, IntKind.max, IntKind.signed, IntKind.bits] using h
theorem okP_of {p : S29} (h : good29 p) : okP p := ⟨u64_of h.2.2.1, u64_of h.2.2.2.1, u64_of h.2.2.2.2.1⟩
def dynOf (cs : List Value) : Array Value := ((cs.drop 4).take 37).toArray
theorem dynOf_size {cs : List Value} (h : cs.length = 54) : (dynOf cs).size = 37 := by simp [dynOf, h]
theorem dynOf_at {cs : List Value} (j : Nat) (hj : j < 37) : (dynOf cs)[j]? = cs[4 + j]? := by
  simp [dynOf, List.getElem?_take, List.getElem?_drop, hj]
theorem dynOf_lt {cs : List Value} {j : Nat} {v : Value} (h : (dynOf cs)[j]? = some v) : j < 37 := by
  rcases Nat.lt_or_ge j 37 with h' | h'
  · exact h'
  · simp [dynOf, List.getElem?_take, Nat.not_lt.2 h'] at h
def goodB (x : S127) : Bool := decide (x.f0.f2.length ≤ 9223372036854775807) && x.f0.f2.all (fun p => decide (0 ≤ p.f2) && decide (p.f2 ≤ 18446744073709551615) && decide (0 ≤ p.f3) && decide (p.f3 ≤ 18446744073709551615) && decide (0 ≤ p.f4) && decide (p.f4 ≤ 18446744073709551615)) &&
  decide (x.f7.length ≤ 9223372036854775807) && decide (x.f12.length ≤ 9223372036854775807) && decide (0 ≤ x.f2.f3) && decide (x.f2.f3 ≤ 18446744073709551615) && decide (0 ≤ x.f2.f25) && decide (x.f2.f25 ≤ 18446744073709551615)
theorem goodB_of (x : S127) (hg : good127 x) : goodB x = true := by
  obtain ⟨⟨_, _, hps, hpg⟩, _, hD, _, _, _, _, ⟨hss, _⟩, _, _, _, _, ⟨hb, _⟩⟩ := hg
  have h3 : 0 ≤ x.f2.f3 ∧ x.f2.f3 ≤ 18446744073709551615 := u64_of (by unfold good35 at hD; exact hD.2.2.2.1)
  have h25 : 0 ≤ x.f2.f25 ∧ x.f2.f25 ≤ 18446744073709551615 := u64_of (by unfold good35 at hD; exact hD.2.2.2.2.2.2.2.2.2.2.2.2.2.2.2.2.2.2.2.2.2.2.2.2.2.1)
  have hpp : ∀ p ∈ x.f0.f2, ((((0 ≤ p.f2 ∧ p.f2 ≤ 18446744073709551615) ∧ 0 ≤ p.f3) ∧ p.f3 ≤ 18446744073709551615) ∧ 0 ≤ p.f4) ∧ p.f4 ≤ 18446744073709551615 := fun p hp => by
    obtain ⟨a, b, c⟩ := okP_of (hpg p hp)
    exact ⟨⟨⟨⟨a, b.1⟩, b.2⟩, c.1⟩, c.2⟩
  unfold goodB
  simp only [Bool.and_eq_true, List.all_eq_true, decide_eq_true_eq]
  exact ⟨⟨⟨⟨⟨⟨⟨hps, hpp⟩, hss⟩, hb⟩, h3.1⟩, h3.2⟩, h25.1⟩, h25.2⟩
theorem in_any (x : S127) (hg : goodB x = true) (n0 ver f0 : ByteArray) (hn : n0.size ≤ 9223372036854775807) : ∃ r : Int × Option Int, ∀ (w : World) (cs : List Value), k127.K w x cs →
    Calls Try.prog 48 #[.agg cs.toArray, .agg #[.string n0, .string ver, .string f0]] w fun e w' => e = .returned (.tuple #[.int .i64 r.1, eW r.2]) ∧ Below w.heap.size w w' := by
  unfold goodB at hg
  simp only [Bool.and_eq_true, List.all_eq_true, decide_eq_true_eq] at hg
  obtain ⟨⟨⟨⟨⟨⟨⟨hps, hpp⟩, hss⟩, hb⟩, h31⟩, h32⟩, h251⟩, h252⟩ := hg
  obtain ⟨l, er, hin, hlook⟩ := look_any (b := x.f12) (ps := x.f0.f2) (ss := x.f7) (x := x.f0.f0) (y := x.f0.f1) (name := n0) (a3 := x.f2.f3) (a25 := x.f2.f25) hb hps (fun p hp => by obtain ⟨⟨⟨⟨a, b⟩, c⟩, d⟩, e⟩ := hpp p hp; exact ⟨a, ⟨b, c⟩, d, e⟩) hss hn ⟨h31, h32⟩ ⟨h251, h252⟩
  have hlk : ∀ (w : World) (cs : List Value), k127.K w x cs → ∃ eb e0 e1 e2 es, Parts0 cs.toArray eb e0 e1 e2 es (dynOf cs) ∧ Holds w cs.toArray x.f8.f0 x.f8.f1 (x.f8.f2.map dfOf) (x.f8.f3.map ndOf) (x.f7.map smOf) ∧
      ∀ W, Below w.heap.size w W → Calls Try.prog 13 #[eb, .agg #[e0, e1, e2], .agg (dynOf cs), es, .string n0] W fun e w' => ∃ A c', e = .returned (.tuple #[.slice A l.length c', eW er]) ∧ Kd.C (Kd.int .i64) w' A l.length l ∧ Below W.heap.size W w' := by
    intro w cs hK
    have hlen := k127.K_len hK
    obtain ⟨A2, c2, A4, c4, A44, c44, A45, c45, A47, c47, A48, c48, A49, c49, A50, c50, A51, c51, A52, c52, A53, c53, hcs, l2, g2, l4, g4, l44, g44, l45, g45, l47, g47, l48, g48, l49, g49, l50, g50, l51, g51, l52, g52, l53, g53⟩ := k127_open hK
    have hlen : cs.length = 54 := hlen
    have hd : ∀ j, j < 37 → (dynOf cs)[j]? = cs[4 + j]? := fun j hj => dynOf_at j hj
    have d3 : (dynOf cs)[3]? = some (.int .u64 x.f2.f3) := (hd 3 (by decide)).trans (by rw [hcs]; rfl)
    have d25 : (dynOf cs)[25]? = some (.int .u64 x.f2.f25) := (hd 25 (by decide)).trans (by rw [hcs]; rfl)
    refine ⟨.slice A53 x.f12.length c53, .int .i64 x.f0.f0, .int .u64 x.f0.f1, .slice A2 x.f0.f2.length c2, .slice A45 x.f7.length c45, ⟨?_, ?_, ?_, ?_, ?_, dynOf_size hlen, fun j v hv => ?_⟩, ⟨⟨A47, A48, A49, c47, c48, c49, ⟨?_, ?_, ?_, ?_, ?_⟩, g47, dRow_of g48, nRow_of g49⟩, ⟨A45, c45, ?_, sRow_of g45⟩, ?_, ?_, ?_⟩, fun W hW => ?_⟩
    · rw [List.getElem?_toArray, hcs]; rfl
    · rw [List.getElem?_toArray, hcs]; rfl
    · rw [List.getElem?_toArray, hcs]; rfl
    · rw [List.getElem?_toArray, hcs]; rfl
    · rw [List.getElem?_toArray, hcs]; rfl
    · rw [List.getElem?_toArray, ← hd j (dynOf_lt hv)]; exact hv
    · simpa using hlen
    · rw [List.getElem?_toArray, hcs]; rfl
    · rw [List.getElem?_toArray, hcs]; rfl
    · rw [List.getElem?_toArray, hcs, List.length_map]; rfl
    · rw [List.getElem?_toArray, hcs, List.length_map]; rfl
    · rw [List.getElem?_toArray, hcs, List.length_map]; rfl
    · simpa using hlen
    · rw [List.length_map]; exact g48.2.1
    · rw [List.length_map]; exact g49.2.1
    · exact hlook W A53 A2 A45 c53 c2 c45 (dynOf cs) (RW.up ⟨g53, l53, g2, l2, g45, l45⟩ hW) (dynOf_size hlen) d3 d25
  cases er with
  | some c =>
    refine ⟨(0, some c), fun w cs hK => ?_⟩
    obtain ⟨eb, e0, e1, e2, es, hp, _, hl⟩ := hlk w cs hK
    exact in_err hp l c hl
  | none =>
    refine ⟨(inF (goodF x.f8.f0 x.f8.f1 (x.f8.f2.map dfOf) (x.f8.f3.map ndOf) (x.f7.map smOf) ver) l, none), fun w cs hK => ?_⟩
    obtain ⟨eb, e0, e1, e2, es, hp, hh, hl⟩ := hlk w cs hK
    exact in_ok hh hp l (fun y hy => by rw [List.length_map]; exact hin y hy) hl
theorem fRow_of {l : List S127} (hg : ∀ z ∈ l, goodB z = true) (n0 ver f0 : ByteArray) (hn : n0.size ≤ 9223372036854775807) : ∃ R : Res, ∀ (w : World) (A : Option Addr), Kd.C k127 w A l.length l → FRow w A l.length #[.string n0, .string ver, .string f0] R := by
  have hex : ∀ j : Nat, ∃ r : Int × Option Int, ∀ hj : j < l.length, ∀ (w : World) (cs : List Value), k127.K w l[j] cs → Calls Try.prog 48 #[.agg cs.toArray, .agg #[.string n0, .string ver, .string f0]] w fun e w' => e = .returned (.tuple #[.int .i64 r.1, eW r.2]) ∧ Below w.heap.size w w' := by
    intro j
    by_cases hj : j < l.length
    · obtain ⟨r, hr⟩ := in_any l[j] (hg _ (List.getElem_mem hj)) n0 ver f0 hn
      exact ⟨r, fun _ => hr⟩
    · exact ⟨(0, none), fun h => absurd h hj⟩
  refine ⟨fun j => Classical.choose (hex j), fun w A hC j hj => ?_⟩
  have hr := Classical.choose_spec (hex j) hj
  obtain ⟨ad, cs, e, hl, hK, hc⟩ := Kd.C_get hC z127 (j : Int) (by omega) (by omega)
  have hj' : l.getD (j : Int).toNat z127 = l[j] := by simp [hj]
  rw [hj'] at hK
  refine ⟨ad, cs, e, hl, fun k v hv => ?_, fun W hW => hr W cs (k127.K_below hW hK)⟩
  rw [Addr.add_add]
  exact hc k v hv
theorem ite_ex {α : Type} {c : Prop} [Decidable c] {a b : Option α} (ha : ∃ r, a = some r) (hb : ∃ r, b = some r) : ∃ r, (if c then a else b) = some r := by
  split
  · exact ha
  · exact hb
theorem further_some (e : Option Int) : ∃ r, shacklelaw00_further.f e = some r := by
  unfold shacklelaw00_further.f
  repeat' (first | with_reducible refine ite_ex ?_ ?_ | exact ⟨_, rfl⟩)
theorem code_some (e : Option Int) : ∃ r, shacklelaw00_Code.f e = some r := by
  obtain ⟨r, hr⟩ := further_some (some (e.getD 0))
  unfold shacklelaw00_Code.f
  rw [hr]
  repeat' (first | with_reducible refine ite_ex ?_ ?_ | exact ⟨_, rfl⟩)
end Go.Proofs.Ythopdoamajjojaa.BindF
