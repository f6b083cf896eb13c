import Derived.Test.YthopdoamajjojaaQVersx0
import Derived.Maps.OwnOps
import Derived.Maps.Views
namespace Go.Proofs.Ythopdoamajjojaa.VersS
open Go Go.RowKit Go.Maps
def setD : List Int → DataW Unit
  | [] => .map []
  | x :: T => (setD T).put (.int .i64 x) (.lit (.bool true))
def MapSet (w : World) (m : Nat) (T : List Int) : Prop := w.ownsMap Try.prog 3 (plainElem Try.prog 4) m T.length (setD T)
theorem keyed3 : Keyed Try.prog 3 := int_keyed Try.underlying3
theorem isMap_setD : ∀ T, IsMap (setD T)
  | [] => ⟨_, rfl⟩
  | x :: T => by
    obtain ⟨es, h⟩ := isMap_setD T
    rw [setD, h]
    exact ⟨_, rfl⟩
theorem at_setD (x : Int) : ∀ T, (setD T).atKey (.int .i64 x) (.lit (.bool false)) = .lit (.bool (decide (x ∈ T)))
  | [] => rfl
  | y :: T => by
    by_cases h : x = y
    · subst h
      rw [setD, atKey_put_same (isMap_setD T) (show WideAt.IsKeyLit (.int .i64 x) from trivial), decide_eq_true (List.mem_cons_self)]
    · rw [setD, atKey_put_other (by intro e; injection e with _ e; exact h e), at_setD x T]
      have e : (x ∈ y :: T) ↔ x ∈ T := by simp [h]
      simp only [e]
theorem MapSet.made (w : World) : MapSet (w.alloc (.map #[] 0)) w.heap.size [] := World.ownsMap_made w _ _ _
theorem MapSet.below {w w' : World} {m : Nat} {T : List Int} (h : MapSet w m T) (hb : Below w.heap.size w w') : MapSet w' m T := by
  have hlt := World.ownsMap.lt h
  obtain ⟨es, clock, hb', r⟩ := h
  exact ⟨es, clock, (hb.block m hlt).trans hb', r⟩
theorem MapSet.lt {w : World} {m : Nat} {T : List Int} (h : MapSet w m T) : m < w.heap.size := World.ownsMap.lt h
theorem MapSet.keep {w w' : World} {m : Nat} {T : List Int} (h : MapSet w m T) (hk : w'.heap[m]? = w.heap[m]?) : MapSet w' m T := by
  obtain ⟨es, clock, hb', r⟩ := h
  exact ⟨es, clock, hk.trans hb', r⟩
theorem MapSet.ne {w : World} {m : Nat} {T : List Int} (h : MapSet w m T) {g : Nat} {cells : Array Value} {t : Nat} (hg : w.heap[g]? = some (.cells cells t (0, 0))) : g ≠ m := by
  obtain ⟨es, clock, hb', r⟩ := h
  rintro rfl
  rw [hg] at hb'
  cases hb'
theorem plainElem_bool_inv {e : TypeId} (he : Try.prog.underlying e = some .bool) {v : Value} {z : DataW Unit × List MemPlace} (h : plainElem Try.prog e v = some z) : ∃ x, v = .bool x ∧ z = (.lit (.bool x), []) := by
  unfold plainElem at h
  rw [he] at h
  cases v <;> simp at h
  subst h
  exact ⟨_, rfl, rfl⟩
theorem zero4 (w : World) : (zeroValue 4).run Try.prog w = .ok (.bool false) w := by kernel_rfl
theorem look_set {w : World} {m : Nat} {T : List Int} (h : MapSet w m T) (x : Int) (hx : (Lit.int .i64 x).wf = true) : (Instr.lookup 102 (.map (some m)) (.int .i64 x) false).run Try.prog w = .ok (.bool (decide (x ∈ T))) w := by
  obtain ⟨v, ps, hrun, hv⟩ := World.ownsMap.lookup h keyed3 Try.underlying102 (zero4 w) (plainElem_bool Try.underlying4 false) (keyOf_int_mk Try.underlying3 hx)
  rw [at_setD] at hv
  obtain ⟨b, rfl, hb⟩ := plainElem_bool_inv Try.underlying4 hv
  have hb1 : (DataW.lit (.bool (decide (x ∈ T))) : DataW Unit) = .lit (.bool b) := congrArg (fun z => z.1) hb
  have hb2 : decide (x ∈ T) = b := by cases b <;> cases h3 : decide (x ∈ T) <;> first | rfl | (rw [h3] at hb1; cases hb1)
  rw [hb2]
  exact hrun
theorem wpList_update_set {ops : Array Oper} {rest : List Oper} {o : Oper} {a : Act} {w : World} {Q : Exit → Act → World → Prop} (hgd : o.guard = none) (mo xo vo : Operand) (hop : o.op = Op.mapUpdate 102 mo xo vo) {m : Nat} {T : List Int} (hs : MapSet w m T) (hT : T.length ≤ 1000000) (x : Int) (hx : (Lit.int .i64 x).wf = true)
    (hm : a.eval mo = .map (some m)) (hxo : a.eval xo = .int .i64 x) (hvo : a.eval vo = .bool true) (h : ∀ w', MapSet w' m (x :: T) → w.grownBy w' (some m) → wpList Try.prog ops Q rest (a.put o.dst undef) w') : wpList Try.prog ops Q (o :: rest) a w :=
  wpList_mapUpdate_own w hgd mo xo vo 102 hop 3 4 keyed3 Try.underlying102 (plainElem Try.prog 4) m T.length (setD T) hm hs (by unfold maxLen; omega) _ _ _ hxo hvo (keyOf_int_mk Try.underlying3 hx) _ [] (plainElem_bool Try.underlying4 true) h
end Go.Proofs.Ythopdoamajjojaa.VersS
