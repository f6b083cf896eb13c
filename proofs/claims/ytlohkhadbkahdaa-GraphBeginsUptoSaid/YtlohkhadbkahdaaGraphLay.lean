/- The closure of graph.Scope: it lays those numbers of a list that are objects and were not met behind a row, and marks them. Conditions: the rows it captured are the call's own. -/
import Derived.Test.YtlohkhadbkahdaaProg
import Derived.Below
import Derived.Deep.Draws
import Derived.Deep.AppendLies
import Derived.Maps.AppendAt
import Derived.OwnWalk
import Derived.Laws.BytesArg
import Derived.Laws.MakeOwn
import Derived.Laws.OwnMore
import Derived.Deep.OwnRows
import Derived.Tactics
import Derived.Lib.ConvBytes
import Derived.Laws.Slices
import Derived.WalkKit
import Derived.KernelRfl
import Derived.RowKit3
import Derived.Deep.LoopGhost
import Derived.Deep.QuietTactic
import Derived.BigQuiet
import Derived.WideLaws
import Derived.Deep.DeepCutAuto
import Derived.Deep.CutBlock
import Derived.Deep.RegionHeld3
import Derived.Laws.Rows
import Derived.Lib.AppendStr
import Derived.ArgAppend
import Derived.Laws.IdiomCopy
import Derived.OrdersHeld
import Derived.Laws.BitsLemmas
import Derived.RowKit
import Derived.Shelf.Bytes.SlIndexAt
import Derived.Lib.Hide
import Derived.LaidEql
import Derived.Lib.SlBytesConst
import Derived.Test.YtlohkhadbkahdaaKinds
import Derived.Test.YtlohkhadbkahdaaBoxes
import Derived.Test.YtlohkhadbkahdaaWWords
import Derived.Test.YtlohkhadbkahdaaWLast
import Derived.Test.YtlohkhadbkahdaaWTab
import Derived.Test.YtlohkhadbkahdaaWFour
import Derived.Test.YtlohkhadbkahdaaWQPut
import Derived.Test.YtlohkhadbkahdaaWApart
import Derived.Test.YtlohkhadbkahdaaWArr
import Derived.Test.YtlohkhadbkahdaaWZeros
import Derived.Test.YtlohkhadbkahdaaWFoot
import Derived.Test.YtlohkhadbkahdaaWKept
import Derived.Test.YtlohkhadbkahdaaWShare
import Derived.Test.YtlohkhadbkahdaaWN
import Derived.Test.YtlohkhadbkahdaaWFootNe
import Derived.Test.YtlohkhadbkahdaaWAt
import Derived.Test.YtlohkhadbkahdaaWEqStruct
import Derived.Test.YtlohkhadbkahdaaWRepsOne
import Derived.Test.YtlohkhadbkahdaaWInv
import Derived.Test.YtlohkhadbkahdaaWInvWords
import Derived.Test.YtlohkhadbkahdaaWGuard
import Derived.Test.YtlohkhadbkahdaaWNEv
import Derived.Test.YtlohkhadbkahdaaWMore
import Derived.OneCell
namespace Go.Proofs.Ytlohkhadbkahdaa.GraphS
open Go Go.RowKit Go.Proofs.YtlohkhadbkahdaaW.PrintWords Go.Proofs.YtlohkhadbkahdaaW.PrintLast Go.Proofs.YtlohkhadbkahdaaW.PrintMore

theorem info3 : (Try.prog.info? 3).map (fun i => (i.zero, i.size, i.bytes)) = some (some (.int .i64 0), 1, 8) := by kernel_rfl
theorem info4 : (Try.prog.info? 4).map (fun i => (i.zero, i.size, i.bytes)) = some (some (.bool false), 1, 1) := by kernel_rfl
/-- The numbers of a list that are objects and were not met: marked, and laid behind. -/
def layF (n : Int) : List Int → List Bool → List Int → List Bool × List Int
  | [], had, out => (had, out)
  | x :: l, had, out => if 0 ≤ x ∧ x < n ∧ rdOf false had x = false then layF n l (had.set x.toNat true) (out ++ [x]) else layF n l had out

theorem drop_rd {l : List Int} {i : Int} (h0 : 0 ≤ i) (h1 : i < l.length) : l.drop i.toNat = rd l i :: l.drop (i + 1).toNat := by
  obtain ⟨j, rfl⟩ := Int.eq_ofNat_of_zero_le h0
  have hj : j < l.length := by omega
  rw [show ((j : Int) + 1).toNat = j + 1 by omega, Int.toNat_natCast, List.drop_eq_getElem_cons hj]
  simp [rd, hj]
theorem layF_hit {n i : Int} {l : List Int} {had : List Bool} {out : List Int} (h0 : 0 ≤ i) (h1 : i < l.length) (ha : 0 ≤ rd l i) (hb : rd l i < n) (hc : rdOf false had (rd l i) = false) :
    layF n (l.drop i.toNat) had out = layF n (l.drop (i + 1).toNat) (had.set (rd l i).toNat true) (out ++ [rd l i]) := by
  rw [drop_rd h0 h1, layF, if_pos ⟨ha, hb, hc⟩]
theorem layF_miss {n i : Int} {l : List Int} {had : List Bool} {out : List Int} (h0 : 0 ≤ i) (h1 : i < l.length) (hc : ¬ (0 ≤ rd l i ∧ rd l i < n ∧ rdOf false had (rd l i) = false)) :
    layF n (l.drop i.toNat) had out = layF n (l.drop (i + 1).toNat) had out := by
  rw [drop_rd h0 h1, layF, if_neg hc]
theorem layF_len (n : Int) : ∀ (l : List Int) (had : List Bool) (out : List Int), (layF n l had out).1.length = had.length := by
  intro l
  induction l with
  | nil => intro had out; rfl
  | cons x l ih =>
    intro had out
    unfold layF
    split
    · rw [ih]; simp
    · exact ih _ _
theorem count_set {had : List Bool} {x : Int} (h0 : 0 ≤ x) (h1 : x < had.length) (h : rdOf false had x = false) : (had.set x.toNat true).count true = had.count true + 1 := by
  obtain ⟨j, rfl⟩ := Int.eq_ofNat_of_zero_le h0
  have hj : j < had.length := by omega
  have he : had[j] = false := by simpa [rdOf, hj] using h
  rw [Int.toNat_natCast, List.count_set hj]
  simp [he]
/-- As many are laid as are marked. -/
theorem layF_count (n : Int) : ∀ (l : List Int) (had : List Bool) (out : List Int), n = had.length → out.length = had.count true → (layF n l had out).2.length = (layF n l had out).1.count true := by
  intro l
  induction l with
  | nil => intro had out _ h; exact h
  | cons x l ih =>
    intro had out hn h
    unfold layF
    split
    · rename_i hc
      refine ih _ _ (by simpa using hn) ?_
      rw [count_set hc.1 (by rw [← hn]; exact hc.2.1) hc.2.2, List.length_append, h]; rfl
    · exact ih _ _ hn h

theorem layF_grow (n : Int) : ∀ (l : List Int) (had : List Bool) (out : List Int), out.length ≤ (layF n l had out).2.length := by
  intro l
  induction l with
  | nil => intro had out; exact Nat.le_refl _
  | cons x l ih =>
    intro had out
    unfold layF
    split
    · exact Nat.le_trans (by simp) (ih _ _)
    · exact ih _ _
/-- What is laid are objects. -/
theorem layF_mem (n : Int) : ∀ (l : List Int) (had : List Bool) (out : List Int), (∀ y ∈ out, 0 ≤ y ∧ y < n) → ∀ y ∈ (layF n l had out).2, 0 ≤ y ∧ y < n := by
  intro l
  induction l with
  | nil => intro had out h; exact h
  | cons x l ih =>
    intro had out h
    unfold layF
    split
    · rename_i hc
      refine ih _ _ ?_
      intro y hy
      rcases List.mem_append.1 hy with hy | hy
      · exact h y hy
      · rw [List.mem_singleton] at hy; subst hy; exact ⟨hc.1, hc.2.1⟩
    · exact ih _ _ h
/-- What is reached, by breadth: from the i-th on that was laid. -/
def scopeL (deps : List (List Int)) : Nat → Int → List Bool → List Int → List Int
  | 0, _, _, out => out
  | f + 1, i, had, out => if i < (out.length : Int) then scopeL deps f (i + 1) (layF deps.length (deps.getD (rd out i).toNat []) had out).1 (layF deps.length (deps.getD (rd out i).toNat []) had out).2 else out
def scopeF (deps : List (List Int)) (roots : List Int) : List Int :=
  scopeL deps (deps.length + 1) 0 (layF deps.length roots (List.replicate deps.length false) []).1 (layF deps.length roots (List.replicate deps.length false) []).2
/-- graph.Scope, where there are no more objects than fit into memory. -/
def scopeO (deps : List (List Int)) (roots : List Int) : Option (List Int) := if deps.length ≤ 2199023255552 then some (scopeF deps roots) else none
/-- The captured variables: three blocks of one cell, and the rows of two of them. -/
structure Parts (w0 : World) (bd bh bo : Nat) (vd vh vo : Value) (had : List Bool) (out : List Int) (w : World) : Prop where
  hB : Below w0.heap.size w0 w
  d : w.heap[bd]? = some (.cells #[vd] 41 (0, 0))
  h : w.heap[bh]? = some (.cells #[vh] 47 (0, 0))
  o : w.heap[bo]? = some (.cells #[vo] 42 (0, 0))
  rh : Kd.R Kd.bool 4 w w0.heap.size (fun _ => True) vh had
  ro : Kd.R (Kd.int .i64) 3 w w0.heap.size (fun _ => True) vo out
  gd : w0.heap.size ≤ bd
  gh : w0.heap.size ≤ bh
  go : w0.heap.size ≤ bo
theorem blk_ne {w : World} {a b : Nat} {c1 c2 : Array Value} {t1 t2 : TypeId} (h1 : w.heap[a]? = some (.cells c1 t1 (0, 0))) (h2 : w.heap[b]? = some (.cells c2 t2 (0, 0))) (hne : t1 ≠ t2) : a ≠ b := by
  rintro rfl
  rw [h1] at h2
  injection h2 with h2
  injection h2 with _ h2
  exact hne h2
theorem blk_grown {w w1 : World} {b : Nat} {cs : Array Value} {t e : TypeId} {row : Option Nat} (h : w.heap[b]? = some (.cells cs t (0, 0))) (hg : w.grownBy w1 row) (hty : ∀ k, row = some k → ∃ cells, w.heap[k]? = some (.cells cells e (0, 0))) (hne : t ≠ e) : w1.heap[b]? = some (.cells cs t (0, 0)) := by
  refine (hg.block b (lt_of_block h) ?_).trans h
  intro he
  obtain ⟨cells, hc⟩ := hty b he.symm
  exact blk_ne h hc hne rfl
section
variable {w0 w w1 : World} {bd bh bo : Nat} {vd vh vo v1 : Value} {had : List Bool} {out : List Int} {x : Int}
theorem Parts.drewN (h : Parts w0 bd bh bo vd vh vo had out w) (m : Nat) : Parts w0 bd bh bo vd vh vo had out (w.drewN m) :=
  ⟨pw_below_drewN h.hB m, h.d, h.h, h.o, Kd.R_drewN h.rh m, Kd.R_drewN h.ro m, h.gd, h.gh, h.go⟩
theorem Parts.put {g cap : Nat} (h : Parts w0 bd bh bo vd (.slice (some ⟨g, 0, none⟩) had.length cap) vo had out w) (hg0 : w0.heap.size ≤ g) (hG : ∃ cells, w.heap[g]? = some (.cells cells 4 (0, 0))) :
    Parts w0 bd bh bo vd (.slice (some ⟨g, 0, none⟩) had.length cap) vo (had.set x.toNat true) out (w.setCell ⟨g, x.toNat, none⟩ (.bool true)) := by
  obtain ⟨hp, hg⟩ := Kd.R_putg h.rh x true
  have hty : ∀ k, some g = some k → ∃ cells, w.heap[k]? = some (.cells cells 4 (0, 0)) := fun k hk => by injection hk with hk; subst hk; exact hG
  refine ⟨below_set h.hB hg0, blk_grown h.d hg hty (by decide), blk_grown h.h hg hty (by decide), blk_grown h.o hg hty (by decide), hp, ?_, h.gd, h.gh, h.go⟩
  exact Kd.R_over' (v := .slice (some ⟨g, 0, none⟩) had.length cap) h.ro (Kd.R_typed h.rh) (by decide) hg
theorem Parts.app (h : Parts w0 bd bh bo vd vh vo had out w) (hb : Below w0.heap.size w0 w1) (ho : Kd.R (Kd.int .i64) 3 w1 w0.heap.size (fun _ => True) v1 (out ++ [x])) (hg : w.grownBy w1 vo.ownBlock) :
    w1.heap[bo]? = some (.cells #[vo] 42 (0, 0)) ∧ Parts w0 bd bh bo vd vh v1 had (out ++ [x]) (w1.setCell ⟨bo, 0, none⟩ v1) := by
  have hty := Kd.R_typed h.ro
  have o1 := blk_grown h.o hg hty (by decide)
  have d1 := blk_grown h.d hg hty (by decide)
  have h1 := blk_grown h.h hg hty (by decide)
  have r1 : Kd.R Kd.bool 4 w1 w0.heap.size (fun _ => True) vh had := Kd.R_over' h.rh hty (by decide) hg
  refine ⟨o1, below_set hb h.go, ?_, ?_, one_setCell o1, Kd.R_set r1 o1 (by decide) 0 v1, Kd.R_set ho o1 (by decide) 0 v1, h.gd, h.gh, h.go⟩
  · rw [Below.heap_setCell _ _ _ _ (blk_ne d1 o1 (by decide))]; exact d1
  · rw [Below.heap_setCell _ _ _ _ (blk_ne h1 o1 (by decide))]; exact h1
end
theorem in_yes (x n : Int) (w : World) (h0 : 0 ≤ x) (h1 : x < n) : Calls Try.prog 42 #[.int .i64 x, .int .i64 n] w fun e w' => e = .returned (.bool true) ∧ w' = w := by
  go_enter Try.func42, Try.ntmps42
  go_wp2
  go_ret
  exact ⟨rfl, rfl⟩
theorem in_no (x n : Int) (w : World) (h : ¬ (0 ≤ x ∧ x < n)) : Calls Try.prog 42 #[.int .i64 x, .int .i64 n] w fun e w' => e = .returned (.bool false) ∧ w' = w := by
  by_cases h0 : 0 ≤ x
  · have h1 : ¬ x < n := fun h1 => h ⟨h0, h1⟩
    clear h
    have hd : decide (x < n) = false := decide_eq_false h1
    clear h1
    go_enter Try.func42, Try.ntmps42
    go_wp2
    go_ret
    exact ⟨rfl, rfl⟩
  · clear h
    have hd : decide (0 ≤ x) = false := decide_eq_false h0
    clear h0
    go_enter Try.func42, Try.ntmps42
    go_wp2
    go_ret
    exact ⟨rfl, rfl⟩
end Go.Proofs.Ytlohkhadbkahdaa.GraphS
