import Derived.Test.YthopdoamajjojaaWWords
import Derived.Great.BuildSlice
namespace Go.Proofs.YthopdoamajjojaaW.PrintWords
open Go.RowKit
section
variable {P : Program} {ops : Array Oper} {rest : List Oper} {o o2 : Oper} {a : Act} {Q : Exit → Act → World → Prop} {W : World}
theorem box_event2 (hgd : o.guard = none) {N : Tmp} (hd : o.dst = some N) {cs zs : Array Value} {t : TypeId} {v : Operand}
    (hrun : (execOp a.eval o).run P W = .ok (.value (.pointer (some ⟨W.heap.size, 0, none⟩))) (W.alloc (.cells zs t (0, 0))))
    (hg2 : o2.guard = none) (hd2 : o2.dst = none) (ho2 : o2.op = .store t (.tmp N) v)
    (hx : ∀ p, (a.put (some N) p).eval (.tmp N) = p) (hv : ∀ p, (a.put (some N) p).eval v = .agg cs)
    (hi : (P.info? t).map (·.size) = some cs.size) (hz : zs.size = cs.size) (h1 : cs.all (·.oneCell') = true)
    (h : ∀ g, g = W.heap.size → ∀ w1, w1.heap[g]? = some (.cells cs t (0, 0)) → Below W.heap.size W w1 → wpList P ops Q rest (a.put o.dst (.pointer (some ⟨g, 0, none⟩))) w1) :
    wpList P ops Q (o :: o2 :: rest) a W := by
  refine Kd.event_run hgd hrun ?_
  have hnew : (W.alloc (.cells zs t (0, 0))).heap[W.heap.size]? = some (.cells zs t (0, 0)) := blk_new W _
  rw [hd]
  refine wpList_store_rowTo hg2 t (.tmp N) v ho2 hd2 W.heap.size cs (hx _) (hv _) t zs hnew hi hz h1 ?_
  have hk := h W.heap.size rfl ((W.alloc (.cells zs t (0, 0))).setRow W.heap.size cs) (setRow_heap _ _ _ _ _ _ hnew) ?_
  · rw [hd] at hk; exact hk
  · have hb : Below W.heap.size W (W.alloc (.cells zs t (0, 0))) := below_alloc (Below.refl _ _) _
    refine ⟨hb.os, hb.tape, hb.output, ?_, fun k hk => ?_⟩
    · simp [World.setRow]
    · rw [setRow_other _ _ _ _ (Nat.ne_of_lt hk)]; exact hb.block k hk
theorem wpList_buildAt {dst : Option Tmp} {t ty : TypeId} {pos : String} {after} {w : World} (parts : Array (Nat × Operand)) (cells : Array Value) (hf : P.built t (parts.map fun (i, x) => (i, a.eval x)).toList = some cells)
    (h : wpList P ops Q rest (a.put dst (.agg cells)) w) : wpList P ops Q (⟨dst, .build t parts, ty, pos, after, none⟩ :: rest) a w :=
  wpList_buildTo rfl t parts rfl dst rfl cells hf h
end
end Go.Proofs.YthopdoamajjojaaW.PrintWords
