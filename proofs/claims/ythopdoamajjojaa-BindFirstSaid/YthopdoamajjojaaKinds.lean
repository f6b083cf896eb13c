import Derived.Test.YthopdoamajjojaaWMore
namespace Go.Proofs.YthopdoamajjojaaW.PrintWords
open Go.RowKit
namespace Kd
section
variable {P : Program} {ops : Array Oper} {rest : List Oper} {o : Oper} {a : Act} {Q : Exit → Act → World → Prop} {α : Type} {Kc : Act → World → Prop}
theorem R_makeK (kk : IntKind) (d : Kd α) {w0 W : World} (base e : Nat) (hgd : o.guard = none) {N : Tmp} (hd : o.dst = some N) (t : TypeId) (x y : Operand) (ho : o.op = .makeSlice t x y) (n : Int) (hx : a.eval x = .int kk n) (hy : a.eval y = .int kk n)
    (ht : P.underlying t = some (.slice e)) (z : Value) (bytes : Nat) (hinfo : (P.info? e).map (fun i => (i.zero, i.size, i.bytes)) = some (some z, d.sz, bytes)) (hz : z.cells.size = d.sz) (hs0 : 0 < d.sz) (hb0 : 0 < bytes)
    (z0 : α) {ok okp : Nat → Prop} (hzero : d.M W base okp z0 z.cells.toList) (hok : ∀ k, okp k → ok k) (hfresh : ok W.heap.size) (h0 : 0 ≤ n) (hl : n.toNat * bytes ≤ 281474976710656) (HB : Below base w0 W) (hbase : base ≤ W.heap.size)
    (h : ∀ v1 w1, d.R e w1 base ok v1 (List.replicate n.toNat z0) → Below base w0 w1 → W.grownBy w1 none → (∃ b, v1.ownBlock = some b ∧ W.heap.size ≤ b) → wpList P ops Q rest (a.put o.dst v1) w1) : wpList P ops Q (o :: rest) a W := by
  obtain ⟨m, rfl⟩ := Int.eq_ofNat_of_zero_le h0
  simp only [Int.toNat_natCast] at hl h
  obtain ⟨i0, hi, hzz⟩ := Option.map_eq_some_iff.1 hinfo
  simp only [Prod.mk.injEq] at hzz
  obtain ⟨hz0, hz1, hz2⟩ := hzz
  have hm : m ≤ 281474976710656 := Nat.le_trans (Nat.le_mul_of_pos_right _ hb0) hl
  have hr := run_make (P := P) W t e i0 z ht hi hz0 kk kk (m : Int) (m : Int) (by omega) (by omega)
    (by
      have h3 : ((i0.bytes * m : Nat) : Int) ≤ 281474976710656 := by rw [hz2, Nat.mul_comm]; omega
      rwa [Int.natCast_mul] at h3) (by omega)
  simp only [Int.toNat_natCast] at hr
  rw [hz1] at hr
  refine R_lit d base e hgd hd (xs := List.replicate m z0) (inner := (madeCells z.cells (m * d.sz)).toList) (okp := okp) (ok := ok) ?_ (reps_made hz hs0 hzero m) hok hfresh HB hbase (by simp; omega) h
  simp [execOp, ho, hx, hy, hr]
end
theorem V_own_blk {α : Type} {d : Kd α} {e base n c g : Nat} {ok : Nat → Prop} {W : World} {ad : Addr} {xs : List α} (z : α) (hd : ∀ w, ¬ d.K w (xs.getD 0 z) [.nilIface]) (hsz : d.sz = 1) (h : V d e W base ok (.slice (some ad) n c) xs) (hn : 0 < xs.length) (hok : ∀ k, ok k → k ≠ g) : ad.block ≠ g := by
  rintro rfl
  obtain ⟨ad', cs, e1, hl, hk, hcell⟩ := C_get (V_reads' h).2.2 z 0 (by omega) (by omega)
  obtain ⟨ad2, cs2, e2, hl2, hk2, hcell2⟩ := C_get (V_reads' (V_far (p := ad) h hok .nilIface)).2.2 z 0 (by omega) (by omega)
  injection e1 with e1
  injection e2 with e2
  subst e1
  subst e2
  rw [hsz] at hl hl2 hcell hcell2
  obtain ⟨x, rfl⟩ := List.length_eq_one_iff.1 hl
  obtain ⟨y, rfl⟩ := List.length_eq_one_iff.1 hl2
  have h1 := hcell 0 x rfl
  have h2 := hcell2 0 y rfl
  simp only [Int.toNat_zero, Nat.zero_mul, Nat.add_zero, Addr.add_zero'] at h1 h2
  rw [World.cell?_setCell_same' W ad .nilIface (by rw [h1]; rfl)] at h2
  injection h2 with h2
  subst h2
  exact hd _ hk2
theorem V_own_int {k : IntKind} {e base n c g : Nat} {ok : Nat → Prop} {W : World} {ad : Addr} {xs : List Int} (h : V (Kd.int k) e W base ok (.slice (some ad) n c) xs) (hn : 0 < xs.length) (hok : ∀ k, ok k → k ≠ g) : ad.block ≠ g :=
  V_own_blk 0 (fun _ hk => by cases hk) rfl h hn hok
end Kd
end Go.Proofs.YthopdoamajjojaaW.PrintWords
