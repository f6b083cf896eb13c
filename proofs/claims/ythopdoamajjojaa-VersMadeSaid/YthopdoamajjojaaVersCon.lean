import Derived.Test.YthopdoamajjojaaVersSpec
import Derived.Test.YthopdoamajjojaaVersMap
import Derived.Test.YthopdoamajjojaaHashBits
import Derived.StillTailTactics
namespace Go.Proofs.Ythopdoamajjojaa.VersS
open Go Go.RowKit Go.Proofs.Ythopdoamajjojaa.QVers Go.Proofs.Ythopdoamajjojaa.VersSpec Go.Proofs.YthopdoamajjojaaW.PrintWords Go.Proofs.YthopdoamajjojaaW.PrintLast Go.Proofs.YthopdoamajjojaaW.PrintMore
open TextFacts (textS u64_in)
def sstep (h b : Int) : Int := Go.bits .andNot .u32 (Go.bits .xor .u32 ((((h * 16) % 4294967296) + (b % 4294967296)) % 4294967296) ((Go.bits .and .u32 ((((h * 16) % 4294967296) + (b % 4294967296)) % 4294967296) 4026531840) / 16777216)) (Go.bits .and .u32 ((((h * 16) % 4294967296) + (b % 4294967296)) % 4294967296) 4026531840)
def sysv (s : ByteArray) : Int := (bytesOf s).foldl sstep 0
theorem sysv_ends (s : ByteArray) (hn : s.size ≤ 9223372036854775807) (d : Nat) : ∀ (k : Nat) (i h : Int), 0 ≤ i → i ≤ s.size → (s.size : Int) - i = d → d < k →
    hash_Sysv.l0 k s h (s.size : Int) i = some (((bytesOf s).drop i.toNat).foldl sstep h) := by
  induction d with
  | zero =>
    intro k i h h0 h1 hd hk
    obtain ⟨k, rfl⟩ : ∃ m, k = m + 1 := ⟨k - 1, by omega⟩
    have hl := bytesOf_length s
    simp only [hash_Sysv.l0]; rw [if_neg (by omega), List.drop_eq_nil_of_le (by omega)]; rfl
  | succ d ih =>
    intro k i h h0 h1 hd hk
    obtain ⟨k, rfl⟩ : ∃ m, k = m + 1 := ⟨k - 1, by omega⟩
    have hl := bytesOf_length s
    have hlt : i.toNat < (bytesOf s).length := by omega
    simp only [hash_Sysv.l0]
    rw [if_pos (by omega), if_pos h0, if_pos (by omega), w64 (i + 1) (by omega) (by omega)]
    rw [ih k (i + 1) _ (by omega) (by omega) (by omega) (by omega)]
    rw [List.drop_eq_getElem_cons hlt, List.foldl_cons, show (i + 1).toNat = i.toNat + 1 by omega]
    have e : bt s i = (bytesOf s)[i.toNat] := by
      rw [← rd_bytesOf, rd, List.getD_eq_getElem?_getD, List.getElem?_eq_getElem hlt]; rfl
    rw [e]; rfl
theorem sysv_ev (s : ByteArray) (hn : s.size ≤ 9223372036854775807) : Ev (fun k => hash_Sysv.f k s) (sysv s) :=
  ⟨s.size + 1, fun k hk => by show hash_Sysv.f k s = _; unfold hash_Sysv.f; rw [sysv_ends s hn s.size k 0 0 (by omega) (by omega) (by omega) hk]; rfl⟩
theorem sstep_in (h b : Int) : 0 ≤ sstep h b ∧ sstep h b < 268435456 := by
  unfold sstep
  obtain ⟨v, hv⟩ : ∃ v : Nat, (((h * 16) % 4294967296) + (b % 4294967296)) % 4294967296 = (v : Int) := ⟨((((h * 16) % 4294967296) + (b % 4294967296)) % 4294967296).toNat, by omega⟩
  have hlt : v < 4294967296 := by omega
  rw [hv]
  exact ⟨(HashBits.sysv_lt v hlt).2, (HashBits.sysv_lt v hlt).1⟩
theorem sysv_in (s : ByteArray) : 0 ≤ sysv s ∧ sysv s < 268435456 := by
  unfold sysv
  have g : ∀ (l : List Int) (h : Int), 0 ≤ h → h < 268435456 → 0 ≤ l.foldl sstep h ∧ l.foldl sstep h < 268435456 := by
    intro l
    induction l with
    | nil => intro h h0 h1; exact ⟨h0, h1⟩
    | cons b l ih => intro h _ _; exact ih _ (sstep_in h b).1 (sstep_in h b).2
  exact g _ 0 (by omega) (by omega)
theorem number_calls (A : Option Addr) (c : Nat) (l : List Int) (w : World) (hC : Kd.C (Kd.int .u8) w A l.length l) (hc : l.length ≤ c) (h8 : ∀ x ∈ l, 0 ≤ x ∧ x ≤ 255) (hl : l.length ≤ 8) :
    Calls Try.prog 39 #[.slice A l.length c] w fun e w' => e = .returned (.int .u64 (num l)) ∧ ∃ n, w' = w.drewN n := by
  obtain ⟨k, hk⟩ := (number_f l h8 hl).rounds
  exact (vers_number.calls k A c l _ w hC hc hk).mono (by rintro e w' ⟨rfl, ⟨h⟩⟩; exact ⟨rfl, h⟩)
theorem text_calls (A : Option Addr) (c : Nat) (l : List Int) (a : Int) (w : World) (hC : Kd.C (Kd.int .u8) w A l.length l) (hc : l.length ≤ c) (h8 : ∀ x ∈ l, 0 ≤ x ∧ x ≤ 255) (hl : l.length ≤ 140737488351232) (ha : 0 ≤ a) :
    Calls Try.prog 59 #[.slice A l.length c, .int .u64 a] w fun e w' => e = .returned (.tuple #[.string (textS l a).1, errW (errOf (textS l a).2)]) ∧ ∃ n, w' = w.drewN n :=
  (syms_Text.calls A c l a _ _ w hC hc (text_f l a h8 hl ha)).mono (by rintro e w' ⟨rfl, ⟨h⟩⟩; exact ⟨rfl, h⟩)
theorem sysv_calls (s : ByteArray) (w : World) (hs : s.size ≤ 9223372036854775807) :
    Calls Try.prog 24 #[.string s] w fun e w' => e = .returned (.int .u32 (sysv s)) ∧ ∃ n, w' = w.drewN n := by
  obtain ⟨k, hk⟩ := (sysv_ev s hs).rounds
  exact (hash_Sysv.calls k s _ w hk).mono (by rintro e w' ⟨rfl, ⟨h⟩⟩; exact ⟨rfl, h⟩)
structure Rc where
  p : Nat
  m : Nat
  Ab : Option Addr
  cb : Nat
  b : List Int
  h0 : Int
  h1 : Int
  Ap : Option Addr
  cp : Nat
  ps : List S29
  As : Option Addr
  cs : Nat
  ss : List Int
structure Gd (r : Rc) : Prop where
  b8 : ∀ x ∈ r.b, 0 ≤ x ∧ x ≤ 255
  bl : r.b.length ≤ 9223372036854775807
  pl : r.ps.length ≤ 9223372036854775807
  po : ∀ p ∈ r.ps, okP p
  s8 : ∀ x ∈ r.ss, 0 ≤ x ∧ x ≤ 255
  sl : r.ss.length ≤ 140737488351232
structure Rdr (w0 : World) (r : Rc) (w : World) (T : List Int) : Prop where
  hb : Kd.C (Kd.int .u8) w0 r.Ab r.b.length r.b
  lb : r.b.length ≤ r.cb
  hp : Kd.C k29 w0 r.Ap r.ps.length r.ps
  lp : r.ps.length ≤ r.cp
  hs : Kd.C (Kd.int .u8) w0 r.As r.ss.length r.ss
  ls : r.ss.length ≤ r.cs
  box : w.heap[r.p]? = some (.cells #[.slice r.Ab r.b.length r.cb, .int .i64 r.h0, .int .u64 r.h1, .slice r.Ap r.ps.length r.cp, .slice r.As r.ss.length r.cs, .map (some r.m)] 104 (0, 0))
  p0 : w0.heap.size ≤ r.p
  m0 : w0.heap.size ≤ r.m
  hw : Below w0.heap.size w0 w
  map : MapSet w r.m T
theorem lt_of_block {w : World} {b : Nat} {o : Obj} (h : w.heap[b]? = some o) : b < w.heap.size := (Array.getElem?_eq_some_iff.1 h).1
namespace Rdr
variable {w0 w w1 : World} {r : Rc} {T : List Int}
theorem up (h : Rdr w0 r w T) (hb : Below w.heap.size w w1) : Rdr w0 r w1 T :=
  ⟨h.hb, h.lb, h.hp, h.lp, h.hs, h.ls, (hb.block _ (lt_of_block h.box)).trans h.box, h.p0, h.m0, ⟨hb.os.trans h.hw.os, hb.tape.trans h.hw.tape, hb.output.trans h.hw.output, Nat.le_trans h.hw.size hb.size, fun k hk => (hb.block k (Nat.lt_of_lt_of_le hk h.hw.size)).trans (h.hw.block k hk)⟩, h.map.below hb⟩
theorem told (h : Rdr w0 r w T) {T1 : List Int} (hm : MapSet w1 r.m T1) (hg : w.grownBy w1 (some r.m)) : Rdr w0 r w1 T1 :=
  ⟨h.hb, h.lb, h.hp, h.lp, h.hs, h.ls, (hg.block _ (lt_of_block h.box) (fun e => h.map.ne h.box (by injection e))).trans h.box, h.p0, h.m0, h.hw.grown hg h.hw.size (fun k e => by injection e with e; rw [← e]; exact h.m0), hm⟩
theorem drewN (h : Rdr w0 r w T) (n : Nat) : Rdr w0 r (w.drewN n) T := h.up (pw_below_drewN (Below.refl _ _) n)
theorem C_b (h : Rdr w0 r w T) : Kd.C (Kd.int .u8) w r.Ab r.b.length r.b := Kd.C_below h.hb h.hw
theorem C_p (h : Rdr w0 r w T) : Kd.C k29 w r.Ap r.ps.length r.ps := Kd.C_below h.hp h.hw
theorem C_s (h : Rdr w0 r w T) : Kd.C (Kd.int .u8) w r.As r.ss.length r.ss := Kd.C_below h.hs h.hw
theorem c0 (h : Rdr w0 r w T) : w.cell? ⟨r.p, 0, none⟩ = some (.slice r.Ab r.b.length r.cb) := (cell_of_row w r.p 0 _ _ _ h.box).trans rfl
theorem c1 (h : Rdr w0 r w T) : w.cell? ⟨r.p, 1, none⟩ = some (.int .i64 r.h0) := (cell_of_row w r.p 1 _ _ _ h.box).trans rfl
theorem c2 (h : Rdr w0 r w T) : w.cell? ⟨r.p, 2, none⟩ = some (.int .u64 r.h1) := (cell_of_row w r.p 2 _ _ _ h.box).trans rfl
theorem c3 (h : Rdr w0 r w T) : w.cell? ⟨r.p, 3, none⟩ = some (.slice r.Ap r.ps.length r.cp) := (cell_of_row w r.p 3 _ _ _ h.box).trans rfl
theorem c4 (h : Rdr w0 r w T) : w.cell? ⟨r.p, 4, none⟩ = some (.slice r.As r.ss.length r.cs) := (cell_of_row w r.p 4 _ _ _ h.box).trans rfl
theorem c5 (h : Rdr w0 r w T) : w.cell? ⟨r.p, 5, none⟩ = some (.map (some r.m)) := (cell_of_row w r.p 5 _ _ _ h.box).trans rfl
end Rdr
theorem slice_calls {w0 w : World} {r : Rc} {T : List Int} (h : Rdr w0 r w T) (G : Gd r) (a n : Int) (ha : 0 ≤ a ∧ a ≤ 18446744073709551615) (hn : 0 ≤ n) (hn2 : n ≤ 4294967296) :
    Calls Try.prog 36 #[.slice r.Ab r.b.length r.cb, .agg #[.int .i64 r.h0, .int .u64 r.h1, .slice r.Ap r.ps.length r.cp], .int .u64 a, .int .u64 n] w fun e w' => ∃ v0_ : Value, e = .returned (.tuple #[v0_, errW (slcR (slc r.b r.ps a n)).2]) ∧ Kd.V (Kd.int .u8) 5 w' w.heap.size (fun k_ => (w.heap.size ≤ k_)) v0_ (slcR (slc r.b r.ps a n)).1 ∧ Below w.heap.size w w' := by
  obtain ⟨k, hk⟩ := (slice_ev r.b r.ps r.h0 r.h1 a n G.bl G.pl G.po ha hn hn2).rounds
  exact dyn_Slice.calls k r.Ab r.cb r.b r.h0 r.h1 r.Ap r.cp r.ps a n _ _ w h.C_b h.lb h.C_p h.lp hk
def atS (b : List Int) (ps : List S29) (addr by_ size : Int) : Option (Int × List Int) :=
  if by_ > 18446744073709551615 - addr then none else (slc b ps (addr + by_) size).map (fun s => (addr + by_, s))
theorem cell_up {w w1 : World} (h : Below w.heap.size w w1) {a : Addr} {v : Value} (hc : w.cell? a = some v) : w1.cell? a = some v := (h.cell (World.block_lt_of_cell? w _ hc)).trans hc
theorem calls_aside {P : Program} {f : FuncId} {args : Array Value} {w : World} {Q : Ending → World → Prop} (h : ∀ Post : Ending → World → Prop, Aside0 (∀ e w', Q e w' → Post e w') → Calls P f args w Post) : Calls P f args w Q := h Q ⟨fun _ _ h => h⟩
set_option linter.unusedSimpArgs false
set_option linter.unusedVariables false
set_option maxHeartbeats 4000000 in
set_option maxRecDepth 100000 in
theorem at_calls {w0 w : World} {r : Rc} {T : List Int} (h : Rdr w0 r w T) (G : Gd r) (addr by_ size : Int) (ha : 0 ≤ addr ∧ addr ≤ 18446744073709551615) (hb : 0 ≤ by_ ∧ by_ ≤ 18446744073709551615) (hn : 0 ≤ size) (hn2 : size ≤ 4294967296) :
    Calls Try.prog 57 #[.pointer (some ⟨r.p, 0, none⟩), .int .u64 addr, .int .u64 by_, .int .u64 size] w fun e w' => ∃ a v, e = .returned (.tuple #[.int .u64 a, v, errW (if (atS r.b r.ps addr by_ size).isNone then some 4 else none)]) ∧ (∀ x, atS r.b r.ps addr by_ size = some x → a = x.1 ∧ Kd.V (Kd.int .u8) 5 w' w.heap.size (fun k => w.heap.size ≤ k) v x.2) ∧ Below w.heap.size w w' := by
  refine calls_aside fun Post HP => ?_
  have HH := Aside0.mk h
  have HG := Aside0.mk G
  have HA := Aside0.mk ha
  have HB := Aside0.mk hb
  have HN := Aside0.mk (And.intro hn hn2)
  have k0 := h.c0
  have k1 := h.c1
  have k2 := h.c2
  have k3 := h.c3
  have hd : Rdr w0 r w.drew T := h.up (below_drew1 (Below.refl _ _))
  clear h G ha hb hn hn2
  have hu32 := Try.underlying32
  have hu24 := Try.underlying24
  have hu104 := Try.underlying104
  have HU := Aside0.mk (u64_in (18446744073709551615 - addr) (by have := HA.out; omega) (by have := HA.out; omega))
  by_cases c0 : by_ > 18446744073709551615 - addr
  · have c0b : decide (by_ > IntKind.u64.wrap (18446744073709551615 - addr)) = true := by rw [HU.out]; exact decide_eq_true c0
    have HC := Aside0.mk c0
    clear c0
    go_enter Try.func57, Try.ntmps57
    go_wp2
    refine bodyPost_ret (v := .tuple #[.int .u64 0, .slice none 0 0, .iface 97 (.int .i64 4)]) (results_list (rs := [.tmp 8, .tmp 9, .tmp 10]) (vs := [.int .u64 0, .slice none 0 0, .iface 97 (.int .i64 4)]) rfl (by simp) (.tmp (.tmp (.tmp .nil)))) rfl ?_
    refine HP.out _ _ ⟨_, _, by rw [atS, if_pos HC.out]; rfl, ?_, Below.refl _ _⟩
    intro x hx
    rw [atS, if_pos HC.out] at hx
    cases hx
  · have c0b : decide (by_ > IntKind.u64.wrap (18446744073709551615 - addr)) = false := by rw [HU.out]; exact decide_eq_false c0
    have HC := Aside0.mk c0
    clear c0
    go_enter Try.func57, Try.ntmps57
    go_wp2
    have HU2 := Aside0.mk (u64_in (addr + by_) (by have := HA.out; have := HB.out; omega) (by have := HC.out; omega))
    refine start_ (n := 18) (S := fun w' => w'.cell? ⟨r.p, 0, none⟩ = some (.slice r.Ab r.b.length r.cb) ∧ w'.cell? ⟨r.p, 1, none⟩ = some (.int .i64 r.h0) ∧ w'.cell? ⟨r.p, 2, none⟩ = some (.int .u64 r.h1) ∧ w'.cell? ⟨r.p, 3, none⟩ = some (.slice r.Ap r.ps.length r.cp)) (ds := [12]) #[false, false, false, false, false, false, false, false, false, false, false, false, false, false, false, false, false, false] (by kernel_rfl) rfl rfl ⟨(cell_up (below_drew1 (Below.refl _ _)) k0), (cell_up (below_drew1 (Below.refl _ _)) k1), (cell_up (below_drew1 (Below.refl _ _)) k2), (cell_up (below_drew1 (Below.refl _ _)) k3)⟩ (fun hHeld => ?_)
    refine pure_ (i := 0) (N := some 19) (v := ?_) (a' := ?_) #[true, false, false, false, false, false, false, false, false, false, false, false, false, false, false, false, false, false] rfl rfl (by kernel_rfl) (fun _ _ _ h => h) (Or.inl ⟨by rfl, ?_⟩) ?_ ?_
    rotate_left
    · intro w'
      go_simp
      with_reducible rfl
    rotate_left
    · simp only [Act.put, List.setIfInBounds_toArray, List.set_cons_zero, List.set_cons_succ, i64_w, i32_w]
      rfl
    refine pure_ (i := 1) (N := some 20) (v := ?_) (a' := ?_) #[true, true, false, false, false, false, false, false, false, false, false, false, false, false, false, false, false, false] rfl rfl (by kernel_rfl) (fun _ _ _ h => h) (Or.inl ⟨by rfl, ?_⟩) ?_ ?_
    rotate_left
    · intro w'
      go_simp
      with_reducible rfl
    rotate_left
    · simp only [Act.put, List.setIfInBounds_toArray, List.set_cons_zero, List.set_cons_succ, i64_w, i32_w]
      rfl
    refine pure_ (i := 2) (N := some 21) (v := ?_) (a' := ?_) #[true, true, true, false, false, false, false, false, false, false, false, false, false, false, false, false, false, false] rfl rfl (by kernel_rfl) (fun _ _ _ h => h) (Or.inl ⟨by rfl, ?_⟩) ?_ ?_
    rotate_left
    · intro w'
      go_simp
      with_reducible rfl
    rotate_left
    · simp only [Act.put, List.setIfInBounds_toArray, List.set_cons_zero, List.set_cons_succ, i64_w, i32_w]
      rfl
    refine pure_ (i := 4) (N := some 23) (v := ?_) (a' := ?_) #[true, true, true, false, true, false, false, false, false, false, false, false, false, false, false, false, false, false] rfl rfl (by kernel_rfl) (fun _ _ _ h => h) (Or.inl ⟨by rfl, ?_⟩) ?_ ?_
    rotate_left
    · intro w'
      go_simp
      with_reducible rfl
    rotate_left
    · simp only [Act.put, List.setIfInBounds_toArray, List.set_cons_zero, List.set_cons_succ, i64_w, i32_w]
      rfl
    refine pure_ (i := 5) (N := some 24) (v := ?_) (a' := ?_) #[true, true, true, false, true, true, false, false, false, false, false, false, false, false, false, false, false, false] rfl rfl (by kernel_rfl) (fun _ _ _ h => h) (Or.inl ⟨by rfl, ?_⟩) ?_ ?_
    rotate_left
    · intro w'
      go_simp
      with_reducible rfl
    rotate_left
    · simp only [Act.put, List.setIfInBounds_toArray, List.set_cons_zero, List.set_cons_succ, i64_w, i32_w]
      rfl
    refine pure_ (i := 6) (N := some 25) (v := ?_) (a' := ?_) #[true, true, true, false, true, true, true, false, false, false, false, false, false, false, false, false, false, false] rfl rfl (by kernel_rfl) (fun _ _ _ h => h) (Or.inl ⟨by rfl, ?_⟩) ?_ ?_
    rotate_left
    · intro w'
      go_simp
      with_reducible rfl
    rotate_left
    · simp only [Act.put, List.setIfInBounds_toArray, List.set_cons_zero, List.set_cons_succ, i64_w, i32_w]
      rfl
    refine pure_ (i := 8) (N := some 27) (v := ?_) (a' := ?_) #[true, true, true, false, true, true, true, false, true, false, false, false, false, false, false, false, false, false] rfl rfl (by kernel_rfl) (fun _ _ _ h => h) (Or.inl ⟨by rfl, ?_⟩) ?_ ?_
    rotate_left
    · intro w'
      go_simp
      with_reducible rfl
    rotate_left
    · simp only [Act.put, List.setIfInBounds_toArray, List.set_cons_zero, List.set_cons_succ, i64_w, i32_w]
      rfl
    refine pure_ (i := 9) (N := some 28) (v := ?_) (a' := ?_) #[true, true, true, false, true, true, true, false, true, true, false, false, false, false, false, false, false, false] rfl rfl (by kernel_rfl) (fun _ _ _ h => h) (Or.inl ⟨by rfl, ?_⟩) ?_ ?_
    rotate_left
    · intro w'
      go_simp
      with_reducible rfl
    rotate_left
    · simp only [Act.put, List.setIfInBounds_toArray, List.set_cons_zero, List.set_cons_succ, i64_w, i32_w]
      rfl
    refine pure_ (i := 10) (N := some 29) (v := ?_) (a' := ?_) #[true, true, true, false, true, true, true, false, true, true, true, false, false, false, false, false, false, false] rfl rfl (by kernel_rfl) (fun _ _ _ h => h) (Or.inl ⟨by rfl, ?_⟩) ?_ ?_
    rotate_left
    · intro w'
      go_simp
      with_reducible rfl
    rotate_left
    · simp only [Act.put, List.setIfInBounds_toArray, List.set_cons_zero, List.set_cons_succ, i64_w, i32_w]
      rfl
    refine pure_ (i := 11) (N := some 30) (v := ?_) (a' := ?_) #[true, true, true, false, true, true, true, false, true, true, true, true, false, false, false, false, false, false] rfl rfl (by kernel_rfl) (fun _ _ _ h => h) (Or.inl ⟨by rfl, ?_⟩) ?_ ?_
    rotate_left
    · intro w'
      go_simp
      with_reducible rfl
    rotate_left
    · simp only [Act.put, List.setIfInBounds_toArray, List.set_cons_zero, List.set_cons_succ, i64_w, i32_w]
      rfl
    refine take_ (i := 3) (N := some 22) (v := ?_) (a' := ?_) #[true, true, true, true, true, true, true, false, true, true, true, true, false, false, false, false, false, false] rfl rfl (by kernel_rfl) (fun _ _ _ h => h) (Or.inl ⟨by rfl, ?_⟩) hHeld ?_ ?_
    rotate_left
    · rintro w' ⟨s0, s1, s2, s3⟩
      go_simp
      with_reducible rfl
    rotate_left
    · simp only [Act.put, List.setIfInBounds_toArray, List.set_cons_zero, List.set_cons_succ, i64_w, i32_w]
      rfl
    refine take_ (i := 7) (N := some 26) (v := ?_) (a' := ?_) #[true, true, true, true, true, true, true, true, true, true, true, true, false, false, false, false, false, false] rfl rfl (by kernel_rfl) (fun _ _ _ h => h) (Or.inl ⟨by rfl, ?_⟩) hHeld ?_ ?_
    rotate_left
    · rintro w' ⟨s0, s1, s2, s3⟩
      go_simp
      with_reducible rfl
    rotate_left
    · simp only [Act.put, List.setIfInBounds_toArray, List.set_cons_zero, List.set_cons_succ, i64_w, i32_w]
      rfl
    refine last_ (i := 12) (N := some 31) #[true, true, true, true, true, true, true, true, true, true, true, true, true, false, false, false, false, false] rfl rfl (by kernel_rfl) (by decide) (fun K hK => ?_)
    refine goes_ Try.func36 (by kernel_rfl) rfl #[.slice r.Ab r.b.length r.cb, .agg #[.int .i64 r.h0, .int .u64 r.h1, .slice r.Ap r.ps.length r.cp], .int .u64 (IntKind.u64.wrap (addr + by_)), .int .u64 size] (by rfl) rfl rfl (by simp only [List.map_toArray, List.map_cons, List.map_nil]; rfl) ?_
    with_reducible refine (slice_calls hd HG.out (IntKind.u64.wrap (addr + by_)) size (by rw [HU2.out]; have := HA.out; have := HB.out; have := HC.out; omega) HN.out.1 HN.out.2).mono ?_
    rintro e w3 ⟨v, rfl, hV, hw3⟩
    refine ⟨_, rfl, ?_⟩
    have HV := Aside0.mk hV
    have HW3 := Aside0.mk hw3
    clear hV hw3
    refine hK.out _ _ ?_
    clear hK K
    refine norm_ (a' := ?_) ?_ ?_
    rotate_left
    · show Act.put _ (some 31) _ = _
      simp only [Act.put, List.setIfInBounds_toArray, List.set_cons_zero, List.set_cons_succ, i64_w, i32_w]
      rfl
    refine pure_ (i := 13) (N := some 18) (v := ?_) (a' := ?_) #[true, true, true, true, true, true, true, true, true, true, true, true, true, true, false, false, false, false] rfl rfl (by kernel_rfl) (fun _ _ _ h => h) (Or.inl ⟨by rfl, ?_⟩) ?_ ?_
    rotate_left
    · intro w'
      go_simp
      with_reducible rfl
    rotate_left
    · simp only [Act.put, List.setIfInBounds_toArray, List.set_cons_zero, List.set_cons_succ, i64_w, i32_w]
      rfl
    refine pure_ (i := 14) (N := some 32) (v := ?_) (a' := ?_) #[true, true, true, true, true, true, true, true, true, true, true, true, true, true, true, false, false, false] rfl rfl (by kernel_rfl) (fun _ _ _ h => h) (Or.inl ⟨by rfl, ?_⟩) ?_ ?_
    rotate_left
    · intro w'
      go_simp
      with_reducible rfl
    rotate_left
    · simp only [Act.put, List.setIfInBounds_toArray, List.set_cons_zero, List.set_cons_succ, i64_w, i32_w]
      rfl
    refine pure_ (i := 15) (N := some 33) (v := ?_) (a' := ?_) #[true, true, true, true, true, true, true, true, true, true, true, true, true, true, true, true, false, false] rfl rfl (by kernel_rfl) (fun _ _ _ h => h) (Or.inl ⟨by rfl, ?_⟩) ?_ ?_
    rotate_left
    · intro w'
      go_simp
      with_reducible rfl
    rotate_left
    · simp only [Act.put, List.setIfInBounds_toArray, List.set_cons_zero, List.set_cons_succ, i64_w, i32_w]
      rfl
    refine pure_ (i := 16) (N := some 11) (v := ?_) (a' := ?_) #[true, true, true, true, true, true, true, true, true, true, true, true, true, true, true, true, true, false] rfl rfl (by kernel_rfl) (fun _ _ _ h => h) (Or.inl ⟨by rfl, ?_⟩) ?_ ?_
    rotate_left
    · intro w'
      go_simp
      with_reducible rfl
    rotate_left
    · simp only [Act.put, List.setIfInBounds_toArray, List.set_cons_zero, List.set_cons_succ, i64_w, i32_w]
      rfl
    refine pure_ (i := 17) (N := some 12) (v := ?_) (a' := ?_) #[true, true, true, true, true, true, true, true, true, true, true, true, true, true, true, true, true, true] rfl rfl (by kernel_rfl) (fun _ _ _ h => h) (Or.inl ⟨by rfl, ?_⟩) ?_ ?_
    rotate_left
    · intro w'
      go_simp
      with_reducible rfl
    rotate_left
    · simp only [Act.put, List.setIfInBounds_toArray, List.set_cons_zero, List.set_cons_succ, i64_w, i32_w]
      rfl
    refine done_ (by kernel_rfl) ?_
    go_wp2
    refine bodyPost_ret (v := .tuple #[.int .u64 (IntKind.u64.wrap (addr + by_)), v, errW (slcR (slc r.b r.ps (IntKind.u64.wrap (addr + by_)) size)).2]) (results_list (rs := [.tmp 8, .tmp 9, .tmp 10]) (vs := [.int .u64 (IntKind.u64.wrap (addr + by_)), v, errW (slcR (slc r.b r.ps (IntKind.u64.wrap (addr + by_)) size)).2]) rfl (by simp) (.tmp (.tmp (.tmp .nil)))) rfl ?_
    have hV := HV.out
    have hW3 := HW3.out
    have hcc : ¬ (by_ > 18446744073709551615 - addr) := by have := HC.out; omega
    rw [HU2.out] at hV ⊢
    cases hq : slc r.b r.ps (addr + by_) size with
    | none =>
      refine HP.out _ _ ⟨_, _, by rw [atS, if_neg hcc, hq]; rfl, ?_, below_step (below_drew1 (Below.refl _ _)) hW3⟩
      intro x hx
      rw [atS, if_neg hcc, hq] at hx
      cases hx
    | some s =>
      rw [hq] at hV
      refine HP.out _ _ ⟨_, _, by rw [atS, if_neg hcc, hq]; rfl, ?_, below_step (below_drew1 (Below.refl _ _)) hW3⟩
      intro x hx
      rw [atS, if_neg hcc, hq] at hx
      injection hx with hx
      subst hx
      exact ⟨rfl, hV⟩
end Go.Proofs.Ythopdoamajjojaa.VersS
