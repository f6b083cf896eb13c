import Derived.Test.YthopdoamajjojaaVersVersions
namespace Go.Proofs.Ythopdoamajjojaa.VersS
open Go Go.RowKit Go.Proofs.Ythopdoamajjojaa.QVers Go.Proofs.Ythopdoamajjojaa.VersSpec Go.Proofs.YthopdoamajjojaaW.PrintWords Go.Proofs.YthopdoamajjojaaW.PrintLast Go.Proofs.YthopdoamajjojaaW.PrintMore
open TextFacts (textS u64_in)
set_option linter.unusedSimpArgs false
set_option linter.unusedVariables false
abbrev Df := Int × Bool × ByteArray × List ByteArray
def kDf : Kd Df := Kd.pair (Kd.int .i64) (Kd.pair Kd.bool (Kd.pair Kd.string (Kd.slice 9 Kd.string)))
theorem kDf_mkM (w : World) (base : Nat) (ok : Nat → Prop) (x : Df) {v : Value} (g : Kd.R Kd.string 9 w base ok v x.2.2.2) : kDf.M w base ok x [.int .i64 x.1, .bool x.2.1, .string x.2.2.1, v] :=
  ⟨[.int .i64 x.1], [.bool x.2.1, .string x.2.2.1, v], rfl, rfl, ⟨[.bool x.2.1], [.string x.2.2.1, v], rfl, rfl, ⟨[.string x.2.2.1], [v], rfl, rfl, ⟨v, rfl, g⟩⟩⟩⟩
theorem info63 : (Try.prog.info? 63).map (fun i => (i.zero, i.size, i.bytes)) = some (some (.agg #[.int .i64 0, .bool false, .string ⟨#[]⟩, .slice none 0 0]), 4, 56) := by kernel_rfl
def baseS (X : Int) : Bool := decide (X % 2 = 1)
theorem base_is {X : Int} (h : 0 ≤ X ∧ X ≤ 255) : (Go.bits BinOp.and IntKind.u8 X 1 == 1) = baseS X := by
  obtain ⟨n, rfl⟩ := Int.eq_ofNat_of_zero_le h.1
  have hn : n < 256 := by have := h.2; omega
  clear h
  have all : ∀ n : Nat, n < 256 → (Go.bits BinOp.and IntKind.u8 (n : Int) 1 == 1) = baseS (n : Int) := by decide +kernel
  exact all n hn
def defsS (b : List Int) (ps : List S29) (ss : List Int) : Nat → Int → Int → List Int → List Df → Except Int (List Df × List Int)
  | 0, _, _, T, acc => .ok (acc, T)
  | n + 1, addr, by_, T, acc =>
    match atS b ps addr by_ 20 with
    | none => .error 4
    | some x =>
      if num (x.2.take 2) ≠ 1 ∨ idxS (num ((x.2.take 6).drop 4)) = 0 ∨ num ((x.2.take 8).drop 6) = 0 then .error 3
      else if idxS (num ((x.2.take 6).drop 4)) ∈ T then .error 5
      else if num ((x.2.take 8).drop 6) > 64 then .error 2
      else match namesS b ps ss (num ((x.2.take 8).drop 6)).toNat x.1 (num ((x.2.take 16).drop 12)) [] with
        | .error c => .error c
        | .ok texts =>
          if sysv (texts.headD ByteArray.empty) ≠ num ((x.2.take 12).drop 8) then .error 3
          else if num (x.2.drop 16) = 0 ∧ n ≠ 0 then .error 3
          else defsS b ps ss n x.1 (num (x.2.drop 16)) (idxS (num ((x.2.take 6).drop 4)) :: T) (acc ++ [(idxS (num ((x.2.take 6).drop 4)), baseS (rd x.2 2), texts.headD ByteArray.empty, texts.tail)])
def defsT (b : List Int) (ps : List S29) (ss : List Int) (n addr : Int) (T : List Int) : Except Int (List Df × List Int) := if n > 64 then .error 2 else defsS b ps ss n.toNat addr 0 T []
def RowsP {α : Type} (d : Kd α) (q : Nat) (w0 : World) (r : Rc) (w : World) (res : Except Int (List α × List Int)) (e : Ending) (w' : World) : Prop :=
  match res with
  | .error c => e = .returned (.tuple #[.slice none 0 0, .iface 97 (.int .i64 c)]) ∧ Below w0.heap.size w0 w' ∧ w.grownBy w' (some r.m)
  | .ok l => ∃ v, e = .returned (.tuple #[v, .nilIface]) ∧ d.R q w' w.heap.size (fun k => k ≠ r.m) v l.1 ∧ Rdr w0 r w' l.2 ∧ w.grownBy w' (some r.m)
theorem RowsP.err {α : Type} {d : Kd α} {q : Nat} {w0 w w' : World} {r : Rc} {c : Int} {e : Ending} {v : Value} (he : e = .returned (.tuple #[.slice none 0 0, .iface 97 (.int .i64 c)])) (hb : Below w0.heap.size w0 w') (hg : w.grownBy w' (some r.m)) : RowsP d q w0 r w (.error c) e w' := ⟨he, hb, hg⟩
theorem RowsP.ok {α : Type} {d : Kd α} {q : Nat} {w0 w w' : World} {r : Rc} {l : List α × List Int} {e : Ending} {v : Value} (he : e = .returned (.tuple #[v, .nilIface])) (hr : d.R q w' w.heap.size (fun k => k ≠ r.m) v l.1) (hR : Rdr w0 r w' l.2) (hg : w.grownBy w' (some r.m)) : RowsP d q w0 r w (.ok l) e w' := ⟨v, he, hr, hR, hg⟩
theorem namesS_len {b : List Int} {ps : List S29} {ss : List Int} : ∀ (n : Nat) (a y : Int) (acc l : List ByteArray), namesS b ps ss n a y acc = .ok l → l.length = acc.length + n
  | 0, _, _, acc, l, h => by
    simp only [namesS] at h
    injection h with h
    rw [h]; rfl
  | n + 1, a, y, acc, l, h => by
    simp only [namesS] at h
    split at h
    · cases h
    · split at h
      · cases h
      · split at h
        · cases h
        · have := namesS_len n _ _ _ l h
          rw [this, List.length_append, List.length_singleton]
          omega
section
variable {w0 w : World} {r : Rc} {T : List Int}
theorem at_someV (h : Rdr w0 r w T) (G : Gd r) (addr by_ size : Int) (ha : 0 ≤ addr ∧ addr ≤ 18446744073709551615) (hb : 0 ≤ by_ ∧ by_ ≤ 18446744073709551615) (hn : 0 ≤ size) (hn2 : size ≤ 4294967296) (x : Int) (s : List Int) (hq : atS r.b r.ps addr by_ size = some (x, s)) (N : Nat) (hN : (N : Int) = size) :
    Calls Try.prog 57 #[.pointer (some ⟨r.p, 0, none⟩), .int .u64 addr, .int .u64 by_, .int .u64 size] w fun e w' => ∃ A c, e = .returned (.tuple #[.int .u64 x, .slice A N c, .nilIface]) ∧ Kd.V (Kd.int .u8) 5 w' w.heap.size (fun k => w.heap.size ≤ k) (.slice A N c) s ∧ Below w.heap.size w w' := by
  have hl : s.length = N := by have := (atS_in G ha hb.1 hn hq).2.1; omega
  refine (at_calls h G addr by_ size ha hb hn hn2).mono ?_
  rintro e w' ⟨a, v, rfl, hv, hw⟩
  obtain ⟨rfl, hV⟩ := hv _ hq
  obtain ⟨A, c, rfl⟩ := Kd.V_slice hV
  exact ⟨A, c, by rw [hq, hl]; rfl, by rw [← hl]; exact hV, hw⟩
theorem V_C {w : World} {b e N c : Nat} {ok : Nat → Prop} {A : Option Addr} {s : List Int} (h : Kd.V (Kd.int .u8) e w b ok (.slice A N c) s) : s.length = N ∧ N ≤ c ∧ Kd.C (Kd.int .u8) w A N s := by
  obtain ⟨h1, h2, h3⟩ := Kd.V_reads' h
  exact ⟨h1.symm, h2, by rw [h1]; exact h3⟩
theorem grown_set {w2 w : World} {m g : Nat} (h : w2.grownBy w (some m)) (hg : w2.heap.size ≤ g) (j : Nat) (u : Value) : w2.grownBy (w.setCell ⟨g, j, none⟩ u) (some m) :=
  ⟨h.os, h.tape, h.output, by simpa [World.setCell] using h.size, fun k hk hm => (Below.heap_setCell _ _ _ _ (by show k ≠ g; omega)).trans (h.block k hk hm)⟩
theorem MapSet.set {w : World} {m g : Nat} {T : List Int} (h : MapSet w m T) (hg : m ≠ g) (j : Nat) (u : Value) : MapSet (w.setCell ⟨g, j, none⟩ u) m T := h.keep (Below.heap_setCell _ _ _ _ hg)
theorem R_low {α : Type} {d : Kd α} {e base g : Nat} {ok : Nat → Prop} {v : Value} {xs : List α} {w : World} (h : d.R e w base ok v xs) (hg : g < base) (j : Nat) (u : Value) : d.R e (w.setCell ⟨g, j, none⟩ u) base ok v xs :=
  Kd.R_mono (Kd.R_move (Kd.R_bound h) (fun k hk => Below.heap_setCell _ _ _ _ (by show k ≠ g; have := hk.2.1; omega))) (fun k hk => hk.1)
theorem R_grownm {α : Type} {d : Kd α} {e base m : Nat} {v : Value} {xs : List α} {w w1 : World} (h : d.R e w base (fun k => k ≠ m) v xs) (hg : w.grownBy w1 (some m)) : d.R e w1 base (fun k => k ≠ m) v xs :=
  Kd.R_grown h hg (fun k hk e => hk (by injection e))
end
theorem slice_det {m : Sem Value} {W : World} {A B : Option Addr} {n c d : Nat} (h1 : m.run Try.prog W = .ok (.slice A n c) W) (h2 : m.run Try.prog W = .ok (.slice B n d) W) : A = B ∧ c = d := by
  rw [h1] at h2
  injection h2 with h2
  injection h2 with e1 _ e3
  exact ⟨e1, e3⟩
theorem mid_again {w : World} {A : Option Addr} {c N : Nat} {s : List Int} (hN : s.length = N) (hC : Kd.C (Kd.int .u8) w A N s) (hc : N ≤ c) (h8 : ∀ x ∈ s, 0 ≤ x ∧ x ≤ 255) (lo hi : Int) (a b n : Nat) (ha : lo = a) (hb : hi = b) (hab : a ≤ b) (hbN : b ≤ N) (hn : b - a = n) (hn8 : n ≤ 8) {A1 : Option Addr} {c1 : Nat}
    (hcut : ∀ W : World, (Instr.slice 24 (.slice A N c) (some (.int .i64 lo)) (some (.int .i64 hi)) none).run Try.prog W = .ok (.slice A1 n c1) W) :
    ∀ w', Below w.heap.size w w' → Calls Try.prog 39 #[.slice A1 n c1] w' fun e w'' => e = .returned (.int .u64 (num ((s.take b).drop a))) ∧ ∃ m, w'' = w'.drewN m := by
  obtain ⟨A', c', h1, h2⟩ := cut_mid_num hN hC hc h8 lo hi a b n ha hb hab hbN hn hn8
  obtain ⟨e1, e3⟩ := slice_det (hcut w) (h1 w)
  rw [e1, e3]
  exact h2
theorem from_again {w : World} {A : Option Addr} {c N : Nat} {s : List Int} (hN : s.length = N) (hC : Kd.C (Kd.int .u8) w A N s) (hc : N ≤ c) (h8 : ∀ x ∈ s, 0 ≤ x ∧ x ≤ 255) (lo : Int) (a n : Nat) (ha : lo = a) (haN : a ≤ N) (hn : N - a = n) (hn8 : n ≤ 8) {A1 : Option Addr} {c1 : Nat}
    (hcut : ∀ W : World, (Instr.slice 24 (.slice A N c) (some (.int .i64 lo)) none none).run Try.prog W = .ok (.slice A1 n c1) W) :
    ∀ w', Below w.heap.size w w' → Calls Try.prog 39 #[.slice A1 n c1] w' fun e w'' => e = .returned (.int .u64 (num (s.drop a))) ∧ ∃ m, w'' = w'.drewN m := by
  obtain ⟨A', c', h1, h2⟩ := cut_from_num hN hC hc h8 lo a n ha haN hn hn8
  obtain ⟨e1, e3⟩ := slice_det (hcut w) (h1 w)
  rw [e1, e3]
  exact h2
theorem names_err {w0 w : World} {r : Rc} {T : List Int} (h : Rdr w0 r w T) (G : Gd r) (addr by_ n : Int) (ha : 0 ≤ addr ∧ addr ≤ 18446744073709551615) (hb : 0 ≤ by_ ∧ by_ ≤ 18446744073709551615) (hn : 0 ≤ n ∧ n ≤ 64) {c : Int} (hq : namesS r.b r.ps r.ss n.toNat addr by_ [] = .error c) :
    Calls Try.prog 58 #[.pointer (some ⟨r.p, 0, none⟩), .int .u64 addr, .int .u64 by_, .int .u64 n] w fun e w' => ∃ v, e = .returned (.tuple #[v, .iface 97 (.int .i64 c)]) ∧ Below w.heap.size w w' := by
  have h := names_calls h G addr by_ n ha hb hn
  rw [hq] at h
  exact h
theorem names_ok {w0 w : World} {r : Rc} {T : List Int} (h : Rdr w0 r w T) (G : Gd r) (addr by_ n : Int) (ha : 0 ≤ addr ∧ addr ≤ 18446744073709551615) (hb : 0 ≤ by_ ∧ by_ ≤ 18446744073709551615) (hn : 0 ≤ n ∧ n ≤ 64) {l : List ByteArray} (hq : namesS r.b r.ps r.ss n.toNat addr by_ [] = .ok l) :
    Calls Try.prog 58 #[.pointer (some ⟨r.p, 0, none⟩), .int .u64 addr, .int .u64 by_, .int .u64 n] w fun e w' => ∃ v, e = .returned (.tuple #[v, .nilIface]) ∧ Kd.R Kd.string 9 w' w.heap.size (fun _ => True) v l ∧ Below w.heap.size w w' := by
  have h := names_calls h G addr by_ n ha hb hn
  rw [hq] at h
  exact h
theorem rest_cut (adT : Addr) (cT : Nat) (nm : ByteArray) (rest : List ByteArray) (hl : (nm :: rest).length ≤ cT) : ∃ AR cR, (∀ W : World, (Instr.slice 22 (.slice (some adT) (rest.length + 1) cT) (some (.int .i64 1)) none none).run Try.prog W = .ok (.slice AR rest.length cR) W) ∧
    ∀ w', Kd.string.C w' (some adT) (nm :: rest).length (nm :: rest) → Kd.string.C w' AR rest.length rest := by
  obtain ⟨i0, hi0, _, hsz, _⟩ := info_parts info9
  have hcut := cut_from (P := Try.prog) 22 9 .i64 Try.underlying22 hi0 1 hsz (some adT) (rest.length + 1) cT 1 (by omega) (by omega)
  refine ⟨_, _, hcut, fun w' hC => ?_⟩
  have h := Kd.C_drop (m := 1) (c := cT) hC (by simp) hl
  exact h
theorem namesS_size {b : List Int} {ps : List S29} {ss : List Int} : ∀ (n : Nat) (a y : Int) (acc l : List ByteArray), namesS b ps ss n a y acc = .ok l → ∀ x ∈ l, x ∈ acc ∨ x.size ≤ 255
  | 0, _, _, acc, l, h => by
    simp only [namesS] at h
    injection h with h
    rw [h]; exact fun x hx => .inl hx
  | n + 1, a, y, acc, l, h => by
    simp only [namesS] at h
    split at h
    · cases h
    · split at h
      · cases h
      · split at h
        · cases h
        · intro x hx
          rcases namesS_size n _ _ _ l h x hx with h1 | h1
          · rcases List.mem_append.1 h1 with h2 | h2
            · exact .inl h2
            · rw [List.mem_singleton.1 h2]
              exact .inr (text_size _ _)
          · exact .inr h1
set_option maxHeartbeats 16000000 in
set_option maxRecDepth 100000 in
theorem defs_calls {w0 w : World} {r : Rc} {T : List Int} (h : Rdr w0 r w T) (G : Gd r) (addr n : Int) (ha : 0 ≤ addr ∧ addr ≤ 18446744073709551615) (hn : 0 ≤ n ∧ n ≤ 18446744073709551615) (hT : T.length ≤ 100000) :
    Calls Try.prog 37 #[.pointer (some ⟨r.p, 0, none⟩), .int .u64 addr, .int .u64 n] w (RowsP kDf 63 w0 r w (defsT r.b r.ps r.ss n addr T)) := by
  refine calls_aside fun Post HP => ?_
  obtain ⟨res, hres⟩ : ∃ res, defsT r.b r.ps r.ss n addr T = res := ⟨_, rfl⟩
  rw [hres] at HP
  have HH := Aside0.mk h
  have HG := Aside0.mk G
  have HA := Aside0.mk ha
  have HTL := Aside0.mk hT
  have hu22 := Try.underlying22
  have hu24 := Try.underlying24
  have hu63 := Try.underlying63
  have hu104 := Try.underlying104
  by_cases c0 : n > 64
  · have c0b : decide (n > 64) = true := decide_eq_true c0
    rw [defsT, if_pos c0] at hres
    have HR := Aside0.mk hres
    clear h G ha hn hres hT c0
    go_enter Try.func37, Try.ntmps37
    go_wp2
    refine HP.out _ _ ?_
    rw [← HR.out]
    exact RowsP.err (v := .slice none 0 0) rfl HH.out.hw (grown_refl _ _)
  have c0b : decide (n > 64) = false := decide_eq_false c0
  rw [defsT, if_neg c0] at hres
  have HR := Aside0.mk hres
  have HN := Aside0.mk (show 0 ≤ n ∧ n ≤ 64 by omega)
  clear h G ha hn hres hT c0
  go_enter Try.func37, Try.ntmps37
  go_wp2
  go_loopg [1, 8, 9, 21] n.toNat (fun kq v1 v8 v9 v21 w' => ∃ (i : Int) (ad bb : Int) (T1 : List Int) (acc : List Df), v1 = .int .u64 ad ∧ v9 = .int .u64 bb ∧ v21 = .int .u64 i ∧ Aside0 (0 ≤ i ∧ i ≤ n ∧ kq = (n - i).toNat) ∧ Aside0 ((0 ≤ ad ∧ ad ≤ 18446744073709551615) ∧ 0 ≤ bb ∧ bb ≤ 18446744073709551615) ∧ Aside0 (defsS r.b r.ps r.ss (n - i).toNat ad bb T1 acc = res) ∧ Aside0 (Kd.R kDf 63 w' w.heap.size (fun k => k ≠ r.m) v8 acc ∧ Rdr w0 r w' T1 ∧ w.grownBy w' (some r.m) ∧ acc.length ≤ i.toNat ∧ T1.length ≤ T.length + i.toNat))
  case atStart => exact ⟨0, addr, 0, T, [], rfl, rfl, rfl, ⟨by have := HN.out; omega⟩, ⟨HA.out, by omega⟩, ⟨by rw [Int.sub_zero]; exact HR.out⟩, ⟨Kd.R_nil _ _ _ _ _, HH.out, grown_refl _ _, by simp, by simp⟩⟩
  case round =>
    obtain ⟨i, ad, bb, T1, acc, rfl, rfl, rfl, HI, HAB, HX, HW⟩ := hrel
    by_cases c4 : i < n
    · have c4b0 : decide (i < n) = true := decide_eq_true c4
      obtain ⟨k, hk⟩ : ∃ k, (n - i).toNat = k + 1 := ⟨(n - i).toNat - 1, by omega⟩
      have hx := HX.out
      rw [hk, defsS] at hx
      have HK := Aside0.mk hk
      have HC4 := Aside0.mk c4
      clear hk c4 HX
      cases hq : atS r.b r.ps ad bb 20 with
      | none =>
        rw [hq] at hx
        have HE := Aside0.mk (show (Except.error 4 : Except Int (List Df × List Int)) = res from hx)
        have HQ := Aside0.mk hq
        clear hx hq
        go_wp2_with (go_at_call 57; (with_reducible refine (at_none HW.out.2.1 HG.out ad bb 20 HAB.out.1 HAB.out.2 (by omega) (by omega) HQ.out).mono ?_); rintro e w2 ⟨a, v, rfl, hw⟩; have HW2 := Aside0.mk (And.intro (HW.out.2.1.low hw) (grown_below HW.out.2.2.1 hw)); clear hw)
        refine HP.out _ _ ?_
        rw [← HE.out]
        exact RowsP.err (v := .slice none 0 0) rfl HW2.out.1 HW2.out.2
      | some xs =>
        obtain ⟨x, s⟩ := xs
        rw [hq] at hx
        simp only at hx
        have hin := atS_in HG.out HAB.out.1 HAB.out.2.1 (by omega) hq
        have hsl : s.length = 20 := by omega
        obtain ⟨N2, hN2⟩ : ∃ y, num (s.take 2) = y := ⟨_, rfl⟩
        obtain ⟨NI, hNI⟩ : ∃ y, num ((s.take 6).drop 4) = y := ⟨_, rfl⟩
        obtain ⟨NN, hNN⟩ : ∃ y, num ((s.take 8).drop 6) = y := ⟨_, rfl⟩
        obtain ⟨NH, hNH⟩ : ∃ y, num ((s.take 12).drop 8) = y := ⟨_, rfl⟩
        obtain ⟨ND, hND⟩ : ∃ y, num ((s.take 16).drop 12) = y := ⟨_, rfl⟩
        obtain ⟨NX, hNX⟩ : ∃ y, num (s.drop 16) = y := ⟨_, rfl⟩
        obtain ⟨X2, hX2⟩ : ∃ y, rd s 2 = y := ⟨_, rfl⟩
        have hmd := fun (a b : Nat) (hb : b - a ≤ 8) => num_in8 (t := (s.take b).drop a) hin.2.2 (fun y hy => List.mem_of_mem_take (List.mem_of_mem_drop hy)) (by simp; omega)
        have h2 := num_in8 hin.2.2 (fun y hy => List.mem_of_mem_take hy) (show (s.take 2).length ≤ 8 by simp; omega)
        have hX := num_in8 hin.2.2 (fun y hy => List.mem_of_mem_drop hy) (show (s.drop 16).length ≤ 8 by simp; omega)
        have hI := hmd 4 6 (by decide)
        have hNNr := hmd 6 8 (by decide)
        have hHr := hmd 8 12 (by decide)
        have hDr := hmd 12 16 (by decide)
        have h4 := rd_byte hin.2.2 2 (by omega)
        rw [hN2] at hx h2
        rw [hNI] at hx hI
        rw [hNN] at hx hNNr
        rw [hNH] at hx hHr
        rw [hND] at hx hDr
        rw [hNX] at hx hX
        rw [show rd s ((2 : Nat) : Int) = X2 from hX2] at h4
        rw [hX2] at hx
        have HS := Aside0.mk (And.intro hsl hin.2.2)
        have HRI := Aside0.mk hI
        have HRN := Aside0.mk hNNr
        have HRD := Aside0.mk hDr
        have HRX := Aside0.mk hX
        have HR2_ := Aside0.mk h4
        have HN2 := Aside0.mk hN2
        have HNI := Aside0.mk hNI
        have HNN := Aside0.mk hNN
        have HNH := Aside0.mk hNH
        have HND := Aside0.mk hND
        have HNX := Aside0.mk hNX
        have HX2 := Aside0.mk hX2
        have HXI := Aside0.mk hin.1
        have HQ := Aside0.mk hq
        obtain ⟨IX, hidx⟩ : ∃ y, wrap64 (Go.bits BinOp.and IntKind.u64 NI 32767) = y := ⟨_, rfl⟩
        obtain ⟨WK, hwk⟩ : ∃ y, (Go.bits BinOp.and IntKind.u8 X2 1 == 1) = y := ⟨_, rfl⟩
        have HIX := Aside0.mk (show idxS NI = IX by rw [← hidx]; exact (idx_is HRI.out).symm)
        have HWK := Aside0.mk (show baseS X2 = WK by rw [← hwk]; exact (base_is HR2_.out).symm)
        rw [HIX.out, HWK.out] at hx
        have HX3 := Aside0.mk hx
        have HWF := Aside0.mk (wf_i64 (a := IX) (by have := HIX.out; have := idx_in NI; omega) (by have := HIX.out; have := idx_in NI; omega))
        clear hin hsl hN2 hNI hNN hNH hND hNX hX2 h2 hX hI hNNr hHr hDr h4 hmd hq hx
        go_wp2_with (go_at_call 57; (with_reducible refine (at_someV HW.out.2.1 HG.out ad bb 20 HAB.out.1 HAB.out.2 (by omega) (by omega) x s HQ.out 20 rfl).mono ?_); rintro e w2 ⟨A, c, rfl, hV, hw⟩; have HV2 := Aside0.mk hV; have HL2 := Aside0.mk hw; clear hV hw)
        obtain ⟨hsN, hc, hC⟩ := V_C HV2.out
        obtain ⟨adS, eA, hcell⟩ := Kd.at_int hC 2 (by omega) (by omega)
        subst eA
        obtain ⟨AI, cI, hcutI, hnumI⟩ := cut_mid_num hsN hC hc HS.out.2 4 6 4 6 2 rfl rfl (by decide) (by decide) rfl (by decide)
        obtain ⟨AN, cN, hcutN, hnumN⟩ := cut_mid_num hsN hC hc HS.out.2 6 8 6 8 2 rfl rfl (by decide) (by decide) rfl (by decide)
        obtain ⟨hcut2, hnum2⟩ := cut_to_num hsN hC hc HS.out.2 2 2 rfl (by decide) (by decide)
        obtain ⟨AD, cD, hcutD, _⟩ := cut_mid_num hsN hC hc HS.out.2 12 16 12 16 4 rfl rfl (by decide) (by decide) rfl (by decide)
        obtain ⟨AH, cH, hcutH, _⟩ := cut_mid_num hsN hC hc HS.out.2 8 12 8 12 4 rfl rfl (by decide) (by decide) rfl (by decide)
        obtain ⟨AX, cX, hcutX, _⟩ := cut_from_num hsN hC hc HS.out.2 16 16 4 rfl (by decide) rfl (by decide)
        have HCD := Aside0.mk hcutD
        have HCH := Aside0.mk hcutH
        have HCX := Aside0.mk hcutX
        have HNUMI := Aside0.mk hnumI
        have HNUMN := Aside0.mk hnumN
        have HNUM2 := Aside0.mk hnum2
        have hc4 : w2.cell? ⟨adS.block, adS.off + 2, none⟩ = some (.int .u8 X2) := by rw [← HX2.out]; exact hcell
        have HR2 := Aside0.mk (HW.out.2.1.up HL2.out)
        have HO2 := Aside0.mk (Kd.R_below HW.out.1 HL2.out)
        have HG2 := Aside0.mk (grown_below HW.out.2.2.1 HL2.out)
        clear hnumI hnumN hnum2 hcell hsN hc hC
        refine start_ (n := 13) (S := fun w' => w'.cell? ⟨adS.block, adS.off + 2, none⟩ = some (.int .u8 X2)) (ds := [12]) #[false, false, false, false, false, false, false, false, false, false, false, false, false] (by kernel_rfl) rfl rfl ((cell_up (below_drew1 (Below.refl _ _)) hc4)) (fun hHeld => ?_)
        refine pure_ (i := 0) (N := some 36) (v := ?_) (a' := ?_) #[true, false, false, false, false, false, false, false, false, false, false, false, false] rfl rfl (by kernel_rfl) (fun _ _ _ h => h) (Or.inl ⟨by rfl, ?_⟩) ?_ ?_
        rotate_left
        · intro w'
          go_simp
          with_reducible rfl
        rotate_left
        · simp only [Act.put, List.setIfInBounds_toArray, List.set_cons_zero, List.set_cons_succ, i64_w, i32_w]
          rfl
        refine pure_ (i := 1) (N := some 37) (v := ?_) (a' := ?_) #[true, true, false, false, false, false, false, false, false, false, false, false, false] rfl rfl (by kernel_rfl) (fun _ _ _ h => h) (Or.inl ⟨by rfl, ?_⟩) ?_ ?_
        rotate_left
        · intro w'
          go_simp
          with_reducible rfl
        rotate_left
        · simp only [Act.put, List.setIfInBounds_toArray, List.set_cons_zero, List.set_cons_succ, i64_w, i32_w]
          rfl
        refine pure_ (i := 5) (N := some 41) (v := ?_) (a' := ?_) #[true, true, false, false, false, true, false, false, false, false, false, false, false] rfl rfl (by kernel_rfl) (fun _ _ _ h => h) (Or.inl ⟨by rfl, ?_⟩) ?_ ?_
        rotate_left
        · intro w'
          go_simp
          with_reducible rfl
        rotate_left
        · simp only [Act.put, List.setIfInBounds_toArray, List.set_cons_zero, List.set_cons_succ, i64_w, i32_w]
          rfl
        refine pure_ (i := 6) (N := some 42) (v := ?_) (a' := ?_) #[true, true, false, false, false, true, true, false, false, false, false, false, false] rfl rfl (by kernel_rfl) (fun _ _ _ h => h) (Or.inl ⟨by rfl, ?_⟩) ?_ ?_
        rotate_left
        · intro w'
          go_simp
          with_reducible rfl
        rotate_left
        · simp only [Act.put, List.setIfInBounds_toArray, List.set_cons_zero, List.set_cons_succ, i64_w, i32_w]
          rfl
        refine take_ (i := 7) (N := some 43) (v := ?_) (a' := ?_) #[true, true, false, false, false, true, true, true, false, false, false, false, false] rfl rfl (by kernel_rfl) (fun _ _ _ h => h) (Or.inl ⟨by rfl, ?_⟩) hHeld ?_ ?_
        rotate_left
        · intro w' s0
          go_simp
          with_reducible rfl
        rotate_left
        · simp only [Act.put, List.setIfInBounds_toArray, List.set_cons_zero, List.set_cons_succ, i64_w, i32_w]
          rfl
        refine pure_ (i := 8) (N := some 44) (v := ?_) (a' := ?_) #[true, true, false, false, false, true, true, true, true, false, false, false, false] rfl rfl (by kernel_rfl) (fun _ _ _ h => h) (Or.inl ⟨by rfl, ?_⟩) ?_ ?_
        rotate_left
        · intro w'
          go_simp
          with_reducible rfl
        rotate_left
        · simp only [Act.put, List.setIfInBounds_toArray, List.set_cons_zero, List.set_cons_succ, i64_w, i32_w]
          rfl
        refine pure_ (i := 9) (N := some 45) (v := ?_) (a' := ?_) #[true, true, false, false, false, true, true, true, true, true, false, false, false] rfl rfl (by kernel_rfl) (fun _ _ _ h => h) (Or.inl ⟨by rfl, ?_⟩) ?_ ?_
        rotate_left
        · intro w'
          go_simp
          with_reducible rfl
        rotate_left
        · simp only [Act.put, List.setIfInBounds_toArray, List.set_cons_zero, List.set_cons_succ, i64_w, i32_w]
          rfl
        refine join_ (σ := Nat) 1 #[true, true, true, true, true, true, true, true, true, true, true, true, false] (fun g => [(38, .int .u64 NI), (39, .int .u64 (Go.bits BinOp.and .u64 NI 32767)), (40, .int .i64 (wrap64 (Go.bits BinOp.and .u64 NI 32767))), (46, .agg #[.int .i64 IX, .bool WK, .string ⟨#[]⟩, .slice none 0 0]), (14, .pointer (some ⟨g, 0, none⟩))]) (fun g w' => w'.heap[g]? = some (.cells #[.int .i64 0, .bool false, .string ⟨#[]⟩, .slice none 0 0] 63 (0, 0)) ∧ g = g ∧ w2.heap.size ≤ g ∧ Below w2.heap.size w2 w' ∧ w'.cell? ⟨adS.block, adS.off + 2, none⟩ = some (.int .u8 X2)) ?_ ?_
        rotate_left
        · intro hCont
          refine two_ (i := 2) (j := 11) (Ni := some 38) (Nj := some 14) #[true, true, true, false, false, true, true, true, true, true, false, false, false] #[true, true, false, false, false, true, true, true, true, true, false, true, false] rfl rfl rfl rfl (by kernel_rfl) (by decide) (by decide) (fun K hK => ?_) (fun K hK => ?_)
          · skip
            refine goes_ Try.func39 (by kernel_rfl) rfl #[.slice AI 2 cI] (by rfl) rfl rfl (by simp only [List.map_toArray, List.map_cons, List.map_nil]; rfl) ?_
            with_reducible refine (HNUMI.out _ (below_drew1 (Below.refl w2.heap.size w2))).mono ?_
            rintro e w4 ⟨rfl, hd⟩
            refine ⟨_, rfl, ?_⟩
            have hw_ := below_drawn hd
            have hk4 := cell_up hw_ (cell_up (below_drew1 (Below.refl _ _)) hc4)
            have hq4 := below_step (below_drew1 (Below.refl w2.heap.size w2)) hw_
            clear hd hw_
            rw [HNI.out]
            refine hK.out _ _ (hk4) (fun hHeld => ?_)
            clear hK K
            refine norm_ (a' := ?_) ?_ ?_
            rotate_left
            · show Act.put _ (some 38) _ = _
              simp only [Act.put, List.setIfInBounds_toArray, List.set_cons_zero, List.set_cons_succ, i64_w, i32_w]
              rfl
            refine pure_ (i := 3) (N := some 39) (v := ?_) (a' := ?_) #[true, true, true, true, false, true, true, true, true, true, false, false, false] rfl rfl (by kernel_rfl) (fun _ _ _ h => h) (Or.inl ⟨by rfl, ?_⟩) ?_ ?_
            rotate_left
            · intro w'
              go_simp
              with_reducible rfl
            rotate_left
            · simp only [Act.put, List.setIfInBounds_toArray, List.set_cons_zero, List.set_cons_succ, i64_w, i32_w]
              rfl
            refine pure_ (i := 4) (N := some 40) (v := ?_) (a' := ?_) #[true, true, true, true, true, true, true, true, true, true, false, false, false] rfl rfl (by kernel_rfl) (fun _ _ _ h => h) (Or.inl ⟨by rfl, ?_⟩) ?_ ?_
            rotate_left
            · intro w'
              go_simp
              with_reducible rfl
            rotate_left
            · simp only [Act.put, List.setIfInBounds_toArray, List.set_cons_zero, List.set_cons_succ, i64_w, i32_w]
              rfl
            refine pure_ (i := 10) (N := some 46) (v := ?_) (a' := ?_) #[true, true, true, true, true, true, true, true, true, true, true, false, false] rfl rfl (by kernel_rfl) (fun _ _ _ h => h) (Or.inl ⟨by rfl, ?_⟩) ?_ ?_
            rotate_left
            · intro w'
              go_simp
              with_reducible rfl
            rotate_left
            · simp only [Act.put, List.setIfInBounds_toArray, List.set_cons_zero, List.set_cons_succ, i64_w, i32_w]
              rfl
            refine one_ (i := 11) (N := some 14) #[true, true, true, true, true, true, true, true, true, true, true, true, false] rfl rfl (by kernel_rfl) (by decide) (fun K hK => ?_)
            refine box_step (by rfl) (N := 14) rfl (cs := #[.int .i64 0, .bool false, .string ⟨#[]⟩, .slice none 0 0]) (t := 63) (by first | (go_simp; done) | (go_simp; rfl)) ?_
            intro g eg w5 hb5 hw_
            have hk5 := cell_up hw_ hk4
            have hq5 := below_step hq4 hw_
            have hge : w2.heap.size ≤ g := by rw [eg]; exact (hq4).size
            clear hw_
            refine hK.out _ _ (hk5) (fun hHeld => ?_)
            clear hK K
            refine norm_ (a' := ?_) ?_ ?_
            rotate_left
            · show Act.put _ (some 14) _ = _
              simp only [Act.put, List.setIfInBounds_toArray, List.set_cons_zero, List.set_cons_succ, i64_w, i32_w]
              rfl
            exact norm_ (by simp only [putAll, Act.put, List.setIfInBounds_toArray, List.set_cons_zero, List.set_cons_succ]) (hCont g _ ⟨hb5, rfl, hge, hq5, hk5⟩)
          · skip
            refine box_step (by rfl) (N := 14) rfl (cs := #[.int .i64 0, .bool false, .string ⟨#[]⟩, .slice none 0 0]) (t := 63) (by first | (go_simp; done) | (go_simp; rfl)) ?_
            intro g eg w4 hb4 hw_
            have hk4 := cell_up hw_ (cell_up (below_drew1 (Below.refl _ _)) hc4)
            have hq4 := below_step (below_drew1 (Below.refl w2.heap.size w2)) hw_
            have hge : w2.heap.size ≤ g := by rw [eg]; exact ((below_drew1 (Below.refl w2.heap.size w2))).size
            clear hw_
            refine hK.out _ _ (hk4) (fun hHeld => ?_)
            clear hK K
            refine norm_ (a' := ?_) ?_ ?_
            rotate_left
            · show Act.put _ (some 14) _ = _
              simp only [Act.put, List.setIfInBounds_toArray, List.set_cons_zero, List.set_cons_succ, i64_w, i32_w]
              rfl
            refine one_ (i := 2) (N := some 38) #[true, true, true, false, false, true, true, true, true, true, false, true, false] rfl rfl (by kernel_rfl) (by decide) (fun K hK => ?_)
            refine goes_ Try.func39 (by kernel_rfl) rfl #[.slice AI 2 cI] (by rfl) rfl rfl (by simp only [List.map_toArray, List.map_cons, List.map_nil]; rfl) ?_
            with_reducible refine (HNUMI.out _ hq4).mono ?_
            rintro e w5 ⟨rfl, hd⟩
            refine ⟨_, rfl, ?_⟩
            have hw_ := below_drawn hd
            have hk5 := cell_up hw_ hk4
            have hq5 := below_step hq4 hw_
            have hb5 := (hw_.block _ (lt_of_block hb4)).trans hb4
            clear hd hw_
            rw [HNI.out]
            refine hK.out _ _ (hk5) (fun hHeld => ?_)
            clear hK K
            refine norm_ (a' := ?_) ?_ ?_
            rotate_left
            · show Act.put _ (some 38) _ = _
              simp only [Act.put, List.setIfInBounds_toArray, List.set_cons_zero, List.set_cons_succ, i64_w, i32_w]
              rfl
            refine pure_ (i := 3) (N := some 39) (v := ?_) (a' := ?_) #[true, true, true, true, false, true, true, true, true, true, false, true, false] rfl rfl (by kernel_rfl) (fun _ _ _ h => h) (Or.inl ⟨by rfl, ?_⟩) ?_ ?_
            rotate_left
            · intro w'
              go_simp
              with_reducible rfl
            rotate_left
            · simp only [Act.put, List.setIfInBounds_toArray, List.set_cons_zero, List.set_cons_succ, i64_w, i32_w]
              rfl
            refine pure_ (i := 4) (N := some 40) (v := ?_) (a' := ?_) #[true, true, true, true, true, true, true, true, true, true, false, true, false] rfl rfl (by kernel_rfl) (fun _ _ _ h => h) (Or.inl ⟨by rfl, ?_⟩) ?_ ?_
            rotate_left
            · intro w'
              go_simp
              with_reducible rfl
            rotate_left
            · simp only [Act.put, List.setIfInBounds_toArray, List.set_cons_zero, List.set_cons_succ, i64_w, i32_w]
              rfl
            refine pure_ (i := 10) (N := some 46) (v := ?_) (a' := ?_) #[true, true, true, true, true, true, true, true, true, true, true, true, false] rfl rfl (by kernel_rfl) (fun _ _ _ h => h) (Or.inl ⟨by rfl, ?_⟩) ?_ ?_
            rotate_left
            · intro w'
              go_simp
              with_reducible rfl
            rotate_left
            · simp only [Act.put, List.setIfInBounds_toArray, List.set_cons_zero, List.set_cons_succ, i64_w, i32_w]
              rfl
            exact norm_ (by simp only [putAll, Act.put, List.setIfInBounds_toArray, List.set_cons_zero, List.set_cons_succ]) (hCont g _ ⟨hb5, rfl, hge, hq5, hk5⟩)
        rintro g w5 ⟨hb5, _, hge, hq5, hk5⟩
        have hHeld : w5.cell? ⟨adS.block, adS.off + 2, none⟩ = some (.int .u8 X2) := hk5
        refine norm_ (a' := ?_) ?_ ?_
        rotate_left
        · simp only [putAll, Act.put, List.setIfInBounds_toArray, List.set_cons_zero, List.set_cons_succ]
          rfl
        refine last_ (i := 12) (N := none) #[true, true, true, true, true, true, true, true, true, true, true, true, true] rfl rfl (by kernel_rfl) (by decide) (fun K hK => ?_)
        refine store_row_step (by rfl) rfl 63 (.tmp 14) (.tmp 46) rfl g #[.int .i64 IX, .bool WK, .string ⟨#[]⟩, .slice none 0 0] rfl rfl 63 _ hb5 (by kernel_rfl) rfl (by kernel_rfl) ?_
        intro w6 hb6 hf6
        have hq6 := hf6 _ _ hq5 hge
        have HB6 := Aside0.mk hb6
        have HQ6 := Aside0.mk hq6
        have HGE := Aside0.mk hge
        clear hb6 hf6 hq6
        refine hK.out _ _ ?_
        clear hK K
        refine done_ (by kernel_rfl) ?_
        have hNN := HRN.out
        by_cases ca : N2 = 1
        · have cab : (N2 == 1) = true := beq_t ca
          have cab2 : (N2 != 1) = false := by rw [bne, cab]; rfl
          by_cases cb : IX = 0
          · have cbb : (IX == 0) = true := beq_t cb
            have hx := HX3.out
            rw [if_pos (.inr (.inl cb))] at hx
            have HX4 := Aside0.mk hx
            clear hx HX3 hNN ca cb
            go_wp2_with (first
              | (go_at_call 39; (with_reducible refine (HNUMN.out _ HQ6.out).mono ?_); rintro e w7 ⟨rfl, hd⟩; have hw7 := below_drawn hd; have HQ7 := Aside0.mk (below_step HQ6.out hw7); have HB7 := Aside0.mk ((hw7.block _ (lt_of_block HB6.out)).trans HB6.out); clear hd hw7; rw [HNN.out])
              | (go_at_call 39; (with_reducible refine (HNUM2.out _ HQ7.out).mono ?_); rintro e w8 ⟨rfl, hd⟩; have hw8 := below_drawn hd; have HQ8 := Aside0.mk (below_step HQ7.out hw8); have HB8 := Aside0.mk ((hw8.block _ (lt_of_block HB7.out)).trans HB7.out); have e0 : w8.cell? ⟨g, 0, none⟩ = some (.int .i64 IX) := (cell_of_row w8 g 0 _ _ _ HB8.out).trans rfl; clear hd hw8; rw [HN2.out]))
            refine HP.out _ _ ?_
            rw [← HX4.out]
            exact RowsP.err (v := .slice none 0 0) rfl (HR2.out.low HQ8.out) (grown_below HG2.out HQ8.out)
          · have cbb : (IX == 0) = false := beq_f cb
            by_cases cc : NN = 0
            · have ccb : (NN == 0) = true := beq_t cc
              have hx := HX3.out
              rw [if_pos (.inr (.inr cc))] at hx
              have HX4 := Aside0.mk hx
              clear hx HX3 hNN ca cb cc
              go_wp2_with (first
                | (go_at_call 39; (with_reducible refine (HNUMN.out _ HQ6.out).mono ?_); rintro e w7 ⟨rfl, hd⟩; have hw7 := below_drawn hd; have HQ7 := Aside0.mk (below_step HQ6.out hw7); have HB7 := Aside0.mk ((hw7.block _ (lt_of_block HB6.out)).trans HB6.out); clear hd hw7; rw [HNN.out])
                | (go_at_call 39; (with_reducible refine (HNUM2.out _ HQ7.out).mono ?_); rintro e w8 ⟨rfl, hd⟩; have hw8 := below_drawn hd; have HQ8 := Aside0.mk (below_step HQ7.out hw8); have HB8 := Aside0.mk ((hw8.block _ (lt_of_block HB7.out)).trans HB7.out); have e0 : w8.cell? ⟨g, 0, none⟩ = some (.int .i64 IX) := (cell_of_row w8 g 0 _ _ _ HB8.out).trans rfl; clear hd hw8; rw [HN2.out]))
              refine HP.out _ _ ?_
              rw [← HX4.out]
              exact RowsP.err (v := .slice none 0 0) rfl (HR2.out.low HQ8.out) (grown_below HG2.out HQ8.out)
            · have ccb : (NN == 0) = false := beq_f cc
              have hx := HX3.out
              rw [if_neg (fun h => h.elim (fun h => h ca) (fun h => h.elim cb cc))] at hx
              have HX4 := Aside0.mk hx
              have HNZ := Aside0.mk cc
              clear hx HX3 hNN ca cb cc
              go_wp2_with (first
                | (go_at_call 39; (with_reducible refine (HNUMN.out _ HQ6.out).mono ?_); rintro e w7 ⟨rfl, hd⟩; have hw7 := below_drawn hd; have HQ7 := Aside0.mk (below_step HQ6.out hw7); have HB7 := Aside0.mk ((hw7.block _ (lt_of_block HB6.out)).trans HB6.out); clear hd hw7; rw [HNN.out])
                | (go_at_call 39; (with_reducible refine (HNUM2.out _ HQ7.out).mono ?_); rintro e w8 ⟨rfl, hd⟩; have hw8 := below_drawn hd; have HQ8 := Aside0.mk (below_step HQ7.out hw8); have HB8 := Aside0.mk ((hw8.block _ (lt_of_block HB7.out)).trans HB7.out); have e0 : w8.cell? ⟨g, 0, none⟩ = some (.int .i64 IX) := (cell_of_row w8 g 0 _ _ _ HB8.out).trans rfl; clear hd hw8; rw [HN2.out]))
              have HR8 := Aside0.mk (HR2.out.up HQ8.out)
              have k5 := HR8.out.c5
              have hlook := fun n : Nat => look_set (HR8.out.drewN n).map IX HWF.out
              by_cases cm : IX ∈ T1
              · simp only [decide_eq_true cm] at hlook
                have hx := HX4.out
                rw [if_pos cm] at hx
                have HX5 := Aside0.mk hx
                clear hx HX4 cm
                go_quiet (fail)
                go_wp2
                refine HP.out _ _ ?_
                rw [← HX5.out]
                exact RowsP.err (v := .slice none 0 0) rfl (HR2.out.low (pw_below_drewN HQ8.out nq)) (grown_below HG2.out (pw_below_drewN HQ8.out nq))
              · simp only [decide_eq_false cm] at hlook
                have hx := HX4.out
                rw [if_neg cm] at hx
                have HX5 := Aside0.mk hx
                clear hx HX4 cm
                go_quiet (fail)
                have HQ9 := Aside0.mk (pw_below_drewN HQ8.out nq)
                have HB9 := Aside0.mk (((pw_below_drewN (Below.refl w8.heap.size w8) nq).block _ (lt_of_block HB8.out)).trans HB8.out)
                clear e0 k5 hlook HR8
                generalize World.drewN w8 nq = w9 at HQ9 HB9 ⊢
                clear HB8 HQ8
                have e0 : w9.cell? ⟨g, 0, none⟩ = some (.int .i64 IX) := (cell_of_row w9 g 0 _ _ _ HB9.out).trans rfl
                have k5 := (HR2.out.up HQ9.out).c5
                by_cases cn : NN > 64
                · have cnb : decide (NN > 64) = true := decide_eq_true cn
                  have hx := HX5.out
                  rw [if_pos cn] at hx
                  have HX6 := Aside0.mk hx
                  clear hx HX5 cn
                  go_wp2
                  refine HP.out _ _ ?_
                  rw [← HX6.out]
                  exact RowsP.err (v := .slice none 0 0) rfl (HR2.out.low HQ9.out) (grown_below HG2.out HQ9.out)
                · have cnb : decide (NN > 64) = false := decide_eq_false cn
                  have hx := HX5.out
                  rw [if_neg cn] at hx
                  have HX6 := Aside0.mk hx
                  have HCN := Aside0.mk cn
                  clear hx HX5 cn
                  have HNP := Aside0.mk (show 0 ≤ NN ∧ NN ≤ 64 by have := HRN.out; have := HCN.out; omega)
                  go_wp2
                  go_still_tail 6, (by kernel_rfl)
                  change wpList _ _ _ _ _ w9.drew
                  have hdr : Below w9.heap.size w9 w9.drew := below_drew1 (Below.refl _ _)
                  have HQ10 := Aside0.mk (below_drew1 HQ9.out)
                  have HB10 := Aside0.mk ((hdr.block _ (lt_of_block HB9.out)).trans HB9.out)
                  clear hdr e0 k5
                  generalize w9.drew = w10 at HQ10 HB10 ⊢
                  clear HQ9 HB9
                  have hcD := HCD.out
                  have hmr := HW.out.2.1.map.lt
                  have HMR := Aside0.mk hmr
                  clear hmr
                  cases hq2 : namesS r.b r.ps r.ss NN.toNat x ND [] with
                  | error cE =>
                    have hx := HX6.out
                    rw [hq2] at hx
                    have HX7 := Aside0.mk (show (Except.error cE : Except Int (List Df × List Int)) = res from hx)
                    have HQ2 := Aside0.mk hq2
                    clear hx HX6 hq2
                    go_wp2_with (first
                      | (at_mapUpdate; refine wpList_update_set rfl (.tmp 81) (.tmp 83) (.const (.bool true)) rfl (HR2.out.up HQ10.out).map (by have := HW.out.2.2.2.2; have := HTL.out; have := HI.out; have := HN.out; omega) IX HWF.out rfl rfl rfl ?_; intro w11 hm11 hg11; have HGR := Aside0.mk (grown_grown (grown_below (grown_refl w2 r.m) HQ10.out) hg11); have HMS := Aside0.mk hm11; have hV := Kd.V_grown HV2.out HGR.out (fun k hk e => by injection e with e; have := HMR.out; omega); have HND_ := Aside0.mk (mid_again (V_C hV).1 (V_C hV).2.2 (V_C hV).2.1 HS.out.2 12 16 12 16 4 rfl rfl (by decide) (by decide) rfl (by decide) HCD.out); clear hm11 hg11 hV)
                      | (go_at_call 39; (with_reducible refine (HND_.out _ (Below.refl _ _)).mono ?_); rintro e w12 ⟨rfl, hd⟩; have HR12 := Aside0.mk ((HR2.out.told HMS.out HGR.out).up (below_drawn hd)); have HGE12 := Aside0.mk (grown_below (grown_grown HG2.out HGR.out) (below_drawn hd)); clear hd; rw [HND.out])
                      | (go_at_call 58; (with_reducible refine (names_err HR12.out HG.out x ND NN HXI.out HRD.out HNP.out HQ2.out).mono ?_); rintro e w13 ⟨v, rfl, hw⟩; have HE13 := Aside0.mk (And.intro (HR12.out.low hw) (grown_below HGE12.out hw)); clear hw))
                    refine HP.out _ _ ?_
                    rw [← HX7.out]
                    exact RowsP.err (v := .slice none 0 0) rfl HE13.out.1 HE13.out.2
                  | ok texts =>
                    have hlen := namesS_len _ _ _ _ _ hq2
                    have hnn := HNZ.out
                    cases texts with
                    | nil => simp at hlen; have := HNP.out; omega
                    | cons nm rest =>
                      have hx := HX6.out
                      rw [hq2] at hx
                      simp only [List.headD_cons, List.tail_cons] at hx
                      have HX7 := Aside0.mk hx
                      have HQ2 := Aside0.mk hq2
                      have HNS := Aside0.mk (show nm.size ≤ 255 from (namesS_size _ _ _ _ _ hq2 nm (by simp)).elim (fun h => by cases h) id)
                      have HRL := Aside0.mk (show rest.length ≤ 64 by have := HNP.out; simp at hlen; omega)
                      clear hx HX6 hq2 hlen hnn
                      go_wp2_with (first
                        | (at_mapUpdate; refine wpList_update_set rfl (.tmp 81) (.tmp 83) (.const (.bool true)) rfl (HR2.out.up HQ10.out).map (by have := HW.out.2.2.2.2; have := HTL.out; have := HI.out; have := HN.out; omega) IX HWF.out rfl rfl rfl ?_; intro w11 hm11 hg11; have HGR := Aside0.mk (grown_grown (grown_below (grown_refl w2 r.m) HQ10.out) hg11); have HMS := Aside0.mk hm11; have hV := Kd.V_grown HV2.out HGR.out (fun k hk e => by injection e with e; have := HMR.out; omega); have HND_ := Aside0.mk (mid_again (V_C hV).1 (V_C hV).2.2 (V_C hV).2.1 HS.out.2 12 16 12 16 4 rfl rfl (by decide) (by decide) rfl (by decide) HCD.out); have HB11 := Aside0.mk ((hg11.block g (lt_of_block HB10.out) (fun e => (HR2.out.up HQ10.out).map.ne HB10.out (by injection e))).trans HB10.out); clear hm11 hg11 hV)
                        | (go_at_call 39; (with_reducible refine (HND_.out _ (Below.refl _ _)).mono ?_); rintro e w12 ⟨rfl, hd⟩; have hw_ := below_drawn hd; have HR12 := Aside0.mk ((HR2.out.told HMS.out HGR.out).up hw_); have HGR12 := Aside0.mk (grown_below HGR.out hw_); have HB12 := Aside0.mk ((hw_.block _ (lt_of_block HB11.out)).trans HB11.out); clear hd hw_; rw [HND.out])
                        | (go_at_call 58; (with_reducible refine (names_ok HR12.out HG.out x ND NN HXI.out HRD.out HNP.out HQ2.out).mono ?_); rintro e w13 ⟨vT, rfl, hRT, hw⟩; have HR13 := Aside0.mk (HR12.out.up hw); have HGR13 := Aside0.mk (grown_below HGR12.out hw); have HB13 := Aside0.mk ((hw.block _ (lt_of_block HB12.out)).trans HB12.out); have HGS := Aside0.mk (show g < w12.heap.size from lt_of_block HB12.out); obtain ⟨AT, cT, eT, hlT, hCT⟩ := Kd.R_reads hRT; subst eT; obtain ⟨adT, eA, hT0⟩ := Kd.at_string hCT 0 (by omega) (by simp); subst eA; have hT1 : w13.cell? adT = some (.string nm) := (by rw [show adT.add (0 : Int).toNat = adT from Addr.add_zero' _] at hT0; exact hT0); have HRT := Aside0.mk hRT; have HCT := Aside0.mk (And.intro hlT hCT); have hcg : w13.cell? ⟨g, 2, none⟩ = some (.string ⟨#[]⟩) := (cell_of_row w13 g 2 _ _ _ HB13.out).trans rfl; have hfg := blk_frozen HB13.out 2; clear hw hRT hlT hCT hT0))
                      have HGR14 := Aside0.mk (grown_set HGR13.out HGE.out 2 (.string nm))
                      have HMS14 := Aside0.mk (HR13.out.map.set (fun e => HR13.out.map.ne HB13.out e.symm) 2 (.string nm))
                      have HB14 := Aside0.mk (show (w13.setCell ⟨g, 2, none⟩ (.string nm)).heap[g]? = some (.cells #[.int .i64 IX, .bool WK, .string nm, .slice none 0 0] 63 (0, 0)) from blk_set HB13.out 2 (.string nm))
                      have HRT14 := Aside0.mk (R_low HRT.out HGS.out 2 (.string nm))
                      obtain ⟨AR, cR, hcutR, hRC⟩ := rest_cut adT cT nm rest HCT.out.1
                      have HRC := Aside0.mk hRC
                      clear hcg hfg hT1 hRC
                      generalize World.setCell w13 ⟨g, 2, none⟩ (.string nm) = w14 at HGR14 HMS14 HB14 HRT14 ⊢
                      have hdr : Below w14.heap.size w14 w14.drew := below_drew1 (Below.refl _ _)
                      have HGR15 := Aside0.mk (grown_below HGR14.out hdr)
                      have HMS15 := Aside0.mk (HMS14.out.below hdr)
                      have HB15 := Aside0.mk ((hdr.block _ (lt_of_block HB14.out)).trans HB14.out)
                      have HRT15 := Aside0.mk (Kd.R_below HRT14.out hdr)
                      clear hdr HGR14 HMS14 HB14 HRT14
                      refine start_ (n := 7) (S := fun w' => w'.cell? ⟨g, 3, none⟩ = some (.slice none 0 0)) (ds := [6]) #[false, false, false, false, false, false, false] (by kernel_rfl) rfl rfl (((cell_of_row w14.drew g 3 _ _ _ HB15.out).trans rfl)) (fun hHeld => ?_)
                      refine pure_ (i := 0) (N := some 101) (v := ?_) (a' := ?_) #[true, false, false, false, false, false, false] rfl rfl (by kernel_rfl) (fun _ _ _ h => h) (Or.inl ⟨by rfl, ?_⟩) ?_ ?_
                      rotate_left
                      · intro w'
                        go_simp
                        with_reducible rfl
                      rotate_left
                      · simp only [Act.put, List.setIfInBounds_toArray, List.set_cons_zero, List.set_cons_succ, i64_w, i32_w]
                        rfl
                      refine pure_ (i := 2) (N := some 103) (v := ?_) (a' := ?_) #[true, false, true, false, false, false, false] rfl rfl (by kernel_rfl) (fun _ _ _ h => h) (Or.inl ⟨by rfl, ?_⟩) ?_ ?_
                      rotate_left
                      · intro w'
                        go_simp
                        with_reducible rfl
                      rotate_left
                      · simp only [Act.put, List.setIfInBounds_toArray, List.set_cons_zero, List.set_cons_succ, i64_w, i32_w]
                        rfl
                      refine pure_ (i := 3) (N := some 104) (v := ?_) (a' := ?_) #[true, false, true, true, false, false, false] rfl rfl (by kernel_rfl) (fun _ _ _ h => h) (Or.inl ⟨by rfl, ?_⟩) ?_ ?_
                      rotate_left
                      · intro w'
                        go_simp
                        with_reducible rfl
                      rotate_left
                      · simp only [Act.put, List.setIfInBounds_toArray, List.set_cons_zero, List.set_cons_succ, i64_w, i32_w]
                        rfl
                      refine take_ (i := 1) (N := some 102) (v := ?_) (a' := ?_) #[true, true, true, true, false, false, false] rfl rfl (by kernel_rfl) (fun _ _ _ h => h) (Or.inl ⟨by rfl, ?_⟩) hHeld ?_ ?_
                      rotate_left
                      · intro w' s0
                        go_simp
                        with_reducible rfl
                      rotate_left
                      · simp only [Act.put, List.setIfInBounds_toArray, List.set_cons_zero, List.set_cons_succ, i64_w, i32_w]
                        rfl
                      refine one_ (i := 4) (N := some 105) #[true, true, true, true, true, false, false] rfl rfl (by kernel_rfl) (by decide) (fun K hK => ?_)
                      refine Kd.R_append_rows_step Kd.string (Rr := fun x cs => cs = [.string x]) (w0 := w14.drew) w14.drew.heap.size (by rfl) (.tmp 102) (.tmp 104) 22 9 (.string ⟨#[]⟩) 16 rfl Try.underlying22 info9 rfl (by decide) (by omega) (.slice none 0 0) [] rest AR rest.length cR (fun k => w14.drew.heap.size ≤ k) (fun _ => False) rfl rfl (Kd.R_nil _ _ _ _ _) (HRC.out _ (Kd.R_reads' HRT15.out).2.2) (fun _ _ h => h) (fun _ hk => hk.elim) (fun _ hk => hk) (Below.refl _ _) (Nat.le_refl _) (by have := HRL.out; simp; omega) ?_
                      intro v3 w16 ho hb hg hat
                      rw [List.nil_append] at ho
                      obtain ⟨A3, c3, e3⟩ := Kd.R_slice ho
                      subst e3
                      have HO16 := Aside0.mk ho
                      have HGR16 := Aside0.mk (grown_below HGR15.out hb)
                      have HMS16 := Aside0.mk (HMS15.out.below hb)
                      have HB16 := Aside0.mk ((hb.block _ (lt_of_block HB15.out)).trans HB15.out)
                      have HGL := Aside0.mk (lt_of_block HB15.out)
                      have hcg3 : w16.cell? ⟨g, 3, none⟩ = some (.slice none 0 0) := (cell_of_row w16 g 3 _ _ _ HB16.out).trans rfl
                      have hfg3 := blk_frozen HB16.out 3
                      clear ho hb hg hat
                      refine hK.out _ _ (hcg3) (fun hHeld => ?_)
                      clear hK K
                      refine norm_ (a' := ?_) ?_ ?_
                      rotate_left
                      · show Act.put _ (some 105) _ = _
                        simp only [Act.put, List.setIfInBounds_toArray, List.set_cons_zero, List.set_cons_succ, i64_w, i32_w]
                        rfl
                      refine pure_ (i := 5) (N := some 106) (v := ?_) (a' := ?_) #[true, true, true, true, true, true, false] rfl rfl (by kernel_rfl) (fun _ _ _ h => h) (Or.inl ⟨by rfl, ?_⟩) ?_ ?_
                      rotate_left
                      · intro w'
                        go_simp
                        with_reducible rfl
                      rotate_left
                      · simp only [Act.put, List.setIfInBounds_toArray, List.set_cons_zero, List.set_cons_succ, i64_w, i32_w]
                        rfl
                      refine last_ (i := 6) (N := none) #[true, true, true, true, true, true, true] rfl rfl (by kernel_rfl) (by decide) (fun K hK => ?_)
                      refine skip_ (w1 := ?_) (by rfl) rfl ?_ ?_
                      rotate_left
                      · go_simp
                        rfl
                      have HGR17 := Aside0.mk (grown_set HGR16.out HGE.out 3 (.slice A3 rest.length c3))
                      have HMS17 := Aside0.mk (HMS16.out.set (fun e => HMS16.out.ne HB16.out e.symm) 3 (.slice A3 rest.length c3))
                      have HRP17 := Aside0.mk (R_low HO16.out HGL.out 3 (.slice A3 rest.length c3))
                      clear hcg3 hfg3
                      refine hK.out _ _ ?_
                      clear hK K
                      refine done_ (by kernel_rfl) ?_
                      go_wp2
                      have HBX := Aside0.mk (show (w16.setCell ⟨g, 3, none⟩ (.slice A3 rest.length c3)).heap[g]? = some (.cells #[.int .i64 IX, .bool WK, .string nm, .slice A3 rest.length c3] 63 (0, 0)) from blk_set HB16.out 3 (.slice A3 rest.length c3))
                      clear HB16
                      generalize World.setCell w16 ⟨g, 3, none⟩ (.slice A3 rest.length c3) = w17 at HGR17 HMS17 HBX HRP17 ⊢
                      obtain ⟨SY, hSY⟩ : ∃ y, sysv nm = y := ⟨_, rfl⟩
                      have hsy := sysv_in nm
                      have HSYC := Aside0.mk (fun n : Nat => Calls.quiet_of (sysv_calls nm (World.drewN w17 n) (by have := HNS.out; omega)))
                      have hV := Kd.V_grown HV2.out HGR17.out (fun k hk e => by injection e with e; have := HMR.out; omega)
                      have HNH_ := Aside0.mk (mid_again (V_C hV).1 (V_C hV).2.2 (V_C hV).2.1 HS.out.2 8 12 8 12 4 rfl rfl (by decide) (by decide) rfl (by decide) HCH.out)
                      have HNQ := Aside0.mk (fun n : Nat => Calls.quiet_of (HNH_.out (World.drewN w17 n) (pw_below_drewN (Below.refl _ _) n)))
                      have hx := HX7.out
                      simp only [hSY] at hx
                      rw [hSY] at hsy HSYC
                      rw [HNH.out] at HNQ
                      have HX8 := Aside0.mk hx
                      have hcv := u64_in SY (by omega) (by omega)
                      have e2 : w17.cell? ⟨g, 2, none⟩ = some (.string nm) := (cell_of_row w17 g 2 _ _ _ HBX.out).trans rfl
                      have hcH := HCH.out
                      clear hSY hsy hx HX7 hV hcutR
                      by_cases cs : SY = NH
                      · have csb : (SY == NH) = true := beq_t cs
                        have csb2 : (SY != NH) = false := by rw [bne, csb]; rfl
                        have hx := HX8.out
                        rw [if_neg (fun h => h cs)] at hx
                        have HX9 := Aside0.mk hx
                        clear hx HX8 cs
                        go_quiet (first | exact HSYC.out _ | exact HNQ.out _)
                        have hdn : Below w17.heap.size w17 (World.drewN w17 nq) := pw_below_drewN (Below.refl _ _) nq
                        have HGR18 := Aside0.mk (grown_below HGR17.out hdn)
                        have HMS18 := Aside0.mk (HMS17.out.below hdn)
                        have HB18 := Aside0.mk ((hdn.block _ (lt_of_block HBX.out)).trans HBX.out)
                        have HRP18 := Aside0.mk (Kd.R_below HRP17.out hdn)
                        clear hdn e2 HSYC HNQ hcv HNH_
                        generalize World.drewN w17 nq = w18 at HGR18 HMS18 HB18 HRP18 ⊢
                        clear HGR17 HMS17 HBX HRP17
                        have hV := Kd.V_grown HV2.out HGR18.out (fun k hk e => by injection e with e; have := HMR.out; omega)
                        have HNX_ := Aside0.mk (from_again (V_C hV).1 (V_C hV).2.2 (V_C hV).2.1 HS.out.2 16 16 4 rfl (by decide) rfl (by decide) HCX.out)
                        have hcX := HCX.out
                        clear hV
                        have HU := Aside0.mk (u64_in (n - 1) (by have := HI.out; have := HC4.out; omega) (by have := HN.out; omega))
                        have HVV := Aside0.mk (u64_in (i + 1) (by have := HI.out; omega) (by have := HI.out; have := HN.out; omega))
                        by_cases cz : NX = 0
                        · have cz0 : (NX == 0) = true := beq_t cz
                          by_cases ck : k = 0
                          · have ci2 : decide (i < IntKind.u64.wrap (n - 1)) = false := decide_eq_false (by rw [HU.out]; have := HK.out; have := HI.out; omega)
                            have hx := HX9.out
                            rw [if_neg (fun h => h.2 ck)] at hx
                            have HX10 := Aside0.mk hx
                            clear hx HX9 ck cz
                            go_wp2_with (first
                              | (go_at_call 39; (with_reducible refine (HNX_.out _ (Below.refl _ _)).mono ?_); rintro e w19 ⟨rfl, hd⟩; have hw_ := below_drawn hd; have HGR19 := Aside0.mk (grown_below HGR18.out hw_); have HMS19 := Aside0.mk (HMS18.out.below hw_); have HRP19 := Aside0.mk (Kd.R_below HRP18.out hw_); have hb19 := (hw_.block _ (lt_of_block HB18.out)).trans HB18.out; have f0 : w19.cell? ⟨g, 0, none⟩ = some (.int .i64 IX) := (cell_of_row w19 g 0 _ _ _ hb19).trans rfl; have f1 : w19.cell? ⟨g, 1, none⟩ = some (.bool WK) := (cell_of_row w19 g 1 _ _ _ hb19).trans rfl; have f2 : w19.cell? ⟨g, 2, none⟩ = some (.string nm) := (cell_of_row w19 g 2 _ _ _ hb19).trans rfl; have f3 : w19.cell? ⟨g, 3, none⟩ = some (.slice A3 rest.length c3) := (cell_of_row w19 g 3 _ _ _ hb19).trans rfl; clear hd hw_ hb19; rw [HNX.out])
                              | ((with_reducible refine gate_builtin (b := .append) (xs := #[.tmp 128, .tmp 130]) rfl ?_); at_builtin; refine Kd.R_append kDf (w0 := w19) w.heap.size rfl (.tmp 128) (.tmp 130) 51 63 (.agg #[.int .i64 0, .bool false, .string ⟨#[]⟩, .slice none 0 0]) 56 rfl Try.underlying51 info63 rfl (by decide) (by omega) u8 acc (IX, WK, nm, rest) [.int .i64 IX, .bool WK, .string nm, .slice A3 rest.length c3] (fun k => k ≠ r.m) (fun k => w2.heap.size ≤ k) rfl (by first | (go_simp; done) | (go_simp; rfl)) ?aP ?aK ?aF ?aO ?aB ?aS ?aL ?_; (case aP => exact kDf_mkM _ _ _ (IX, WK, nm, rest) (Kd.R_lower (Kd.R_mono HRP19.out (fun k hk => Nat.le_trans HGR15.out.size hk)) (Nat.le_trans HG2.out.size HGR15.out.size))); (case aK => exact fun k hk => ⟨fun e => by have := HR2.out.map.lt; have e : k = r.m := e; omega, fun e => by obtain ⟨_, ho⟩ := Kd.R_own HO2.out; have := own_lt ho k e.symm; omega⟩); (case aF => exact fun k hk e => by have := HMS19.out.lt; have e : k = r.m := e; omega); (case aO => exact R_grownm HO2.out HGR19.out); (case aB => exact Below.refl _ _); (case aS => exact Nat.le_trans HG2.out.size HGR19.out.size); (case aL => have := HW.out.2.2.2.1; have := HI.out; have := HN.out; omega); intro v20 w20 ho hb hg hat; have HO20 := Aside0.mk ho; have HR20 := Aside0.mk (HH.out.own (HR2.out.told HMS19.out HGR19.out) (R_grownm HO2.out HGR19.out) hg); have HG20 := Aside0.mk (grown_own (grown_grown HG2.out HGR19.out) (R_grownm HO2.out HGR19.out) hg); clear ho hb hg hat f0 f1 f2 f3))
                            go_roundg (n - (i + 1)).toNat
                            case measure => have := HI.out; have := HC4.out; omega
                            case rel => exact ⟨i + 1, x, NX, IX :: T1, acc ++ [(IX, WK, nm, rest)], rfl, rfl, by rw [HVV.out], ⟨by have := HI.out; have := HC4.out; omega⟩, ⟨HXI.out, HRX.out⟩, ⟨by rw [show (n - (i + 1)).toNat = k by have := HK.out; omega]; exact HX10.out⟩, ⟨HO20.out, HR20.out, HG20.out, by have := HW.out.2.2.2.1; have := HI.out; simp; omega, by have := HW.out.2.2.2.2; have := HI.out; simp; omega⟩⟩
                          · have ci2 : decide (i < IntKind.u64.wrap (n - 1)) = true := decide_eq_true (by rw [HU.out]; have := HK.out; have := HI.out; omega)
                            have hx := HX9.out
                            rw [if_pos ⟨cz, ck⟩] at hx
                            have HX10 := Aside0.mk hx
                            clear hx HX9 cz ck
                            go_wp2_with (go_at_call 39; (with_reducible refine (HNX_.out _ (Below.refl _ _)).mono ?_); rintro e w19 ⟨rfl, hd⟩; have HE19 := Aside0.mk (And.intro (((HR2.out.told HMS18.out HGR18.out).up (below_drawn hd)).hw) (grown_below (grown_grown HG2.out HGR18.out) (below_drawn hd))); clear hd; rw [HNX.out])
                            refine HP.out _ _ ?_
                            rw [← HX10.out]
                            exact RowsP.err (v := .slice none 0 0) rfl HE19.out.1 HE19.out.2
                        · have cz0 : (NX == 0) = false := beq_f cz
                          have hx := HX9.out
                          rw [if_neg (fun h => cz h.1)] at hx
                          have HX10 := Aside0.mk hx
                          clear hx HX9 cz
                          go_wp2_with (first
                            | (go_at_call 39; (with_reducible refine (HNX_.out _ (Below.refl _ _)).mono ?_); rintro e w19 ⟨rfl, hd⟩; have hw_ := below_drawn hd; have HGR19 := Aside0.mk (grown_below HGR18.out hw_); have HMS19 := Aside0.mk (HMS18.out.below hw_); have HRP19 := Aside0.mk (Kd.R_below HRP18.out hw_); have hb19 := (hw_.block _ (lt_of_block HB18.out)).trans HB18.out; have f0 : w19.cell? ⟨g, 0, none⟩ = some (.int .i64 IX) := (cell_of_row w19 g 0 _ _ _ hb19).trans rfl; have f1 : w19.cell? ⟨g, 1, none⟩ = some (.bool WK) := (cell_of_row w19 g 1 _ _ _ hb19).trans rfl; have f2 : w19.cell? ⟨g, 2, none⟩ = some (.string nm) := (cell_of_row w19 g 2 _ _ _ hb19).trans rfl; have f3 : w19.cell? ⟨g, 3, none⟩ = some (.slice A3 rest.length c3) := (cell_of_row w19 g 3 _ _ _ hb19).trans rfl; clear hd hw_ hb19; rw [HNX.out])
                            | ((with_reducible refine gate_builtin (b := .append) (xs := #[.tmp 128, .tmp 130]) rfl ?_); at_builtin; refine Kd.R_append kDf (w0 := w19) w.heap.size rfl (.tmp 128) (.tmp 130) 51 63 (.agg #[.int .i64 0, .bool false, .string ⟨#[]⟩, .slice none 0 0]) 56 rfl Try.underlying51 info63 rfl (by decide) (by omega) u8 acc (IX, WK, nm, rest) [.int .i64 IX, .bool WK, .string nm, .slice A3 rest.length c3] (fun k => k ≠ r.m) (fun k => w2.heap.size ≤ k) rfl (by first | (go_simp; done) | (go_simp; rfl)) ?aP ?aK ?aF ?aO ?aB ?aS ?aL ?_; (case aP => exact kDf_mkM _ _ _ (IX, WK, nm, rest) (Kd.R_lower (Kd.R_mono HRP19.out (fun k hk => Nat.le_trans HGR15.out.size hk)) (Nat.le_trans HG2.out.size HGR15.out.size))); (case aK => exact fun k hk => ⟨fun e => by have := HR2.out.map.lt; have e : k = r.m := e; omega, fun e => by obtain ⟨_, ho⟩ := Kd.R_own HO2.out; have := own_lt ho k e.symm; omega⟩); (case aF => exact fun k hk e => by have := HMS19.out.lt; have e : k = r.m := e; omega); (case aO => exact R_grownm HO2.out HGR19.out); (case aB => exact Below.refl _ _); (case aS => exact Nat.le_trans HG2.out.size HGR19.out.size); (case aL => have := HW.out.2.2.2.1; have := HI.out; have := HN.out; omega); intro v20 w20 ho hb hg hat; have HO20 := Aside0.mk ho; have HR20 := Aside0.mk (HH.out.own (HR2.out.told HMS19.out HGR19.out) (R_grownm HO2.out HGR19.out) hg); have HG20 := Aside0.mk (grown_own (grown_grown HG2.out HGR19.out) (R_grownm HO2.out HGR19.out) hg); clear ho hb hg hat f0 f1 f2 f3))
                          go_roundg (n - (i + 1)).toNat
                          case measure => have := HI.out; have := HC4.out; omega
                          case rel => exact ⟨i + 1, x, NX, IX :: T1, acc ++ [(IX, WK, nm, rest)], rfl, rfl, by rw [HVV.out], ⟨by have := HI.out; have := HC4.out; omega⟩, ⟨HXI.out, HRX.out⟩, ⟨by rw [show (n - (i + 1)).toNat = k by have := HK.out; omega]; exact HX10.out⟩, ⟨HO20.out, HR20.out, HG20.out, by have := HW.out.2.2.2.1; have := HI.out; simp; omega, by have := HW.out.2.2.2.2; have := HI.out; simp; omega⟩⟩
                      · have csb : (SY == NH) = false := beq_f cs
                        have csb2 : (SY != NH) = true := by rw [bne, csb]; rfl
                        have hx := HX8.out
                        rw [if_pos cs] at hx
                        have HX9 := Aside0.mk hx
                        clear hx HX8 cs
                        go_quiet (first | exact HSYC.out _ | exact HNQ.out _)
                        go_wp2
                        refine HP.out _ _ ?_
                        rw [← HX9.out]
                        exact RowsP.err (v := .slice none 0 0) rfl ((HR2.out.told HMS17.out HGR17.out).low (pw_below_drewN (Below.refl _ _) nq)) (grown_below (grown_grown HG2.out HGR17.out) (pw_below_drewN (Below.refl _ _) nq))
        · have cab : (N2 == 1) = false := beq_f ca
          have cab2 : (N2 != 1) = true := by rw [bne, cab]; rfl
          have hx := HX3.out
          rw [if_pos (.inl ca)] at hx
          have HX4 := Aside0.mk hx
          clear hx HX3 hNN ca
          go_wp2_with (first
            | (go_at_call 39; (with_reducible refine (HNUMN.out _ HQ6.out).mono ?_); rintro e w7 ⟨rfl, hd⟩; have hw7 := below_drawn hd; have HQ7 := Aside0.mk (below_step HQ6.out hw7); have HB7 := Aside0.mk ((hw7.block _ (lt_of_block HB6.out)).trans HB6.out); clear hd hw7; rw [HNN.out])
            | (go_at_call 39; (with_reducible refine (HNUM2.out _ HQ7.out).mono ?_); rintro e w8 ⟨rfl, hd⟩; have hw8 := below_drawn hd; have HQ8 := Aside0.mk (below_step HQ7.out hw8); have HB8 := Aside0.mk ((hw8.block _ (lt_of_block HB7.out)).trans HB7.out); have e0 : w8.cell? ⟨g, 0, none⟩ = some (.int .i64 IX) := (cell_of_row w8 g 0 _ _ _ HB8.out).trans rfl; clear hd hw8; rw [HN2.out]))
          refine HP.out _ _ ?_
          rw [← HX4.out]
          exact RowsP.err (v := .slice none 0 0) rfl (HR2.out.low HQ8.out) (grown_below HG2.out HQ8.out)
    · have c4b0 : decide (i < n) = false := decide_eq_false c4
      have hi : (n - i).toNat = 0 := by omega
      have hx := HX.out
      rw [hi, defsS] at hx
      have HX2 := Aside0.mk hx
      clear hx hi c4 HX
      go_wp2
      refine HP.out _ _ ?_
      rw [← HX2.out]
      exact RowsP.ok rfl HW.out.1 HW.out.2.1 HW.out.2.2.1
end Go.Proofs.Ythopdoamajjojaa.VersS
