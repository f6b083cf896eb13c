import Derived.Test.YthopdoamajjojaaBindHL
import Derived.Test.YthopdoamajjojaaBindTot
import Derived.Test.YthopdoamajjojaaBindInE
import Derived.Test.YthopdoamajjojaaBindUp
namespace Go.Proofs.Ythopdoamajjojaa.BindF
open Go Go.RowKit Go.Proofs.YthopdoamajjojaaW.PrintWords Go.Proofs.YthopdoamajjojaaW.PrintLast Go.Proofs.YthopdoamajjojaaW.PrintMore QBindF
open BSpec (okP W32 G GP)
set_option linter.unusedVariables false
set_option linter.unusedSimpArgs false
theorem eW_err (e : Option Int) : eW e = errW e := by cases e <;> rfl
theorem heap29 : Kd.Heap k29 := Kd.heap_iso _ (Kd.heap_pair (Kd.heap_int _) (Kd.heap_pair (Kd.heap_int _) (Kd.heap_pair (Kd.heap_int _) (Kd.heap_pair (Kd.heap_int _) (Kd.heap_pair (Kd.heap_int _) (Kd.heap_pair (Kd.heap_int _) (Kd.heap_int _)))))))
theorem F_of {α : Type} {d : Kd α} (hd : Kd.Heap d) {w : World} {A : Option Addr} {n : Nat} {xs : List α} (h : Kd.C d w A n xs) : Kd.F d w (fun _ => True) A n xs := fun W' hW => hd.C (fun k hk => hW k trivial hk) h
structure RW (w : World) (A0 A3 As : Option Addr) (c0 c3 cs : Nat) (b : List Int) (ps : List S29) (ss : List S39) : Prop where
  q0 : Kd.C (Kd.int .u8) w A0 b.length b
  q1 : b.length ≤ c0
  q2 : Kd.C k29 w A3 ps.length ps
  q3 : ps.length ≤ c3
  q4 : Kd.C k39 w As ss.length ss
  q5 : ss.length ≤ cs
section
variable {w : World} {A0 A3 As : Option Addr} {c0 c3 cs : Nat} {b : List Int} {ps : List S29} {ss : List S39} {x y a : Int} {name : ByteArray}
theorem RW.up (h : RW w A0 A3 As c0 c3 cs b ps ss) {W : World} (hW : Below w.heap.size w W) : RW W A0 A3 As c0 c3 cs b ps ss := ⟨Kd.C_below h.q0 hW, h.q1, Kd.C_below h.q2 hW, h.q3, Kd.C_below h.q4 hW, h.q5⟩
def T1 (l1 l2 : List Int) (W : World) (v : Array Value) : Prop := ∃ A1 c1 A2 c2, v = #[.slice A1 l1.length c1, .slice A2 l2.length c2] ∧ Kd.C (Kd.int .u32) W A1 l1.length l1 ∧ l1.length ≤ c1 ∧ Kd.C (Kd.int .u32) W A2 l2.length l2 ∧ l2.length ≤ c2
theorem T1_up (l1 l2 : List Int) : UpT (T1 l1 l2) := by
  rintro w1 w2 _ ⟨A1, c1, A2, c2, rfl, a, b, c, d⟩ h
  exact ⟨A1, c1, A2, c2, rfl, Kd.C_below a h, b, Kd.C_below c h, d⟩
theorem syI (hr : RW w A0 A3 As c0 c3 cs b ps ss) {k : Nat} {r1 r2 : List Int} {r3 : Option Int} (h : hash_file_sysv.f k b x y ps a = some (r1, r2, r3)) : SyI w ⟨A0, b.length, c0, x, y, A3, ps.length, c3⟩ a (eW r3) (T1 r1 r2) := by
  intro W hW
  rw [eW_err]
  have hr := hr.up hW
  refine (hash_file_sysv.calls k A0 c0 b x y A3 c3 ps a r1 r2 r3 W hr.q0 hr.q1 hr.q2 hr.q3 h).mono ?_
  rintro e w' ⟨v0, v1, rfl, ⟨A1, c1, rfl, l1, f1⟩, ⟨A2, c2, rfl, l2, f2⟩, hb⟩
  exact ⟨A1, _, c1, A2, _, c2, rfl, ⟨A1, c1, A2, c2, rfl, Kd.F_now f1, l1, Kd.F_now f2, l2⟩, hb⟩
theorem lk1 (hr : RW w A0 A3 As c0 c3 cs b ps ss) {k : Nat} {r1 r2 l : List Int} {e : Option Int} (h : hash_first_look.f k r1 r2 ss name = some (l, e)) : LkI w 34 (.slice As ss.length cs) name (eW e) l (T1 r1 r2) := by
  rintro W _ hW ⟨A1, c1, A2, c2, rfl, h1, h2, h3, h4⟩
  rw [eW_err]
  have hr := hr.up hW
  refine (hash_first_look.calls k A1 c1 r1 A2 c2 r2 As cs ss name l e W h1 h2 h3 h4 hr.q4 hr.q5 h).mono ?_
  rintro e w' ⟨v0, rfl, ho, hb⟩
  obtain ⟨A, c, rfl⟩ := Kd.R_slice ho
  exact ⟨A, c, rfl, (Kd.R_reads' ho).2.2, hb⟩
def T2 (b : List Int) (x y : Int) (ps : List S29) (bl bu : List Int) (base sh ch : Int) (W : World) (v : Array Value) : Prop :=
  ∃ A0 c0 A3 c3 A4 c4 A5 c5, v = #[.slice A0 b.length c0, .int .i64 x, .int .u64 y, .slice A3 ps.length c3, .slice A4 bl.length c4, .slice A5 bu.length c5, .int .u32 base, .int .u32 sh, .int .u64 ch] ∧
    (Kd.C (Kd.int .u8) W A0 b.length b ∧ b.length ≤ c0) ∧ (Kd.C k29 W A3 ps.length ps ∧ ps.length ≤ c3) ∧ (Kd.C (Kd.int .u32) W A4 bl.length bl ∧ bl.length ≤ c4) ∧ (Kd.C (Kd.int .u32) W A5 bu.length bu ∧ bu.length ≤ c5)
theorem T2_up (bl bu : List Int) (base sh ch : Int) : UpT (T2 b x y ps bl bu base sh ch) := by
  rintro w1 w2 _ ⟨A0, c0, A3, c3, A4, c4, A5, c5, rfl, a, b, c, d⟩ h
  exact ⟨A0, c0, A3, c3, A4, c4, A5, c5, rfl, ⟨Kd.C_below a.1 h, a.2⟩, ⟨Kd.C_below b.1 h, b.2⟩, ⟨Kd.C_below c.1 h, c.2⟩, ⟨Kd.C_below d.1 h, d.2⟩⟩
theorem gnI (hr : RW w A0 A3 As c0 c3 cs b ps ss) {k : Nat} {r1 : List Int} {r2 r3 : Int} {r4 : List S29} {r5 r6 : List Int} {r7 r8 r9 : Int} {r10 : Option Int} (h : hash_file_gnu.f k b x y ps a = some (r1, r2, r3, r4, r5, r6, r7, r8, r9, r10)) : GnI w ⟨A0, b.length, c0, x, y, A3, ps.length, c3⟩ a (eW r10) (T2 r1 r2 r3 r4 r5 r6 r7 r8 r9) := by
  intro W hW
  rw [eW_err]
  have hr := hr.up hW
  refine (hash_file_gnu.calls k (fun _ => True) A0 c0 b x y (fun _ => True) A3 c3 ps a r1 r2 r3 r4 r5 r6 r7 r8 r9 r10 W (Kd.V_mk hr.q1 (F_of (Kd.heap_int _) hr.q0)) (Kd.V_mk hr.q3 (F_of heap29 hr.q2)) h).mono ?_
  rintro e w' ⟨v0, v3, v4, v5, rfl, ⟨B0, d0, rfl, l0, f0⟩, ⟨B3, d3, rfl, l3, f3⟩, ⟨B4, d4, rfl, l4, f4⟩, ⟨B5, d5, rfl, l5, f5⟩, hb⟩
  exact ⟨B0, _, d0, B3, _, d3, B4, _, d4, B5, _, d5, r2, r3, r7, r8, r9, rfl, ⟨B0, d0, B3, d3, B4, d4, B5, d5, rfl, ⟨Kd.F_now f0, l0⟩, ⟨Kd.F_now f3, l3⟩, ⟨Kd.F_now f4, l4⟩, ⟨Kd.F_now f5, l5⟩⟩, hb⟩
section
variable {bl bu : List Int} {base sh ch : Int}
theorem coI {k : Nat} {n : Int} {e : Option Int} (h : hash_second_count.f k b x y ps bl bu base sh ch = some (n, e)) : CoI w (eW e) (T2 b x y ps bl bu base sh ch) := by
  rintro W _ hW ⟨A0, c0, A3, c3, A4, c4, A5, c5, rfl, h0, h3, h4, h5⟩
  rw [eW_err]
  refine (hash_second_count.calls k A0 c0 b x y A3 c3 ps A4 c4 bl A5 c5 bu base sh ch n e W h0.1 h0.2 h3.1 h3.2 h4.1 h4.2 h5.1 h5.2 h).mono ?_
  rintro e w' ⟨rfl, hb⟩
  exact ⟨n, rfl, hb⟩
theorem lk2 (hr : RW w A0 A3 As c0 c3 cs b ps ss) {k : Nat} {l : List Int} {e : Option Int} (h : hash_second_look.f k b x y ps bl bu base sh ch ss name = some (l, e)) : LkI w 33 (.slice As ss.length cs) name (eW e) l (T2 b x y ps bl bu base sh ch) := by
  rintro W _ hW ⟨A0, c0, A3, c3, A4, c4, A5, c5, rfl, h0, h3, h4, h5⟩
  rw [eW_err]
  have hr := hr.up hW
  refine (hash_second_look.calls k A0 c0 b x y A3 c3 ps A4 c4 bl A5 c5 bu base sh ch As cs ss name l e W h0.1 h0.2 h3.1 h3.2 h4.1 h4.2 h5.1 h5.2 hr.q4 hr.q5 h).mono ?_
  rintro e w' ⟨v0, rfl, ho, hb⟩
  obtain ⟨A, c, rfl⟩ := Kd.R_slice ho
  exact ⟨A, c, rfl, (Kd.R_reads' ho).2.2, hb⟩
end
def LookA (b : List Int) (x y : Int) (ps : List S29) (a3 a25 : Int) (ss : List S39) (name : ByteArray) (l : List Int) (er : Option Int) : Prop :=
  ∀ (w : World) (A0 A3 As : Option Addr) (c0 c3 cs : Nat) (D : Array Value), RW w A0 A3 As c0 c3 cs b ps ss → D.size = 37 → D[3]? = some (.int .u64 a3) → D[25]? = some (.int .u64 a25) →
    Calls Try.prog 13 #[.slice A0 b.length c0, .agg #[.int .i64 x, .int .u64 y, .slice A3 ps.length c3], .agg D, .slice As ss.length cs, .string name] w fun e w' => ∃ A c, e = .returned (.tuple #[.slice A l.length c, eW er]) ∧ Kd.C (Kd.int .i64) w' A l.length l ∧ Below w.heap.size w w'
variable {a3 a25 : Int} (hb : b.length ≤ 9223372036854775807) (hl : ps.length ≤ 9223372036854775807) (hp : ∀ p ∈ ps, okP p) (hss : ss.length ≤ 9223372036854775807) (hn : name.size ≤ 9223372036854775807) (h3 : 0 ≤ a3 ∧ a3 ≤ 18446744073709551615) (h25 : 0 ≤ a25 ∧ a25 ≤ 18446744073709551615)
include hb hl hp hss hn h3 h25
theorem look_any : ∃ l er, BSpec.In ss (l, er) ∧ LookA b x y ps a3 a25 ss name l er := by
  have hnil : ∀ c : Option Int, BSpec.In ss ([], c) := fun c x hx => by cases hx
  by_cases e3 : a3 = 0
  · by_cases e25 : a25 = 0
    · refine ⟨[], none, hnil _, fun w A0 A3 As c0 c3 cs D hr hD g3 g25 => ?_⟩
      exact look0 (f := ⟨A0, b.length, c0, x, y, A3, ps.length, c3⟩) hD g3 g25 (fun W hW => countN (f := ⟨A0, b.length, c0, x, y, A3, ps.length, c3⟩) hD g3 g25 e25 e3 rfl) e25 e3 rfl rfl
    · obtain ⟨⟨r1, r2, r3, r4, r5, r6, r7, r8, r9, r10⟩, hg, hgP⟩ := BSpec.gnu_S b ps x y hb hl hp a25 h25
      obtain ⟨k, hg⟩ := hg.rounds
      rcases hgP with ⟨c, e⟩ | ⟨bl, bu, base, sh, ch, e, hG⟩
      · cases e
        refine ⟨[], some c, hnil _, fun w A0 A3 As c0 c3 cs D hr hD g3 g25 => ?_⟩
        exact lookE (f := ⟨A0, b.length, c0, x, y, A3, ps.length, c3⟩) hD g3 g25 (fun W hW => countG (f := ⟨A0, b.length, c0, x, y, A3, ps.length, c3⟩) hD g3 g25 e25 e3 c rfl (gnI (hr.up hW) hg)) c rfl rfl
      · cases e
        obtain ⟨⟨n, ce⟩, hc, hcP⟩ := BSpec.count_S b ps x y hb hl hp r5 r6 r7 r8 r9 hG
        obtain ⟨kc, hc⟩ := hc.rounds
        have hcnt : ∀ (w : World) (A0 A3 As : Option Addr) (c0 c3 cs : Nat) (D : Array Value), RW w A0 A3 As c0 c3 cs b ps ss → D.size = 37 → D[3]? = some (.int .u64 a3) → D[25]? = some (.int .u64 a25) → ∀ W, Below w.heap.size w W → Calls Try.prog 12 #[.slice A0 b.length c0, .agg #[.int .i64 x, .int .u64 y, .slice A3 ps.length c3], .agg D] W fun e w' => ∃ n, e = .returned (.tuple #[.int .i64 n, eW ce]) ∧ Below W.heap.size W w' :=
          fun w A0 A3 As c0 c3 cs D hr hD g3 g25 W hW => countC (f := ⟨A0, b.length, c0, x, y, A3, ps.length, c3⟩) hD g3 g25 e25 e3 (gnI (hr.up hW) hg) (coI hc) (T2_up _ _ _ _ _)
        cases ce with
        | some c =>
          refine ⟨[], some c, hnil _, fun w A0 A3 As c0 c3 cs D hr hD g3 g25 => ?_⟩
          exact lookE (f := ⟨A0, b.length, c0, x, y, A3, ps.length, c3⟩) hD g3 g25 (hcnt w A0 A3 As c0 c3 cs D hr hD g3 g25) c rfl rfl
        | none =>
          obtain ⟨⟨l, er⟩, hk, hin⟩ := BSpec.second_S b ps x y hb hl hp r5 r6 r7 r8 r9 ss hss name hn hG (hcP rfl)
          obtain ⟨kl, hk⟩ := hk.rounds
          refine ⟨l, er, hin, fun w A0 A3 As c0 c3 cs D hr hD g3 g25 => ?_⟩
          exact look2 (f := ⟨A0, b.length, c0, x, y, A3, ps.length, c3⟩) hD g3 g25 (hcnt w A0 A3 As c0 c3 cs D hr hD g3 g25) e25 (gnI hr hg) (coI hc) (lk2 hr hk) (T2_up _ _ _ _ _)
  · obtain ⟨⟨s1, s2, se⟩, hs, hsP⟩ := BSpec.sysv_S b ps x y hb hl hp a3 h3
    obtain ⟨ks, hs⟩ := hs.rounds
    have hcnt : ∀ (w : World) (A0 A3 As : Option Addr) (c0 c3 cs : Nat) (D : Array Value), RW w A0 A3 As c0 c3 cs b ps ss → D.size = 37 → D[3]? = some (.int .u64 a3) → D[25]? = some (.int .u64 a25) → ∀ W, Below w.heap.size w W → Calls Try.prog 12 #[.slice A0 b.length c0, .agg #[.int .i64 x, .int .u64 y, .slice A3 ps.length c3], .agg D] W fun e w' => ∃ n, e = .returned (.tuple #[.int .i64 n, eW se]) ∧ Below W.heap.size W w' :=
      fun w A0 A3 As c0 c3 cs D hr hD g3 g25 W hW => countS (f := ⟨A0, b.length, c0, x, y, A3, ps.length, c3⟩) hD g3 g25 e3 (syI (hr.up hW) hs)
    rcases hsP with ⟨c, e⟩ | ⟨l1, l2, e, p1, p2, w1, w2⟩
    · cases e
      refine ⟨[], some c, hnil _, fun w A0 A3 As c0 c3 cs D hr hD g3 g25 => ?_⟩
      exact lookE (f := ⟨A0, b.length, c0, x, y, A3, ps.length, c3⟩) hD g3 g25 (hcnt w A0 A3 As c0 c3 cs D hr hD g3 g25) c rfl rfl
    · cases e
      by_cases e25 : a25 = 0
      · obtain ⟨⟨l, er⟩, hk, hin⟩ := BSpec.first_S ss hss name hn s1 s2 p1 p2 w1 w2
        obtain ⟨kl, hk⟩ := hk.rounds
        refine ⟨l, er, hin, fun w A0 A3 As c0 c3 cs D hr hD g3 g25 => ?_⟩
        exact look1 (f := ⟨A0, b.length, c0, x, y, A3, ps.length, c3⟩) hD g3 g25 (hcnt w A0 A3 As c0 c3 cs D hr hD g3 g25) e25 e3 (syI hr hs) (lk1 hr hk) (T1_up _ _)
      · obtain ⟨⟨r1, r2, r3, r4, r5, r6, r7, r8, r9, r10⟩, hg, hgP⟩ := BSpec.gnu_S b ps x y hb hl hp a25 h25
        obtain ⟨k, hg⟩ := hg.rounds
        rcases hgP with ⟨c, e⟩ | ⟨bl, bu, base, sh, ch, e, hG⟩
        · cases e
          refine ⟨[], some c, hnil _, fun w A0 A3 As c0 c3 cs D hr hD g3 g25 => ?_⟩
          exact lookG (f := ⟨A0, b.length, c0, x, y, A3, ps.length, c3⟩) hD g3 g25 (hcnt w A0 A3 As c0 c3 cs D hr hD g3 g25) e25 c rfl rfl (gnI hr hg)
        · cases e
          obtain ⟨⟨n, ce⟩, hc, hcP⟩ := BSpec.count_S b ps x y hb hl hp r5 r6 r7 r8 r9 hG
          obtain ⟨kc, hc⟩ := hc.rounds
          cases ce with
          | some c =>
            refine ⟨[], some c, hnil _, fun w A0 A3 As c0 c3 cs D hr hD g3 g25 => ?_⟩
            exact lookC (f := ⟨A0, b.length, c0, x, y, A3, ps.length, c3⟩) hD g3 g25 (hcnt w A0 A3 As c0 c3 cs D hr hD g3 g25) e25 c rfl rfl (gnI hr hg) (coI hc) (T2_up _ _ _ _ _)
          | none =>
            obtain ⟨⟨l, er⟩, hk, hin⟩ := BSpec.second_S b ps x y hb hl hp r5 r6 r7 r8 r9 ss hss name hn hG (hcP rfl)
            obtain ⟨kl, hk⟩ := hk.rounds
            refine ⟨l, er, hin, fun w A0 A3 As c0 c3 cs D hr hD g3 g25 => ?_⟩
            exact look2 (f := ⟨A0, b.length, c0, x, y, A3, ps.length, c3⟩) hD g3 g25 (hcnt w A0 A3 As c0 c3 cs D hr hD g3 g25) e25 (gnI hr hg) (coI hc) (lk2 hr hk) (T2_up _ _ _ _ _)
end
end Go.Proofs.Ythopdoamajjojaa.BindF
