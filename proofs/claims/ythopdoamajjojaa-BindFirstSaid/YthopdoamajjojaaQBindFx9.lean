import Derived.Test.YthopdoamajjojaaQBindFx0
import Derived.Test.YthopdoamajjojaaQBindFx8
namespace Go.Proofs.Ythopdoamajjojaa.QBindF
open Go.RowKit Go.Proofs.YthopdoamajjojaaW.PrintWords Go.Proofs.YthopdoamajjojaaW.PrintLast Go.Proofs.YthopdoamajjojaaW.PrintMore
attribute [local go_sem] max2_int min2_int max_two min_two max_three min_three max_four min_four
set_option linter.unusedVariables false
set_option linter.unusedSimpArgs false
attribute [local go_sem] eqErr_ii neErr_ii eqErr_ni neErr_ni
mutual
def hash_second_look.j0 : Nat → List (S39) → ByteArray → Int → Bool → List Int → Int → Int → List (S29) → List Int → List Int → Int → Int → Int → Option (List Int × Option Int)
 | 0, _, _, _, _, _, _, _, _, _, _, _, _, _ => none
 | k + 1, x1, x2, x8, x57, x216000, x216001, x216002, x216003, x216004, x216005, x216006, x216007, x216008 => if x57 = true then (some (([] : List Int), none)) else (if (((x216005.length : Int)) % 4294967296) = 0 then (none) else (if 0 ≤ (Int.tmod x8 (((x216005.length : Int)) % 4294967296)) then (if (Int.tmod x8 (((x216005.length : Int)) % 4294967296)) < (x216005.length : Int) then (if (rd x216005 (Int.tmod x8 (((x216005.length : Int)) % 4294967296))) = 0 then (some (([] : List Int), none)) else (hash_second_look.l0 k x1 x2 x8 ([] : List Int) (rd x216005 (Int.tmod x8 (((x216005.length : Int)) % 4294967296))) x216000 x216001 x216002 x216003 x216004 x216005 x216006 x216007 x216008)) else (none)) else (none)))
def hash_second_look.l0 : Nat → List (S39) → ByteArray → Int → List Int → Int → List Int → Int → Int → List (S29) → List Int → List Int → Int → Int → Int → Option (List Int × Option Int)
 | 0, _, _, _, _, _, _, _, _, _, _, _, _, _, _ => none
 | k + 1, x1, x2, x8, x11, x12, x216000, x216001, x216002, x216003, x216004, x216005, x216006, x216007, x216008 => if (wrap64 (x12)) ≥ (x1.length : Int) then (some (([] : List Int), some 4)) else ((hash_second_chain.f k x216000 x216001 x216002 x216003 x216004 x216005 x216006 x216007 x216008 x12).bind fun bt220 => (if bt220.2.isNone = true then (if (Go.bits .or .u32 bt220.1 1) = (Go.bits .or .u32 x8 1) then (if 0 ≤ x12 then (if x12 < (x1.length : Int) then (hash_second_look.j2 k x1 x2 x8 x11 x12 bt220.1 (((rd_T39 x1 x12).f0).toList == x2.toList) x216000 x216001 x216002 x216003 x216004 x216005 x216006 x216007 x216008) else (none)) else (none)) else (hash_second_look.j2 k x1 x2 x8 x11 x12 bt220.1 false x216000 x216001 x216002 x216003 x216004 x216005 x216006 x216007 x216008)) else (some (([] : List Int), some (bt220.2.getD 0)))))
def hash_second_look.j2 : Nat → List (S39) → ByteArray → Int → List Int → Int → Int → Bool → List Int → Int → Int → List (S29) → List Int → List Int → Int → Int → Int → Option (List Int × Option Int)
 | 0, _, _, _, _, _, _, _, _, _, _, _, _, _, _, _, _ => none
 | k + 1, x1, x2, x8, x11, x12, x13, x100, x216000, x216001, x216002, x216003, x216004, x216005, x216006, x216007, x216008 => if x100 = true then (if x11.length < 17592186044416 then ((some (x11 ++ [wrap64 (x12)] : List Int)).bind fun y224 => (if (Go.bits .and .u32 x13 1) = 1 then (some (y224, none)) else (hash_second_look.l0 k x1 x2 x8 y224 ((x12 + 1) % 4294967296) x216000 x216001 x216002 x216003 x216004 x216005 x216006 x216007 x216008))) else (none)) else (if (Go.bits .and .u32 x13 1) = 1 then (some (x11, none)) else (hash_second_look.l0 k x1 x2 x8 x11 ((x12 + 1) % 4294967296) x216000 x216001 x216002 x216003 x216004 x216005 x216006 x216007 x216008))
end
def hash_second_look.f (k : Nat) (l0_0 : List Int) (a0_1 : Int) (a0_2 : Int) (l0_3 : List (S29)) (l0_4 : List Int) (l0_5 : List Int) (a0_6 : Int) (a0_7 : Int) (a0_8 : Int) (l1 : List (S39)) (a2 : ByteArray) : Option (List Int × Option Int) := (hash_Gnu.f k a2).bind fun t216 => (if ((wrap64 ((l0_4.length : Int) / 2)) % 4294967296) = 0 then (none) else (if 0 ≤ ((2 * (((Int.tdiv t216 64) % 4294967296) % ((wrap64 ((l0_4.length : Int) / 2)) % 4294967296))) % 4294967296) then (if ((2 * (((Int.tdiv t216 64) % 4294967296) % ((wrap64 ((l0_4.length : Int) / 2)) % 4294967296))) % 4294967296) < (l0_4.length : Int) then (if 0 ≤ ((((2 * (((Int.tdiv t216 64) % 4294967296) % ((wrap64 ((l0_4.length : Int) / 2)) % 4294967296))) % 4294967296) + 1) % 4294967296) then (if ((((2 * (((Int.tdiv t216 64) % 4294967296) % ((wrap64 ((l0_4.length : Int) / 2)) % 4294967296))) % 4294967296) + 1) % 4294967296) < (l0_4.length : Int) then (if 0 ≤ (Int.tmod t216 64) then (if (Go.bits .and .u64 (shr .u64 (Go.bits .or .u64 (IntKind.u64.wrap (rd l0_4 ((2 * (((Int.tdiv t216 64) % 4294967296) % ((wrap64 ((l0_4.length : Int) / 2)) % 4294967296))) % 4294967296))) (IntKind.u64.wrap ((IntKind.u64.wrap (rd l0_4 ((((2 * (((Int.tdiv t216 64) % 4294967296) % ((wrap64 ((l0_4.length : Int) / 2)) % 4294967296))) % 4294967296) + 1) % 4294967296))) * 4294967296))) (Int.tmod t216 64)) 1) = 0 then (hash_second_look.j0 k l1 a2 t216 true l0_0 a0_1 a0_2 l0_3 l0_4 l0_5 a0_6 a0_7 a0_8) else (if 0 ≤ a0_7 then (if 0 ≤ (Int.tmod (shr .u32 t216 a0_7) 64) then (hash_second_look.j0 k l1 a2 t216 ((Go.bits .and .u64 (shr .u64 (Go.bits .or .u64 (IntKind.u64.wrap (rd l0_4 ((2 * (((Int.tdiv t216 64) % 4294967296) % ((wrap64 ((l0_4.length : Int) / 2)) % 4294967296))) % 4294967296))) (IntKind.u64.wrap ((IntKind.u64.wrap (rd l0_4 ((((2 * (((Int.tdiv t216 64) % 4294967296) % ((wrap64 ((l0_4.length : Int) / 2)) % 4294967296))) % 4294967296) + 1) % 4294967296))) * 4294967296))) (Int.tmod (shr .u32 t216 a0_7) 64)) 1) == 0) l0_0 a0_1 a0_2 l0_3 l0_4 l0_5 a0_6 a0_7 a0_8) else (none)) else (none))) else (none)) else (none)) else (none)) else (none)) else (none)))
theorem hash_second_look.mono_l : ∀ k, (∀ y0 y1 y2 y3 y4 y5 y6 y7 y8 y9 y10 y11 y12, LeO (hash_second_look.j0 k y0 y1 y2 y3 y4 y5 y6 y7 y8 y9 y10 y11 y12) (hash_second_look.j0 (k + 1) y0 y1 y2 y3 y4 y5 y6 y7 y8 y9 y10 y11 y12)) ∧ (∀ y0 y1 y2 y3 y4 y5 y6 y7 y8 y9 y10 y11 y12 y13, LeO (hash_second_look.l0 k y0 y1 y2 y3 y4 y5 y6 y7 y8 y9 y10 y11 y12 y13) (hash_second_look.l0 (k + 1) y0 y1 y2 y3 y4 y5 y6 y7 y8 y9 y10 y11 y12 y13)) ∧ (∀ y0 y1 y2 y3 y4 y5 y6 y7 y8 y9 y10 y11 y12 y13 y14 y15, LeO (hash_second_look.j2 k y0 y1 y2 y3 y4 y5 y6 y7 y8 y9 y10 y11 y12 y13 y14 y15) (hash_second_look.j2 (k + 1) y0 y1 y2 y3 y4 y5 y6 y7 y8 y9 y10 y11 y12 y13 y14 y15))
 | 0 => ⟨fun _ _ _ _ _ _ _ _ _ _ _ _ _ r h => by simp [hash_second_look.j0] at h, fun _ _ _ _ _ _ _ _ _ _ _ _ _ _ r h => by simp [hash_second_look.l0] at h, fun _ _ _ _ _ _ _ _ _ _ _ _ _ _ _ _ r h => by simp [hash_second_look.j2] at h⟩
 | k + 1 => by
  obtain ⟨ih0, ih1, ih2⟩ := hash_second_look.mono_l k
  refine ⟨?_, ?_, ?_⟩
  ·intro y0 y1 y2 y3 y4 y5 y6 y7 y8 y9 y10 y11 y12
   unfold hash_second_look.j0
   repeat' first
   | (with_reducible exact ih0 _ _ _ _ _ _ _ _ _ _ _ _ _)
   | (with_reducible exact ih1 _ _ _ _ _ _ _ _ _ _ _ _ _ _)
   | (with_reducible exact ih2 _ _ _ _ _ _ _ _ _ _ _ _ _ _ _ _)
   | (with_reducible exact hash_Gnu.mono _ _)
   | (with_reducible exact hash_second_chain.mono _ _ _ _ _ _ _ _ _ _ _)
   | (with_reducible exact LeO.refl _)
   | (with_reducible exact LeO.none _)
   | (with_reducible refine LeO.ite ?_ ?_)
   | (with_reducible refine LeO.bind ?_ (fun _ => ?_))
   | exact ih0 _ _ _ _ _ _ _ _ _ _ _ _ _
   | exact ih1 _ _ _ _ _ _ _ _ _ _ _ _ _ _
   | exact ih2 _ _ _ _ _ _ _ _ _ _ _ _ _ _ _ _
   | exact hash_Gnu.mono _ _
   | exact hash_second_chain.mono _ _ _ _ _ _ _ _ _ _ _
   | exact LeO.none _
   | refine LeO.ite ?_ ?_
   | refine LeO.bind ?_ (fun _ => ?_)
  ·intro y0 y1 y2 y3 y4 y5 y6 y7 y8 y9 y10 y11 y12 y13
   unfold hash_second_look.l0
   repeat' first
   | (with_reducible exact ih0 _ _ _ _ _ _ _ _ _ _ _ _ _)
   | (with_reducible exact ih1 _ _ _ _ _ _ _ _ _ _ _ _ _ _)
   | (with_reducible exact ih2 _ _ _ _ _ _ _ _ _ _ _ _ _ _ _ _)
   | (with_reducible exact hash_Gnu.mono _ _)
   | (with_reducible exact hash_second_chain.mono _ _ _ _ _ _ _ _ _ _ _)
   | (with_reducible exact LeO.refl _)
   | (with_reducible exact LeO.none _)
   | (with_reducible refine LeO.ite ?_ ?_)
   | (with_reducible refine LeO.bind ?_ (fun _ => ?_))
   | exact ih0 _ _ _ _ _ _ _ _ _ _ _ _ _
   | exact ih1 _ _ _ _ _ _ _ _ _ _ _ _ _ _
   | exact ih2 _ _ _ _ _ _ _ _ _ _ _ _ _ _ _ _
   | exact hash_Gnu.mono _ _
   | exact hash_second_chain.mono _ _ _ _ _ _ _ _ _ _ _
   | exact LeO.none _
   | refine LeO.ite ?_ ?_
   | refine LeO.bind ?_ (fun _ => ?_)
  ·intro y0 y1 y2 y3 y4 y5 y6 y7 y8 y9 y10 y11 y12 y13 y14 y15
   unfold hash_second_look.j2
   repeat' first
   | (with_reducible exact ih0 _ _ _ _ _ _ _ _ _ _ _ _ _)
   | (with_reducible exact ih1 _ _ _ _ _ _ _ _ _ _ _ _ _ _)
   | (with_reducible exact ih2 _ _ _ _ _ _ _ _ _ _ _ _ _ _ _ _)
   | (with_reducible exact hash_Gnu.mono _ _)
   | (with_reducible exact hash_second_chain.mono _ _ _ _ _ _ _ _ _ _ _)
   | (with_reducible exact LeO.refl _)
   | (with_reducible exact LeO.none _)
   | (with_reducible refine LeO.ite ?_ ?_)
   | (with_reducible refine LeO.bind ?_ (fun _ => ?_))
   | exact ih0 _ _ _ _ _ _ _ _ _ _ _ _ _
   | exact ih1 _ _ _ _ _ _ _ _ _ _ _ _ _ _
   | exact ih2 _ _ _ _ _ _ _ _ _ _ _ _ _ _ _ _
   | exact hash_Gnu.mono _ _
   | exact hash_second_chain.mono _ _ _ _ _ _ _ _ _ _ _
   | exact LeO.none _
   | refine LeO.ite ?_ ?_
   | refine LeO.bind ?_ (fun _ => ?_)
theorem hash_second_look.mono : ∀ a0 a1 a2 a3 a4 a5 a6 a7 a8 a9 a10 k, LeO (hash_second_look.f k a0 a1 a2 a3 a4 a5 a6 a7 a8 a9 a10) (hash_second_look.f (k + 1) a0 a1 a2 a3 a4 a5 a6 a7 a8 a9 a10) := by
 intro a0 a1 a2 a3 a4 a5 a6 a7 a8 a9 a10 k
 obtain ⟨ih0, ih1, ih2⟩ := hash_second_look.mono_l k
 unfold hash_second_look.f
 repeat' first
   | (with_reducible exact ih0 _ _ _ _ _ _ _ _ _ _ _ _ _)
   | (with_reducible exact ih1 _ _ _ _ _ _ _ _ _ _ _ _ _ _)
   | (with_reducible exact ih2 _ _ _ _ _ _ _ _ _ _ _ _ _ _ _ _)
   | (with_reducible exact hash_Gnu.mono _ _)
   | (with_reducible exact hash_second_chain.mono _ _ _ _ _ _ _ _ _ _ _)
   | (with_reducible exact LeO.refl _)
   | (with_reducible exact LeO.none _)
   | (with_reducible refine LeO.ite ?_ ?_)
   | (with_reducible refine LeO.bind ?_ (fun _ => ?_))
   | exact ih0 _ _ _ _ _ _ _ _ _ _ _ _ _
   | exact ih1 _ _ _ _ _ _ _ _ _ _ _ _ _ _
   | exact ih2 _ _ _ _ _ _ _ _ _ _ _ _ _ _ _ _
   | exact hash_Gnu.mono _ _
   | exact hash_second_chain.mono _ _ _ _ _ _ _ _ _ _ _
   | exact LeO.none _
   | refine LeO.ite ?_ ?_
   | refine LeO.bind ?_ (fun _ => ?_)
set_option maxHeartbeats 8000000 in
set_option maxRecDepth 100000 in
theorem hash_second_look.calls (k : Nat) (A0_0 : Option Addr) (c0_0 : Nat) (l0_0 : List Int) (a0_1 : Int) (a0_2 : Int) (A0_3 : Option Addr) (c0_3 : Nat) (l0_3 : List (S29)) (A0_4 : Option Addr) (c0_4 : Nat) (l0_4 : List Int) (A0_5 : Option Addr) (c0_5 : Nat) (l0_5 : List Int) (a0_6 : Int) (a0_7 : Int) (a0_8 : Int) (A1 : Option Addr) (c1 : Nat) (l1 : List (S39)) (a2 : ByteArray) (r1 : List Int) (r2 : Option Int) (w : World) (hr0_0 : Kd.C (Kd.int .u8) w A0_0 l0_0.length l0_0) (hc0_0 : l0_0.length ≤ c0_0) (hr0_3 : Kd.C k29 w A0_3 l0_3.length l0_3) (hc0_3 : l0_3.length ≤ c0_3) (hr0_4 : Kd.C (Kd.int .u32) w A0_4 l0_4.length l0_4) (hc0_4 : l0_4.length ≤ c0_4) (hr0_5 : Kd.C (Kd.int .u32) w A0_5 l0_5.length l0_5) (hc0_5 : l0_5.length ≤ c0_5) (hr1 : Kd.C k39 w A1 l1.length l1) (hc1 : l1.length ≤ c1) (h : hash_second_look.f k l0_0 a0_1 a0_2 l0_3 l0_4 l0_5 a0_6 a0_7 a0_8 l1 a2 = some (r1, r2)) :
  Calls Try.prog 33 #[.agg #[.slice A0_0 l0_0.length c0_0, .int .i64 a0_1, .int .u64 a0_2, .slice A0_3 l0_3.length c0_3, .slice A0_4 l0_4.length c0_4, .slice A0_5 l0_5.length c0_5, .int .u32 a0_6, .int .u32 a0_7, .int .u64 a0_8], .slice A1 l1.length c1, .string a2] w fun e w' => ∃ v0_ : Value, e = .returned (.tuple #[v0_, errW r2]) ∧ Kd.R (Kd.int .i64) 3 w' w.heap.size (fun _ => True) v0_ r1 ∧ Below w.heap.size w w' := by
 have hu92 := Try.underlying92
 have hu41 := Try.underlying41
 have hu97 := Try.underlying97
 have HR0_0 := Aside0.mk hr0_0
 have HC0_0 := Aside0.mk hc0_0
 clear hr0_0 hc0_0
 have HR0_3 := Aside0.mk hr0_3
 have HC0_3 := Aside0.mk hc0_3
 clear hr0_3 hc0_3
 have HR0_4 := Aside0.mk hr0_4
 have HC0_4 := Aside0.mk hc0_4
 clear hr0_4 hc0_4
 have HR0_5 := Aside0.mk hr0_5
 have HC0_5 := Aside0.mk hc0_5
 clear hr0_5 hc0_5
 have HR1 := Aside0.mk hr1
 have HC1 := Aside0.mk hc1
 clear hr1 hc1
 have HB := Aside0.mk (Below.refl w.heap.size w)
 have H : ((hash_Gnu.f k a2).bind fun t216 => (if ((wrap64 ((l0_4.length : Int) / 2)) % 4294967296) = 0 then (none) else (if 0 ≤ ((2 * (((Int.tdiv t216 64) % 4294967296) % ((wrap64 ((l0_4.length : Int) / 2)) % 4294967296))) % 4294967296) then (if ((2 * (((Int.tdiv t216 64) % 4294967296) % ((wrap64 ((l0_4.length : Int) / 2)) % 4294967296))) % 4294967296) < (l0_4.length : Int) then (if 0 ≤ ((((2 * (((Int.tdiv t216 64) % 4294967296) % ((wrap64 ((l0_4.length : Int) / 2)) % 4294967296))) % 4294967296) + 1) % 4294967296) then (if ((((2 * (((Int.tdiv t216 64) % 4294967296) % ((wrap64 ((l0_4.length : Int) / 2)) % 4294967296))) % 4294967296) + 1) % 4294967296) < (l0_4.length : Int) then (if 0 ≤ (Int.tmod t216 64) then (if (Go.bits .and .u64 (shr .u64 (Go.bits .or .u64 (IntKind.u64.wrap (rd l0_4 ((2 * (((Int.tdiv t216 64) % 4294967296) % ((wrap64 ((l0_4.length : Int) / 2)) % 4294967296))) % 4294967296))) (IntKind.u64.wrap ((IntKind.u64.wrap (rd l0_4 ((((2 * (((Int.tdiv t216 64) % 4294967296) % ((wrap64 ((l0_4.length : Int) / 2)) % 4294967296))) % 4294967296) + 1) % 4294967296))) * 4294967296))) (Int.tmod t216 64)) 1) = 0 then (hash_second_look.j0 k l1 a2 t216 true l0_0 a0_1 a0_2 l0_3 l0_4 l0_5 a0_6 a0_7 a0_8) else (if 0 ≤ a0_7 then (if 0 ≤ (Int.tmod (shr .u32 t216 a0_7) 64) then (hash_second_look.j0 k l1 a2 t216 ((Go.bits .and .u64 (shr .u64 (Go.bits .or .u64 (IntKind.u64.wrap (rd l0_4 ((2 * (((Int.tdiv t216 64) % 4294967296) % ((wrap64 ((l0_4.length : Int) / 2)) % 4294967296))) % 4294967296))) (IntKind.u64.wrap ((IntKind.u64.wrap (rd l0_4 ((((2 * (((Int.tdiv t216 64) % 4294967296) % ((wrap64 ((l0_4.length : Int) / 2)) % 4294967296))) % 4294967296) + 1) % 4294967296))) * 4294967296))) (Int.tmod (shr .u32 t216 a0_7) 64)) 1) == 0) l0_0 a0_1 a0_2 l0_3 l0_4 l0_5 a0_6 a0_7 a0_8) else (none)) else (none))) else (none)) else (none)) else (none)) else (none)) else (none)))) = some (r1, r2) := h
 clear h
 replace H := Option.bind_eq_some_iff.mp H
 obtain ⟨t216, A40, H⟩ := H
 replace H : (if ((wrap64 ((l0_4.length : Int) / 2)) % 4294967296) = 0 then (none) else (if 0 ≤ ((2 * (((Int.tdiv t216 64) % 4294967296) % ((wrap64 ((l0_4.length : Int) / 2)) % 4294967296))) % 4294967296) then (if ((2 * (((Int.tdiv t216 64) % 4294967296) % ((wrap64 ((l0_4.length : Int) / 2)) % 4294967296))) % 4294967296) < (l0_4.length : Int) then (if 0 ≤ ((((2 * (((Int.tdiv t216 64) % 4294967296) % ((wrap64 ((l0_4.length : Int) / 2)) % 4294967296))) % 4294967296) + 1) % 4294967296) then (if ((((2 * (((Int.tdiv t216 64) % 4294967296) % ((wrap64 ((l0_4.length : Int) / 2)) % 4294967296))) % 4294967296) + 1) % 4294967296) < (l0_4.length : Int) then (if 0 ≤ (Int.tmod t216 64) then (if (Go.bits .and .u64 (shr .u64 (Go.bits .or .u64 (IntKind.u64.wrap (rd l0_4 ((2 * (((Int.tdiv t216 64) % 4294967296) % ((wrap64 ((l0_4.length : Int) / 2)) % 4294967296))) % 4294967296))) (IntKind.u64.wrap ((IntKind.u64.wrap (rd l0_4 ((((2 * (((Int.tdiv t216 64) % 4294967296) % ((wrap64 ((l0_4.length : Int) / 2)) % 4294967296))) % 4294967296) + 1) % 4294967296))) * 4294967296))) (Int.tmod t216 64)) 1) = 0 then (hash_second_look.j0 k l1 a2 t216 true l0_0 a0_1 a0_2 l0_3 l0_4 l0_5 a0_6 a0_7 a0_8) else (if 0 ≤ a0_7 then (if 0 ≤ (Int.tmod (shr .u32 t216 a0_7) 64) then (hash_second_look.j0 k l1 a2 t216 ((Go.bits .and .u64 (shr .u64 (Go.bits .or .u64 (IntKind.u64.wrap (rd l0_4 ((2 * (((Int.tdiv t216 64) % 4294967296) % ((wrap64 ((l0_4.length : Int) / 2)) % 4294967296))) % 4294967296))) (IntKind.u64.wrap ((IntKind.u64.wrap (rd l0_4 ((((2 * (((Int.tdiv t216 64) % 4294967296) % ((wrap64 ((l0_4.length : Int) / 2)) % 4294967296))) % 4294967296) + 1) % 4294967296))) * 4294967296))) (Int.tmod (shr .u32 t216 a0_7) 64)) 1) == 0) l0_0 a0_1 a0_2 l0_3 l0_4 l0_5 a0_6 a0_7 a0_8) else (none)) else (none))) else (none)) else (none)) else (none)) else (none)) else (none))) = some (r1, r2) := H
 have A4 := Aside0.mk A40
 clear A40
 by_cases c5 : ((wrap64 ((l0_4.length : Int) / 2)) % 4294967296) = 0
 ·rw [if_pos c5] at H
  exact absurd H (by simp)
 ·rw [if_neg c5] at H
  have c5b0 : (((wrap64 ((l0_4.length : Int) / 2)) % 4294967296) == 0) = false := beq_eq_false_iff_ne.mpr c5
  have c5b0w : ((IntKind.u32.wrap ((wrap64 ((l0_4.length : Int) / 2)))) == 0) = false := by simp only [IntKind.wrap_u32]; exact c5b0
  have c5bp : ¬ (IntKind.u32.wrap ((wrap64 ((l0_4.length : Int) / 2)))) = 0 := by simp only [IntKind.wrap_u32]; exact c5
  have c5b1 : (((wrap64 ((l0_4.length : Int) / 2)) % 4294967296) != 0) = true := bne_iff_ne.mpr c5
  have c5b1w : ((IntKind.u32.wrap ((wrap64 ((l0_4.length : Int) / 2)))) != 0) = true := by simp only [IntKind.wrap_u32]; exact c5b1
  obtain ⟨ji6, hji6⟩ : ∃ j_ : Int, ((2 * (((Int.tdiv t216 64) % 4294967296) % ((wrap64 ((l0_4.length : Int) / 2)) % 4294967296))) % 4294967296) = j_ := ⟨_, rfl⟩
  replace H : (if 0 ≤ (ji6) then (if (ji6) < (l0_4.length : Int) then (if 0 ≤ (((ji6) + 1) % 4294967296) then (if (((ji6) + 1) % 4294967296) < (l0_4.length : Int) then (if 0 ≤ (Int.tmod t216 64) then (if (Go.bits .and .u64 (shr .u64 (Go.bits .or .u64 (IntKind.u64.wrap (rd l0_4 (ji6))) (IntKind.u64.wrap ((IntKind.u64.wrap (rd l0_4 (((ji6) + 1) % 4294967296))) * 4294967296))) (Int.tmod t216 64)) 1) = 0 then (hash_second_look.j0 k l1 a2 t216 true l0_0 a0_1 a0_2 l0_3 l0_4 l0_5 a0_6 a0_7 a0_8) else (if 0 ≤ a0_7 then (if 0 ≤ (Int.tmod (shr .u32 t216 a0_7) 64) then (hash_second_look.j0 k l1 a2 t216 ((Go.bits .and .u64 (shr .u64 (Go.bits .or .u64 (IntKind.u64.wrap (rd l0_4 (ji6))) (IntKind.u64.wrap ((IntKind.u64.wrap (rd l0_4 (((ji6) + 1) % 4294967296))) * 4294967296))) (Int.tmod (shr .u32 t216 a0_7) 64)) 1) == 0) l0_0 a0_1 a0_2 l0_3 l0_4 l0_5 a0_6 a0_7 a0_8) else (none)) else (none))) else (none)) else (none)) else (none)) else (none)) else (none)) = some (r1, r2) := by first | (rw [hji6] at H; exact H) | (simp only [hji6] at H ⊢; exact H)
  (try rw [hji6] at A4)
  have hji6w : (IntKind.u32.wrap (2 * (((Int.tdiv t216 64) % 4294967296) % ((wrap64 ((l0_4.length : Int) / 2)) % 4294967296)))) = ji6 := by simp only [IntKind.wrap_u8, IntKind.wrap_u32]; exact hji6
  by_cases c7 : 0 ≤ (ji6)
  ·rw [if_pos c7] at H
   have c7b0 : decide (0 ≤ (ji6)) = true := decide_eq_true c7
   clear c7
   by_cases c8 : (ji6) < (l0_4.length : Int)
   ·rw [if_pos c8] at H
    have c8b0 : decide ((ji6) < (l0_4.length : Int)) = true := decide_eq_true c8
    clear c8
    obtain ⟨ji9, hji9⟩ : ∃ j_ : Int, (((ji6) + 1) % 4294967296) = j_ := ⟨_, rfl⟩
    replace H : (if 0 ≤ (ji9) then (if (ji9) < (l0_4.length : Int) then (if 0 ≤ (Int.tmod t216 64) then (if (Go.bits .and .u64 (shr .u64 (Go.bits .or .u64 (IntKind.u64.wrap (rd l0_4 (ji6))) (IntKind.u64.wrap ((IntKind.u64.wrap (rd l0_4 (ji9))) * 4294967296))) (Int.tmod t216 64)) 1) = 0 then (hash_second_look.j0 k l1 a2 t216 true l0_0 a0_1 a0_2 l0_3 l0_4 l0_5 a0_6 a0_7 a0_8) else (if 0 ≤ a0_7 then (if 0 ≤ (Int.tmod (shr .u32 t216 a0_7) 64) then (hash_second_look.j0 k l1 a2 t216 ((Go.bits .and .u64 (shr .u64 (Go.bits .or .u64 (IntKind.u64.wrap (rd l0_4 (ji6))) (IntKind.u64.wrap ((IntKind.u64.wrap (rd l0_4 (ji9))) * 4294967296))) (Int.tmod (shr .u32 t216 a0_7) 64)) 1) == 0) l0_0 a0_1 a0_2 l0_3 l0_4 l0_5 a0_6 a0_7 a0_8) else (none)) else (none))) else (none)) else (none)) else (none)) = some (r1, r2) := by first | (rw [hji9] at H; exact H) | (simp only [hji9] at H ⊢; exact H)
    (try rw [hji9] at A4)
    have hji9w : (IntKind.u32.wrap ((ji6) + 1)) = ji9 := by simp only [IntKind.wrap_u8, IntKind.wrap_u32]; exact hji9
    by_cases c10 : 0 ≤ (ji9)
    ·rw [if_pos c10] at H
     have c10b0 : decide (0 ≤ (ji9)) = true := decide_eq_true c10
     clear c10
     by_cases c11 : (ji9) < (l0_4.length : Int)
     ·rw [if_pos c11] at H
      have c11b0 : decide ((ji9) < (l0_4.length : Int)) = true := decide_eq_true c11
      clear c11
      have HC12 := Aside0.mk H
      clear H
      go_enter Try.func33, Try.ntmps33
      go_upto_region 4 with (first | ((with_reducible refine gate_ (.load 92 (.tmp 3)) rfl ?_); refine wpList_load_row rfl 92 (.tmp 3) rfl gb215 rfl 92 _ (0, 0) _ (by (with_reducible repeat (first | refine blk_drewN ?_ _ | refine blk_drew ?_ | refine blk_alloc ?_ _)); exact BK215.out) Try.underlying92 rfl (by kernel_rfl) ?_) | ((with_reducible refine gate_dst (N := 3) rfl ?_); refine box_event ?hg (N := 3) ?hd (cs := #[.slice A0_0 l0_0.length c0_0, .int .i64 a0_1, .int .u64 a0_2, .slice A0_3 l0_3.length c0_3, .slice A0_4 l0_4.length c0_4, .slice A0_5 l0_5.length c0_5, .int .u32 a0_6, .int .u32 a0_7, .int .u64 a0_8]) (t := 92) ?hr ?_; (case hd => rfl); (case hg => rfl); (case hr => first | (go_simp; done) | (go_simp; rfl)); intro gb215 hg w13 hbox hb; have n0_ := Aside0.mk (below_step (by repeat (first | (with_reducible first | exact HB.out | apply below_alloc | apply pw_below_drewN | apply below_drew1) | exact HB.out)) hb); have n1_ := Aside0.mk (hbox); have n2_ := Aside0.mk ((by rw [hg]; exact (below_size (by repeat (first | (with_reducible first | exact HB.out | apply below_alloc | apply pw_below_drewN | apply below_drew1) | exact HB.out))) : w.heap.size ≤ gb215)); have n3_ := Aside0.mk ((by rw [hg]; exact (below_size (by repeat (first | (with_reducible first | exact HB.out | apply below_alloc | apply pw_below_drewN | apply below_drew1) | exact HB.out))) : w.heap.size ≤ gb215)); clear HB; have HB := n0_; have BK215 := n1_; have GW215 := n2_; have GE215 := n3_; clear n0_ n1_ n2_ n3_; clear hb hbox hg) | (go_at_call 15; (with_reducible refine (hash_Gnu.calls k a2 t216 _ A4.out).mono ?_); rintro e w' ⟨rfl, ⟨nd, rfl⟩⟩; (try first | exact ⟨rfl, _, World.drewN_drewN _ _ _⟩ | exact ⟨rfl, _, Eq.trans (World.drewN_drewN _ _ _) (congrArg (World.drewN _) (Nat.add_assoc _ _ _))⟩); have hcz14_0 : w13.cell? ⟨gb215, 0, none⟩ = some (.slice A0_0 l0_0.length c0_0) := (blk_cell BK215.out 0).trans rfl; have hcz14_1 : w13.cell? ⟨gb215, 1, none⟩ = some (.int .i64 a0_1) := (blk_cell BK215.out 1).trans rfl; have hcz14_2 : w13.cell? ⟨gb215, 2, none⟩ = some (.int .u64 a0_2) := (blk_cell BK215.out 2).trans rfl; have hcz14_3 : w13.cell? ⟨gb215, 3, none⟩ = some (.slice A0_3 l0_3.length c0_3) := (blk_cell BK215.out 3).trans rfl; have hcz14_4 : w13.cell? ⟨gb215, 4, none⟩ = some (.slice A0_4 l0_4.length c0_4) := (blk_cell BK215.out 4).trans rfl; have hcz14_5 : w13.cell? ⟨gb215, 5, none⟩ = some (.slice A0_5 l0_5.length c0_5) := (blk_cell BK215.out 5).trans rfl; have hcz14_6 : w13.cell? ⟨gb215, 6, none⟩ = some (.int .u32 a0_6) := (blk_cell BK215.out 6).trans rfl; have hcz14_7 : w13.cell? ⟨gb215, 7, none⟩ = some (.int .u32 a0_7) := (blk_cell BK215.out 7).trans rfl; have hcz14_8 : w13.cell? ⟨gb215, 8, none⟩ = some (.int .u64 a0_8) := (blk_cell BK215.out 8).trans rfl; have hfz14_0 := blk_frozen BK215.out 0; have hfz14_1 := blk_frozen BK215.out 1; have hfz14_2 := blk_frozen BK215.out 2; have hfz14_3 := blk_frozen BK215.out 3; have hfz14_4 := blk_frozen BK215.out 4; have hfz14_5 := blk_frozen BK215.out 5; have hfz14_6 := blk_frozen BK215.out 6; have hfz14_7 := blk_frozen BK215.out 7; have hfz14_8 := blk_frozen BK215.out 8; have p217 : 0 ≤ ((ji6) : Int) := of_decide_eq_true (by assumption); have q217 : (ji6) < (l0_4.length : Int) := of_decide_eq_true (by assumption); obtain ⟨ad217, e217, hx217_0⟩ := Kd.at_int HR0_4.out (ji6) p217 q217; cases e217; replace hx217_0 := (HB.out.cell (World.block_lt_of_cell? w _ hx217_0)).trans hx217_0; replace p217 := eq_true p217; replace q217 := eq_true q217; have p218 : 0 ≤ ((ji9) : Int) := of_decide_eq_true (by assumption); have q218 : (ji9) < (l0_4.length : Int) := of_decide_eq_true (by assumption); obtain ⟨ad218, e218, hx218_0⟩ := Kd.at_int HR0_4.out (ji9) p218 q218; obtain rfl : ad217 = ad218 := (by injection e218); replace hx218_0 := (HB.out.cell (World.block_lt_of_cell? w _ hx218_0)).trans hx218_0; replace p218 := eq_true p218; replace q218 := eq_true q218))
      repeat (go_quiet (first | ((with_reducible refine gate_dst (N := 3) rfl ?_); refine box_event ?hg (N := 3) ?hd (cs := #[.slice A0_0 l0_0.length c0_0, .int .i64 a0_1, .int .u64 a0_2, .slice A0_3 l0_3.length c0_3, .slice A0_4 l0_4.length c0_4, .slice A0_5 l0_5.length c0_5, .int .u32 a0_6, .int .u32 a0_7, .int .u64 a0_8]) (t := 92) ?hr ?_; (case hd => rfl); (case hg => rfl); (case hr => first | (go_simp; done) | (go_simp; rfl)); intro gb215 hg w13 hbox hb; have n0_ := Aside0.mk (below_step (by repeat (first | (with_reducible first | exact HB.out | apply below_alloc | apply pw_below_drewN | apply below_drew1) | exact HB.out)) hb); have n1_ := Aside0.mk (hbox); have n2_ := Aside0.mk ((by rw [hg]; exact (below_size (by repeat (first | (with_reducible first | exact HB.out | apply below_alloc | apply pw_below_drewN | apply below_drew1) | exact HB.out))) : w.heap.size ≤ gb215)); have n3_ := Aside0.mk ((by rw [hg]; exact (below_size (by repeat (first | (with_reducible first | exact HB.out | apply below_alloc | apply pw_below_drewN | apply below_drew1) | exact HB.out))) : w.heap.size ≤ gb215)); clear HB; have HB := n0_; have BK215 := n1_; have GW215 := n2_; have GE215 := n3_; clear n0_ n1_ n2_ n3_; clear hb hbox hg) | (go_at_call 15; (with_reducible refine (hash_Gnu.calls k a2 t216 _ A4.out).mono ?_); rintro e w' ⟨rfl, ⟨nd, rfl⟩⟩; (try first | exact ⟨rfl, _, World.drewN_drewN _ _ _⟩ | exact ⟨rfl, _, Eq.trans (World.drewN_drewN _ _ _) (congrArg (World.drewN _) (Nat.add_assoc _ _ _))⟩); have hcz14_0 : w13.cell? ⟨gb215, 0, none⟩ = some (.slice A0_0 l0_0.length c0_0) := (blk_cell BK215.out 0).trans rfl; have hcz14_1 : w13.cell? ⟨gb215, 1, none⟩ = some (.int .i64 a0_1) := (blk_cell BK215.out 1).trans rfl; have hcz14_2 : w13.cell? ⟨gb215, 2, none⟩ = some (.int .u64 a0_2) := (blk_cell BK215.out 2).trans rfl; have hcz14_3 : w13.cell? ⟨gb215, 3, none⟩ = some (.slice A0_3 l0_3.length c0_3) := (blk_cell BK215.out 3).trans rfl; have hcz14_4 : w13.cell? ⟨gb215, 4, none⟩ = some (.slice A0_4 l0_4.length c0_4) := (blk_cell BK215.out 4).trans rfl; have hcz14_5 : w13.cell? ⟨gb215, 5, none⟩ = some (.slice A0_5 l0_5.length c0_5) := (blk_cell BK215.out 5).trans rfl; have hcz14_6 : w13.cell? ⟨gb215, 6, none⟩ = some (.int .u32 a0_6) := (blk_cell BK215.out 6).trans rfl; have hcz14_7 : w13.cell? ⟨gb215, 7, none⟩ = some (.int .u32 a0_7) := (blk_cell BK215.out 7).trans rfl; have hcz14_8 : w13.cell? ⟨gb215, 8, none⟩ = some (.int .u64 a0_8) := (blk_cell BK215.out 8).trans rfl; have hfz14_0 := blk_frozen BK215.out 0; have hfz14_1 := blk_frozen BK215.out 1; have hfz14_2 := blk_frozen BK215.out 2; have hfz14_3 := blk_frozen BK215.out 3; have hfz14_4 := blk_frozen BK215.out 4; have hfz14_5 := blk_frozen BK215.out 5; have hfz14_6 := blk_frozen BK215.out 6; have hfz14_7 := blk_frozen BK215.out 7; have hfz14_8 := blk_frozen BK215.out 8; have p217 : 0 ≤ ((ji6) : Int) := of_decide_eq_true (by assumption); have q217 : (ji6) < (l0_4.length : Int) := of_decide_eq_true (by assumption); obtain ⟨ad217, e217, hx217_0⟩ := Kd.at_int HR0_4.out (ji6) p217 q217; cases e217; replace hx217_0 := (HB.out.cell (World.block_lt_of_cell? w _ hx217_0)).trans hx217_0; replace p217 := eq_true p217; replace q217 := eq_true q217; have p218 : 0 ≤ ((ji9) : Int) := of_decide_eq_true (by assumption); have q218 : (ji9) < (l0_4.length : Int) := of_decide_eq_true (by assumption); obtain ⟨ad218, e218, hx218_0⟩ := Kd.at_int HR0_4.out (ji9) p218 q218; obtain rfl : ad217 = ad218 := (by injection e218); replace hx218_0 := (HB.out.cell (World.block_lt_of_cell? w _ hx218_0)).trans hx218_0; replace p218 := eq_true p218; replace q218 := eq_true q218)); go_upto_region 4 with (first | ((with_reducible refine gate_ (.load 92 (.tmp 3)) rfl ?_); refine wpList_load_row rfl 92 (.tmp 3) rfl gb215 rfl 92 _ (0, 0) _ (by (with_reducible repeat (first | refine blk_drewN ?_ _ | refine blk_drew ?_ | refine blk_alloc ?_ _)); exact BK215.out) Try.underlying92 rfl (by kernel_rfl) ?_) | ((with_reducible refine gate_dst (N := 3) rfl ?_); refine box_event ?hg (N := 3) ?hd (cs := #[.slice A0_0 l0_0.length c0_0, .int .i64 a0_1, .int .u64 a0_2, .slice A0_3 l0_3.length c0_3, .slice A0_4 l0_4.length c0_4, .slice A0_5 l0_5.length c0_5, .int .u32 a0_6, .int .u32 a0_7, .int .u64 a0_8]) (t := 92) ?hr ?_; (case hd => rfl); (case hg => rfl); (case hr => first | (go_simp; done) | (go_simp; rfl)); intro gb215 hg w13 hbox hb; have n0_ := Aside0.mk (below_step (by repeat (first | (with_reducible first | exact HB.out | apply below_alloc | apply pw_below_drewN | apply below_drew1) | exact HB.out)) hb); have n1_ := Aside0.mk (hbox); have n2_ := Aside0.mk ((by rw [hg]; exact (below_size (by repeat (first | (with_reducible first | exact HB.out | apply below_alloc | apply pw_below_drewN | apply below_drew1) | exact HB.out))) : w.heap.size ≤ gb215)); have n3_ := Aside0.mk ((by rw [hg]; exact (below_size (by repeat (first | (with_reducible first | exact HB.out | apply below_alloc | apply pw_below_drewN | apply below_drew1) | exact HB.out))) : w.heap.size ≤ gb215)); clear HB; have HB := n0_; have BK215 := n1_; have GW215 := n2_; have GE215 := n3_; clear n0_ n1_ n2_ n3_; clear hb hbox hg) | (go_at_call 15; (with_reducible refine (hash_Gnu.calls k a2 t216 _ A4.out).mono ?_); rintro e w' ⟨rfl, ⟨nd, rfl⟩⟩; (try first | exact ⟨rfl, _, World.drewN_drewN _ _ _⟩ | exact ⟨rfl, _, Eq.trans (World.drewN_drewN _ _ _) (congrArg (World.drewN _) (Nat.add_assoc _ _ _))⟩); have hcz14_0 : w13.cell? ⟨gb215, 0, none⟩ = some (.slice A0_0 l0_0.length c0_0) := (blk_cell BK215.out 0).trans rfl; have hcz14_1 : w13.cell? ⟨gb215, 1, none⟩ = some (.int .i64 a0_1) := (blk_cell BK215.out 1).trans rfl; have hcz14_2 : w13.cell? ⟨gb215, 2, none⟩ = some (.int .u64 a0_2) := (blk_cell BK215.out 2).trans rfl; have hcz14_3 : w13.cell? ⟨gb215, 3, none⟩ = some (.slice A0_3 l0_3.length c0_3) := (blk_cell BK215.out 3).trans rfl; have hcz14_4 : w13.cell? ⟨gb215, 4, none⟩ = some (.slice A0_4 l0_4.length c0_4) := (blk_cell BK215.out 4).trans rfl; have hcz14_5 : w13.cell? ⟨gb215, 5, none⟩ = some (.slice A0_5 l0_5.length c0_5) := (blk_cell BK215.out 5).trans rfl; have hcz14_6 : w13.cell? ⟨gb215, 6, none⟩ = some (.int .u32 a0_6) := (blk_cell BK215.out 6).trans rfl; have hcz14_7 : w13.cell? ⟨gb215, 7, none⟩ = some (.int .u32 a0_7) := (blk_cell BK215.out 7).trans rfl; have hcz14_8 : w13.cell? ⟨gb215, 8, none⟩ = some (.int .u64 a0_8) := (blk_cell BK215.out 8).trans rfl; have hfz14_0 := blk_frozen BK215.out 0; have hfz14_1 := blk_frozen BK215.out 1; have hfz14_2 := blk_frozen BK215.out 2; have hfz14_3 := blk_frozen BK215.out 3; have hfz14_4 := blk_frozen BK215.out 4; have hfz14_5 := blk_frozen BK215.out 5; have hfz14_6 := blk_frozen BK215.out 6; have hfz14_7 := blk_frozen BK215.out 7; have hfz14_8 := blk_frozen BK215.out 8; have p217 : 0 ≤ ((ji6) : Int) := of_decide_eq_true (by assumption); have q217 : (ji6) < (l0_4.length : Int) := of_decide_eq_true (by assumption); obtain ⟨ad217, e217, hx217_0⟩ := Kd.at_int HR0_4.out (ji6) p217 q217; cases e217; replace hx217_0 := (HB.out.cell (World.block_lt_of_cell? w _ hx217_0)).trans hx217_0; replace p217 := eq_true p217; replace q217 := eq_true q217; have p218 : 0 ≤ ((ji9) : Int) := of_decide_eq_true (by assumption); have q218 : (ji9) < (l0_4.length : Int) := of_decide_eq_true (by assumption); obtain ⟨ad218, e218, hx218_0⟩ := Kd.at_int HR0_4.out (ji9) p218 q218; obtain rfl : ad217 = ad218 := (by injection e218); replace hx218_0 := (HB.out.cell (World.block_lt_of_cell? w _ hx218_0)).trans hx218_0; replace p218 := eq_true p218; replace q218 := eq_true q218)))
      (try simp only [Act.put, List.setIfInBounds_toArray, List.set_cons_zero, List.set_cons_succ])
      go_cut [57] (fun v57 wc => ∃ (kq : Nat) (x57_11 : Bool), v57 = .bool x57_11 ∧ Aside0 (hash_second_look.j0 kq l1 a2 t216 x57_11 l0_0 a0_1 a0_2 l0_3 l0_4 l0_5 a0_6 a0_7 a0_8 = some (r1, r2)) ∧ Aside0 (kq ≤ k) ∧ Aside0 (wc.heap[gb215]? = some (.cells #[(.slice A0_0 l0_0.length c0_0), .int .i64 a0_1, .int .u64 a0_2, (.slice A0_3 l0_3.length c0_3), (.slice (some ad217) l0_4.length c0_4), (.slice A0_5 l0_5.length c0_5), .int .u32 a0_6, .int .u32 a0_7, .int .u64 a0_8] 92 (0, 0))) ∧ Aside0 (Below w.heap.size w wc))
      case first =>
       have H := HC12.out
       clear HC12
       obtain ⟨ji15, hji15⟩ : ∃ j_ : Int, (Int.tmod t216 64) = j_ := ⟨_, rfl⟩
       replace H : (if 0 ≤ (ji15) then (if (Go.bits .and .u64 (shr .u64 (Go.bits .or .u64 (IntKind.u64.wrap (rd l0_4 (ji6))) (IntKind.u64.wrap ((IntKind.u64.wrap (rd l0_4 (ji9))) * 4294967296))) (ji15)) 1) = 0 then (hash_second_look.j0 k l1 a2 t216 true l0_0 a0_1 a0_2 l0_3 l0_4 l0_5 a0_6 a0_7 a0_8) else (if 0 ≤ a0_7 then (if 0 ≤ (Int.tmod (shr .u32 t216 a0_7) 64) then (hash_second_look.j0 k l1 a2 t216 ((Go.bits .and .u64 (shr .u64 (Go.bits .or .u64 (IntKind.u64.wrap (rd l0_4 (ji6))) (IntKind.u64.wrap ((IntKind.u64.wrap (rd l0_4 (ji9))) * 4294967296))) (Int.tmod (shr .u32 t216 a0_7) 64)) 1) == 0) l0_0 a0_1 a0_2 l0_3 l0_4 l0_5 a0_6 a0_7 a0_8) else (none)) else (none))) else (none)) = some (r1, r2) := by first | (rw [hji15] at H; exact H) | (simp only [hji15] at H ⊢; exact H)
       by_cases c16 : 0 ≤ (ji15)
       ·rw [if_pos c16] at H
        have c16b0 := eq_true c16
        have c16b1 : decide (0 ≤ (ji15)) = true := decide_eq_true c16
        clear c16
        obtain ⟨ji17, hji17⟩ : ∃ j_ : Int, (shr .u64 (Go.bits .or .u64 (IntKind.u64.wrap (rd l0_4 (ji6))) (IntKind.u64.wrap ((IntKind.u64.wrap (rd l0_4 (ji9))) * 4294967296))) (ji15)) = j_ := ⟨_, rfl⟩
        replace H : (if (Go.bits .and .u64 (ji17) 1) = 0 then (hash_second_look.j0 k l1 a2 t216 true l0_0 a0_1 a0_2 l0_3 l0_4 l0_5 a0_6 a0_7 a0_8) else (if 0 ≤ a0_7 then (if 0 ≤ (Int.tmod (shr .u32 t216 a0_7) 64) then (hash_second_look.j0 k l1 a2 t216 ((Go.bits .and .u64 (shr .u64 (Go.bits .or .u64 (IntKind.u64.wrap (rd l0_4 (ji6))) (IntKind.u64.wrap ((IntKind.u64.wrap (rd l0_4 (ji9))) * 4294967296))) (Int.tmod (shr .u32 t216 a0_7) 64)) 1) == 0) l0_0 a0_1 a0_2 l0_3 l0_4 l0_5 a0_6 a0_7 a0_8) else (none)) else (none))) = some (r1, r2) := by first | (rw [hji17] at H; exact H) | (simp only [hji17] at H ⊢; exact H)
        have hji17_ : ((Go.bits .or .u64 (IntKind.u64.wrap (rd l0_4 (ji6))) (IntKind.u64.wrap ((IntKind.u64.wrap (rd l0_4 (ji9))) * 4294967296))) / 2 ^ min (ji15).toNat 64) = ji17 := hji17
        have hji17z : (ji15) ≤ 64 → ((Go.bits .or .u64 (IntKind.u64.wrap (rd l0_4 (ji6))) (IntKind.u64.wrap ((IntKind.u64.wrap (rd l0_4 (ji9))) * 4294967296))) / 2 ^ (ji15).toNat) = ji17 := shr_small hji17
        by_cases c18 : (Go.bits .and .u64 (ji17) 1) = 0
        ·rw [if_pos c18] at H
         have c18b0 : ((Go.bits .and .u64 (ji17) 1) == 0) = true := beq_iff_eq.mpr c18
         have c18b1 : ((Go.bits .and .u64 (ji17) 1) != 0) = false := bne_eq_false_iff_eq.mpr c18
         clear c18
         (first | rw [c18b0] | (simp only [i64_w, i32_w]; rw [c18b0]) | skip)
         have H' := Aside0.mk H
         clear H
         go_wp2
         repeat (go_quiet (fail); try go_wp2)
         go_meet
         case rel => exact ⟨_, (true), (by first | rfl | (simp; done) | (simp [*]; done)), H', ⟨by first | omega | exact Nat.le_refl _⟩, ⟨by (with_reducible repeat (first | refine blk_drewN ?_ _ | refine blk_drew ?_ | refine blk_alloc ?_ _)); exact BK215.out⟩, ⟨by repeat (first | (with_reducible first | exact HB.out | apply below_alloc | apply pw_below_drewN | apply below_drew1 | refine below_set ?_ GE215.out) | exact HB.out)⟩⟩
        ·rw [if_neg c18] at H
         have c18b0 : ((Go.bits .and .u64 (ji17) 1) == 0) = false := beq_eq_false_iff_ne.mpr c18
         have c18b1 : ((Go.bits .and .u64 (ji17) 1) != 0) = true := bne_iff_ne.mpr c18
         (first | rw [c18b0] | (simp only [i64_w, i32_w]; rw [c18b0]) | skip)
         by_cases c19 : 0 ≤ a0_7
         ·rw [if_pos c19] at H
          have c19b0 := eq_true c19
          have c19b1 : decide (0 ≤ a0_7) = true := decide_eq_true c19
          clear c19
          obtain ⟨ji20, hji20⟩ : ∃ j_ : Int, (shr .u32 t216 a0_7) = j_ := ⟨_, rfl⟩
          replace H : (if 0 ≤ (Int.tmod (ji20) 64) then (hash_second_look.j0 k l1 a2 t216 ((Go.bits .and .u64 (shr .u64 (Go.bits .or .u64 (IntKind.u64.wrap (rd l0_4 (ji6))) (IntKind.u64.wrap ((IntKind.u64.wrap (rd l0_4 (ji9))) * 4294967296))) (Int.tmod (ji20) 64)) 1) == 0) l0_0 a0_1 a0_2 l0_3 l0_4 l0_5 a0_6 a0_7 a0_8) else (none)) = some (r1, r2) := by first | (rw [hji20] at H; exact H) | (simp only [hji20] at H ⊢; exact H)
          have hji20_ : (t216 / 2 ^ min a0_7.toNat 32) = ji20 := hji20
          have hji20z : a0_7 ≤ 32 → (t216 / 2 ^ a0_7.toNat) = ji20 := shr_small hji20
          obtain ⟨ji21, hji21⟩ : ∃ j_ : Int, (Int.tmod (ji20) 64) = j_ := ⟨_, rfl⟩
          replace H : (if 0 ≤ (ji21) then (hash_second_look.j0 k l1 a2 t216 ((Go.bits .and .u64 (shr .u64 (Go.bits .or .u64 (IntKind.u64.wrap (rd l0_4 (ji6))) (IntKind.u64.wrap ((IntKind.u64.wrap (rd l0_4 (ji9))) * 4294967296))) (ji21)) 1) == 0) l0_0 a0_1 a0_2 l0_3 l0_4 l0_5 a0_6 a0_7 a0_8) else (none)) = some (r1, r2) := by first | (rw [hji21] at H; exact H) | (simp only [hji21] at H ⊢; exact H)
          by_cases c22 : 0 ≤ (ji21)
          ·rw [if_pos c22] at H
           have c22b0 := eq_true c22
           have c22b1 : decide (0 ≤ (ji21)) = true := decide_eq_true c22
           clear c22
           obtain ⟨ji23, hji23⟩ : ∃ j_ : Int, (shr .u64 (Go.bits .or .u64 (IntKind.u64.wrap (rd l0_4 (ji6))) (IntKind.u64.wrap ((IntKind.u64.wrap (rd l0_4 (ji9))) * 4294967296))) (ji21)) = j_ := ⟨_, rfl⟩
           replace H : (hash_second_look.j0 k l1 a2 t216 ((Go.bits .and .u64 (ji23) 1) == 0) l0_0 a0_1 a0_2 l0_3 l0_4 l0_5 a0_6 a0_7 a0_8) = some (r1, r2) := by first | (rw [hji23] at H; exact H) | (simp only [hji23] at H ⊢; exact H)
           have hji23_ : ((Go.bits .or .u64 (IntKind.u64.wrap (rd l0_4 (ji6))) (IntKind.u64.wrap ((IntKind.u64.wrap (rd l0_4 (ji9))) * 4294967296))) / 2 ^ min (ji21).toNat 64) = ji23 := hji23
           have hji23z : (ji21) ≤ 64 → ((Go.bits .or .u64 (IntKind.u64.wrap (rd l0_4 (ji6))) (IntKind.u64.wrap ((IntKind.u64.wrap (rd l0_4 (ji9))) * 4294967296))) / 2 ^ (ji21).toNat) = ji23 := shr_small hji23
           have H' := Aside0.mk H
           clear H
           have hcz24_0 : w13.cell? ⟨gb215, 0, none⟩ = some (.slice A0_0 l0_0.length c0_0) := (blk_cell BK215.out 0).trans rfl
           have hcz24_1 : w13.cell? ⟨gb215, 1, none⟩ = some (.int .i64 a0_1) := (blk_cell BK215.out 1).trans rfl
           have hcz24_2 : w13.cell? ⟨gb215, 2, none⟩ = some (.int .u64 a0_2) := (blk_cell BK215.out 2).trans rfl
           have hcz24_3 : w13.cell? ⟨gb215, 3, none⟩ = some (.slice A0_3 l0_3.length c0_3) := (blk_cell BK215.out 3).trans rfl
           have hcz24_4 : w13.cell? ⟨gb215, 4, none⟩ = some (.slice (some ad217) l0_4.length c0_4) := (blk_cell BK215.out 4).trans rfl
           have hcz24_5 : w13.cell? ⟨gb215, 5, none⟩ = some (.slice A0_5 l0_5.length c0_5) := (blk_cell BK215.out 5).trans rfl
           have hcz24_6 : w13.cell? ⟨gb215, 6, none⟩ = some (.int .u32 a0_6) := (blk_cell BK215.out 6).trans rfl
           have hcz24_7 : w13.cell? ⟨gb215, 7, none⟩ = some (.int .u32 a0_7) := (blk_cell BK215.out 7).trans rfl
           have hcz24_8 : w13.cell? ⟨gb215, 8, none⟩ = some (.int .u64 a0_8) := (blk_cell BK215.out 8).trans rfl
           have hfz24_0 := blk_frozen BK215.out 0
           have hfz24_1 := blk_frozen BK215.out 1
           have hfz24_2 := blk_frozen BK215.out 2
           have hfz24_3 := blk_frozen BK215.out 3
           have hfz24_4 := blk_frozen BK215.out 4
           have hfz24_5 := blk_frozen BK215.out 5
           have hfz24_6 := blk_frozen BK215.out 6
           have hfz24_7 := blk_frozen BK215.out 7
           have hfz24_8 := blk_frozen BK215.out 8
           go_wp2
           repeat (go_quiet (fail); try go_wp2)
           go_meet
           case rel => exact ⟨_, (((Go.bits .and .u64 (ji23) 1) == 0)), (by first | rfl | (simp; done) | (simp only [← hji23] <;> (first | rfl | simp)) | (simp [*]; done)), H', ⟨by first | omega | exact Nat.le_refl _⟩, ⟨by (with_reducible repeat (first | refine blk_drewN ?_ _ | refine blk_drew ?_ | refine blk_alloc ?_ _)); exact BK215.out⟩, ⟨by repeat (first | (with_reducible first | exact HB.out | apply below_alloc | apply pw_below_drewN | apply below_drew1 | refine below_set ?_ GE215.out) | exact HB.out)⟩⟩
          ·rw [if_neg c22] at H
           exact absurd H (by simp)
         ·rw [if_neg c19] at H
          exact absurd H (by simp)
       ·rw [if_neg c16] at H
        exact absurd H (by simp)
      case rest =>
       clear HC12
       try clear c1
       try clear c2
       try clear p2
       try clear q2
       try clear hx2
       try clear c3
       try clear c5
       try clear c5b0
       try clear c5b1
       try clear p6
       try clear c7
       try clear c7b0
       try clear c8
       try clear c8b0
       try clear c10
       try clear c10b0
       try clear c11
       try clear c11b0
       try clear c16
       try clear c16b0
       try clear c16b1
       try clear c18
       try clear c18b0
       try clear c18b1
       try clear c19
       try clear c19b0
       try clear c19b1
       try clear p21
       try clear q21
       try clear hx21
       try clear c22
       try clear c22b0
       try clear c22b1
       try clear hcz14_0
       try clear hcz14_1
       try clear hcz14_2
       try clear hcz14_3
       try clear hcz14_4
       try clear hcz14_5
       try clear hcz14_6
       try clear hcz14_7
       try clear hcz14_8
       try clear hcz24_0
       try clear hcz24_1
       try clear hcz24_2
       try clear hcz24_3
       try clear hcz24_4
       try clear hcz24_5
       try clear hcz24_6
       try clear hcz24_7
       try clear hcz24_8
       try clear hfz14_0
       try clear hfz14_1
       try clear hfz14_2
       try clear hfz14_3
       try clear hfz14_4
       try clear hfz14_5
       try clear hfz14_6
       try clear hfz14_7
       try clear hfz14_8
       try clear hfz24_0
       try clear hfz24_1
       try clear hfz24_2
       try clear hfz24_3
       try clear hfz24_4
       try clear hfz24_5
       try clear hfz24_6
       try clear hfz24_7
       try clear hfz24_8
       try clear hx217_0
       try clear hx218_0
       try clear p217
       try clear p218
       try clear q217
       try clear q218
       obtain ⟨kq, x57_11, rfl, HA, HJ11, BK215, HB⟩ := hcut
       cases kq with
       | zero => exact absurd HA.out (by simp [hash_second_look.j0])
       | succ kj11 =>
        have H := HA.out
        clear HA
        simp only [hash_second_look.j0] at H
        by_cases c25 : x57_11 = true
        ·subst c25
         have H1 : (some (([] : List Int), none)) = some (r1, r2) := by rw [if_pos rfl] at H; exact H
         clear H
         have H := H1
         clear H1
         simp only [Option.some.injEq, Prod.mk.injEq] at H
         obtain ⟨rfl, rfl⟩ := H
         go_wp2
         repeat (go_quiet (fail); try go_wp2)
         go_ret2
         exact ⟨_, by first | rfl | (simp [errW_none, errW_some] <;> rfl) | (simp only [← hji6, ← hji9]; first | rfl | (simp [errW_none, errW_some] <;> rfl)) | (simp [*, errW_none, errW_some] <;> rfl), by first | exact Kd.R_nil _ _ _ _ _ | exact Kd.N_nil _ _ _ _ _ | exact Kd.V_nil _ _ _ _ _ | exact Kd.Q_nil _ _ _ _ _ | exact Kd.S_nil _ _ _ _ _, by repeat (first | (with_reducible first | exact HB.out | apply below_alloc | apply pw_below_drewN | apply below_drew1 | refine below_set ?_ GE215.out) | exact HB.out)⟩
        ·replace c25 := Bool.eq_false_iff.mpr c25
         subst c25
         have H1 : (if (((l0_5.length : Int)) % 4294967296) = 0 then (none) else (if 0 ≤ (Int.tmod t216 (((l0_5.length : Int)) % 4294967296)) then (if (Int.tmod t216 (((l0_5.length : Int)) % 4294967296)) < (l0_5.length : Int) then (if (rd l0_5 (Int.tmod t216 (((l0_5.length : Int)) % 4294967296))) = 0 then (some (([] : List Int), none)) else (hash_second_look.l0 kj11 l1 a2 t216 ([] : List Int) (rd l0_5 (Int.tmod t216 (((l0_5.length : Int)) % 4294967296))) l0_0 a0_1 a0_2 l0_3 l0_4 l0_5 a0_6 a0_7 a0_8)) else (none)) else (none))) = some (r1, r2) := by rw [if_neg (show ¬ (false = true) by decide)] at H; exact H
         clear H
         have H := H1
         clear H1
         by_cases c26 : (((l0_5.length : Int)) % 4294967296) = 0
         ·rw [if_pos c26] at H
          exact absurd H (by simp)
         ·rw [if_neg c26] at H
          have c26b0 : ((((l0_5.length : Int)) % 4294967296) == 0) = false := beq_eq_false_iff_ne.mpr c26
          have c26b0w : ((IntKind.u32.wrap (((l0_5.length : Int)))) == 0) = false := by simp only [IntKind.wrap_u32]; exact c26b0
          have c26bp : ¬ (IntKind.u32.wrap (((l0_5.length : Int)))) = 0 := by simp only [IntKind.wrap_u32]; exact c26
          have c26b1 : ((((l0_5.length : Int)) % 4294967296) != 0) = true := bne_iff_ne.mpr c26
          have c26b1w : ((IntKind.u32.wrap (((l0_5.length : Int)))) != 0) = true := by simp only [IntKind.wrap_u32]; exact c26b1
          obtain ⟨ji27, hji27⟩ : ∃ j_ : Int, (Int.tmod t216 (((l0_5.length : Int)) % 4294967296)) = j_ := ⟨_, rfl⟩
          have hji27v : (Int.tmod t216 (IntKind.u32.wrap (((l0_5.length : Int))))) = ji27 := by simp only [IntKind.wrap_u32]; exact hji27
          replace H : (if 0 ≤ (ji27) then (if (ji27) < (l0_5.length : Int) then (if (rd l0_5 (ji27)) = 0 then (some (([] : List Int), none)) else (hash_second_look.l0 kj11 l1 a2 t216 ([] : List Int) (rd l0_5 (ji27)) l0_0 a0_1 a0_2 l0_3 l0_4 l0_5 a0_6 a0_7 a0_8)) else (none)) else (none)) = some (r1, r2) := by first | (rw [hji27] at H; exact H) | (simp only [hji27] at H ⊢; exact H)
          by_cases c28 : 0 ≤ (ji27)
          ·rw [if_pos c28] at H
           have c28b0 : decide (0 ≤ (ji27)) = true := decide_eq_true c28
           clear c28
           by_cases c29 : (ji27) < (l0_5.length : Int)
           ·rw [if_pos c29] at H
            have c29b0 : decide ((ji27) < (l0_5.length : Int)) = true := decide_eq_true c29
            clear c29
            by_cases c30 : (rd l0_5 (ji27)) = 0
            ·rw [if_pos c30] at H
             have c30b0 : ((rd l0_5 (ji27)) == 0) = true := beq_iff_eq.mpr c30
             have c30b1 : ((rd l0_5 (ji27)) != 0) = false := bne_eq_false_iff_eq.mpr c30
             clear c30
             simp only [Option.some.injEq, Prod.mk.injEq] at H
             obtain ⟨rfl, rfl⟩ := H
             have hcz31_0 : wc.cell? ⟨gb215, 0, none⟩ = some (.slice A0_0 l0_0.length c0_0) := (blk_cell BK215.out 0).trans rfl
             have hcz31_1 : wc.cell? ⟨gb215, 1, none⟩ = some (.int .i64 a0_1) := (blk_cell BK215.out 1).trans rfl
             have hcz31_2 : wc.cell? ⟨gb215, 2, none⟩ = some (.int .u64 a0_2) := (blk_cell BK215.out 2).trans rfl
             have hcz31_3 : wc.cell? ⟨gb215, 3, none⟩ = some (.slice A0_3 l0_3.length c0_3) := (blk_cell BK215.out 3).trans rfl
             have hcz31_4 : wc.cell? ⟨gb215, 4, none⟩ = some (.slice (some ad217) l0_4.length c0_4) := (blk_cell BK215.out 4).trans rfl
             have hcz31_5 : wc.cell? ⟨gb215, 5, none⟩ = some (.slice A0_5 l0_5.length c0_5) := (blk_cell BK215.out 5).trans rfl
             have hcz31_6 : wc.cell? ⟨gb215, 6, none⟩ = some (.int .u32 a0_6) := (blk_cell BK215.out 6).trans rfl
             have hcz31_7 : wc.cell? ⟨gb215, 7, none⟩ = some (.int .u32 a0_7) := (blk_cell BK215.out 7).trans rfl
             have hcz31_8 : wc.cell? ⟨gb215, 8, none⟩ = some (.int .u64 a0_8) := (blk_cell BK215.out 8).trans rfl
             have hfz31_0 := blk_frozen BK215.out 0
             have hfz31_1 := blk_frozen BK215.out 1
             have hfz31_2 := blk_frozen BK215.out 2
             have hfz31_3 := blk_frozen BK215.out 3
             have hfz31_4 := blk_frozen BK215.out 4
             have hfz31_5 := blk_frozen BK215.out 5
             have hfz31_6 := blk_frozen BK215.out 6
             have hfz31_7 := blk_frozen BK215.out 7
             have hfz31_8 := blk_frozen BK215.out 8
             have p219 : 0 ≤ ((ji27) : Int) := of_decide_eq_true (by assumption)
             have q219 : (ji27) < (l0_5.length : Int) := of_decide_eq_true (by assumption)
             obtain ⟨ad219, e219, hx219_0⟩ := Kd.at_int HR0_5.out (ji27) p219 q219
             cases e219
             replace hx219_0 := (HB.out.cell (World.block_lt_of_cell? w _ hx219_0)).trans hx219_0
             replace p219 := eq_true p219
             replace q219 := eq_true q219
             go_wp2
             repeat (go_quiet (fail); try go_wp2)
             go_ret2
             exact ⟨_, by first | rfl | (simp [errW_none, errW_some] <;> rfl) | (simp only [← hji6, ← hji9, ← hji27]; first | rfl | (simp [errW_none, errW_some] <;> rfl)) | (simp [*, errW_none, errW_some] <;> rfl), by first | exact Kd.R_nil _ _ _ _ _ | exact Kd.N_nil _ _ _ _ _ | exact Kd.V_nil _ _ _ _ _ | exact Kd.Q_nil _ _ _ _ _ | exact Kd.S_nil _ _ _ _ _, by repeat (first | (with_reducible first | exact HB.out | apply below_alloc | apply pw_below_drewN | apply below_drew1 | refine below_set ?_ GE215.out) | exact HB.out)⟩
            ·rw [if_neg c30] at H
             have c30b0 : ((rd l0_5 (ji27)) == 0) = false := beq_eq_false_iff_ne.mpr c30
             have c30b1 : ((rd l0_5 (ji27)) != 0) = true := bne_iff_ne.mpr c30
             have H' := Aside0.mk H
             clear H
             have hcz32_0 : wc.cell? ⟨gb215, 0, none⟩ = some (.slice A0_0 l0_0.length c0_0) := (blk_cell BK215.out 0).trans rfl
             have hcz32_1 : wc.cell? ⟨gb215, 1, none⟩ = some (.int .i64 a0_1) := (blk_cell BK215.out 1).trans rfl
             have hcz32_2 : wc.cell? ⟨gb215, 2, none⟩ = some (.int .u64 a0_2) := (blk_cell BK215.out 2).trans rfl
             have hcz32_3 : wc.cell? ⟨gb215, 3, none⟩ = some (.slice A0_3 l0_3.length c0_3) := (blk_cell BK215.out 3).trans rfl
             have hcz32_4 : wc.cell? ⟨gb215, 4, none⟩ = some (.slice (some ad217) l0_4.length c0_4) := (blk_cell BK215.out 4).trans rfl
             have hcz32_5 : wc.cell? ⟨gb215, 5, none⟩ = some (.slice A0_5 l0_5.length c0_5) := (blk_cell BK215.out 5).trans rfl
             have hcz32_6 : wc.cell? ⟨gb215, 6, none⟩ = some (.int .u32 a0_6) := (blk_cell BK215.out 6).trans rfl
             have hcz32_7 : wc.cell? ⟨gb215, 7, none⟩ = some (.int .u32 a0_7) := (blk_cell BK215.out 7).trans rfl
             have hcz32_8 : wc.cell? ⟨gb215, 8, none⟩ = some (.int .u64 a0_8) := (blk_cell BK215.out 8).trans rfl
             have hfz32_0 := blk_frozen BK215.out 0
             have hfz32_1 := blk_frozen BK215.out 1
             have hfz32_2 := blk_frozen BK215.out 2
             have hfz32_3 := blk_frozen BK215.out 3
             have hfz32_4 := blk_frozen BK215.out 4
             have hfz32_5 := blk_frozen BK215.out 5
             have hfz32_6 := blk_frozen BK215.out 6
             have hfz32_7 := blk_frozen BK215.out 7
             have hfz32_8 := blk_frozen BK215.out 8
             have p219 : 0 ≤ ((ji27) : Int) := of_decide_eq_true (by assumption)
             have q219 : (ji27) < (l0_5.length : Int) := of_decide_eq_true (by assumption)
             obtain ⟨ad219, e219, hx219_0⟩ := Kd.at_int HR0_5.out (ji27) p219 q219
             cases e219
             replace hx219_0 := (HB.out.cell (World.block_lt_of_cell? w _ hx219_0)).trans hx219_0
             replace p219 := eq_true p219
             replace q219 := eq_true q219
             go_wp2
             repeat (go_quiet (fail); try go_wp2)
             go_loopg [11, 12] kj11 (fun kq v11 v12 w' => ∃ (x11_2 : List Int) (x12_2 : Int), v12 = .int .u32 x12_2 ∧ Aside0 (hash_second_look.l0 kq l1 a2 t216 x11_2 x12_2 l0_0 a0_1 a0_2 l0_3 l0_4 l0_5 a0_6 a0_7 a0_8 = some (r1, r2)) ∧ Aside0 (kq ≤ kj11) ∧ Aside0 (Kd.R (Kd.int .i64) 3 w' w.heap.size (fun _ => True) v11 x11_2) ∧ Aside0 (w'.heap[gb215]? = some (.cells #[(.slice A0_0 l0_0.length c0_0), .int .i64 a0_1, .int .u64 a0_2, (.slice A0_3 l0_3.length c0_3), (.slice (some ad217) l0_4.length c0_4), (.slice (some ad219) l0_5.length c0_5), .int .u32 a0_6, .int .u32 a0_7, .int .u64 a0_8] 92 (0, 0))) ∧ Aside0 (Below w.heap.size w w'))
             case atStart => exact ⟨(([] : List Int)), (rd l0_5 (ji27)), (by first | rfl | (simp; done) | (simp only [← hji27] <;> (first | rfl | simp)) | (simp [*]; done)), H', ⟨Nat.le_refl _⟩, ⟨by first | exact Kd.R_nil _ _ _ _ _ | exact Kd.N_nil _ _ _ _ _ | exact Kd.V_nil _ _ _ _ _ | exact Kd.Q_nil _ _ _ _ _ | exact Kd.S_nil _ _ _ _ _⟩, ⟨by (with_reducible repeat (first | refine blk_drewN ?_ _ | refine blk_drew ?_ | refine blk_alloc ?_ _)); exact BK215.out⟩, ⟨by repeat (first | (with_reducible first | exact HB.out | apply below_alloc | apply pw_below_drewN | apply below_drew1 | refine below_set ?_ GE215.out) | exact HB.out)⟩⟩
             case round =>
              clear H'
              try clear c1
              try clear c2
              try clear p2
              try clear q2
              try clear hx2
              try clear c3
              try clear c5
              try clear c5b0
              try clear c5b1
              try clear p6
              try clear c7
              try clear c7b0
              try clear c8
              try clear c8b0
              try clear c10
              try clear c10b0
              try clear c11
              try clear c11b0
              try clear c16
              try clear c16b0
              try clear c16b1
              try clear c18
              try clear c18b0
              try clear c18b1
              try clear c19
              try clear c19b0
              try clear c19b1
              try clear p21
              try clear q21
              try clear hx21
              try clear c22
              try clear c22b0
              try clear c22b1
              try clear c25
              try clear c26
              try clear c26b0
              try clear c26b1
              try clear c28
              try clear c28b0
              try clear c29
              try clear c29b0
              try clear c30
              try clear c30b0
              try clear c30b1
              try clear hcz14_0
              try clear hcz14_1
              try clear hcz14_2
              try clear hcz14_3
              try clear hcz14_4
              try clear hcz14_5
              try clear hcz14_6
              try clear hcz14_7
              try clear hcz14_8
              try clear hcz24_0
              try clear hcz24_1
              try clear hcz24_2
              try clear hcz24_3
              try clear hcz24_4
              try clear hcz24_5
              try clear hcz24_6
              try clear hcz24_7
              try clear hcz24_8
              try clear hcz31_0
              try clear hcz31_1
              try clear hcz31_2
              try clear hcz31_3
              try clear hcz31_4
              try clear hcz31_5
              try clear hcz31_6
              try clear hcz31_7
              try clear hcz31_8
              try clear hcz32_0
              try clear hcz32_1
              try clear hcz32_2
              try clear hcz32_3
              try clear hcz32_4
              try clear hcz32_5
              try clear hcz32_6
              try clear hcz32_7
              try clear hcz32_8
              try clear hfz14_0
              try clear hfz14_1
              try clear hfz14_2
              try clear hfz14_3
              try clear hfz14_4
              try clear hfz14_5
              try clear hfz14_6
              try clear hfz14_7
              try clear hfz14_8
              try clear hfz24_0
              try clear hfz24_1
              try clear hfz24_2
              try clear hfz24_3
              try clear hfz24_4
              try clear hfz24_5
              try clear hfz24_6
              try clear hfz24_7
              try clear hfz24_8
              try clear hfz31_0
              try clear hfz31_1
              try clear hfz31_2
              try clear hfz31_3
              try clear hfz31_4
              try clear hfz31_5
              try clear hfz31_6
              try clear hfz31_7
              try clear hfz31_8
              try clear hfz32_0
              try clear hfz32_1
              try clear hfz32_2
              try clear hfz32_3
              try clear hfz32_4
              try clear hfz32_5
              try clear hfz32_6
              try clear hfz32_7
              try clear hfz32_8
              try clear hx217_0
              try clear hx218_0
              try clear hx219_0
              try clear p2
              try clear p21
              try clear p217
              try clear p218
              try clear p219
              try clear p6
              try clear q2
              try clear q21
              try clear q217
              try clear q218
              try clear q219
              obtain ⟨x11_2, x12_2, rfl, HA, HK2, HO_11, BK215, HB⟩ := hrel
              cases gk with
              | zero => exact absurd HA.out (by simp [hash_second_look.l0])
              | succ k2 =>
               have H := HA.out
               clear HA
               simp only [hash_second_look.l0] at H
               by_cases c33 : (wrap64 (x12_2)) ≥ (l1.length : Int)
               ·rw [if_pos c33] at H
                have c33b0 : decide ((l1.length : Int) ≤ (wrap64 (x12_2))) = true := decide_eq_true c33
                clear c33
                simp only [Option.some.injEq, Prod.mk.injEq] at H
                obtain ⟨rfl, rfl⟩ := H
                go_wp2
                repeat (go_quiet (fail); try go_wp2)
                go_ret2
                exact ⟨_, by first | rfl | (simp [errW_none, errW_some] <;> rfl) | (simp only [← hji6, ← hji9, ← hji27]; first | rfl | (simp [errW_none, errW_some] <;> rfl)) | (simp [*, errW_none, errW_some] <;> rfl), by first | exact Kd.R_nil _ _ _ _ _ | exact Kd.N_nil _ _ _ _ _ | exact Kd.V_nil _ _ _ _ _ | exact Kd.Q_nil _ _ _ _ _ | exact Kd.S_nil _ _ _ _ _, by repeat (first | (with_reducible first | exact HB.out | apply below_alloc | apply pw_below_drewN | apply below_drew1 | refine below_set ?_ GE215.out) | exact HB.out)⟩
               ·rw [if_neg c33] at H
                have c33b0 : decide ((l1.length : Int) ≤ (wrap64 (x12_2))) = false := decide_eq_false c33
                clear c33
                replace H := Option.bind_eq_some_iff.mp H
                obtain ⟨⟨t220, t221⟩, A340, H⟩ := H
                replace H : (if t221.isNone = true then (if (Go.bits .or .u32 t220 1) = (Go.bits .or .u32 t216 1) then (if 0 ≤ x12_2 then (if x12_2 < (l1.length : Int) then (hash_second_look.j2 k2 l1 a2 t216 x11_2 x12_2 t220 (((rd_T39 l1 x12_2).f0).toList == a2.toList) l0_0 a0_1 a0_2 l0_3 l0_4 l0_5 a0_6 a0_7 a0_8) else (none)) else (none)) else (hash_second_look.j2 k2 l1 a2 t216 x11_2 x12_2 t220 false l0_0 a0_1 a0_2 l0_3 l0_4 l0_5 a0_6 a0_7 a0_8)) else (some (([] : List Int), some (t221.getD 0)))) = some (r1, r2) := H
                have A34 := Aside0.mk A340
                clear A340
                rcases t221 with _ | q222
                ·have H1 : (if (Go.bits .or .u32 t220 1) = (Go.bits .or .u32 t216 1) then (if 0 ≤ x12_2 then (if x12_2 < (l1.length : Int) then (hash_second_look.j2 k2 l1 a2 t216 x11_2 x12_2 t220 (((rd_T39 l1 x12_2).f0).toList == a2.toList) l0_0 a0_1 a0_2 l0_3 l0_4 l0_5 a0_6 a0_7 a0_8) else (none)) else (none)) else (hash_second_look.j2 k2 l1 a2 t216 x11_2 x12_2 t220 false l0_0 a0_1 a0_2 l0_3 l0_4 l0_5 a0_6 a0_7 a0_8)) = some (r1, r2) := by rw [if_pos (show (none : Option Int).isNone = true by rfl)] at H; exact H
                 clear H
                 have H := H1
                 clear H1
                 try simp only [errW_none, errW_some]
                 have HC35 := Aside0.mk H
                 clear H
                 have hcz36_0 : wr.cell? ⟨gb215, 0, none⟩ = some (.slice A0_0 l0_0.length c0_0) := (blk_cell BK215.out 0).trans rfl
                 have hcz36_1 : wr.cell? ⟨gb215, 1, none⟩ = some (.int .i64 a0_1) := (blk_cell BK215.out 1).trans rfl
                 have hcz36_2 : wr.cell? ⟨gb215, 2, none⟩ = some (.int .u64 a0_2) := (blk_cell BK215.out 2).trans rfl
                 have hcz36_3 : wr.cell? ⟨gb215, 3, none⟩ = some (.slice A0_3 l0_3.length c0_3) := (blk_cell BK215.out 3).trans rfl
                 have hcz36_4 : wr.cell? ⟨gb215, 4, none⟩ = some (.slice (some ad217) l0_4.length c0_4) := (blk_cell BK215.out 4).trans rfl
                 have hcz36_5 : wr.cell? ⟨gb215, 5, none⟩ = some (.slice (some ad219) l0_5.length c0_5) := (blk_cell BK215.out 5).trans rfl
                 have hcz36_6 : wr.cell? ⟨gb215, 6, none⟩ = some (.int .u32 a0_6) := (blk_cell BK215.out 6).trans rfl
                 have hcz36_7 : wr.cell? ⟨gb215, 7, none⟩ = some (.int .u32 a0_7) := (blk_cell BK215.out 7).trans rfl
                 have hcz36_8 : wr.cell? ⟨gb215, 8, none⟩ = some (.int .u64 a0_8) := (blk_cell BK215.out 8).trans rfl
                 have hfz36_0 := blk_frozen BK215.out 0
                 have hfz36_1 := blk_frozen BK215.out 1
                 have hfz36_2 := blk_frozen BK215.out 2
                 have hfz36_3 := blk_frozen BK215.out 3
                 have hfz36_4 := blk_frozen BK215.out 4
                 have hfz36_5 := blk_frozen BK215.out 5
                 have hfz36_6 := blk_frozen BK215.out 6
                 have hfz36_7 := blk_frozen BK215.out 7
                 have hfz36_8 := blk_frozen BK215.out 8
                 go_upto_region 16 with (first | ((with_reducible refine gate_ (.load 92 (.tmp 3)) rfl ?_); refine wpList_load_row rfl 92 (.tmp 3) rfl gb215 rfl 92 _ (0, 0) _ (by (with_reducible repeat (first | refine blk_drewN ?_ _ | refine blk_drew ?_ | refine blk_alloc ?_ _)); exact BK215.out) Try.underlying92 rfl (by kernel_rfl) ?_) | (go_at_call 54; (with_reducible refine (hash_second_chain.calls k2 _ _ l0_0 a0_1 a0_2 _ _ l0_3 _ _ l0_4 _ _ l0_5 a0_6 a0_7 a0_8 x12_2 t220 none _ ?side1 ?side2 ?side3 ?side4 ?side5 ?side6 ?side7 ?side8 A34.out).mono ?_); (case side1 => repeat (first | exact (Kd.C_below HR0_0.out HB.out) | (with_reducible refine Kd.C_alloc ?_ _) | (with_reducible refine Kd.C_drewN ?_ _) | (with_reducible refine Kd.C_drew ?_))); (case side2 => exact HC0_0.out); (case side3 => repeat (first | exact (Kd.C_below HR0_3.out HB.out) | (with_reducible refine Kd.C_alloc ?_ _) | (with_reducible refine Kd.C_drewN ?_ _) | (with_reducible refine Kd.C_drew ?_))); (case side4 => exact HC0_3.out); (case side5 => repeat (first | exact (Kd.C_below HR0_4.out HB.out) | (with_reducible refine Kd.C_alloc ?_ _) | (with_reducible refine Kd.C_drewN ?_ _) | (with_reducible refine Kd.C_drew ?_))); (case side6 => exact HC0_4.out); (case side7 => repeat (first | exact (Kd.C_below HR0_5.out HB.out) | (with_reducible refine Kd.C_alloc ?_ _) | (with_reducible refine Kd.C_drewN ?_ _) | (with_reducible refine Kd.C_drew ?_))); (case side8 => exact HC0_5.out); rintro e w37 ⟨rfl, hb⟩; have n0_ := Aside0.mk (Kd.R_below (by (with_reducible repeat (first | apply Kd.R_alloc | apply Kd.R_drewN | apply Kd.R_drew)); exact HO_11.out) hb); have n1_ := Aside0.mk (blk_below (g := gb215) (o := .cells #[.slice A0_0 l0_0.length c0_0, .int .i64 a0_1, .int .u64 a0_2, .slice A0_3 l0_3.length c0_3, .slice (some ad217) l0_4.length c0_4, .slice (some ad219) l0_5.length c0_5, .int .u32 a0_6, .int .u32 a0_7, .int .u64 a0_8] 92 (0, 0)) (by (with_reducible repeat (first | refine blk_drewN ?_ _ | refine blk_drew ?_ | refine blk_alloc ?_ _)); exact BK215.out) hb); have n2_ := Aside0.mk (below_step (by repeat (first | (with_reducible first | exact HB.out | apply below_alloc | apply pw_below_drewN | apply below_drew1 | refine below_set ?_ GE215.out) | exact HB.out)) hb); clear HO_11; clear BK215; clear HB; have HO_11 := n0_; have BK215 := n1_; have HB := n2_; clear n0_ n1_ n2_; (try clear hb); (try clear hb2); (try clear hk); (try clear hi); (try simp only [errW_none, errW_some])))
                 repeat (go_quiet (first | (go_at_call 54; (with_reducible refine (hash_second_chain.calls k2 _ _ l0_0 a0_1 a0_2 _ _ l0_3 _ _ l0_4 _ _ l0_5 a0_6 a0_7 a0_8 x12_2 t220 none _ ?side1 ?side2 ?side3 ?side4 ?side5 ?side6 ?side7 ?side8 A34.out).mono ?_); (case side1 => repeat (first | exact (Kd.C_below HR0_0.out HB.out) | (with_reducible refine Kd.C_alloc ?_ _) | (with_reducible refine Kd.C_drewN ?_ _) | (with_reducible refine Kd.C_drew ?_))); (case side2 => exact HC0_0.out); (case side3 => repeat (first | exact (Kd.C_below HR0_3.out HB.out) | (with_reducible refine Kd.C_alloc ?_ _) | (with_reducible refine Kd.C_drewN ?_ _) | (with_reducible refine Kd.C_drew ?_))); (case side4 => exact HC0_3.out); (case side5 => repeat (first | exact (Kd.C_below HR0_4.out HB.out) | (with_reducible refine Kd.C_alloc ?_ _) | (with_reducible refine Kd.C_drewN ?_ _) | (with_reducible refine Kd.C_drew ?_))); (case side6 => exact HC0_4.out); (case side7 => repeat (first | exact (Kd.C_below HR0_5.out HB.out) | (with_reducible refine Kd.C_alloc ?_ _) | (with_reducible refine Kd.C_drewN ?_ _) | (with_reducible refine Kd.C_drew ?_))); (case side8 => exact HC0_5.out); rintro e w37 ⟨rfl, hb⟩; have n0_ := Aside0.mk (Kd.R_below (by (with_reducible repeat (first | apply Kd.R_alloc | apply Kd.R_drewN | apply Kd.R_drew)); exact HO_11.out) hb); have n1_ := Aside0.mk (blk_below (g := gb215) (o := .cells #[.slice A0_0 l0_0.length c0_0, .int .i64 a0_1, .int .u64 a0_2, .slice A0_3 l0_3.length c0_3, .slice (some ad217) l0_4.length c0_4, .slice (some ad219) l0_5.length c0_5, .int .u32 a0_6, .int .u32 a0_7, .int .u64 a0_8] 92 (0, 0)) (by (with_reducible repeat (first | refine blk_drewN ?_ _ | refine blk_drew ?_ | refine blk_alloc ?_ _)); exact BK215.out) hb); have n2_ := Aside0.mk (below_step (by repeat (first | (with_reducible first | exact HB.out | apply below_alloc | apply pw_below_drewN | apply below_drew1 | refine below_set ?_ GE215.out) | exact HB.out)) hb); clear HO_11; clear BK215; clear HB; have HO_11 := n0_; have BK215 := n1_; have HB := n2_; clear n0_ n1_ n2_; (try clear hb); (try clear hb2); (try clear hk); (try clear hi); (try simp only [errW_none, errW_some]))); go_upto_region 16 with (first | ((with_reducible refine gate_ (.load 92 (.tmp 3)) rfl ?_); refine wpList_load_row rfl 92 (.tmp 3) rfl gb215 rfl 92 _ (0, 0) _ (by (with_reducible repeat (first | refine blk_drewN ?_ _ | refine blk_drew ?_ | refine blk_alloc ?_ _)); exact BK215.out) Try.underlying92 rfl (by kernel_rfl) ?_) | (go_at_call 54; (with_reducible refine (hash_second_chain.calls k2 _ _ l0_0 a0_1 a0_2 _ _ l0_3 _ _ l0_4 _ _ l0_5 a0_6 a0_7 a0_8 x12_2 t220 none _ ?side1 ?side2 ?side3 ?side4 ?side5 ?side6 ?side7 ?side8 A34.out).mono ?_); (case side1 => repeat (first | exact (Kd.C_below HR0_0.out HB.out) | (with_reducible refine Kd.C_alloc ?_ _) | (with_reducible refine Kd.C_drewN ?_ _) | (with_reducible refine Kd.C_drew ?_))); (case side2 => exact HC0_0.out); (case side3 => repeat (first | exact (Kd.C_below HR0_3.out HB.out) | (with_reducible refine Kd.C_alloc ?_ _) | (with_reducible refine Kd.C_drewN ?_ _) | (with_reducible refine Kd.C_drew ?_))); (case side4 => exact HC0_3.out); (case side5 => repeat (first | exact (Kd.C_below HR0_4.out HB.out) | (with_reducible refine Kd.C_alloc ?_ _) | (with_reducible refine Kd.C_drewN ?_ _) | (with_reducible refine Kd.C_drew ?_))); (case side6 => exact HC0_4.out); (case side7 => repeat (first | exact (Kd.C_below HR0_5.out HB.out) | (with_reducible refine Kd.C_alloc ?_ _) | (with_reducible refine Kd.C_drewN ?_ _) | (with_reducible refine Kd.C_drew ?_))); (case side8 => exact HC0_5.out); rintro e w37 ⟨rfl, hb⟩; have n0_ := Aside0.mk (Kd.R_below (by (with_reducible repeat (first | apply Kd.R_alloc | apply Kd.R_drewN | apply Kd.R_drew)); exact HO_11.out) hb); have n1_ := Aside0.mk (blk_below (g := gb215) (o := .cells #[.slice A0_0 l0_0.length c0_0, .int .i64 a0_1, .int .u64 a0_2, .slice A0_3 l0_3.length c0_3, .slice (some ad217) l0_4.length c0_4, .slice (some ad219) l0_5.length c0_5, .int .u32 a0_6, .int .u32 a0_7, .int .u64 a0_8] 92 (0, 0)) (by (with_reducible repeat (first | refine blk_drewN ?_ _ | refine blk_drew ?_ | refine blk_alloc ?_ _)); exact BK215.out) hb); have n2_ := Aside0.mk (below_step (by repeat (first | (with_reducible first | exact HB.out | apply below_alloc | apply pw_below_drewN | apply below_drew1 | refine below_set ?_ GE215.out) | exact HB.out)) hb); clear HO_11; clear BK215; clear HB; have HO_11 := n0_; have BK215 := n1_; have HB := n2_; clear n0_ n1_ n2_; (try clear hb); (try clear hb2); (try clear hk); (try clear hi); (try simp only [errW_none, errW_some]))))
                 (try simp only [Act.put, List.setIfInBounds_toArray, List.set_cons_zero, List.set_cons_succ])
                 go_cut [100] (fun v100 wc => ∃ (kq : Nat) (x100_34 : Bool), v100 = .bool x100_34 ∧ Aside0 (hash_second_look.j2 kq l1 a2 t216 x11_2 x12_2 t220 x100_34 l0_0 a0_1 a0_2 l0_3 l0_4 l0_5 a0_6 a0_7 a0_8 = some (r1, r2)) ∧ Aside0 (kq ≤ k2) ∧ Aside0 (Kd.R (Kd.int .i64) 3 wc w.heap.size (fun _ => True) u11 x11_2) ∧ Aside0 (wc.heap[gb215]? = some (.cells #[(.slice A0_0 l0_0.length c0_0), .int .i64 a0_1, .int .u64 a0_2, (.slice A0_3 l0_3.length c0_3), (.slice (some ad217) l0_4.length c0_4), (.slice (some ad219) l0_5.length c0_5), .int .u32 a0_6, .int .u32 a0_7, .int .u64 a0_8] 92 (0, 0))) ∧ Aside0 (Below w.heap.size w wc))
                 case first =>
                  have H := HC35.out
                  clear HC35
                  by_cases c38 : (Go.bits .or .u32 t220 1) = (Go.bits .or .u32 t216 1)
                  ·rw [if_pos c38] at H
                   have c38b0 : ((Go.bits .or .u32 t220 1) == (Go.bits .or .u32 t216 1)) = true := beq_iff_eq.mpr c38
                   have c38b1 : ((Go.bits .or .u32 t220 1) != (Go.bits .or .u32 t216 1)) = false := bne_eq_false_iff_eq.mpr c38
                   clear c38
                   (first | rw [c38b0] | (simp only [i64_w, i32_w]; rw [c38b0]) | skip)
                   by_cases c39 : 0 ≤ x12_2
                   ·rw [if_pos c39] at H
                    have c39b0 : decide (0 ≤ x12_2) = true := decide_eq_true c39
                    clear c39
                    by_cases c40 : x12_2 < (l1.length : Int)
                    ·rw [if_pos c40] at H
                     have c40b0 : decide (x12_2 < (l1.length : Int)) = true := decide_eq_true c40
                     clear c40
                     have H' := Aside0.mk H
                     clear H
                     have p223 : 0 ≤ (x12_2 : Int) := of_decide_eq_true (by assumption)
                     have q223 : x12_2 < (l1.length : Int) := of_decide_eq_true (by assumption)
                     obtain ⟨ad223, e223, hx223_0, hx223_1, hx223_2, hx223_3, hx223_4, hx223_5, hx223_6⟩ := at_T39 HR1.out x12_2 p223 q223
                     cases e223
                     replace hx223_0 := (HB.out.cell (World.block_lt_of_cell? w _ hx223_0)).trans hx223_0
                     replace hx223_1 := (HB.out.cell (World.block_lt_of_cell? w _ hx223_1)).trans hx223_1
                     replace hx223_2 := (HB.out.cell (World.block_lt_of_cell? w _ hx223_2)).trans hx223_2
                     replace hx223_3 := (HB.out.cell (World.block_lt_of_cell? w _ hx223_3)).trans hx223_3
                     replace hx223_4 := (HB.out.cell (World.block_lt_of_cell? w _ hx223_4)).trans hx223_4
                     replace hx223_5 := (HB.out.cell (World.block_lt_of_cell? w _ hx223_5)).trans hx223_5
                     replace hx223_6 := (HB.out.cell (World.block_lt_of_cell? w _ hx223_6)).trans hx223_6
                     replace p223 := eq_true p223
                     replace q223 := eq_true q223
                     go_wp2
                     repeat (go_quiet (fail); try go_wp2)
                     go_meet
                     case rel => exact ⟨_, ((((rd_T39 l1 x12_2).f0).toList == a2.toList)), (by first | rfl | (simp; done) | (simp [*]; done)), H', ⟨by have := HJ11.out; have := HK2.out; first | omega | exact Nat.le_refl _⟩, ⟨by (with_reducible repeat (first | apply Kd.R_alloc | apply Kd.R_drewN | apply Kd.R_drew)); exact HO_11.out⟩, ⟨by (with_reducible repeat (first | refine blk_drewN ?_ _ | refine blk_drew ?_ | refine blk_alloc ?_ _)); exact BK215.out⟩, ⟨by repeat (first | (with_reducible first | exact HB.out | apply below_alloc | apply pw_below_drewN | apply below_drew1 | refine below_set ?_ GE215.out) | exact HB.out)⟩⟩
                    ·rw [if_neg c40] at H
                     exact absurd H (by simp)
                   ·rw [if_neg c39] at H
                    exact absurd H (by simp)
                  ·rw [if_neg c38] at H
                   have c38b0 : ((Go.bits .or .u32 t220 1) == (Go.bits .or .u32 t216 1)) = false := beq_eq_false_iff_ne.mpr c38
                   have c38b1 : ((Go.bits .or .u32 t220 1) != (Go.bits .or .u32 t216 1)) = true := bne_iff_ne.mpr c38
                   (first | rw [c38b0] | (simp only [i64_w, i32_w]; rw [c38b0]) | skip)
                   have H' := Aside0.mk H
                   clear H
                   go_wp2
                   repeat (go_quiet (fail); try go_wp2)
                   go_meet
                   case rel => exact ⟨_, (false), (by first | rfl | (simp; done) | (simp [*]; done)), H', ⟨by have := HJ11.out; have := HK2.out; first | omega | exact Nat.le_refl _⟩, ⟨by (with_reducible repeat (first | apply Kd.R_alloc | apply Kd.R_drewN | apply Kd.R_drew)); exact HO_11.out⟩, ⟨by (with_reducible repeat (first | refine blk_drewN ?_ _ | refine blk_drew ?_ | refine blk_alloc ?_ _)); exact BK215.out⟩, ⟨by repeat (first | (with_reducible first | exact HB.out | apply below_alloc | apply pw_below_drewN | apply below_drew1 | refine below_set ?_ GE215.out) | exact HB.out)⟩⟩
                 case rest =>
                  clear HC35
                  try clear c1
                  try clear c2
                  try clear p2
                  try clear q2
                  try clear hx2
                  try clear c3
                  try clear c4
                  try clear c5
                  try clear c5b0
                  try clear c5b1
                  try clear p6
                  try clear c7
                  try clear c7b0
                  try clear c8
                  try clear c8b0
                  try clear c10
                  try clear c10b0
                  try clear c11
                  try clear c11b0
                  try clear c16
                  try clear c16b0
                  try clear c16b1
                  try clear c18
                  try clear c18b0
                  try clear c18b1
                  try clear c19
                  try clear c19b0
                  try clear c19b1
                  try clear p21
                  try clear q21
                  try clear hx21
                  try clear c22
                  try clear c22b0
                  try clear c22b1
                  try clear p22
                  try clear q22
                  try clear hx22
                  try clear c25
                  try clear c26
                  try clear c26b0
                  try clear c26b1
                  try clear c28
                  try clear c28b0
                  try clear c29
                  try clear c29b0
                  try clear c30
                  try clear c30b0
                  try clear c30b1
                  try clear c33
                  try clear c33b0
                  try clear c38
                  try clear c38b0
                  try clear c38b1
                  try clear c39
                  try clear c39b0
                  try clear c40
                  try clear c40b0
                  try clear hcz14_0
                  try clear hcz14_1
                  try clear hcz14_2
                  try clear hcz14_3
                  try clear hcz14_4
                  try clear hcz14_5
                  try clear hcz14_6
                  try clear hcz14_7
                  try clear hcz14_8
                  try clear hcz24_0
                  try clear hcz24_1
                  try clear hcz24_2
                  try clear hcz24_3
                  try clear hcz24_4
                  try clear hcz24_5
                  try clear hcz24_6
                  try clear hcz24_7
                  try clear hcz24_8
                  try clear hcz31_0
                  try clear hcz31_1
                  try clear hcz31_2
                  try clear hcz31_3
                  try clear hcz31_4
                  try clear hcz31_5
                  try clear hcz31_6
                  try clear hcz31_7
                  try clear hcz31_8
                  try clear hcz32_0
                  try clear hcz32_1
                  try clear hcz32_2
                  try clear hcz32_3
                  try clear hcz32_4
                  try clear hcz32_5
                  try clear hcz32_6
                  try clear hcz32_7
                  try clear hcz32_8
                  try clear hcz36_0
                  try clear hcz36_1
                  try clear hcz36_2
                  try clear hcz36_3
                  try clear hcz36_4
                  try clear hcz36_5
                  try clear hcz36_6
                  try clear hcz36_7
                  try clear hcz36_8
                  try clear hfz14_0
                  try clear hfz14_1
                  try clear hfz14_2
                  try clear hfz14_3
                  try clear hfz14_4
                  try clear hfz14_5
                  try clear hfz14_6
                  try clear hfz14_7
                  try clear hfz14_8
                  try clear hfz24_0
                  try clear hfz24_1
                  try clear hfz24_2
                  try clear hfz24_3
                  try clear hfz24_4
                  try clear hfz24_5
                  try clear hfz24_6
                  try clear hfz24_7
                  try clear hfz24_8
                  try clear hfz31_0
                  try clear hfz31_1
                  try clear hfz31_2
                  try clear hfz31_3
                  try clear hfz31_4
                  try clear hfz31_5
                  try clear hfz31_6
                  try clear hfz31_7
                  try clear hfz31_8
                  try clear hfz32_0
                  try clear hfz32_1
                  try clear hfz32_2
                  try clear hfz32_3
                  try clear hfz32_4
                  try clear hfz32_5
                  try clear hfz32_6
                  try clear hfz32_7
                  try clear hfz32_8
                  try clear hfz36_0
                  try clear hfz36_1
                  try clear hfz36_2
                  try clear hfz36_3
                  try clear hfz36_4
                  try clear hfz36_5
                  try clear hfz36_6
                  try clear hfz36_7
                  try clear hfz36_8
                  try clear hx217_0
                  try clear hx218_0
                  try clear hx219_0
                  try clear hx223_0
                  try clear hx223_1
                  try clear hx223_2
                  try clear hx223_3
                  try clear hx223_4
                  try clear hx223_5
                  try clear hx223_6
                  try clear p2
                  try clear p21
                  try clear p217
                  try clear p218
                  try clear p219
                  try clear p223
                  try clear p6
                  try clear q2
                  try clear q21
                  try clear q217
                  try clear q218
                  try clear q219
                  try clear q222
                  try clear q223
                  obtain ⟨kq, x100_34, rfl, HA, HJ34, HO_11, BK215, HB⟩ := hcut
                  cases kq with
                  | zero => exact absurd HA.out (by simp [hash_second_look.j2])
                  | succ kj34 =>
                   have H := HA.out
                   clear HA
                   simp only [hash_second_look.j2] at H
                   by_cases c41 : x100_34 = true
                   ·subst c41
                    have H1 : (if x11_2.length < 17592186044416 then ((some (x11_2 ++ [wrap64 (x12_2)] : List Int)).bind fun y224 => (if (Go.bits .and .u32 t220 1) = 1 then (some (y224, none)) else (hash_second_look.l0 kj34 l1 a2 t216 y224 ((x12_2 + 1) % 4294967296) l0_0 a0_1 a0_2 l0_3 l0_4 l0_5 a0_6 a0_7 a0_8))) else (none)) = some (r1, r2) := by rw [if_pos rfl] at H; exact H
                    clear H
                    have H := H1
                    clear H1
                    by_cases c42 : x11_2.length < 17592186044416
                    ·rw [if_pos c42] at H
                     have LMc42 := Aside0.mk c42
                     clear c42
                     obtain ⟨y224, hy224⟩ : ∃ y_ : List Int, y_ = (x11_2 ++ [wrap64 (x12_2)]) := ⟨_, rfl⟩
                     replace H : (if (Go.bits .and .u32 t220 1) = 1 then (some (y224, none)) else (hash_second_look.l0 kj34 l1 a2 t216 y224 ((x12_2 + 1) % 4294967296) l0_0 a0_1 a0_2 l0_3 l0_4 l0_5 a0_6 a0_7 a0_8)) = some (r1, r2) := by first | (rw [hy224]; with_reducible exact H) | (have H2_ := (Option.bind_some _ _).symm.trans H; rw [hy224]; with_reducible exact H2_) | (have H2_ := (Option.bind_some _ _).symm.trans H; with_reducible exact H2_) | with_reducible exact H | (rw [hy224]; exact H) | exact H
                     have Ny224 := Aside0.mk hy224
                     clear hy224
                     by_cases c43 : (Go.bits .and .u32 t220 1) = 1
                     ·rw [if_pos c43] at H
                      have c43b0 : ((Go.bits .and .u32 t220 1) == 1) = true := beq_iff_eq.mpr c43
                      have c43b1 : ((Go.bits .and .u32 t220 1) != 1) = false := bne_eq_false_iff_eq.mpr c43
                      clear c43
                      simp only [Option.some.injEq, Prod.mk.injEq] at H
                      obtain ⟨rfl, rfl⟩ := H
                      go_wp2_with (first | ((with_reducible refine gate_ (.load 92 (.tmp 3)) rfl ?_); refine wpList_load_row rfl 92 (.tmp 3) rfl gb215 rfl 92 _ (0, 0) _ (by (with_reducible repeat (first | refine blk_drewN ?_ _ | refine blk_drew ?_ | refine blk_alloc ?_ _)); exact BK215.out) Try.underlying92 rfl (by kernel_rfl) ?_) | ((with_reducible refine gate_builtin (b := .append) (xs := #[.tmp 101, .tmp 104]) rfl ?_); at_builtin; refine Kd.R_append (Kd.int .i64) (w0 := w) w.heap.size rfl (.tmp 101) (.tmp 104) 37 3 (.int .i64 0) 8 rfl Try.underlying37 info3 rfl (by decide) (by omega) u11 x11_2 (wrap64 (x12_2)) [.int .i64 (wrap64 (x12_2))] (fun _ => True) (fun _ => False) rfl rfl ?aP (fun _ hk => hk.elim) ?aF ?aO ?aB ?aS ?aL ?_; (case aP => exact rfl); (case aB => exact (by repeat (first | (with_reducible first | exact HB.out | apply below_alloc | apply pw_below_drewN | apply below_drew1 | refine below_set ?_ GE215.out) | exact HB.out))); (case aF => exact (fun _ _ => trivial)); (case aO => exact (by (with_reducible repeat (first | apply Kd.R_alloc | apply Kd.R_drewN | apply Kd.R_drew)); exact HO_11.out)); (case aS => exact (below_size (by repeat (first | (with_reducible first | exact HB.out | apply below_alloc | apply pw_below_drewN | apply below_drew1 | refine below_set ?_ GE215.out) | exact HB.out)))); (case aL => have := LMc42.out; omega); intro v225 w44 ho hb hg hat; rw [← Ny224.out] at ho; have n0_ := Aside0.mk (blk_grown (g := gb215) (o := .cells #[.slice A0_0 l0_0.length c0_0, .int .i64 a0_1, .int .u64 a0_2, .slice A0_3 l0_3.length c0_3, .slice (some ad217) l0_4.length c0_4, .slice (some ad219) l0_5.length c0_5, .int .u32 a0_6, .int .u32 a0_7, .int .u64 a0_8] 92 (0, 0)) (by (with_reducible repeat (first | refine blk_drewN ?_ _ | refine blk_drew ?_ | refine blk_alloc ?_ _)); exact BK215.out) hg (Kd.R_ne HO_11.out BK215.out (by decide))); have n1_ := Aside0.mk (hb); have n2_ := Aside0.mk (ho); clear BK215; clear HB; clear HO_11; have BK215 := n0_; have HB := n1_; have HO226 := n2_; clear n0_ n1_ n2_; clear ho hb hg hat))
                      repeat (go_quiet (first | ((with_reducible refine gate_builtin (b := .append) (xs := #[.tmp 101, .tmp 104]) rfl ?_); at_builtin; refine Kd.R_append (Kd.int .i64) (w0 := w) w.heap.size rfl (.tmp 101) (.tmp 104) 37 3 (.int .i64 0) 8 rfl Try.underlying37 info3 rfl (by decide) (by omega) u11 x11_2 (wrap64 (x12_2)) [.int .i64 (wrap64 (x12_2))] (fun _ => True) (fun _ => False) rfl rfl ?aP (fun _ hk => hk.elim) ?aF ?aO ?aB ?aS ?aL ?_; (case aP => exact rfl); (case aB => exact (by repeat (first | (with_reducible first | exact HB.out | apply below_alloc | apply pw_below_drewN | apply below_drew1 | refine below_set ?_ GE215.out) | exact HB.out))); (case aF => exact (fun _ _ => trivial)); (case aO => exact (by (with_reducible repeat (first | apply Kd.R_alloc | apply Kd.R_drewN | apply Kd.R_drew)); exact HO_11.out)); (case aS => exact (below_size (by repeat (first | (with_reducible first | exact HB.out | apply below_alloc | apply pw_below_drewN | apply below_drew1 | refine below_set ?_ GE215.out) | exact HB.out)))); (case aL => have := LMc42.out; omega); intro v225 w44 ho hb hg hat; rw [← Ny224.out] at ho; have n0_ := Aside0.mk (blk_grown (g := gb215) (o := .cells #[.slice A0_0 l0_0.length c0_0, .int .i64 a0_1, .int .u64 a0_2, .slice A0_3 l0_3.length c0_3, .slice (some ad217) l0_4.length c0_4, .slice (some ad219) l0_5.length c0_5, .int .u32 a0_6, .int .u32 a0_7, .int .u64 a0_8] 92 (0, 0)) (by (with_reducible repeat (first | refine blk_drewN ?_ _ | refine blk_drew ?_ | refine blk_alloc ?_ _)); exact BK215.out) hg (Kd.R_ne HO_11.out BK215.out (by decide))); have n1_ := Aside0.mk (hb); have n2_ := Aside0.mk (ho); clear BK215; clear HB; clear HO_11; have BK215 := n0_; have HB := n1_; have HO226 := n2_; clear n0_ n1_ n2_; clear ho hb hg hat)); try go_wp2_with (first | ((with_reducible refine gate_ (.load 92 (.tmp 3)) rfl ?_); refine wpList_load_row rfl 92 (.tmp 3) rfl gb215 rfl 92 _ (0, 0) _ (by (with_reducible repeat (first | refine blk_drewN ?_ _ | refine blk_drew ?_ | refine blk_alloc ?_ _)); exact BK215.out) Try.underlying92 rfl (by kernel_rfl) ?_) | ((with_reducible refine gate_builtin (b := .append) (xs := #[.tmp 101, .tmp 104]) rfl ?_); at_builtin; refine Kd.R_append (Kd.int .i64) (w0 := w) w.heap.size rfl (.tmp 101) (.tmp 104) 37 3 (.int .i64 0) 8 rfl Try.underlying37 info3 rfl (by decide) (by omega) u11 x11_2 (wrap64 (x12_2)) [.int .i64 (wrap64 (x12_2))] (fun _ => True) (fun _ => False) rfl rfl ?aP (fun _ hk => hk.elim) ?aF ?aO ?aB ?aS ?aL ?_; (case aP => exact rfl); (case aB => exact (by repeat (first | (with_reducible first | exact HB.out | apply below_alloc | apply pw_below_drewN | apply below_drew1 | refine below_set ?_ GE215.out) | exact HB.out))); (case aF => exact (fun _ _ => trivial)); (case aO => exact (by (with_reducible repeat (first | apply Kd.R_alloc | apply Kd.R_drewN | apply Kd.R_drew)); exact HO_11.out)); (case aS => exact (below_size (by repeat (first | (with_reducible first | exact HB.out | apply below_alloc | apply pw_below_drewN | apply below_drew1 | refine below_set ?_ GE215.out) | exact HB.out)))); (case aL => have := LMc42.out; omega); intro v225 w44 ho hb hg hat; rw [← Ny224.out] at ho; have n0_ := Aside0.mk (blk_grown (g := gb215) (o := .cells #[.slice A0_0 l0_0.length c0_0, .int .i64 a0_1, .int .u64 a0_2, .slice A0_3 l0_3.length c0_3, .slice (some ad217) l0_4.length c0_4, .slice (some ad219) l0_5.length c0_5, .int .u32 a0_6, .int .u32 a0_7, .int .u64 a0_8] 92 (0, 0)) (by (with_reducible repeat (first | refine blk_drewN ?_ _ | refine blk_drew ?_ | refine blk_alloc ?_ _)); exact BK215.out) hg (Kd.R_ne HO_11.out BK215.out (by decide))); have n1_ := Aside0.mk (hb); have n2_ := Aside0.mk (ho); clear BK215; clear HB; clear HO_11; have BK215 := n0_; have HB := n1_; have HO226 := n2_; clear n0_ n1_ n2_; clear ho hb hg hat)))
                      go_ret2
                      exact ⟨_, by first | rfl | (simp [errW_none, errW_some] <;> rfl) | (simp only [← hji6, ← hji9, ← hji27]; first | rfl | (simp [errW_none, errW_some] <;> rfl)) | (simp [*, errW_none, errW_some] <;> rfl), by (with_reducible repeat (first | apply Kd.R_alloc | apply Kd.R_drewN | apply Kd.R_drew)); exact HO226.out, by repeat (first | (with_reducible first | exact HB.out | apply below_alloc | apply pw_below_drewN | apply below_drew1 | refine below_set ?_ GE215.out) | exact HB.out)⟩
                     ·rw [if_neg c43] at H
                      have c43b0 : ((Go.bits .and .u32 t220 1) == 1) = false := beq_eq_false_iff_ne.mpr c43
                      have c43b1 : ((Go.bits .and .u32 t220 1) != 1) = true := bne_iff_ne.mpr c43
                      have H' := Aside0.mk H
                      clear H
                      go_wp2_with (first | ((with_reducible refine gate_ (.load 92 (.tmp 3)) rfl ?_); refine wpList_load_row rfl 92 (.tmp 3) rfl gb215 rfl 92 _ (0, 0) _ (by (with_reducible repeat (first | refine blk_drewN ?_ _ | refine blk_drew ?_ | refine blk_alloc ?_ _)); exact BK215.out) Try.underlying92 rfl (by kernel_rfl) ?_) | ((with_reducible refine gate_builtin (b := .append) (xs := #[.tmp 101, .tmp 104]) rfl ?_); at_builtin; refine Kd.R_append (Kd.int .i64) (w0 := w) w.heap.size rfl (.tmp 101) (.tmp 104) 37 3 (.int .i64 0) 8 rfl Try.underlying37 info3 rfl (by decide) (by omega) u11 x11_2 (wrap64 (x12_2)) [.int .i64 (wrap64 (x12_2))] (fun _ => True) (fun _ => False) rfl rfl ?aP (fun _ hk => hk.elim) ?aF ?aO ?aB ?aS ?aL ?_; (case aP => exact rfl); (case aB => exact (by repeat (first | (with_reducible first | exact HB.out | apply below_alloc | apply pw_below_drewN | apply below_drew1 | refine below_set ?_ GE215.out) | exact HB.out))); (case aF => exact (fun _ _ => trivial)); (case aO => exact (by (with_reducible repeat (first | apply Kd.R_alloc | apply Kd.R_drewN | apply Kd.R_drew)); exact HO_11.out)); (case aS => exact (below_size (by repeat (first | (with_reducible first | exact HB.out | apply below_alloc | apply pw_below_drewN | apply below_drew1 | refine below_set ?_ GE215.out) | exact HB.out)))); (case aL => have := LMc42.out; omega); intro v225 w45 ho hb hg hat; rw [← Ny224.out] at ho; have n0_ := Aside0.mk (blk_grown (g := gb215) (o := .cells #[.slice A0_0 l0_0.length c0_0, .int .i64 a0_1, .int .u64 a0_2, .slice A0_3 l0_3.length c0_3, .slice (some ad217) l0_4.length c0_4, .slice (some ad219) l0_5.length c0_5, .int .u32 a0_6, .int .u32 a0_7, .int .u64 a0_8] 92 (0, 0)) (by (with_reducible repeat (first | refine blk_drewN ?_ _ | refine blk_drew ?_ | refine blk_alloc ?_ _)); exact BK215.out) hg (Kd.R_ne HO_11.out BK215.out (by decide))); have n1_ := Aside0.mk (hb); have n2_ := Aside0.mk (ho); clear BK215; clear HB; clear HO_11; have BK215 := n0_; have HB := n1_; have HO226 := n2_; clear n0_ n1_ n2_; clear ho hb hg hat))
                      repeat (go_quiet (first | ((with_reducible refine gate_builtin (b := .append) (xs := #[.tmp 101, .tmp 104]) rfl ?_); at_builtin; refine Kd.R_append (Kd.int .i64) (w0 := w) w.heap.size rfl (.tmp 101) (.tmp 104) 37 3 (.int .i64 0) 8 rfl Try.underlying37 info3 rfl (by decide) (by omega) u11 x11_2 (wrap64 (x12_2)) [.int .i64 (wrap64 (x12_2))] (fun _ => True) (fun _ => False) rfl rfl ?aP (fun _ hk => hk.elim) ?aF ?aO ?aB ?aS ?aL ?_; (case aP => exact rfl); (case aB => exact (by repeat (first | (with_reducible first | exact HB.out | apply below_alloc | apply pw_below_drewN | apply below_drew1 | refine below_set ?_ GE215.out) | exact HB.out))); (case aF => exact (fun _ _ => trivial)); (case aO => exact (by (with_reducible repeat (first | apply Kd.R_alloc | apply Kd.R_drewN | apply Kd.R_drew)); exact HO_11.out)); (case aS => exact (below_size (by repeat (first | (with_reducible first | exact HB.out | apply below_alloc | apply pw_below_drewN | apply below_drew1 | refine below_set ?_ GE215.out) | exact HB.out)))); (case aL => have := LMc42.out; omega); intro v225 w45 ho hb hg hat; rw [← Ny224.out] at ho; have n0_ := Aside0.mk (blk_grown (g := gb215) (o := .cells #[.slice A0_0 l0_0.length c0_0, .int .i64 a0_1, .int .u64 a0_2, .slice A0_3 l0_3.length c0_3, .slice (some ad217) l0_4.length c0_4, .slice (some ad219) l0_5.length c0_5, .int .u32 a0_6, .int .u32 a0_7, .int .u64 a0_8] 92 (0, 0)) (by (with_reducible repeat (first | refine blk_drewN ?_ _ | refine blk_drew ?_ | refine blk_alloc ?_ _)); exact BK215.out) hg (Kd.R_ne HO_11.out BK215.out (by decide))); have n1_ := Aside0.mk (hb); have n2_ := Aside0.mk (ho); clear BK215; clear HB; clear HO_11; have BK215 := n0_; have HB := n1_; have HO226 := n2_; clear n0_ n1_ n2_; clear ho hb hg hat)); try go_wp2_with (first | ((with_reducible refine gate_ (.load 92 (.tmp 3)) rfl ?_); refine wpList_load_row rfl 92 (.tmp 3) rfl gb215 rfl 92 _ (0, 0) _ (by (with_reducible repeat (first | refine blk_drewN ?_ _ | refine blk_drew ?_ | refine blk_alloc ?_ _)); exact BK215.out) Try.underlying92 rfl (by kernel_rfl) ?_) | ((with_reducible refine gate_builtin (b := .append) (xs := #[.tmp 101, .tmp 104]) rfl ?_); at_builtin; refine Kd.R_append (Kd.int .i64) (w0 := w) w.heap.size rfl (.tmp 101) (.tmp 104) 37 3 (.int .i64 0) 8 rfl Try.underlying37 info3 rfl (by decide) (by omega) u11 x11_2 (wrap64 (x12_2)) [.int .i64 (wrap64 (x12_2))] (fun _ => True) (fun _ => False) rfl rfl ?aP (fun _ hk => hk.elim) ?aF ?aO ?aB ?aS ?aL ?_; (case aP => exact rfl); (case aB => exact (by repeat (first | (with_reducible first | exact HB.out | apply below_alloc | apply pw_below_drewN | apply below_drew1 | refine below_set ?_ GE215.out) | exact HB.out))); (case aF => exact (fun _ _ => trivial)); (case aO => exact (by (with_reducible repeat (first | apply Kd.R_alloc | apply Kd.R_drewN | apply Kd.R_drew)); exact HO_11.out)); (case aS => exact (below_size (by repeat (first | (with_reducible first | exact HB.out | apply below_alloc | apply pw_below_drewN | apply below_drew1 | refine below_set ?_ GE215.out) | exact HB.out)))); (case aL => have := LMc42.out; omega); intro v225 w45 ho hb hg hat; rw [← Ny224.out] at ho; have n0_ := Aside0.mk (blk_grown (g := gb215) (o := .cells #[.slice A0_0 l0_0.length c0_0, .int .i64 a0_1, .int .u64 a0_2, .slice A0_3 l0_3.length c0_3, .slice (some ad217) l0_4.length c0_4, .slice (some ad219) l0_5.length c0_5, .int .u32 a0_6, .int .u32 a0_7, .int .u64 a0_8] 92 (0, 0)) (by (with_reducible repeat (first | refine blk_drewN ?_ _ | refine blk_drew ?_ | refine blk_alloc ?_ _)); exact BK215.out) hg (Kd.R_ne HO_11.out BK215.out (by decide))); have n1_ := Aside0.mk (hb); have n2_ := Aside0.mk (ho); clear BK215; clear HB; clear HO_11; have BK215 := n0_; have HB := n1_; have HO226 := n2_; clear n0_ n1_ n2_; clear ho hb hg hat)))
                      go_roundg kj34
                      case measure => have := HJ11.out; have := HK2.out; have := HJ34.out; omega
                      case rel => exact ⟨(y224), ((x12_2 + 1) % 4294967296), (by first | rfl | (simp; done) | (simp [*]; done)), H', ⟨by have := HJ11.out; have := HK2.out; have := HJ34.out; omega⟩, ⟨by (with_reducible repeat (first | apply Kd.R_alloc | apply Kd.R_drewN | apply Kd.R_drew)); exact HO226.out⟩, ⟨by (with_reducible repeat (first | refine blk_drewN ?_ _ | refine blk_drew ?_ | refine blk_alloc ?_ _)); exact BK215.out⟩, ⟨by repeat (first | (with_reducible first | exact HB.out | apply below_alloc | apply pw_below_drewN | apply below_drew1 | refine below_set ?_ GE215.out) | exact HB.out)⟩⟩
                    ·rw [if_neg c42] at H
                     exact absurd H (by simp)
                   ·replace c41 := Bool.eq_false_iff.mpr c41
                    subst c41
                    have H1 : (if (Go.bits .and .u32 t220 1) = 1 then (some (x11_2, none)) else (hash_second_look.l0 kj34 l1 a2 t216 x11_2 ((x12_2 + 1) % 4294967296) l0_0 a0_1 a0_2 l0_3 l0_4 l0_5 a0_6 a0_7 a0_8)) = some (r1, r2) := by rw [if_neg (show ¬ (false = true) by decide)] at H; exact H
                    clear H
                    have H := H1
                    clear H1
                    by_cases c46 : (Go.bits .and .u32 t220 1) = 1
                    ·rw [if_pos c46] at H
                     have c46b0 : ((Go.bits .and .u32 t220 1) == 1) = true := beq_iff_eq.mpr c46
                     have c46b1 : ((Go.bits .and .u32 t220 1) != 1) = false := bne_eq_false_iff_eq.mpr c46
                     clear c46
                     simp only [Option.some.injEq, Prod.mk.injEq] at H
                     obtain ⟨rfl, rfl⟩ := H
                     go_wp2
                     repeat (go_quiet (fail); try go_wp2)
                     go_ret2
                     exact ⟨_, by first | rfl | (simp [errW_none, errW_some] <;> rfl) | (simp only [← hji6, ← hji9, ← hji27]; first | rfl | (simp [errW_none, errW_some] <;> rfl)) | (simp [*, errW_none, errW_some] <;> rfl), by (with_reducible repeat (first | apply Kd.R_alloc | apply Kd.R_drewN | apply Kd.R_drew)); exact HO_11.out, by repeat (first | (with_reducible first | exact HB.out | apply below_alloc | apply pw_below_drewN | apply below_drew1 | refine below_set ?_ GE215.out) | exact HB.out)⟩
                    ·rw [if_neg c46] at H
                     have c46b0 : ((Go.bits .and .u32 t220 1) == 1) = false := beq_eq_false_iff_ne.mpr c46
                     have c46b1 : ((Go.bits .and .u32 t220 1) != 1) = true := bne_iff_ne.mpr c46
                     have H' := Aside0.mk H
                     clear H
                     go_wp2
                     repeat (go_quiet (fail); try go_wp2)
                     go_roundg kj34
                     case measure => have := HJ11.out; have := HK2.out; have := HJ34.out; omega
                     case rel => exact ⟨(x11_2), ((x12_2 + 1) % 4294967296), (by first | rfl | (simp; done) | (simp [*]; done)), H', ⟨by have := HJ11.out; have := HK2.out; have := HJ34.out; omega⟩, ⟨by (with_reducible repeat (first | apply Kd.R_alloc | apply Kd.R_drewN | apply Kd.R_drew)); exact HO_11.out⟩, ⟨by (with_reducible repeat (first | refine blk_drewN ?_ _ | refine blk_drew ?_ | refine blk_alloc ?_ _)); exact BK215.out⟩, ⟨by repeat (first | (with_reducible first | exact HB.out | apply below_alloc | apply pw_below_drewN | apply below_drew1 | refine below_set ?_ GE215.out) | exact HB.out)⟩⟩
                ·have H1 : (some (([] : List Int), some q222)) = some (r1, r2) := by rw [if_neg (show ¬ (some q222).isNone = true by simp)] at H; exact H
                 clear H
                 have H := H1
                 clear H1
                 try simp only [errW_none, errW_some]
                 simp only [Option.some.injEq, Prod.mk.injEq] at H
                 obtain ⟨rfl, rfl⟩ := H
                 have hcz47_0 : wr.cell? ⟨gb215, 0, none⟩ = some (.slice A0_0 l0_0.length c0_0) := (blk_cell BK215.out 0).trans rfl
                 have hcz47_1 : wr.cell? ⟨gb215, 1, none⟩ = some (.int .i64 a0_1) := (blk_cell BK215.out 1).trans rfl
                 have hcz47_2 : wr.cell? ⟨gb215, 2, none⟩ = some (.int .u64 a0_2) := (blk_cell BK215.out 2).trans rfl
                 have hcz47_3 : wr.cell? ⟨gb215, 3, none⟩ = some (.slice A0_3 l0_3.length c0_3) := (blk_cell BK215.out 3).trans rfl
                 have hcz47_4 : wr.cell? ⟨gb215, 4, none⟩ = some (.slice (some ad217) l0_4.length c0_4) := (blk_cell BK215.out 4).trans rfl
                 have hcz47_5 : wr.cell? ⟨gb215, 5, none⟩ = some (.slice (some ad219) l0_5.length c0_5) := (blk_cell BK215.out 5).trans rfl
                 have hcz47_6 : wr.cell? ⟨gb215, 6, none⟩ = some (.int .u32 a0_6) := (blk_cell BK215.out 6).trans rfl
                 have hcz47_7 : wr.cell? ⟨gb215, 7, none⟩ = some (.int .u32 a0_7) := (blk_cell BK215.out 7).trans rfl
                 have hcz47_8 : wr.cell? ⟨gb215, 8, none⟩ = some (.int .u64 a0_8) := (blk_cell BK215.out 8).trans rfl
                 have hfz47_0 := blk_frozen BK215.out 0
                 have hfz47_1 := blk_frozen BK215.out 1
                 have hfz47_2 := blk_frozen BK215.out 2
                 have hfz47_3 := blk_frozen BK215.out 3
                 have hfz47_4 := blk_frozen BK215.out 4
                 have hfz47_5 := blk_frozen BK215.out 5
                 have hfz47_6 := blk_frozen BK215.out 6
                 have hfz47_7 := blk_frozen BK215.out 7
                 have hfz47_8 := blk_frozen BK215.out 8
                 go_wp2_with (first | ((with_reducible refine gate_ (.load 92 (.tmp 3)) rfl ?_); refine wpList_load_row rfl 92 (.tmp 3) rfl gb215 rfl 92 _ (0, 0) _ (by (with_reducible repeat (first | refine blk_drewN ?_ _ | refine blk_drew ?_ | refine blk_alloc ?_ _)); exact BK215.out) Try.underlying92 rfl (by kernel_rfl) ?_) | (go_at_call 54; (with_reducible refine (hash_second_chain.calls k2 _ _ l0_0 a0_1 a0_2 _ _ l0_3 _ _ l0_4 _ _ l0_5 a0_6 a0_7 a0_8 x12_2 t220 (some q222) _ ?side1 ?side2 ?side3 ?side4 ?side5 ?side6 ?side7 ?side8 A34.out).mono ?_); (case side1 => repeat (first | exact (Kd.C_below HR0_0.out HB.out) | (with_reducible refine Kd.C_alloc ?_ _) | (with_reducible refine Kd.C_drewN ?_ _) | (with_reducible refine Kd.C_drew ?_))); (case side2 => exact HC0_0.out); (case side3 => repeat (first | exact (Kd.C_below HR0_3.out HB.out) | (with_reducible refine Kd.C_alloc ?_ _) | (with_reducible refine Kd.C_drewN ?_ _) | (with_reducible refine Kd.C_drew ?_))); (case side4 => exact HC0_3.out); (case side5 => repeat (first | exact (Kd.C_below HR0_4.out HB.out) | (with_reducible refine Kd.C_alloc ?_ _) | (with_reducible refine Kd.C_drewN ?_ _) | (with_reducible refine Kd.C_drew ?_))); (case side6 => exact HC0_4.out); (case side7 => repeat (first | exact (Kd.C_below HR0_5.out HB.out) | (with_reducible refine Kd.C_alloc ?_ _) | (with_reducible refine Kd.C_drewN ?_ _) | (with_reducible refine Kd.C_drew ?_))); (case side8 => exact HC0_5.out); rintro e w48 ⟨rfl, hb⟩; have n0_ := Aside0.mk (Kd.R_below (by (with_reducible repeat (first | apply Kd.R_alloc | apply Kd.R_drewN | apply Kd.R_drew)); exact HO_11.out) hb); have n1_ := Aside0.mk (blk_below (g := gb215) (o := .cells #[.slice A0_0 l0_0.length c0_0, .int .i64 a0_1, .int .u64 a0_2, .slice A0_3 l0_3.length c0_3, .slice (some ad217) l0_4.length c0_4, .slice (some ad219) l0_5.length c0_5, .int .u32 a0_6, .int .u32 a0_7, .int .u64 a0_8] 92 (0, 0)) (by (with_reducible repeat (first | refine blk_drewN ?_ _ | refine blk_drew ?_ | refine blk_alloc ?_ _)); exact BK215.out) hb); have n2_ := Aside0.mk (below_step (by repeat (first | (with_reducible first | exact HB.out | apply below_alloc | apply pw_below_drewN | apply below_drew1 | refine below_set ?_ GE215.out) | exact HB.out)) hb); clear HO_11; clear BK215; clear HB; have HO_11 := n0_; have BK215 := n1_; have HB := n2_; clear n0_ n1_ n2_; (try clear hb); (try clear hb2); (try clear hk); (try clear hi); (try simp only [errW_none, errW_some])))
                 repeat (go_quiet (first | (go_at_call 54; (with_reducible refine (hash_second_chain.calls k2 _ _ l0_0 a0_1 a0_2 _ _ l0_3 _ _ l0_4 _ _ l0_5 a0_6 a0_7 a0_8 x12_2 t220 (some q222) _ ?side1 ?side2 ?side3 ?side4 ?side5 ?side6 ?side7 ?side8 A34.out).mono ?_); (case side1 => repeat (first | exact (Kd.C_below HR0_0.out HB.out) | (with_reducible refine Kd.C_alloc ?_ _) | (with_reducible refine Kd.C_drewN ?_ _) | (with_reducible refine Kd.C_drew ?_))); (case side2 => exact HC0_0.out); (case side3 => repeat (first | exact (Kd.C_below HR0_3.out HB.out) | (with_reducible refine Kd.C_alloc ?_ _) | (with_reducible refine Kd.C_drewN ?_ _) | (with_reducible refine Kd.C_drew ?_))); (case side4 => exact HC0_3.out); (case side5 => repeat (first | exact (Kd.C_below HR0_4.out HB.out) | (with_reducible refine Kd.C_alloc ?_ _) | (with_reducible refine Kd.C_drewN ?_ _) | (with_reducible refine Kd.C_drew ?_))); (case side6 => exact HC0_4.out); (case side7 => repeat (first | exact (Kd.C_below HR0_5.out HB.out) | (with_reducible refine Kd.C_alloc ?_ _) | (with_reducible refine Kd.C_drewN ?_ _) | (with_reducible refine Kd.C_drew ?_))); (case side8 => exact HC0_5.out); rintro e w48 ⟨rfl, hb⟩; have n0_ := Aside0.mk (Kd.R_below (by (with_reducible repeat (first | apply Kd.R_alloc | apply Kd.R_drewN | apply Kd.R_drew)); exact HO_11.out) hb); have n1_ := Aside0.mk (blk_below (g := gb215) (o := .cells #[.slice A0_0 l0_0.length c0_0, .int .i64 a0_1, .int .u64 a0_2, .slice A0_3 l0_3.length c0_3, .slice (some ad217) l0_4.length c0_4, .slice (some ad219) l0_5.length c0_5, .int .u32 a0_6, .int .u32 a0_7, .int .u64 a0_8] 92 (0, 0)) (by (with_reducible repeat (first | refine blk_drewN ?_ _ | refine blk_drew ?_ | refine blk_alloc ?_ _)); exact BK215.out) hb); have n2_ := Aside0.mk (below_step (by repeat (first | (with_reducible first | exact HB.out | apply below_alloc | apply pw_below_drewN | apply below_drew1 | refine below_set ?_ GE215.out) | exact HB.out)) hb); clear HO_11; clear BK215; clear HB; have HO_11 := n0_; have BK215 := n1_; have HB := n2_; clear n0_ n1_ n2_; (try clear hb); (try clear hb2); (try clear hk); (try clear hi); (try simp only [errW_none, errW_some]))); try go_wp2_with (first | ((with_reducible refine gate_ (.load 92 (.tmp 3)) rfl ?_); refine wpList_load_row rfl 92 (.tmp 3) rfl gb215 rfl 92 _ (0, 0) _ (by (with_reducible repeat (first | refine blk_drewN ?_ _ | refine blk_drew ?_ | refine blk_alloc ?_ _)); exact BK215.out) Try.underlying92 rfl (by kernel_rfl) ?_) | (go_at_call 54; (with_reducible refine (hash_second_chain.calls k2 _ _ l0_0 a0_1 a0_2 _ _ l0_3 _ _ l0_4 _ _ l0_5 a0_6 a0_7 a0_8 x12_2 t220 (some q222) _ ?side1 ?side2 ?side3 ?side4 ?side5 ?side6 ?side7 ?side8 A34.out).mono ?_); (case side1 => repeat (first | exact (Kd.C_below HR0_0.out HB.out) | (with_reducible refine Kd.C_alloc ?_ _) | (with_reducible refine Kd.C_drewN ?_ _) | (with_reducible refine Kd.C_drew ?_))); (case side2 => exact HC0_0.out); (case side3 => repeat (first | exact (Kd.C_below HR0_3.out HB.out) | (with_reducible refine Kd.C_alloc ?_ _) | (with_reducible refine Kd.C_drewN ?_ _) | (with_reducible refine Kd.C_drew ?_))); (case side4 => exact HC0_3.out); (case side5 => repeat (first | exact (Kd.C_below HR0_4.out HB.out) | (with_reducible refine Kd.C_alloc ?_ _) | (with_reducible refine Kd.C_drewN ?_ _) | (with_reducible refine Kd.C_drew ?_))); (case side6 => exact HC0_4.out); (case side7 => repeat (first | exact (Kd.C_below HR0_5.out HB.out) | (with_reducible refine Kd.C_alloc ?_ _) | (with_reducible refine Kd.C_drewN ?_ _) | (with_reducible refine Kd.C_drew ?_))); (case side8 => exact HC0_5.out); rintro e w48 ⟨rfl, hb⟩; have n0_ := Aside0.mk (Kd.R_below (by (with_reducible repeat (first | apply Kd.R_alloc | apply Kd.R_drewN | apply Kd.R_drew)); exact HO_11.out) hb); have n1_ := Aside0.mk (blk_below (g := gb215) (o := .cells #[.slice A0_0 l0_0.length c0_0, .int .i64 a0_1, .int .u64 a0_2, .slice A0_3 l0_3.length c0_3, .slice (some ad217) l0_4.length c0_4, .slice (some ad219) l0_5.length c0_5, .int .u32 a0_6, .int .u32 a0_7, .int .u64 a0_8] 92 (0, 0)) (by (with_reducible repeat (first | refine blk_drewN ?_ _ | refine blk_drew ?_ | refine blk_alloc ?_ _)); exact BK215.out) hb); have n2_ := Aside0.mk (below_step (by repeat (first | (with_reducible first | exact HB.out | apply below_alloc | apply pw_below_drewN | apply below_drew1 | refine below_set ?_ GE215.out) | exact HB.out)) hb); clear HO_11; clear BK215; clear HB; have HO_11 := n0_; have BK215 := n1_; have HB := n2_; clear n0_ n1_ n2_; (try clear hb); (try clear hb2); (try clear hk); (try clear hi); (try simp only [errW_none, errW_some]))))
                 go_ret2
                 exact ⟨_, by first | rfl | (simp [errW_none, errW_some] <;> rfl) | (simp only [← hji6, ← hji9, ← hji27]; first | rfl | (simp [errW_none, errW_some] <;> rfl)) | (simp [*, errW_none, errW_some] <;> rfl), by first | exact Kd.R_nil _ _ _ _ _ | exact Kd.N_nil _ _ _ _ _ | exact Kd.V_nil _ _ _ _ _ | exact Kd.Q_nil _ _ _ _ _ | exact Kd.S_nil _ _ _ _ _, by repeat (first | (with_reducible first | exact HB.out | apply below_alloc | apply pw_below_drewN | apply below_drew1 | refine below_set ?_ GE215.out) | exact HB.out)⟩
           ·rw [if_neg c29] at H
            exact absurd H (by simp)
          ·rw [if_neg c28] at H
           exact absurd H (by simp)
     ·rw [if_neg c11] at H
      exact absurd H (by simp)
    ·rw [if_neg c10] at H
     exact absurd H (by simp)
   ·rw [if_neg c8] at H
    exact absurd H (by simp)
  ·rw [if_neg c7] at H
   exact absurd H (by simp)
end Go.Proofs.Ythopdoamajjojaa.QBindF
