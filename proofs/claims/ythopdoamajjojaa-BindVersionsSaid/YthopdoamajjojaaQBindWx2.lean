-- Laid by wip/hook.py (this session's own program) out of the translation; with contracts that were written by hand.
import Derived.Test.YthopdoamajjojaaQBindWx0
namespace Go.Proofs.Ythopdoamajjojaa.QBindW
open Go.RowKit Go.Proofs.YthopdoamajjojaaW.PrintWords Go.Proofs.YthopdoamajjojaaW.PrintLast Go.Proofs.YthopdoamajjojaaW.PrintMore
attribute [local go_sem] max2_int min2_int max_two min_two max_three min_three max_four min_four   -- for this text's walks alone
set_option linter.unusedVariables false
set_option linter.unusedSimpArgs false

-- NOT PRINTED: function 55 (dyn_Offset)

-- NOT PRINTED: function 56 (dyn_cut)

-- NOT PRINTED: function 36 (dyn_Slice)

-- NOT PRINTED: function 52 (hash_file_words)

-- NOT PRINTED: function 30 (hash_file_sysv)

-- NOT PRINTED: function 53 (bits_OnesCount32)

-- NOT PRINTED: function 31 (hash_file_gnu)

-- NOT PRINTED: function 54 (hash_second_chain)

-- NOT PRINTED: function 32 (hash_second_count)

-- NOT PRINTED: function 12 (hash_Count)

-- NOT PRINTED: function 15 (hash_Gnu)

-- NOT PRINTED: function 33 (hash_second_look)

-- NOT PRINTED: function 24 (hash_Sysv)

-- NOT PRINTED: function 34 (hash_first_look)

-- NOT PRINTED: function 13 (hash_Look)

-- NOT PRINTED: function 69 (slices_IndexFunc_int_int)

-- NOT PRINTED: function 48 (bind_In)

-- NOT PRINTED: function 49 (shacklelaw17_one)

/-! ### shacklelaw17_up: function 25 -/
def shacklelaw17_up.f  : Option (Bool) := some true
theorem shacklelaw17_up.calls  (r : Bool) (w : World) (h : shacklelaw17_up.f  = some r) :
  Calls Try.prog 25 #[] w fun e w' => e = .returned (.bool r) ∧ Below w.heap.size w w' := by
 unfold shacklelaw17_up.f at h
 obtain rfl := Option.some.inj h
 exact BindS.up_calls w

-- NOT PRINTED: function 78 (api_Verdef_78)

-- NOT PRINTED: function 73 (api_Verdef_73)

/-! ### bind_defines: function 50 -/
theorem defRow_of {w : World} {A : Option Addr} {l : List S63} (h : Kd.C k63 w A l.length l) : BindS.DefRow w A (l.map (fun x => x.f2)) := by
 intro i h0 h1
 have h1' : i < (l.length : Int) := by simpa using h1
 have e : rdOf ByteArray.empty (l.map (fun x => x.f2)) i = (rd_T63 l i).f2 := by
  obtain ⟨j, rfl⟩ := Int.eq_ofNat_of_zero_le h0
  have hj : j < l.length := by omega
  simp [rdOf, rd_T63, hj]
 rw [e]
 have := at_T63 h i h0 h1'
 grind
def bind_defines.f (a0_0 : Bool) (l0_1 : List Int) (l0_2 : List (S63)) (l0_3 : List (S66)) (a1 : ByteArray) : Option (Bool) := some (BindS.definesF (l0_2.map (fun x => x.f2)) a1)
theorem bind_defines.calls (a0_0 : Bool) (A0_1 : Option Addr) (c0_1 : Nat) (l0_1 : List Int) (A0_2 : Option Addr) (c0_2 : Nat) (l0_2 : List (S63)) (A0_3 : Option Addr) (c0_3 : Nat) (l0_3 : List (S66)) (a1 : ByteArray) (r : Bool) (w : World) (hr0_1 : Kd.C (Kd.int .i64) w A0_1 l0_1.length l0_1) (hc0_1 : l0_1.length ≤ c0_1) (hr0_2 : Kd.C k63 w A0_2 l0_2.length l0_2) (hc0_2 : l0_2.length ≤ c0_2) (hr0_3 : Kd.C k66 w A0_3 l0_3.length l0_3) (hc0_3 : l0_3.length ≤ c0_3) (h : bind_defines.f a0_0 l0_1 l0_2 l0_3 a1 = some r) :
  Calls Try.prog 50 #[.agg #[.bool a0_0, .slice A0_1 l0_1.length c0_1, .slice A0_2 l0_2.length c0_2, .slice A0_3 l0_3.length c0_3], .string a1] w fun e w' => e = .returned (.bool r) ∧ Below w.heap.size w w' := by
 unfold bind_defines.f at h
 obtain rfl := Option.some.inj h
 have := BindS.defines_calls (.bool a0_0) (.slice A0_1 l0_1.length c0_1) (.slice A0_3 l0_3.length c0_3) A0_2 c0_2 (l0_2.map (fun x => x.f2)) a1 w (by rw [List.length_map]; exact hr0_2.2.1) (defRow_of hr0_2)
 rw [List.length_map] at this
 exact this

/-! ### bind_Versions: function 27 -/
theorem rd_map {α β : Type} {d : α} {e : β} {f : α → β} {l : List α} {i : Int} (h0 : 0 ≤ i) (h1 : i < (l.length : Int)) : rdOf e (l.map f) i = f (l.getD i.toNat d) := by
 obtain ⟨j, rfl⟩ := Int.eq_ofNat_of_zero_le h0
 have hj : j < l.length := by omega
 simp [rdOf, hj]
def axOf (x : S68) : Bool × ByteArray := (x.f1, x.f2)
def ndOf (x : S66) : BindS.Nd := (x.f0, x.f1.map axOf)
def ovOf (x : S127) : BindS.OV := (x.f3, x.f8.f3.map ndOf, x.f8.f2.map (fun y => y.f2))
theorem axRow_of {w : World} {A : Option Addr} {l : List S68} (h : Kd.C k68 w A l.length l) : BindS.AxRow w A (l.map axOf) := by
 intro i h0 h1
 have h1' : i < (l.length : Int) := by simpa using h1
 rw [rd_map (d := z68) h0 h1']
 obtain ⟨ad, e, a, b, c⟩ := at_T68 h i h0 h1'
 exact ⟨ad, _, e, a, b, c⟩
theorem ndRow_of {w : World} {A : Option Addr} {l : List S66} (h : Kd.C k66 w A l.length l) : BindS.NdRow w A (l.map ndOf) := by
 intro i h0 h1
 have h1' : i < (l.length : Int) := by simpa using h1
 rw [rd_map (d := z66) h0 h1']
 obtain ⟨ad, A1, c1, e, a, b, _, c⟩ := at_T66 h i h0 h1'
 have hl : (ndOf (l.getD i.toNat z66)).2.length = (rd_T66 l i).f1.length := by simp [ndOf, rd_T66]
 refine ⟨ad, A1, c1, e, a, by rw [hl]; exact b, axRow_of c, by rw [hl]; exact c.2.1⟩
theorem defRow_of2 {w : World} {A : Option Addr} {l : List S63} (h : Kd.C k63 w A l.length l) : BindS.DefRow w A (l.map (fun x => x.f2)) := by
 intro i h0 h1
 have h1' : i < (l.length : Int) := by simpa using h1
 rw [rd_map (d := z63) h0 h1']
 have := at_T63 h i h0 h1'
 unfold rd_T63 at this
 grind
theorem oRow_of {w : World} {A : Option Addr} {l : List S127} (h : Kd.C k127 w A l.length l) : BindS.ORow w A (l.map ovOf) := by
 intro i h0 h1
 have h1' : i < (l.length : Int) := by simpa using h1
 rw [rd_map (d := z127) h0 h1']
 obtain ⟨ad, c, e, hl, hK, hc⟩ := Kd.C_get h z127 i h0 h1'
 refine ⟨ad, c, e, hc, ?_⟩
 have hone := k127.K_one hK
 obtain ⟨A2, c2, A4, c4, A44, c44, A45, c45, A47, c47, A48, c48, A49, c49, A50, c50, A51, c51, A52, c52, A53, c53, rfl, _, _, _, _, _, _, _, _, _, _, _, hd, _, hn, _⟩ := k127_open hK
 exact ⟨hl, hone, rfl, ⟨_, A47, _, c47, A48, c48, A49, c49, rfl, rfl, by simp [ovOf], by simp [ovOf], defRow_of2 hd, ndRow_of hn⟩, by simpa [ovOf] using hn.2.1, by simpa [ovOf] using hd.2.1⟩
def versOut : Option (Int × ByteArray × ByteArray) → Int × ByteArray × ByteArray × ByteArray × Bool
 | none => (0, ⟨#[]⟩, ⟨#[]⟩, ⟨#[]⟩, true)
 | some x => (x.1, ⟨#[]⟩, x.2.1, x.2.2, false)
def bind_Versions.f (l0 : List (S127)) (l1 : List ByteArray) : Option (Int × ByteArray × ByteArray × ByteArray × Bool) := some (versOut (BindS.versF (l0.map ovOf) l1 (l0.map ovOf) 0))
theorem bind_Versions.calls (A0 : Option Addr) (c0 : Nat) (l0 : List (S127)) (A1 : Option Addr) (c1 : Nat) (l1 : List ByteArray) (r1 : Int) (r2 : ByteArray) (r3 : ByteArray) (r4 : ByteArray) (r5 : Bool) (w : World) (hr0 : Kd.C k127 w A0 l0.length l0) (hc0 : l0.length ≤ c0) (hr1 : Kd.C Kd.string w A1 l1.length l1) (hc1 : l1.length ≤ c1) (h : bind_Versions.f l0 l1 = some (r1, r2, r3, r4, r5)) :
  Calls Try.prog 27 #[.slice A0 l0.length c0, .slice A1 l1.length c1] w fun e w' => e = .returned (.tuple #[.int .i64 r1, .agg #[.string r2, .string r3, .string r4], .bool r5]) ∧ Below w.heap.size w w' := by
 unfold bind_Versions.f at h
 have h := Option.some.inj h
 have hv := BindS.versions_calls A0 c0 A1 c1 (l0.map ovOf) l1 w (oRow_of hr0) hr1 (by rw [List.length_map]; exact hr0.2.1)
 rw [List.length_map] at hv
 refine hv.mono ?_
 rintro e w' ⟨rfl, hb⟩
 refine ⟨?_, hb⟩
 cases hq : BindS.versF (l0.map ovOf) l1 (l0.map ovOf) 0 with
 | none => rw [hq] at h; simp only [versOut, Prod.mk.injEq] at h; obtain ⟨rfl, rfl, rfl, rfl, rfl⟩ := h; rfl
 | some x => rw [hq] at h; simp only [versOut, Prod.mk.injEq] at h; obtain ⟨rfl, rfl, rfl, rfl, rfl⟩ := h; rfl

/-! ### shackleref17_provides: function 51 -/
mutual
def shackleref17_provides.l0 : Nat → List (S127) → List ByteArray → ByteArray → ByteArray → Int → Option (Bool)
 | 0, _, _, _, _, _ => none
 | k + 1, x0, x1, x2, x3, x9 => if x9 < (x0.length : Int) then (if 0 ≤ x9 then (if ((rd_T127 x0 x9).f3).toList = x2.toList then (shackleref17_provides.j1 k x0 x1 x2 x3 x9 false) else (if x9 ≥ (x1.length : Int) then (shackleref17_provides.j1 k x0 x1 x2 x3 x9 true) else (if x9 < (x1.length : Int) then (shackleref17_provides.j1 k x0 x1 x2 x3 x9 ((rdOf ByteArray.empty x1 x9).toList != x2.toList)) else (none)))) else (none)) else (some false)
def shackleref17_provides.j1 : Nat → List (S127) → List ByteArray → ByteArray → ByteArray → Int → Bool → Option (Bool)
 | 0, _, _, _, _, _, _ => none
 | k + 1, x0, x1, x2, x3, x9, x38 => if x38 = true then (shackleref17_provides.l0 k x0 x1 x2 x3 (wrap64 (x9 + 1))) else (if 0 ≤ x9 then (if x9 < (x0.length : Int) then (shackleref17_provides.l1 k x3 ((rd_T127 x0 x9).f8.f2) 0) else (none)) else (none))
def shackleref17_provides.l1 : Nat → ByteArray → List (S63) → Int → Option (Bool)
 | 0, _, _, _ => none
 | k + 1, x3, x10, x11 => if x11 < (x10.length : Int) then (if 0 ≤ x11 then (if ((rd_T63 x10 x11).f2).toList = x3.toList then (some true) else (shackleref17_provides.l1 k x3 x10 (wrap64 (x11 + 1)))) else (none)) else (some ((x10.length : Int) == 0))
end
def shackleref17_provides.f (k : Nat) (l0 : List (S127)) (l1 : List ByteArray) (a2 : ByteArray) (a3 : ByteArray) : Option (Bool) := shackleref17_provides.l0 k l0 l1 a2 a3 0
theorem shackleref17_provides.mono_l : ∀ k, (∀ y0 y1 y2 y3 y4, LeO (shackleref17_provides.l0 k y0 y1 y2 y3 y4) (shackleref17_provides.l0 (k + 1) y0 y1 y2 y3 y4)) ∧ (∀ y0 y1 y2 y3 y4 y5, LeO (shackleref17_provides.j1 k y0 y1 y2 y3 y4 y5) (shackleref17_provides.j1 (k + 1) y0 y1 y2 y3 y4 y5)) ∧ (∀ y0 y1 y2, LeO (shackleref17_provides.l1 k y0 y1 y2) (shackleref17_provides.l1 (k + 1) y0 y1 y2))
 | 0 => ⟨fun _ _ _ _ _ r h => by simp [shackleref17_provides.l0] at h, fun _ _ _ _ _ _ r h => by simp [shackleref17_provides.j1] at h, fun _ _ _ r h => by simp [shackleref17_provides.l1] at h⟩
 | k + 1 => by
  obtain ⟨ih0, ih1, ih2⟩ := shackleref17_provides.mono_l k
  refine ⟨?_, ?_, ?_⟩
  ·intro y0 y1 y2 y3 y4
   unfold shackleref17_provides.l0
   repeat' first
   | (with_reducible exact ih0 _ _ _ _ _)
   | (with_reducible exact ih1 _ _ _ _ _ _)
   | (with_reducible exact ih2 _ _ _)
   | (with_reducible exact LeO.refl _)
   | (with_reducible exact LeO.none _)
   | (with_reducible refine LeO.ite ?_ ?_)
   | (with_reducible refine LeO.bind ?_ (fun _ => ?_))
   | exact ih0 _ _ _ _ _
   | exact ih1 _ _ _ _ _ _
   | exact ih2 _ _ _
   | exact LeO.none _
   | refine LeO.ite ?_ ?_
   | refine LeO.bind ?_ (fun _ => ?_)
  ·intro y0 y1 y2 y3 y4 y5
   unfold shackleref17_provides.j1
   repeat' first
   | (with_reducible exact ih0 _ _ _ _ _)
   | (with_reducible exact ih1 _ _ _ _ _ _)
   | (with_reducible exact ih2 _ _ _)
   | (with_reducible exact LeO.refl _)
   | (with_reducible exact LeO.none _)
   | (with_reducible refine LeO.ite ?_ ?_)
   | (with_reducible refine LeO.bind ?_ (fun _ => ?_))
   | exact ih0 _ _ _ _ _
   | exact ih1 _ _ _ _ _ _
   | exact ih2 _ _ _
   | exact LeO.none _
   | refine LeO.ite ?_ ?_
   | refine LeO.bind ?_ (fun _ => ?_)
  ·intro y0 y1 y2
   unfold shackleref17_provides.l1
   repeat' first
   | (with_reducible exact ih0 _ _ _ _ _)
   | (with_reducible exact ih1 _ _ _ _ _ _)
   | (with_reducible exact ih2 _ _ _)
   | (with_reducible exact LeO.refl _)
   | (with_reducible exact LeO.none _)
   | (with_reducible refine LeO.ite ?_ ?_)
   | (with_reducible refine LeO.bind ?_ (fun _ => ?_))
   | exact ih0 _ _ _ _ _
   | exact ih1 _ _ _ _ _ _
   | exact ih2 _ _ _
   | exact LeO.none _
   | refine LeO.ite ?_ ?_
   | refine LeO.bind ?_ (fun _ => ?_)
theorem shackleref17_provides.mono : ∀ a0 a1 a2 a3 k, LeO (shackleref17_provides.f k a0 a1 a2 a3) (shackleref17_provides.f (k + 1) a0 a1 a2 a3) := by
 intro a0 a1 a2 a3 k
 obtain ⟨ih0, ih1, ih2⟩ := shackleref17_provides.mono_l k
 unfold shackleref17_provides.f
 repeat' first
   | (with_reducible exact ih0 _ _ _ _ _)
   | (with_reducible exact ih1 _ _ _ _ _ _)
   | (with_reducible exact ih2 _ _ _)
   | (with_reducible exact LeO.refl _)
   | (with_reducible exact LeO.none _)
   | (with_reducible refine LeO.ite ?_ ?_)
   | (with_reducible refine LeO.bind ?_ (fun _ => ?_))
   | exact ih0 _ _ _ _ _
   | exact ih1 _ _ _ _ _ _
   | exact ih2 _ _ _
   | exact LeO.none _
   | refine LeO.ite ?_ ?_
   | refine LeO.bind ?_ (fun _ => ?_)
set_option maxHeartbeats 8000000 in
set_option maxRecDepth 100000 in
theorem shackleref17_provides.calls (k : Nat) (A0 : Option Addr) (c0 : Nat) (l0 : List (S127)) (A1 : Option Addr) (c1 : Nat) (l1 : List ByteArray) (a2 : ByteArray) (a3 : ByteArray) (r : Bool) (w : World) (hr0 : Kd.C k127 w A0 l0.length l0) (hc0 : l0.length ≤ c0) (hr1 : Kd.C Kd.string w A1 l1.length l1) (hc1 : l1.length ≤ c1) (h : shackleref17_provides.f k l0 l1 a2 a3 = some r) :
  Calls Try.prog 51 #[.slice A0 l0.length c0, .slice A1 l1.length c1, .string a2, .string a3] w fun e w' => e = .returned (.bool r) ∧ Drawn0 w w' := by
 have HR0 := Aside0.mk hr0
 have HC0 := Aside0.mk hc0
 clear hr0 hc0
 have HR1 := Aside0.mk hr1
 have HC1 := Aside0.mk hc1
 clear hr1 hc1
 have H : (shackleref17_provides.l0 k l0 l1 a2 a3 0) = some r := h
 clear h
 have H' := Aside0.mk H
 clear H
 go_enter Try.func51, Try.ntmps51
 go_wp2
 go_loopg [9] k (fun kq v9 w' => ∃ (x9_1 : Int), v9 = .int .i64 x9_1 ∧ Aside0 (shackleref17_provides.l0 kq l0 l1 a2 a3 x9_1 = some r) ∧ Aside0 (kq ≤ k) ∧ Drawn0 w w')
 case atStart => exact ⟨(0), (by first | rfl | (simp; done) | (simp [*]; done)), H', ⟨Nat.le_refl _⟩, by repeat (first | exact Drawn0.refl _ | apply Drawn0.step)⟩
 case round =>
  clear H'
  try clear c1
  try clear p2
  obtain ⟨x9_1, rfl, HA, HK1, ⟨m1, rfl⟩⟩ := hrel
  cases gk with
  | zero => exact absurd HA.out (by simp [shackleref17_provides.l0])
  | succ k1 =>
   have H := HA.out
   clear HA
   simp only [shackleref17_provides.l0] at H
   by_cases c5 : x9_1 < (l0.length : Int)
   ·rw [if_pos c5] at H
    have c5b0 : decide (x9_1 < (l0.length : Int)) = true := decide_eq_true c5
    clear c5
    have HC6 := Aside0.mk H
    clear H
    go_upto_region 4 with (fail)
    go_cut [38] (fun v38 wc => ∃ (kq : Nat) (x38_5 : Bool), v38 = .bool x38_5 ∧ Aside0 (shackleref17_provides.j1 kq l0 l1 a2 a3 x9_1 x38_5 = some r) ∧ Aside0 (kq ≤ k1) ∧ Drawn0 w wc)
    case first =>
     have H := HC6.out
     clear HC6
     by_cases c7 : 0 ≤ x9_1
     ·rw [if_pos c7] at H
      have c7b0 : decide (0 ≤ x9_1) = true := decide_eq_true c7
      clear c7
      (first | rw [c7b0] | (simp only [i64_w, i32_w]; rw [c7b0]) | skip)
      by_cases c8 : ((rd_T127 l0 x9_1).f3).toList = a2.toList
      ·rw [if_pos c8] at H
       have c8b0 : (((rd_T127 l0 x9_1).f3).toList == a2.toList) = true := beq_iff_eq.mpr c8
       have c8b1 : (((rd_T127 l0 x9_1).f3).toList != a2.toList) = false := bne_eq_false_iff_eq.mpr c8
       clear c8
       have H' := Aside0.mk H
       clear H
       have p115 : 0 ≤ (x9_1 : Int) := of_decide_eq_true (by assumption)
       have q115 : x9_1 < (l0.length : Int) := of_decide_eq_true (by assumption)
       obtain ⟨ad115, A115_2, c115_2, A115_4, c115_4, A115_44, c115_44, A115_45, c115_45, A115_47, c115_47, A115_48, c115_48, A115_49, c115_49, A115_50, c115_50, A115_51, c115_51, A115_52, c115_52, A115_53, c115_53, e115, hx115_0, hx115_1, hx115_2, hx115_3, hx115_4, hx115_5, hx115_6, hx115_7, hx115_8, hx115_9, hx115_10, hx115_11, hx115_12, hx115_13, hx115_14, hx115_15, hx115_16, hx115_17, hx115_18, hx115_19, hx115_20, hx115_21, hx115_22, hx115_23, hx115_24, hx115_25, hx115_26, hx115_27, hx115_28, hx115_29, hx115_30, hx115_31, hx115_32, hx115_33, hx115_34, hx115_35, hx115_36, hx115_37, hx115_38, hx115_39, hx115_40, hx115_41, hx115_42, hx115_43, hx115_44, hx115_45, hx115_46, hx115_47, hx115_48, hx115_49, hx115_50, hx115_51, hx115_52, hx115_53, hl115_2, hi115_2, hl115_4, hi115_4, hl115_44, hi115_44, hl115_45, hi115_45, hl115_47, hi115_47, hl115_48, hi115_48, hl115_49, hi115_49, hl115_50, hi115_50, hl115_51, hi115_51, hl115_52, hi115_52, hl115_53, hi115_53⟩ := at_T127 HR0.out x9_1 p115 q115
       cases e115
       have HR115_2 := Aside0.mk hi115_2
       have HC115_2 := Aside0.mk hl115_2
       clear hi115_2 hl115_2
       have HR115_4 := Aside0.mk hi115_4
       have HC115_4 := Aside0.mk hl115_4
       clear hi115_4 hl115_4
       have HR115_44 := Aside0.mk hi115_44
       have HC115_44 := Aside0.mk hl115_44
       clear hi115_44 hl115_44
       have HR115_45 := Aside0.mk hi115_45
       have HC115_45 := Aside0.mk hl115_45
       clear hi115_45 hl115_45
       have HR115_47 := Aside0.mk hi115_47
       have HC115_47 := Aside0.mk hl115_47
       clear hi115_47 hl115_47
       have HR115_48 := Aside0.mk hi115_48
       have HC115_48 := Aside0.mk hl115_48
       clear hi115_48 hl115_48
       have HR115_49 := Aside0.mk hi115_49
       have HC115_49 := Aside0.mk hl115_49
       clear hi115_49 hl115_49
       have HR115_50 := Aside0.mk hi115_50
       have HC115_50 := Aside0.mk hl115_50
       clear hi115_50 hl115_50
       have HR115_51 := Aside0.mk hi115_51
       have HC115_51 := Aside0.mk hl115_51
       clear hi115_51 hl115_51
       have HR115_52 := Aside0.mk hi115_52
       have HC115_52 := Aside0.mk hl115_52
       clear hi115_52 hl115_52
       have HR115_53 := Aside0.mk hi115_53
       have HC115_53 := Aside0.mk hl115_53
       clear hi115_53 hl115_53
       replace p115 := eq_true p115
       replace q115 := eq_true q115
       go_wp2
       go_meet
       case rel => exact ⟨_, (false), (by first | rfl | (simp; done) | (simp [*]; done)), H', ⟨by have := HK1.out; first | omega | exact Nat.le_refl _⟩, by repeat (first | exact Drawn0.refl _ | apply Drawn0.step)⟩
      ·rw [if_neg c8] at H
       have c8b0 : (((rd_T127 l0 x9_1).f3).toList == a2.toList) = false := beq_eq_false_iff_ne.mpr c8
       have c8b1 : (((rd_T127 l0 x9_1).f3).toList != a2.toList) = true := bne_iff_ne.mpr c8
       by_cases c9 : x9_1 ≥ (l1.length : Int)
       ·rw [if_pos c9] at H
        have c9b0 : decide ((l1.length : Int) ≤ x9_1) = true := decide_eq_true c9
        clear c9
        have H' := Aside0.mk H
        clear H
        have p115 : 0 ≤ (x9_1 : Int) := of_decide_eq_true (by assumption)
        have q115 : x9_1 < (l0.length : Int) := of_decide_eq_true (by assumption)
        obtain ⟨ad115, A115_2, c115_2, A115_4, c115_4, A115_44, c115_44, A115_45, c115_45, A115_47, c115_47, A115_48, c115_48, A115_49, c115_49, A115_50, c115_50, A115_51, c115_51, A115_52, c115_52, A115_53, c115_53, e115, hx115_0, hx115_1, hx115_2, hx115_3, hx115_4, hx115_5, hx115_6, hx115_7, hx115_8, hx115_9, hx115_10, hx115_11, hx115_12, hx115_13, hx115_14, hx115_15, hx115_16, hx115_17, hx115_18, hx115_19, hx115_20, hx115_21, hx115_22, hx115_23, hx115_24, hx115_25, hx115_26, hx115_27, hx115_28, hx115_29, hx115_30, hx115_31, hx115_32, hx115_33, hx115_34, hx115_35, hx115_36, hx115_37, hx115_38, hx115_39, hx115_40, hx115_41, hx115_42, hx115_43, hx115_44, hx115_45, hx115_46, hx115_47, hx115_48, hx115_49, hx115_50, hx115_51, hx115_52, hx115_53, hl115_2, hi115_2, hl115_4, hi115_4, hl115_44, hi115_44, hl115_45, hi115_45, hl115_47, hi115_47, hl115_48, hi115_48, hl115_49, hi115_49, hl115_50, hi115_50, hl115_51, hi115_51, hl115_52, hi115_52, hl115_53, hi115_53⟩ := at_T127 HR0.out x9_1 p115 q115
        cases e115
        have HR115_2 := Aside0.mk hi115_2
        have HC115_2 := Aside0.mk hl115_2
        clear hi115_2 hl115_2
        have HR115_4 := Aside0.mk hi115_4
        have HC115_4 := Aside0.mk hl115_4
        clear hi115_4 hl115_4
        have HR115_44 := Aside0.mk hi115_44
        have HC115_44 := Aside0.mk hl115_44
        clear hi115_44 hl115_44
        have HR115_45 := Aside0.mk hi115_45
        have HC115_45 := Aside0.mk hl115_45
        clear hi115_45 hl115_45
        have HR115_47 := Aside0.mk hi115_47
        have HC115_47 := Aside0.mk hl115_47
        clear hi115_47 hl115_47
        have HR115_48 := Aside0.mk hi115_48
        have HC115_48 := Aside0.mk hl115_48
        clear hi115_48 hl115_48
        have HR115_49 := Aside0.mk hi115_49
        have HC115_49 := Aside0.mk hl115_49
        clear hi115_49 hl115_49
        have HR115_50 := Aside0.mk hi115_50
        have HC115_50 := Aside0.mk hl115_50
        clear hi115_50 hl115_50
        have HR115_51 := Aside0.mk hi115_51
        have HC115_51 := Aside0.mk hl115_51
        clear hi115_51 hl115_51
        have HR115_52 := Aside0.mk hi115_52
        have HC115_52 := Aside0.mk hl115_52
        clear hi115_52 hl115_52
        have HR115_53 := Aside0.mk hi115_53
        have HC115_53 := Aside0.mk hl115_53
        clear hi115_53 hl115_53
        replace p115 := eq_true p115
        replace q115 := eq_true q115
        go_wp2
        go_meet
        case rel => exact ⟨_, (true), (by first | rfl | (simp; done) | (simp [*]; done)), H', ⟨by have := HK1.out; first | omega | exact Nat.le_refl _⟩, by repeat (first | exact Drawn0.refl _ | apply Drawn0.step)⟩
       ·rw [if_neg c9] at H
        have c9b0 : decide ((l1.length : Int) ≤ x9_1) = false := decide_eq_false c9
        clear c9
        by_cases c10 : x9_1 < (l1.length : Int)
        ·rw [if_pos c10] at H
         have c10b0 : decide (x9_1 < (l1.length : Int)) = true := decide_eq_true c10
         clear c10
         have H' := Aside0.mk H
         clear H
         have p115 : 0 ≤ (x9_1 : Int) := of_decide_eq_true (by assumption)
         have q115 : x9_1 < (l0.length : Int) := of_decide_eq_true (by assumption)
         obtain ⟨ad115, A115_2, c115_2, A115_4, c115_4, A115_44, c115_44, A115_45, c115_45, A115_47, c115_47, A115_48, c115_48, A115_49, c115_49, A115_50, c115_50, A115_51, c115_51, A115_52, c115_52, A115_53, c115_53, e115, hx115_0, hx115_1, hx115_2, hx115_3, hx115_4, hx115_5, hx115_6, hx115_7, hx115_8, hx115_9, hx115_10, hx115_11, hx115_12, hx115_13, hx115_14, hx115_15, hx115_16, hx115_17, hx115_18, hx115_19, hx115_20, hx115_21, hx115_22, hx115_23, hx115_24, hx115_25, hx115_26, hx115_27, hx115_28, hx115_29, hx115_30, hx115_31, hx115_32, hx115_33, hx115_34, hx115_35, hx115_36, hx115_37, hx115_38, hx115_39, hx115_40, hx115_41, hx115_42, hx115_43, hx115_44, hx115_45, hx115_46, hx115_47, hx115_48, hx115_49, hx115_50, hx115_51, hx115_52, hx115_53, hl115_2, hi115_2, hl115_4, hi115_4, hl115_44, hi115_44, hl115_45, hi115_45, hl115_47, hi115_47, hl115_48, hi115_48, hl115_49, hi115_49, hl115_50, hi115_50, hl115_51, hi115_51, hl115_52, hi115_52, hl115_53, hi115_53⟩ := at_T127 HR0.out x9_1 p115 q115
         cases e115
         have HR115_2 := Aside0.mk hi115_2
         have HC115_2 := Aside0.mk hl115_2
         clear hi115_2 hl115_2
         have HR115_4 := Aside0.mk hi115_4
         have HC115_4 := Aside0.mk hl115_4
         clear hi115_4 hl115_4
         have HR115_44 := Aside0.mk hi115_44
         have HC115_44 := Aside0.mk hl115_44
         clear hi115_44 hl115_44
         have HR115_45 := Aside0.mk hi115_45
         have HC115_45 := Aside0.mk hl115_45
         clear hi115_45 hl115_45
         have HR115_47 := Aside0.mk hi115_47
         have HC115_47 := Aside0.mk hl115_47
         clear hi115_47 hl115_47
         have HR115_48 := Aside0.mk hi115_48
         have HC115_48 := Aside0.mk hl115_48
         clear hi115_48 hl115_48
         have HR115_49 := Aside0.mk hi115_49
         have HC115_49 := Aside0.mk hl115_49
         clear hi115_49 hl115_49
         have HR115_50 := Aside0.mk hi115_50
         have HC115_50 := Aside0.mk hl115_50
         clear hi115_50 hl115_50
         have HR115_51 := Aside0.mk hi115_51
         have HC115_51 := Aside0.mk hl115_51
         clear hi115_51 hl115_51
         have HR115_52 := Aside0.mk hi115_52
         have HC115_52 := Aside0.mk hl115_52
         clear hi115_52 hl115_52
         have HR115_53 := Aside0.mk hi115_53
         have HC115_53 := Aside0.mk hl115_53
         clear hi115_53 hl115_53
         replace p115 := eq_true p115
         replace q115 := eq_true q115
         have p116 : 0 ≤ (x9_1 : Int) := of_decide_eq_true (by assumption)
         have q116 : x9_1 < (l1.length : Int) := of_decide_eq_true (by assumption)
         obtain ⟨ad116, e116, hx116_0⟩ := Kd.at_string HR1.out x9_1 p116 q116
         cases e116
         replace p116 := eq_true p116
         replace q116 := eq_true q116
         go_wp2
         go_meet
         case rel => exact ⟨_, (((rdOf ByteArray.empty l1 x9_1).toList != a2.toList)), (by first | rfl | (simp; done) | (simp [*]; done)), H', ⟨by have := HK1.out; first | omega | exact Nat.le_refl _⟩, by repeat (first | exact Drawn0.refl _ | apply Drawn0.step)⟩
        ·rw [if_neg c10] at H
         exact absurd H (by simp)
     ·rw [if_neg c7] at H
      exact absurd H (by simp)
    case rest =>
     clear HC6
     try clear c1
     try clear p1
     try clear q1
     try clear hx1
     try clear p2
     try clear c5
     try clear c5b0
     try clear c7
     try clear c7b0
     try clear c8
     try clear c8b0
     try clear c8b1
     try clear c9
     try clear c9b0
     try clear c10
     try clear c10b0
     try clear hx115_0
     try clear hx115_1
     try clear hx115_10
     try clear hx115_11
     try clear hx115_12
     try clear hx115_13
     try clear hx115_14
     try clear hx115_15
     try clear hx115_16
     try clear hx115_17
     try clear hx115_18
     try clear hx115_19
     try clear hx115_2
     try clear hx115_20
     try clear hx115_21
     try clear hx115_22
     try clear hx115_23
     try clear hx115_24
     try clear hx115_25
     try clear hx115_26
     try clear hx115_27
     try clear hx115_28
     try clear hx115_29
     try clear hx115_3
     try clear hx115_30
     try clear hx115_31
     try clear hx115_32
     try clear hx115_33
     try clear hx115_34
     try clear hx115_35
     try clear hx115_36
     try clear hx115_37
     try clear hx115_38
     try clear hx115_39
     try clear hx115_4
     try clear hx115_40
     try clear hx115_41
     try clear hx115_42
     try clear hx115_43
     try clear hx115_44
     try clear hx115_45
     try clear hx115_46
     try clear hx115_47
     try clear hx115_48
     try clear hx115_49
     try clear hx115_5
     try clear hx115_50
     try clear hx115_51
     try clear hx115_52
     try clear hx115_53
     try clear hx115_6
     try clear hx115_7
     try clear hx115_8
     try clear hx115_9
     try clear hx116_0
     try clear p115
     try clear p116
     try clear p2
     try clear q115
     try clear q116
     obtain ⟨kq, x38_5, rfl, HA, HJ5, ⟨mc5, rfl⟩⟩ := hcut
     cases kq with
     | zero => exact absurd HA.out (by simp [shackleref17_provides.j1])
     | succ kj5 =>
      have H := HA.out
      clear HA
      simp only [shackleref17_provides.j1] at H
      by_cases c11 : x38_5 = true
      ·subst c11
       have H1 : (shackleref17_provides.l0 kj5 l0 l1 a2 a3 (wrap64 (x9_1 + 1))) = some r := by rw [if_pos rfl] at H; exact H
       clear H
       have H := H1
       clear H1
       have H' := Aside0.mk H
       clear H
       go_wp2
       go_roundg kj5
       case measure => have := HK1.out; have := HJ5.out; omega
       case rel => exact ⟨(wrap64 (x9_1 + 1)), (by first | rfl | (simp; done) | (simp [*]; done)), H', ⟨by have := HK1.out; have := HJ5.out; omega⟩, by repeat (first | exact Drawn0.refl _ | apply Drawn0.step)⟩
      ·replace c11 := Bool.eq_false_iff.mpr c11
       subst c11
       have H1 : (if 0 ≤ x9_1 then (if x9_1 < (l0.length : Int) then (shackleref17_provides.l1 kj5 a3 ((rd_T127 l0 x9_1).f8.f2) 0) else (none)) else (none)) = some r := by rw [if_neg (show ¬ (false = true) by decide)] at H; exact H
       clear H
       have H := H1
       clear H1
       by_cases c12 : 0 ≤ x9_1
       ·rw [if_pos c12] at H
        have c12b0 : decide (0 ≤ x9_1) = true := decide_eq_true c12
        clear c12
        by_cases c13 : x9_1 < (l0.length : Int)
        ·rw [if_pos c13] at H
         have c13b0 : decide (x9_1 < (l0.length : Int)) = true := decide_eq_true c13
         clear c13
         have H' := Aside0.mk H
         clear H
         have p117 : 0 ≤ (x9_1 : Int) := of_decide_eq_true (by assumption)
         have q117 : x9_1 < (l0.length : Int) := of_decide_eq_true (by assumption)
         obtain ⟨ad117, A117_2, c117_2, A117_4, c117_4, A117_44, c117_44, A117_45, c117_45, A117_47, c117_47, A117_48, c117_48, A117_49, c117_49, A117_50, c117_50, A117_51, c117_51, A117_52, c117_52, A117_53, c117_53, e117, hx117_0, hx117_1, hx117_2, hx117_3, hx117_4, hx117_5, hx117_6, hx117_7, hx117_8, hx117_9, hx117_10, hx117_11, hx117_12, hx117_13, hx117_14, hx117_15, hx117_16, hx117_17, hx117_18, hx117_19, hx117_20, hx117_21, hx117_22, hx117_23, hx117_24, hx117_25, hx117_26, hx117_27, hx117_28, hx117_29, hx117_30, hx117_31, hx117_32, hx117_33, hx117_34, hx117_35, hx117_36, hx117_37, hx117_38, hx117_39, hx117_40, hx117_41, hx117_42, hx117_43, hx117_44, hx117_45, hx117_46, hx117_47, hx117_48, hx117_49, hx117_50, hx117_51, hx117_52, hx117_53, hl117_2, hi117_2, hl117_4, hi117_4, hl117_44, hi117_44, hl117_45, hi117_45, hl117_47, hi117_47, hl117_48, hi117_48, hl117_49, hi117_49, hl117_50, hi117_50, hl117_51, hi117_51, hl117_52, hi117_52, hl117_53, hi117_53⟩ := at_T127 HR0.out x9_1 p117 q117
         cases e117
         have HR117_2 := Aside0.mk hi117_2
         have HC117_2 := Aside0.mk hl117_2
         clear hi117_2 hl117_2
         have HR117_4 := Aside0.mk hi117_4
         have HC117_4 := Aside0.mk hl117_4
         clear hi117_4 hl117_4
         have HR117_44 := Aside0.mk hi117_44
         have HC117_44 := Aside0.mk hl117_44
         clear hi117_44 hl117_44
         have HR117_45 := Aside0.mk hi117_45
         have HC117_45 := Aside0.mk hl117_45
         clear hi117_45 hl117_45
         have HR117_47 := Aside0.mk hi117_47
         have HC117_47 := Aside0.mk hl117_47
         clear hi117_47 hl117_47
         have HR117_48 := Aside0.mk hi117_48
         have HC117_48 := Aside0.mk hl117_48
         clear hi117_48 hl117_48
         have HR117_49 := Aside0.mk hi117_49
         have HC117_49 := Aside0.mk hl117_49
         clear hi117_49 hl117_49
         have HR117_50 := Aside0.mk hi117_50
         have HC117_50 := Aside0.mk hl117_50
         clear hi117_50 hl117_50
         have HR117_51 := Aside0.mk hi117_51
         have HC117_51 := Aside0.mk hl117_51
         clear hi117_51 hl117_51
         have HR117_52 := Aside0.mk hi117_52
         have HC117_52 := Aside0.mk hl117_52
         clear hi117_52 hl117_52
         have HR117_53 := Aside0.mk hi117_53
         have HC117_53 := Aside0.mk hl117_53
         clear hi117_53 hl117_53
         replace p117 := eq_true p117
         replace q117 := eq_true q117
         go_wp2
         go_loopg [11] kj5 (fun kq v11 w' => ∃ (x11_3 : Int), v11 = .int .i64 x11_3 ∧ Aside0 (shackleref17_provides.l1 kq a3 ((rd_T127 l0 x9_1).f8.f2) x11_3 = some r) ∧ Aside0 (kq ≤ kj5) ∧ Drawn0 w w')
         case atStart => exact ⟨(0), (by first | rfl | (simp; done) | (simp [*]; done)), H', ⟨Nat.le_refl _⟩, by repeat (first | exact Drawn0.refl _ | apply Drawn0.step)⟩
         case round =>
          clear H'
          try clear c1
          try clear p1
          try clear q1
          try clear hx1
          try clear p2
          try clear c5
          try clear c5b0
          try clear p6
          try clear c7
          try clear c7b0
          try clear c8
          try clear c8b0
          try clear c8b1
          try clear c9
          try clear c9b0
          try clear c10
          try clear c10b0
          try clear c11
          try clear p11
          try clear q11
          try clear hx11
          try clear c12
          try clear c12b0
          try clear c13
          try clear c13b0
          try clear hx115_0
          try clear hx115_1
          try clear hx115_10
          try clear hx115_11
          try clear hx115_12
          try clear hx115_13
          try clear hx115_14
          try clear hx115_15
          try clear hx115_16
          try clear hx115_17
          try clear hx115_18
          try clear hx115_19
          try clear hx115_2
          try clear hx115_20
          try clear hx115_21
          try clear hx115_22
          try clear hx115_23
          try clear hx115_24
          try clear hx115_25
          try clear hx115_26
          try clear hx115_27
          try clear hx115_28
          try clear hx115_29
          try clear hx115_3
          try clear hx115_30
          try clear hx115_31
          try clear hx115_32
          try clear hx115_33
          try clear hx115_34
          try clear hx115_35
          try clear hx115_36
          try clear hx115_37
          try clear hx115_38
          try clear hx115_39
          try clear hx115_4
          try clear hx115_40
          try clear hx115_41
          try clear hx115_42
          try clear hx115_43
          try clear hx115_44
          try clear hx115_45
          try clear hx115_46
          try clear hx115_47
          try clear hx115_48
          try clear hx115_49
          try clear hx115_5
          try clear hx115_50
          try clear hx115_51
          try clear hx115_52
          try clear hx115_53
          try clear hx115_6
          try clear hx115_7
          try clear hx115_8
          try clear hx115_9
          try clear hx116_0
          try clear hx117_0
          try clear hx117_1
          try clear hx117_10
          try clear hx117_11
          try clear hx117_12
          try clear hx117_13
          try clear hx117_14
          try clear hx117_15
          try clear hx117_16
          try clear hx117_17
          try clear hx117_18
          try clear hx117_19
          try clear hx117_2
          try clear hx117_20
          try clear hx117_21
          try clear hx117_22
          try clear hx117_23
          try clear hx117_24
          try clear hx117_25
          try clear hx117_26
          try clear hx117_27
          try clear hx117_28
          try clear hx117_29
          try clear hx117_3
          try clear hx117_30
          try clear hx117_31
          try clear hx117_32
          try clear hx117_33
          try clear hx117_34
          try clear hx117_35
          try clear hx117_36
          try clear hx117_37
          try clear hx117_38
          try clear hx117_39
          try clear hx117_4
          try clear hx117_40
          try clear hx117_41
          try clear hx117_42
          try clear hx117_43
          try clear hx117_44
          try clear hx117_45
          try clear hx117_46
          try clear hx117_47
          try clear hx117_48
          try clear hx117_49
          try clear hx117_5
          try clear hx117_50
          try clear hx117_51
          try clear hx117_52
          try clear hx117_53
          try clear hx117_6
          try clear hx117_7
          try clear hx117_8
          try clear hx117_9
          try clear p1
          try clear p115
          try clear p116
          try clear p117
          try clear p2
          try clear q1
          try clear q115
          try clear q116
          try clear q117
          obtain ⟨x11_3, rfl, HA, HK3, ⟨m3, rfl⟩⟩ := hrel
          cases gk with
          | zero => exact absurd HA.out (by simp [shackleref17_provides.l1])
          | succ k3 =>
           have H := HA.out
           clear HA
           simp only [shackleref17_provides.l1] at H
           by_cases c14 : x11_3 < (((rd_T127 l0 x9_1).f8.f2).length : Int)
           ·rw [if_pos c14] at H
            have c14b0 : decide (x11_3 < (((rd_T127 l0 x9_1).f8.f2).length : Int)) = true := decide_eq_true c14
            clear c14
            by_cases c15 : 0 ≤ x11_3
            ·rw [if_pos c15] at H
             have c15b0 : decide (0 ≤ x11_3) = true := decide_eq_true c15
             clear c15
             by_cases c16 : ((rd_T63 ((rd_T127 l0 x9_1).f8.f2) x11_3).f2).toList = a3.toList
             ·rw [if_pos c16] at H
              have c16b0 : (((rd_T63 ((rd_T127 l0 x9_1).f8.f2) x11_3).f2).toList == a3.toList) = true := beq_iff_eq.mpr c16
              have c16b1 : (((rd_T63 ((rd_T127 l0 x9_1).f8.f2) x11_3).f2).toList != a3.toList) = false := bne_eq_false_iff_eq.mpr c16
              clear c16
              obtain rfl := Option.some.inj H
              have p118 : 0 ≤ (x11_3 : Int) := of_decide_eq_true (by assumption)
              have q118 : x11_3 < (((rd_T127 l0 x9_1).f8.f2).length : Int) := of_decide_eq_true (by assumption)
              obtain ⟨ad118, A118_3, c118_3, e118, hx118_0, hx118_1, hx118_2, hx118_3, hl118_3, hi118_3⟩ := at_T63 HR117_48.out x11_3 p118 q118
              cases e118
              have HR118_3 := Aside0.mk hi118_3
              have HC118_3 := Aside0.mk hl118_3
              clear hi118_3 hl118_3
              replace p118 := eq_true p118
              replace q118 := eq_true q118
              go_wp2
              go_ret
              exact ⟨by first | rfl | (simp; done) | (simp [*]; done), by repeat (first | exact Drawn0.refl _ | apply Drawn0.step)⟩
             ·rw [if_neg c16] at H
              have c16b0 : (((rd_T63 ((rd_T127 l0 x9_1).f8.f2) x11_3).f2).toList == a3.toList) = false := beq_eq_false_iff_ne.mpr c16
              have c16b1 : (((rd_T63 ((rd_T127 l0 x9_1).f8.f2) x11_3).f2).toList != a3.toList) = true := bne_iff_ne.mpr c16
              have H' := Aside0.mk H
              clear H
              have p118 : 0 ≤ (x11_3 : Int) := of_decide_eq_true (by assumption)
              have q118 : x11_3 < (((rd_T127 l0 x9_1).f8.f2).length : Int) := of_decide_eq_true (by assumption)
              obtain ⟨ad118, A118_3, c118_3, e118, hx118_0, hx118_1, hx118_2, hx118_3, hl118_3, hi118_3⟩ := at_T63 HR117_48.out x11_3 p118 q118
              cases e118
              have HR118_3 := Aside0.mk hi118_3
              have HC118_3 := Aside0.mk hl118_3
              clear hi118_3 hl118_3
              replace p118 := eq_true p118
              replace q118 := eq_true q118
              go_wp2
              go_roundg k3
              case measure => have := HK1.out; have := HJ5.out; have := HK3.out; omega
              case rel => exact ⟨(wrap64 (x11_3 + 1)), (by first | rfl | (simp; done) | (simp [*]; done)), H', ⟨by have := HK1.out; have := HJ5.out; have := HK3.out; omega⟩, by repeat (first | exact Drawn0.refl _ | apply Drawn0.step)⟩
            ·rw [if_neg c15] at H
             exact absurd H (by simp)
           ·rw [if_neg c14] at H
            have c14b0 : decide (x11_3 < (((rd_T127 l0 x9_1).f8.f2).length : Int)) = false := decide_eq_false c14
            clear c14
            obtain rfl := Option.some.inj H
            go_wp2
            go_ret
            exact ⟨by first | rfl | (simp; done) | (simp [*]; done), by repeat (first | exact Drawn0.refl _ | apply Drawn0.step)⟩
        ·rw [if_neg c13] at H
         exact absurd H (by simp)
       ·rw [if_neg c12] at H
        exact absurd H (by simp)
   ·rw [if_neg c5] at H
    have c5b0 : decide (x9_1 < (l0.length : Int)) = false := decide_eq_false c5
    clear c5
    obtain rfl := Option.some.inj H
    go_wp2
    go_ret
    exact ⟨by first | rfl | (simp; done) | (simp [*]; done), by repeat (first | exact Drawn0.refl _ | apply Drawn0.step)⟩

end Go.Proofs.Ythopdoamajjojaa.QBindW
