/- The reference's Live and Loop come to the same. -/
import Derived.Test.YtlohkhadbkahdaaQGraphx6
import Derived.Test.YtlohkhadbkahdaaQGraphx7
import Derived.Test.YtlohkhadbkahdaaGraphRunD
namespace Go.Proofs.Ytlohkhadbkahdaa.Pure
open Go.RowKit Go.Proofs.Ytlohkhadbkahdaa.QGraph Go.Proofs.YtlohkhadbkahdaaW.PrintWords Go.Proofs.YtlohkhadbkahdaaW.PrintLast Go.Proofs.Ytlohkhadbkahdaa.GraphS
set_option linter.unusedVariables false
namespace Gr
theorem rloop_l (deps : List (List Int)) (hn : deps.length ≤ 1048576) (hr : ∀ z ∈ deps, z.length ≤ 1048576) : ∀ (d : Nat) (i : Int) (b : Bool), 0 ≤ i → i + d = deps.length → (b = true ↔ ∃ i', i ≤ i' ∧ i' < (deps.length : Int) ∧ GraphS.Reach deps (kids deps i') i') → Ev (fun k => shackleref16_Loop.l0 k deps i) b := by
  intro d
  induction d with
  | zero =>
    intro i b h0 h1 hb
    have : b = false := by
      rcases b with _ | _
      · rfl
      · obtain ⟨i', h2, h3, _⟩ := hb.1 rfl
        omega
    subst this
    refine Ev.step (f := fun _ => some false) (fun k => ?_) (Ev.now _)
    rw [shackleref16_Loop.l0, if_neg (by omega)]
  | succ d ih =>
    intro i b h0 h1 hb
    have hs := scopeF_spec deps (kids deps i)
    have h2 := Ev.bind (rscope deps (kids deps i) hn hr (kids_len hr i)) (f := fun k t => (shackleref16_has.f k t i).bind fun t287 => if t287 = true then some true else shackleref16_Loop.l0 k deps (i + 1)) (r := b) (Ev.bind (has (scopeF deps (kids deps i)) i (by omega)) (by
      by_cases e : GraphS.Reach deps (kids deps i) i
      · have hbt : b = true := hb.2 ⟨i, by omega, by omega, e⟩
        subst hbt
        refine Ev.congr (fun k => ?_) (Ev.now true)
        rw [if_pos (decide_eq_true ((hs.2.1 i).2 e))]
      · refine Ev.congr (fun k => ?_) (ih (i + 1) b (by omega) (by omega) (hb.trans ⟨fun ⟨i', h2, h3, h4⟩ => by
          by_cases e2 : i' = i
          · subst e2; exact absurd h4 e
          · exact ⟨i', by omega, h3, h4⟩, fun ⟨i', h2, h3, h4⟩ => ⟨i', by omega, h3, h4⟩⟩))
        rw [if_neg (by rw [decide_eq_true_iff]; exact fun h => e ((hs.2.1 i).1 h))]))
    refine Ev.step (fun k => ?_) h2
    rw [shackleref16_Loop.l0, if_pos (by omega), if_pos h0, wrap_in i h0 (by omega), rd_L]
theorem rloop (deps : List (List Int)) (hn : deps.length ≤ 1048576) (hr : ∀ z ∈ deps, z.length ≤ 1048576) (b : Bool) (hb : b = true ↔ Ring deps) : Ev (fun k => shackleref16_Loop.f k deps) b :=
  rloop_l deps hn hr deps.length 0 b (by omega) (by omega) (hb.trans ⟨fun ⟨i, h1, h2⟩ => ⟨i, h1.1, h1.2, h2⟩, fun ⟨i, h1, h2, h3⟩ => ⟨i, ⟨h1, h2⟩, h3⟩⟩)
theorem rd_setb {had : List Bool} {x y : Int} {v : Bool} (hx : Okx had.length x) (hy : 0 ≤ y) : rdOf false (had.set x.toNat v) y = if y = x then v else rdOf false had y := by
  obtain ⟨j, rfl, hj⟩ := hx.nat
  obtain ⟨i, rfl⟩ := Int.eq_ofNat_of_zero_le hy
  unfold rdOf
  simp only [Int.toNat_natCast]
  by_cases h : i = j
  · subst h
    simp [hj]
  · rw [if_neg (by omega)]
    simp [List.getD_eq_getElem?_getD, List.getElem?_set_ne (Ne.symm h)]
/-- on the way: the roots are marked, and only what is reached -/
structure Way (deps : List (List Int)) (roots : List Int) (out : List Bool) : Prop where
  len : out.length = deps.length
  rts : ∀ x ∈ roots, Okx deps.length x → rdOf false out x = true
  only : ∀ x, Okx deps.length x → rdOf false out x = true → GraphS.Reach deps roots x
section
variable {deps : List (List Int)} {roots : List Int} {T : List Bool}
theorem way_end {out : List Bool} (hT : Marks deps.length T (GraphS.Reach deps roots)) (hw : Way deps roots out) (hc : ∀ x, Okx deps.length x → rdOf false out x = true → ∀ y ∈ kids deps x, Okx deps.length y → rdOf false out y = true) : out = T := by
  refine Marks.ext (P := GraphS.Reach deps roots) ⟨hw.len, fun x hx => ⟨hw.only x hx, fun h => ?_⟩⟩ hT
  clear hx
  induction h with
  | root hm ho => exact hw.rts _ hm ho
  | step hr hk ho ih => exact hc _ hr.ok ih _ hk ho
theorem rlive_l3 (hn : deps.length ≤ 1048576) (hr : ∀ z ∈ deps, z.length ≤ 1048576) (c : Nat) (i : Int) (hi : Okx deps.length i)
    (hnext : ∀ out more, Way deps roots out → out.count false < c + 1 → (more = true → out.count false < c) → (more = false → ∀ x, Okx deps.length x → x < i + 1 → rdOf false out x = true → ∀ y ∈ kids deps x, Okx deps.length y → rdOf false out y = true) → Ev (fun k => shackleref16_Live.l2 k deps out more (i + 1)) T) :
    ∀ (d : Nat) (j : Int) (out : List Bool) (more : Bool), 0 ≤ j → j + d = (kids deps i).length → Way deps roots out → out.count false < c + 1 → (more = true → out.count false < c) →
      (more = false → (∀ x, Okx deps.length x → x < i → rdOf false out x = true → ∀ y ∈ kids deps x, Okx deps.length y → rdOf false out y = true) ∧ (rdOf false out i = true → ∀ j', 0 ≤ j' → j' < j → Okx deps.length (rd (kids deps i) j') → rdOf false out (rd (kids deps i) j') = true)) →
      Ev (fun k => shackleref16_Live.l3 k deps out more i j) T := by
  have hkl := kids_len hr i
  intro d
  induction d with
  | zero =>
    intro j out more h0 h1 hw hc hm hm2
    have := hnext out more hw hc hm (fun hf x hx hxi hxo y hy hoy => by
      obtain ⟨ha, hb⟩ := hm2 hf
      rcases (show x < i ∨ x = i by omega) with h | rfl
      · exact ha x hx h hxo y hy hoy
      · obtain ⟨p, hp0, hp1, rfl⟩ := mem_rd hy
        exact hb hxo p hp0 (by omega) hoy)
    refine Ev.step (fun k => ?_) this
    rw [shackleref16_Live.l3, if_pos hi.1, if_pos hi.2, if_neg (by rw [rd_L]; omega), wrap_in i hi.1 (by have := hi.2; omega)]
  | succ d ih =>
    intro j out more h0 h1 hw hc hm hm2
    have hlen := hw.len
    have hjl : j < ((kids deps i).length : Int) := by omega
    by_cases hset : rdOf false out i = true ∧ Okx deps.length (rd (kids deps i) j) ∧ rdOf false out (rd (kids deps i) j) = false
    · obtain ⟨g1, g2, g3⟩ := hset
      have hcs := count_set_false g2.1 (by rw [hlen]; exact g2.2) g3
      have hg2 : Okx out.length (rd (kids deps i) j) := by rw [hlen]; exact g2
      have hw2 : Way deps roots (out.set (rd (kids deps i) j).toNat true) := by
        refine ⟨by simpa using hlen, fun x hx ho => ?_, fun x hx h => ?_⟩
        · rw [rd_set hg2 ho.1]
          by_cases e : x = rd (kids deps i) j
          · rw [if_pos e]
          · rw [if_neg e]; exact hw.rts x hx ho
        · rw [rd_set hg2 hx.1] at h
          by_cases e : x = rd (kids deps i) j
          · rw [e]; exact .step (hw.only i hi g1) (rd_mem h0 hjl) g2
          · rw [if_neg e] at h; exact hw.only x hx h
      have := ih (j + 1) (out.set (rd (kids deps i) j).toNat true) true (by omega) (by omega) hw2 (by omega) (fun _ => by omega) (fun h => by cases h)
      refine Ev.step (fun k => ?_) this
      rw [shackleref16_Live.l3, if_pos hi.1, if_pos hi.2, if_pos (by rw [rd_L]; exact hjl), if_pos h0, if_pos (by rw [hlen]; exact hi.2), if_pos g1]
      have g5 : rd (rd_L1 deps i) j ≥ 0 := g2.1
      have g6 : rd (rd_L1 deps i) j < (deps.length : Int) := g2.2
      have g7 : rd (rd_L1 deps i) j < (out.length : Int) := hg2.2
      have g8 : rdOf false out (rd (rd_L1 deps i) j) = false := g3
      rw [if_pos g5, if_pos g6, if_pos g5, if_pos g7, if_neg (by rw [g8]; decide), wrap_in j h0 (by omega)]
      rfl
    · have := ih (j + 1) out more (by omega) (by omega) hw hc hm (fun hf => by
        obtain ⟨ha, hb⟩ := hm2 hf
        refine ⟨ha, fun hi2 j' h2 h3 hok => ?_⟩
        by_cases e : j' = j
        · subst e
          rcases hv : rdOf false out (rd (kids deps i) j') with _ | _
          · exact absurd ⟨hi2, hok, hv⟩ hset
          · rfl
        · exact hb hi2 j' h2 (by omega) hok)
      refine Ev.step (fun k => ?_) this
      rw [shackleref16_Live.l3, if_pos hi.1, if_pos hi.2, if_pos (by rw [rd_L]; exact hjl), if_pos h0, if_pos (by rw [hlen]; exact hi.2), wrap_in j h0 (by omega)]
      by_cases g1 : rdOf false out i = true
      · rw [if_pos g1]
        by_cases g2 : rd (rd_L1 deps i) j ≥ 0
        · rw [if_pos g2]
          by_cases g4 : rd (rd_L1 deps i) j < (deps.length : Int)
          · have g7 : rdOf false out (rd (rd_L1 deps i) j) = true := by
              rcases hv : rdOf false out (rd (rd_L1 deps i) j) with _ | _
              · exact absurd ⟨g1, ⟨g2, g4⟩, hv⟩ hset
              · rfl
            rw [if_pos g4, if_pos g2, if_pos (by rw [hlen]; exact g4), if_pos g7]
          · rw [if_neg g4]
        · rw [if_neg g2]
      · rw [if_neg g1]
theorem rlive_l1 (hn : deps.length ≤ 1048576) (hr : ∀ z ∈ deps, z.length ≤ 1048576) (hT : Marks deps.length T (GraphS.Reach deps roots)) : ∀ (c : Nat) (out : List Bool), Way deps roots out → out.count false < c → Ev (fun k => shackleref16_Live.l1 k deps out true) T := by
  intro c
  induction c with
  | zero => intro out _ h; omega
  | succ c ihc =>
    intro out hw hc
    have hl2 : ∀ (d : Nat) (i : Int) (out : List Bool) (more : Bool), 0 ≤ i → i + d = deps.length → Way deps roots out → out.count false < c + 1 → (more = true → out.count false < c) → (more = false → ∀ x, Okx deps.length x → x < i → rdOf false out x = true → ∀ y ∈ kids deps x, Okx deps.length y → rdOf false out y = true) → Ev (fun k => shackleref16_Live.l2 k deps out more i) T := by
      intro d
      induction d with
      | zero =>
        intro i out more h0 h1 hw hc hm hm2
        have hend : Ev (fun k => shackleref16_Live.l1 k deps out more) T := by
          cases more with
          | true => exact ihc out hw (hm rfl)
          | false =>
            have := way_end hT hw (fun x hx => hm2 rfl x hx (by have := hx.2; omega))
            refine Ev.step (f := fun _ => some T) (fun k => ?_) (Ev.now _)
            rw [shackleref16_Live.l1, if_neg (by decide), this]
        refine Ev.step (fun k => ?_) hend
        rw [shackleref16_Live.l2, if_neg (by omega)]
      | succ d ih =>
        intro i out more h0 h1 hw hc hm hm2
        have := rlive_l3 hn hr c i ⟨h0, by omega⟩ (fun o m a1 a2 a3 a4 => ih (i + 1) o m (by omega) (by omega) a1 a2 a3 a4) (kids deps i).length 0 out more (by omega) (by omega) hw hc hm (fun hf => ⟨hm2 hf, fun _ j' h2 h3 => by omega⟩)
        refine Ev.step (fun k => ?_) this
        rw [shackleref16_Live.l2, if_pos (by omega)]
    refine Ev.step (fun k => ?_) (hl2 deps.length 0 out false (by omega) (by omega) hw hc (fun h => by cases h) (fun _ x hx h => by have := hx.1; omega))
    rw [shackleref16_Live.l1, if_pos rfl]
end
theorem rlive_l0 (deps : List (List Int)) (counts : List Int) (hn : deps.length ≤ 1048576) (hr : ∀ z ∈ deps, z.length ≤ 1048576) (hc : counts.length ≤ 1048576) : ∀ (d : Nat) (i : Int) (out : List Bool), 0 ≤ i → i + d = deps.length → Marks deps.length out (fun x => x < i ∧ x < (counts.length : Int) ∧ rd counts x > 0) → Ev (fun k => shackleref16_Live.l0 k deps counts out i) (liveF deps counts) := by
  have hT := liveF_spec deps counts
  have hj : ∀ (i : Int) (out : List Bool), (∀ x, Okx deps.length x → (x < i ∨ (counts.length : Int) ≤ x)) → Marks deps.length out (fun x => x < i ∧ x < (counts.length : Int) ∧ rd counts x > 0) → Ev (fun k => shackleref16_Live.j1 k deps out) (liveF deps counts) := by
    intro i out hi hm
    refine Ev.step (fun k => ?_) (rlive_l1 (roots := rootsTo counts deps.length) hn hr hT (out.count false + 1) out ⟨hm.1, fun x hx ho => ?_, fun x hx h => ?_⟩ (by omega))
    · rw [shackleref16_Live.j1]
    · obtain ⟨_, h2, h3⟩ := (mem_rootsTo counts x _).1 hx
      exact (hm.2 x ho).2 ⟨by rcases hi x ho with h | h <;> omega, h2, h3⟩
    · exact .root ((mem_rootsTo counts x _).2 ⟨hx, ((hm.2 x hx).1 h).2⟩) hx
  intro d
  induction d with
  | zero =>
    intro i out h0 h1 hm
    refine Ev.step (fun k => ?_) (hj i out (fun x hx => .inl (by have := hx.2; omega)) hm)
    rw [shackleref16_Live.l0, if_neg (by omega)]
  | succ d ih =>
    intro i out h0 h1 hm
    by_cases hic : i < (counts.length : Int)
    · have hio : Okx out.length i := by rw [hm.1]; exact ⟨h0, by omega⟩
      have := ih (i + 1) (out.set i.toNat (decide (rd counts i > 0))) (by omega) (by omega) ⟨by simpa using hm.1, fun x hx => by
        rw [rd_setb hio hx.1]
        by_cases e : x = i
        · subst e
          rw [if_pos rfl, decide_eq_true_iff]
          exact ⟨fun h => ⟨by omega, hic, h⟩, fun h => h.2.2⟩
        · rw [if_neg e, hm.2 x hx]
          exact ⟨fun h => ⟨by omega, h.2⟩, fun h => ⟨by omega, h.2⟩⟩⟩
      refine Ev.step (fun k => ?_) this
      rw [shackleref16_Live.l0, if_pos (by omega), if_pos hic, if_pos h0, if_pos hio.2, wrap_in i h0 (by omega)]
    · refine Ev.step (fun k => ?_) (hj i out (fun x hx => by omega) hm)
      rw [shackleref16_Live.l0, if_pos (by omega), if_neg hic]
theorem rlive (deps : List (List Int)) (counts : List Int) (hn : deps.length ≤ 1048576) (hr : ∀ z ∈ deps, z.length ≤ 1048576) (hc : counts.length ≤ 1048576) : Ev (fun k => shackleref16_Live.f k deps counts) (liveF deps counts) := by
  refine Ev.congr (fun k => ?_) (rlive_l0 deps counts hn hr hc deps.length 0 (List.replicate deps.length false) (by omega) (by omega) ((Marks.none _).congr (fun x hx => ⟨fun h => h.elim, fun h => by have := hx.1; omega⟩)))
  unfold shackleref16_Live.f
  rw [if_pos (by omega), if_pos (by simp; omega), Int.toNat_natCast]
end Gr
end Go.Proofs.Ytlohkhadbkahdaa.Pure
