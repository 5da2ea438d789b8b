/- Contracts of package major: Tick, Next, follow; blackboxref18.Same. -/
import Derived.Test.YtcfadhjiijngmaaTypes
import Derived.Test.YtcfadhjiijngmaaMajorData
import Derived.Test.YtcfadhjiijngmaaMajor2
namespace Go.Proofs.Ytcfadhjiijngmaa
open Go Go.RowKit Bx Go.Proofs

/-- The plan of the windows ahead alone. -/
def _root_.Bx.PlnM.pre (p : PlnM) (k : Nat) : PlnM := ⟨0, [], p.ws.take k, [], none, p.wa, none, 0, p.wc, 0⟩
theorem _root_.Bx.PlnM.pre_cl (p : PlnM) {k : Nat} (hk : k ≤ p.ws.length) : (p.pre k).cl = [.int .i64 0, .slice none 0 0, .slice p.wa k p.wc, .slice none 0 0] := by
  unfold PlnM.cl PlnM.pre
  simp only [List.length_take, List.length_nil]
  rw [show min k p.ws.length = k by omega]
theorem _root_.Bx.PlnS.pre {F : Nat → Prop} {w : World} {p : PlnM} (h : PlnS F w p) (k : Nat) : PlnS F w (p.pre k) := by
  refine ⟨Sl.nil _ _ _ _, ?_, Sl.nil _ _ _ _, fun m hm => (nomatch hm), ⟨by show (-9223372036854775808 : Int) ≤ 0; omega, by show (0 : Int) ≤ 9223372036854775807; omega⟩, fun x hx => h.2.2.2.2.2.1 x (List.mem_of_mem_take hx), fun c hc => (nomatch hc), ⟨Nat.le_refl _, Nat.zero_le _⟩, ⟨?_, h.2.2.2.2.2.2.2.2.1.2⟩, ⟨Nat.le_refl _, Nat.zero_le _⟩⟩
  · show Sl F w 2 p.wa ((p.ws.take k).map I2)
    rw [List.map_take]
    exact h.2.1.take k
  · have h1 := h.2.2.2.2.2.2.2.2.1.1
    show (p.ws.take k).length ≤ p.wc
    rw [List.length_take]; omega
theorem tick_no {p : Pln} {s : Slt} (he : p.err ≠ 0) : p.tick s = (0, p.err) := if_pos he
theorem tick_bad {p : Pln} {s : Slt} (he : p.err = 0) (hb : p.tickBad s = true) : p.tick s = (0, 6) := by unfold Pln.tick; rw [if_neg (by simp [he]), if_pos hb]
theorem tick_far {p : Pln} {s : Slt} (he : p.err = 0) (hb : p.tickBad s = false) (hn : p.tickN s < 0 ∨ 1099511627776 < p.tickN s ∨ p.slot (p.tickN s) ≠ s) : p.tick s = (0, 6) := by
  unfold Pln.tick; rw [if_neg (by simp [he]), if_neg (by simp [hb]), if_pos hn]
theorem tick_yes {p : Pln} {s : Slt} (he : p.err = 0) (hb : p.tickBad s = false) (hn : ¬ (p.tickN s < 0 ∨ 1099511627776 < p.tickN s ∨ p.slot (p.tickN s) ≠ s)) : p.tick s = (p.tickN s, 0) := by
  unfold Pln.tick; rw [if_neg (by simp [he]), if_neg (by simp [hb]), if_neg hn]
theorem isTick_iff {n : Int} : isTick n = true ↔ 0 ≤ n ∧ n ≤ 1099511627776 := by unfold isTick; exact decide_eq_true_iff
theorem isTick_not {n : Int} : isTick n = false ↔ ¬ (0 ≤ n ∧ n ≤ 1099511627776) := by unfold isTick; exact decide_eq_false_iff_not

set_option maxRecDepth 10000 in
set_option maxHeartbeats 2000000 in
theorem tickS_c {F : Nat → Prop} {w : World} {p : PlnM} {s : Slt} (hP : PlnS F w p) (hsm : p.ps.length ≤ 1000 ∧ p.ws.length ≤ 1000 ∧ p.cs.length ≤ 1000) : Calls Try.prog 16 #[.agg p.cl.toArray, .agg s.cells.toArray] w (Ret fun v w' => Kp0 w w' ∧ v = .tuple #[.int .i64 (p.r.tick s).1, .int .i64 (p.r.tick s).2]) := by
  have hP := hP.old
  obtain ⟨NW, hNW⟩ : ∃ x, x = w.heap.size := ⟨_, rfl⟩
  rw [← hNW] at hP
  have T : Kp0 w w := Kp.refl _ _
  refine calls_start Try.func16 rfl (n := 65) rfl rfl rfl ?_
  refine CW_seq ?_
  refine CW_reg rfl ?_
  refine OW_st rfl (Stp_box (l := [.int _ _, .slice _ _ _, .slice _ _ _, .slice _ _ _]) rfl rfl rfl ?_)
  intro b1 w1 hb1 hz1 E1 B1
  have L1 : _ ≤ b1 := Nat.le_trans T.size (Nat.le_of_eq hb1.symm)
  have hP := hP.keep0 E1
  have T := T.keep0 E1
  replace B1 : Blk w1 b1 26 (p.cl) := B1
  refine OW_st rfl (Stp_box (l := [.int _ _, .int _ _, .int _ _]) rfl rfl rfl ?_)
  intro b2 w2 hb2 hz2 E2 B2
  have L2 : _ ≤ b2 := Nat.le_trans T.size (Nat.le_of_eq hb2.symm)
  have hP := hP.keep0 E2
  have T := T.keep0 E2
  have B1 := B1.keep0 E2
  replace B2 : Blk w2 b2 29 (s.cells) := B2
  refine OW_ev (Ev_c (.inr rfl)) rfl ?_
  refine OW_ev (Ev_c (.inr rfl)) rfl ?_
  refine OW_nil ?_
  refine CW_seq ?_
  refine CW_seq ?_
  refine CW_reg rfl ?_
  refine OW_ev (Ev_loadAgg (l := [.int _ _, .slice _ _ _, .slice _ _ _, .slice _ _ _]) agg_26 rfl rfl (B1.sub 0 4 (Nat.le_of_ble_eq_true rfl)) rfl) rfl ?_
  refine OW_st rfl (Stp_call ent_17 rfl rfl rfl (check_c hP hsm) ?_)
  rintro _ w3 ⟨E3, rfl⟩
  have Z3 := E3.size
  have hP := hP.keep0 E3
  have T := T.keep0 E3
  have B1 := B1.keep0 E3
  have B2 := B2.keep0 E3
  refine OW_ev (Ev_mvi (.inr rfl) rfl) rfl ?_
  refine OW_nil ?_
  refine CW_seq ?_
  refine CW_reg rfl ?_
  refine OW_ev (Ev_mvi (.inl rfl) rfl) rfl ?_
  refine OW_ev (Ev_neq rfl rfl rfl) rfl ?_
  refine OW_nil ?_
  refine CW_cond rfl (fun c4 => ?_) (fun c4 => ?_)
  · have d4 := c4
    first | (with_reducible replace d4 := of_decide_eq_true d4) | (with_reducible replace d4 := bnt d4; try (with_reducible replace d4 := of_decide_eq_false d4)) | skip
    have he := d4
    have htk := tick_no (s := s) he
    refine CW_seq ?_
    refine CW_reg rfl ?_
    refine OW_ev (Ev_mvi (.inl rfl) rfl) rfl ?_
    refine OW_ev (Ev_c (.inr rfl)) rfl ?_
    refine OW_ev (Ev_mvi (.inr rfl) rfl) rfl ?_
    refine OW_nil ?_
    refine CW_ret ?_
    refine ⟨rfl, _, (.tmp rfl (.tmp rfl .nil)), ?_⟩
    exact ⟨T, by rw [htk]; rfl⟩
  · have d4 := c4
    first | (with_reducible replace d4 := of_decide_eq_false d4) | (with_reducible replace d4 := bnf d4; try (with_reducible replace d4 := of_decide_eq_true d4)) | skip
    have he : p.r.err = 0 := by omega
    have hok := Pln.ok_of he
    have hfb := hok.frame_bd
    have hwl : 1 ≤ p.ws.length ∧ p.ws.length ≤ 32 := hok.wsl
    refine CW_skip ?_
    refine CW_seq ?_
    refine CW_seq ?_
    refine CW_reg rfl ?_
    refine OW_ev (Ev_fieldAddr fld_29_0 rfl rfl) rfl ?_
    refine OW_ev (Ev_load one_3 rfl rfl (B2.ld (q := 0) rfl)) rfl ?_
    refine OW_st rfl (Stp_call ent_36 rfl rfl rfl (mtick_c _ _) ?_)
    rintro _ w5 ⟨E5, rfl⟩
    have Z5 := E5.size
    have hP := hP.keep0 E5
    have T := T.keep0 E5
    have B1 := B1.keep0 E5
    have B2 := B2.keep0 E5
    refine OW_ev (Ev_not rfl rfl) rfl ?_
    refine OW_ev (Ev_mvb (.inl rfl) rfl) rfl ?_
    refine OW_split (d := .tmp 18) rfl (fun c6 => ?_) (fun c6 => ?_)
    · have d6 := c6
      first | (with_reducible replace d6 := of_decide_eq_true d6) | (with_reducible replace d6 := bnt d6; try (with_reducible replace d6 := of_decide_eq_false d6)) | skip
      have h1 : isTick s.frame = false := by first | exact d6 | simpa using c6
      rw [isTick_not] at h1
      refine OW_no rfl rfl rfl rfl c6 ?_
      refine OW_no rfl rfl rfl rfl c6 ?_
      refine OW_no rfl rfl rfl rfl c6 ?_
      refine OW_no rfl rfl rfl rfl c6 ?_
      refine OW_ev (Ev_pickb_t rfl rfl c6 rfl) rfl ?_
      refine OW_ev (Ev_mvb (.inl rfl) rfl) rfl ?_
      refine OW_no rfl rfl rfl rfl rfl ?_
      refine OW_no rfl rfl rfl rfl rfl ?_
      refine OW_no rfl rfl rfl rfl rfl ?_
      refine OW_ev (Ev_pickb_t rfl rfl rfl rfl) rfl ?_
      refine OW_ev (Ev_mvb (.inl rfl) rfl) rfl ?_
      refine OW_no rfl rfl rfl rfl rfl ?_
      refine OW_no rfl rfl rfl rfl rfl ?_
      refine OW_no rfl rfl rfl rfl rfl ?_
      refine OW_no rfl rfl rfl rfl rfl ?_
      refine OW_no rfl rfl rfl rfl rfl ?_
      refine OW_no rfl rfl rfl rfl rfl ?_
      refine OW_ev (Ev_pickb_t rfl rfl rfl rfl) rfl ?_
      refine OW_nil ?_
      have hb : p.r.tickBad s = true := by unfold Pln.tickBad; exact decide_eq_true (by (have hl : p.r.ws.length = p.ws.length := rfl); omega)
      have htk := tick_bad he hb
      refine CW_cond_t rfl rfl ?_
      refine CW_seq ?_
      refine CW_re [(2, .pointer _), (3, .pointer _), (4, .int _ _), (5, .int _ _)] ⟨rfl, rfl, rfl, rfl, trivial⟩ (fun g => ?_)
      refine CW_reg rfl ?_
      refine OW_ev (Ev_c (.inr rfl)) rfl ?_
      refine OW_ev (Ev_c (.inr rfl)) rfl ?_
      refine OW_nil ?_
      refine CW_ret ?_
      refine ⟨rfl, _, (.tmp rfl (.tmp rfl .nil)), ?_⟩
      exact ⟨T, by rw [htk]; rfl⟩
    · have d6 := c6
      first | (with_reducible replace d6 := of_decide_eq_false d6) | (with_reducible replace d6 := bnf d6; try (with_reducible replace d6 := of_decide_eq_true d6)) | skip
      have h1 : isTick s.frame = true := by first | exact d6 | simpa using c6
      rw [isTick_iff] at h1
      refine OW_yes rfl rfl rfl rfl c6 (Ev.stp (Ev_fieldAddr fld_29_2 rfl rfl) ?_)
      refine OW_yes rfl rfl rfl rfl c6 (Ev.stp (Ev_load one_3 rfl rfl (B2.ld (q := 2) rfl)) ?_)
      refine OW_yes rfl rfl rfl rfl c6 (Stp_call ent_36 rfl rfl rfl (mtick_c _ _) ?_)
      rintro _ w7 ⟨E7, rfl⟩
      have Z7 := E7.size
      have hP := hP.keep0 E7
      have T := T.keep0 E7
      have B1 := B1.keep0 E7
      have B2 := B2.keep0 E7
      refine OW_yes rfl rfl rfl rfl c6 (Ev.stp (Ev_not rfl rfl) ?_)
      refine OW_ev (Ev_pickb_f rfl rfl c6 rfl) rfl ?_
      refine OW_ev (Ev_mvb (.inl rfl) rfl) rfl ?_
      refine OW_split (d := .tmp 24) rfl (fun c8 => ?_) (fun c8 => ?_)
      · have d8 := c8
        first | (with_reducible replace d8 := of_decide_eq_true d8) | (with_reducible replace d8 := bnt d8; try (with_reducible replace d8 := of_decide_eq_false d8)) | skip
        have h2 : ¬ (0 ≤ s.off ∧ s.off ≤ 1099511627776) := by first | (have h3 : isTick s.off = false := by first | exact d8 | simpa using c8); exact isTick_not.1 h3 | omega
        refine OW_no rfl rfl rfl rfl c8 ?_
        refine OW_no rfl rfl rfl rfl c8 ?_
        refine OW_no rfl rfl rfl rfl c8 ?_
        refine OW_ev (Ev_pickb_t rfl rfl c8 rfl) rfl ?_
        refine OW_ev (Ev_mvb (.inl rfl) rfl) rfl ?_
        refine OW_no rfl rfl rfl rfl rfl ?_
        refine OW_no rfl rfl rfl rfl rfl ?_
        refine OW_no rfl rfl rfl rfl rfl ?_
        refine OW_no rfl rfl rfl rfl rfl ?_
        refine OW_no rfl rfl rfl rfl rfl ?_
        refine OW_no rfl rfl rfl rfl rfl ?_
        refine OW_ev (Ev_pickb_t rfl rfl rfl rfl) rfl ?_
        refine OW_nil ?_
        have hb : p.r.tickBad s = true := by unfold Pln.tickBad; exact decide_eq_true (by (have hl : p.r.ws.length = p.ws.length := rfl); omega)
        have htk := tick_bad he hb
        refine CW_cond_t rfl rfl ?_
        refine CW_seq ?_
        refine CW_re [(2, .pointer _), (3, .pointer _), (4, .int _ _), (5, .int _ _)] ⟨rfl, rfl, rfl, rfl, trivial⟩ (fun g => ?_)
        refine CW_reg rfl ?_
        refine OW_ev (Ev_c (.inr rfl)) rfl ?_
        refine OW_ev (Ev_c (.inr rfl)) rfl ?_
        refine OW_nil ?_
        refine CW_ret ?_
        refine ⟨rfl, _, (.tmp rfl (.tmp rfl .nil)), ?_⟩
        exact ⟨T, by rw [htk]; rfl⟩
      · have d8 := c8
        first | (with_reducible replace d8 := of_decide_eq_false d8) | (with_reducible replace d8 := bnf d8; try (with_reducible replace d8 := of_decide_eq_true d8)) | skip
        have h2 : isTick s.off = true := by first | exact d8 | simpa using c8
        rw [isTick_iff] at h2
        refine OW_yes rfl rfl rfl rfl c8 (Ev.stp (Ev_fieldAddr fld_29_1 rfl rfl) ?_)
        refine OW_yes rfl rfl rfl rfl c8 (Ev.stp (Ev_load one_3 rfl rfl (B2.ld (q := 1) rfl)) ?_)
        refine OW_yes rfl rfl rfl rfl c8 (Ev.stp (Ev_lss rfl rfl rfl) ?_)
        refine OW_ev (Ev_pickb_f rfl rfl c8 rfl) rfl ?_
        refine OW_ev (Ev_mvb (.inl rfl) rfl) rfl ?_
        refine OW_split (d := .tmp 29) rfl (fun c9 => ?_) (fun c9 => ?_)
        · have d9 := c9
          first | (with_reducible replace d9 := of_decide_eq_true d9) | (with_reducible replace d9 := bnt d9; try (with_reducible replace d9 := of_decide_eq_false d9)) | skip
          refine OW_no rfl rfl rfl rfl c9 ?_
          refine OW_no rfl rfl rfl rfl c9 ?_
          refine OW_no rfl rfl rfl rfl c9 ?_
          refine OW_no rfl rfl rfl rfl c9 ?_
          refine OW_no rfl rfl rfl rfl c9 ?_
          refine OW_no rfl rfl rfl rfl c9 ?_
          refine OW_ev (Ev_pickb_t rfl rfl c9 rfl) rfl ?_
          refine OW_nil ?_
          have hb : p.r.tickBad s = true := by unfold Pln.tickBad; exact decide_eq_true (by (have hl : p.r.ws.length = p.ws.length := rfl); omega)
          have htk := tick_bad he hb
          refine CW_cond_t rfl rfl ?_
          refine CW_seq ?_
          refine CW_re [(2, .pointer _), (3, .pointer _), (4, .int _ _), (5, .int _ _)] ⟨rfl, rfl, rfl, rfl, trivial⟩ (fun g => ?_)
          refine CW_reg rfl ?_
          refine OW_ev (Ev_c (.inr rfl)) rfl ?_
          refine OW_ev (Ev_c (.inr rfl)) rfl ?_
          refine OW_nil ?_
          refine CW_ret ?_
          refine ⟨rfl, _, (.tmp rfl (.tmp rfl .nil)), ?_⟩
          exact ⟨T, by rw [htk]; rfl⟩
        · have d9 := c9
          first | (with_reducible replace d9 := of_decide_eq_false d9) | (with_reducible replace d9 := bnf d9; try (with_reducible replace d9 := of_decide_eq_true d9)) | skip
          refine OW_yes rfl rfl rfl rfl c9 (Ev.stp (Ev_fieldAddr fld_29_1 rfl rfl) ?_)
          refine OW_yes rfl rfl rfl rfl c9 (Ev.stp (Ev_load one_3 rfl rfl (B2.ld (q := 1) rfl)) ?_)
          refine OW_yes rfl rfl rfl rfl c9 (Ev.stp (Ev_fieldAddr fld_26_2 rfl rfl) ?_)
          refine OW_yes rfl rfl rfl rfl c9 (Ev.stp (Ev_load one_23 rfl rfl (B1.ld (q := 2) rfl)) ?_)
          refine OW_yes rfl rfl rfl rfl c9 (Ev.stp (Ev_len und_23 rfl rfl) ?_)
          refine OW_yes rfl rfl rfl rfl c9 (Ev.stp (Ev_geq rfl rfl rfl) ?_)
          refine OW_ev (Ev_pickb_f rfl rfl c9 rfl) rfl ?_
          refine OW_nil ?_
          refine CW_cond rfl (fun c10 => ?_) (fun c10 => ?_)
          · have d10 := c10
            first | (with_reducible replace d10 := of_decide_eq_true d10) | (with_reducible replace d10 := bnt d10; try (with_reducible replace d10 := of_decide_eq_false d10)) | skip
            have hb : p.r.tickBad s = true := by unfold Pln.tickBad; exact decide_eq_true (by (have hl : p.r.ws.length = p.ws.length := rfl); omega)
            have htk := tick_bad he hb
            refine CW_seq ?_
            refine CW_re [(2, .pointer _), (3, .pointer _), (4, .int _ _), (5, .int _ _)] ⟨rfl, rfl, rfl, rfl, trivial⟩ (fun g => ?_)
            refine CW_reg rfl ?_
            refine OW_ev (Ev_c (.inr rfl)) rfl ?_
            refine OW_ev (Ev_c (.inr rfl)) rfl ?_
            refine OW_nil ?_
            refine CW_ret ?_
            refine ⟨rfl, _, (.tmp rfl (.tmp rfl .nil)), ?_⟩
            exact ⟨T, by rw [htk]; rfl⟩
          · have d10 := c10
            first | (with_reducible replace d10 := of_decide_eq_false d10) | (with_reducible replace d10 := bnf d10; try (with_reducible replace d10 := of_decide_eq_true d10)) | skip
            have hb : p.r.tickBad s = false := by unfold Pln.tickBad; exact decide_eq_false (by (have hl : p.r.ws.length = p.ws.length := rfl); omega)
            obtain ⟨k, hk, hkl⟩ : ∃ k : Nat, s.window = (k : Int) ∧ k < p.ws.length := ⟨s.window.toNat, by omega, by omega⟩
            have hwc := hP.2.2.2.2.2.2.2.2.1.1
            have habd := aheadT_bd (ws := p.ws) k
            have hpc := PlnM.pre_cl p (k := k) (by omega)
            have hpr : (p.pre k).r.frame = aheadT p.ws k := rfl
            have hkn : s.window.toNat = k := by omega
            have hmul : 0 ≤ s.frame * p.r.frame ∧ s.frame * p.r.frame ≤ 1099511627776 * 32000 := ⟨Int.mul_nonneg h1.1 (by omega), Int.mul_le_mul h1.2 hfb.2 (by omega) (by omega)⟩
            have htn : p.r.tickN s = s.frame * p.r.frame + aheadT p.ws k + s.off := by unfold Pln.tickN; rw [hkn]; rfl
            refine CW_skip ?_
            refine CW_seq ?_
            refine CW_re [(2, .pointer _), (3, .pointer _), (4, .int _ _), (5, .int _ _)] ⟨rfl, rfl, rfl, rfl, trivial⟩ (fun g => ?_)
            refine CW_reg rfl ?_
            refine OW_ev (Ev_fieldAddr fld_26_2 rfl rfl) rfl ?_
            refine OW_ev (Ev_load one_23 rfl rfl (B1.ld (q := 2) rfl)) rfl ?_
            refine OW_ev (Ev_fieldAddr fld_29_1 rfl rfl) rfl ?_
            refine OW_ev (Ev_load one_3 rfl rfl (B2.ld (q := 1) rfl)) rfl ?_
            refine OW_ev (Ev_slice_h k sl_23 rfl rfl rfl hk (by omega)) rfl ?_
            refine OW_ev (Ev_build (l := [.int _ _, .slice _ _ _, .slice _ _ _, .slice _ _ _]) plc_26 zero_26 rfl rfl rfl) rfl ?_
            refine OW_st rfl (Stp_call ent_19 rfl rfl rfl ((hpc ▸ cframe_c (p := p.pre k) (hP.pre k) (by show (p.ws.take k).length ≤ 1000000; rw [List.length_take]; omega))) ?_)
            rintro _ w11 ⟨E11, rfl⟩
            have Z11 := E11.size
            have hP := hP.keep0 E11
            have T := T.keep0 E11
            have B1 := B1.keep0 E11
            have B2 := B2.keep0 E11
            rw [hpr]
            refine OW_ev (Ev_mvi (.inr rfl) rfl) rfl ?_
            refine OW_nil ?_
            refine CW_seq ?_
            refine CW_draw (fun W => hP.here W ∧ B1.here W ∧ B2.here W) mixed rfl (fun _ _ _ h => nomatch h.1) ?_
            have E12 : Kp0 _ _ := Kp.drew w11 nob
            have Z12 : (World.drew w11).heap.size = w11.heap.size := rfl
            generalize World.drew w11 = w12 at E12 Z12 ⊢
            have hP := hP.keep0 E12
            have T := T.keep0 E12
            have B1 := B1.keep0 E12
            have B2 := B2.keep0 E12
            refine AW_take 0 rfl rfl (by decide +kernel) (by decide +kernel) (by decide +kernel) (fun w ⟨hP, B1, B2⟩ => Ev_fieldAddr fld_29_0 rfl rfl) ⟨hP, B1, B2⟩ ?_
            refine AW_take 1 rfl rfl (by decide +kernel) (by decide +kernel) (by decide +kernel) (fun w ⟨hP, B1, B2⟩ => Ev_load one_3 rfl rfl (B2.ld (q := 0) rfl)) ⟨hP, B1, B2⟩ ?_
            refine AW_take 2 rfl rfl (by decide +kernel) (by decide +kernel) (by decide +kernel) (fun w ⟨hP, B1, B2⟩ => Ev_loadAgg (l := [.int _ _, .slice _ _ _, .slice _ _ _, .slice _ _ _]) agg_26 rfl rfl (B1.sub 0 4 (Nat.le_of_ble_eq_true rfl)) rfl) ⟨hP, B1, B2⟩ ?_
            refine AW_take 5 rfl rfl (by decide +kernel) (by decide +kernel) (by decide +kernel) (fun w ⟨hP, B1, B2⟩ => Ev_mvi (.inl rfl) rfl) ⟨hP, B1, B2⟩ ?_
            refine AW_take 7 rfl rfl (by decide +kernel) (by decide +kernel) (by decide +kernel) (fun w ⟨hP, B1, B2⟩ => Ev_fieldAddr fld_29_2 rfl rfl) ⟨hP, B1, B2⟩ ?_
            refine AW_take 8 rfl rfl (by decide +kernel) (by decide +kernel) (by decide +kernel) (fun w ⟨hP, B1, B2⟩ => Ev_load one_3 rfl rfl (B2.ld (q := 2) rfl)) ⟨hP, B1, B2⟩ ?_
            refine AW_one 3 (by decide +kernel) (Next.mk rfl rfl ?_)
            refine Stp_call ent_19 rfl rfl rfl (cframe_c hP (by omega)) ?_
            rintro _ w13 ⟨E13, rfl⟩
            have Z13 := E13.size
            have hP := hP.keep0 E13
            have T := T.keep0 E13
            have B1 := B1.keep0 E13
            have B2 := B2.keep0 E13
            refine ⟨⟨hP, B1, B2⟩, ?_⟩
            refine AW_take 4 rfl rfl (by decide +kernel) (by decide +kernel) (by decide +kernel) (fun w ⟨hP, B1, B2⟩ => Ev_mul rfl rfl rfl (by first | (apply IntWalk.i64_in; omega) | (apply IntWalk.u64_in; omega) | (apply IntWalk.u32_in; omega) | (apply IntWalk.u8_in; omega) | (apply IntWalk.i32_in; omega) | rfl)) ⟨hP, B1, B2⟩ ?_
            refine AW_take 6 rfl rfl (by decide +kernel) (by decide +kernel) (by decide +kernel) (fun w ⟨hP, B1, B2⟩ => Ev_add rfl rfl rfl (by first | (apply IntWalk.i64_in; omega) | (apply IntWalk.u64_in; omega) | (apply IntWalk.u32_in; omega) | (apply IntWalk.u8_in; omega) | (apply IntWalk.i32_in; omega) | rfl)) ⟨hP, B1, B2⟩ ?_
            refine AW_take 9 rfl rfl (by decide +kernel) (by decide +kernel) (by decide +kernel) (fun w ⟨hP, B1, B2⟩ => Ev_add rfl rfl rfl (by first | (apply IntWalk.i64_in; omega) | (apply IntWalk.u64_in; omega) | (apply IntWalk.u32_in; omega) | (apply IntWalk.u8_in; omega) | (apply IntWalk.i32_in; omega) | rfl)) ⟨hP, B1, B2⟩ ?_
            refine AW_take 10 rfl rfl (by decide +kernel) (by decide +kernel) (by decide +kernel) (fun w ⟨hP, B1, B2⟩ => Ev_mvi (.inr rfl) rfl) ⟨hP, B1, B2⟩ ?_
            refine AW_done (by decide +kernel) ?_
            refine CW_seq ?_
            refine CW_seq ?_
            refine CW_re [(2, .pointer _), (3, .pointer _), (4, .int _ _), (5, .int _ _), (8, .int _ _)] ⟨rfl, rfl, rfl, rfl, rfl, trivial⟩ (fun g => ?_)
            refine CW_draw (fun W => hP.here W ∧ B1.here W ∧ B2.here W) mixed rfl (fun _ _ _ h => nomatch h.1) ?_
            have E14 : Kp0 _ _ := Kp.drew w13 nob
            have Z14 : (World.drew w13).heap.size = w13.heap.size := rfl
            generalize World.drew w13 = w14 at E14 Z14 ⊢
            have hP := hP.keep0 E14
            have T := T.keep0 E14
            have B1 := B1.keep0 E14
            have B2 := B2.keep0 E14
            refine AW_take 0 rfl rfl (by decide +kernel) (by decide +kernel) (by decide +kernel) (fun w ⟨hP, B1, B2⟩ => Ev_mvi (.inl rfl) rfl) ⟨hP, B1, B2⟩ ?_
            refine AW_one 1 (by decide +kernel) (Next.mk rfl rfl ?_)
            refine Stp_call ent_36 rfl rfl rfl (mtick_c _ _) ?_
            rintro _ w15 ⟨E15, rfl⟩
            have Z15 := E15.size
            have hP := hP.keep0 E15
            have T := T.keep0 E15
            have B1 := B1.keep0 E15
            have B2 := B2.keep0 E15
            refine ⟨⟨hP, B1, B2⟩, ?_⟩
            refine AW_take 2 rfl rfl (by decide +kernel) (by decide +kernel) (by decide +kernel) (fun w ⟨hP, B1, B2⟩ => Ev_not rfl rfl) ⟨hP, B1, B2⟩ ?_
            refine AW_take 3 rfl rfl (by decide +kernel) (by decide +kernel) (by decide +kernel) (fun w ⟨hP, B1, B2⟩ => Ev_mvb (.inl rfl) rfl) ⟨hP, B1, B2⟩ ?_
            refine AW_split (d := .tmp 57) rfl (fun c16 => ?_) (fun c16 => ?_)
            · have d16 := c16
              first | (with_reducible replace d16 := of_decide_eq_true d16) | (with_reducible replace d16 := bnt d16; try (with_reducible replace d16 := of_decide_eq_false d16)) | skip
              have h4 : isTick (s.frame * p.r.frame + aheadT p.ws k + s.off) = false := by first | exact d16 | simpa using c16
              rw [isTick_not] at h4
              have htk := tick_far he hb (by rw [htn]; omega)
              refine AW_take_no 4 rfl rfl rfl rfl rfl c16 (by decide +kernel) (by decide +kernel) (by decide +kernel) ⟨hP, B1, B2⟩ ?_
              refine AW_take_no 5 rfl rfl rfl rfl rfl c16 (by decide +kernel) (by decide +kernel) (by decide +kernel) ⟨hP, B1, B2⟩ ?_
              refine AW_take_no 6 rfl rfl rfl rfl rfl c16 (by decide +kernel) (by decide +kernel) (by decide +kernel) ⟨hP, B1, B2⟩ ?_
              refine AW_take_no 7 rfl rfl rfl rfl rfl c16 (by decide +kernel) (by decide +kernel) (by decide +kernel) ⟨hP, B1, B2⟩ ?_
              refine AW_take_no 8 rfl rfl rfl rfl rfl c16 (by decide +kernel) (by decide +kernel) (by decide +kernel) ⟨hP, B1, B2⟩ ?_
              refine AW_take 9 rfl rfl (by decide +kernel) (by decide +kernel) (by decide +kernel) (fun w ⟨hP, B1, B2⟩ => Ev_pickb_t rfl rfl c16 rfl) ⟨hP, B1, B2⟩ ?_
              refine AW_done (by decide +kernel) ?_
              refine CW_cond_t rfl rfl ?_
              refine CW_seq ?_
              refine CW_reg rfl ?_
              refine OW_ev (Ev_c (.inr rfl)) rfl ?_
              refine OW_ev (Ev_c (.inr rfl)) rfl ?_
              refine OW_nil ?_
              refine CW_ret ?_
              refine ⟨rfl, _, (.tmp rfl (.tmp rfl .nil)), ?_⟩
              exact ⟨T, by rw [htk]; rfl⟩
            · have d16 := c16
              first | (with_reducible replace d16 := of_decide_eq_false d16) | (with_reducible replace d16 := bnf d16; try (with_reducible replace d16 := of_decide_eq_true d16)) | skip
              have h4 : isTick (s.frame * p.r.frame + aheadT p.ws k + s.off) = true := by first | exact d16 | simpa using c16
              rw [isTick_iff] at h4
              refine AW_take_yes 4 rfl rfl rfl rfl rfl c16 (by decide +kernel) (by decide +kernel) (by decide +kernel) (fun w ⟨hP, B1, B2⟩ => Ev_loadAgg (l := [.int _ _, .slice _ _ _, .slice _ _ _, .slice _ _ _]) agg_26 rfl rfl (B1.sub 0 4 (Nat.le_of_ble_eq_true rfl)) rfl) ⟨hP, B1, B2⟩ ?_
              refine AW_take_yes 5 rfl rfl rfl rfl rfl c16 (by decide +kernel) (by decide +kernel) (by decide +kernel) (fun w ⟨hP, B1, B2⟩ => Ev_mvi (.inl rfl) rfl) ⟨hP, B1, B2⟩ ?_
              refine AW_take_yes 7 rfl rfl rfl rfl rfl c16 (by decide +kernel) (by decide +kernel) (by decide +kernel) (fun w ⟨hP, B1, B2⟩ => Ev_loadAgg (l := [.int _ _, .int _ _, .int _ _]) agg_29 rfl rfl (B2.sub 0 3 (Nat.le_of_ble_eq_true rfl)) rfl) ⟨hP, B1, B2⟩ ?_
              refine AW_one 6 (by decide +kernel) (Next.yes rfl rfl rfl rfl rfl c16 ?_)
              refine Stp_call ent_37 rfl rfl rfl (place_c hP hsm hok ⟨by omega, by omega⟩) ?_
              rintro _ w17 ⟨E17, rfl⟩
              have Z17 := E17.size
              have hP := hP.keep0 E17
              have T := T.keep0 E17
              have B1 := B1.keep0 E17
              have B2 := B2.keep0 E17
              refine ⟨⟨hP, B1, B2⟩, ?_⟩
              refine AW_take_yes 8 rfl rfl rfl rfl rfl c16 (by decide +kernel) (by decide +kernel) (by decide +kernel) (fun w ⟨hP, B1, B2⟩ => Ev_neS flat_29 rfl rfl rfl rfl rfl (Slt.neL (p.r.slot (s.frame * p.r.frame + aheadT p.ws k + s.off)) s)) ⟨hP, B1, B2⟩ ?_
              refine AW_take 9 rfl rfl (by decide +kernel) (by decide +kernel) (by decide +kernel) (fun w ⟨hP, B1, B2⟩ => Ev_pickb_f rfl rfl c16 rfl) ⟨hP, B1, B2⟩ ?_
              refine AW_done (by decide +kernel) ?_
              refine CW_cond rfl (fun c18 => ?_) (fun c18 => ?_)
              · have d18 := c18
                first | (with_reducible replace d18 := of_decide_eq_true d18) | (with_reducible replace d18 := bnt d18; try (with_reducible replace d18 := of_decide_eq_false d18)) | skip
                have hne := d18
                have htk := tick_far he hb (by rw [htn]; exact .inr (.inr hne))
                refine CW_seq ?_
                refine CW_reg rfl ?_
                refine OW_ev (Ev_c (.inr rfl)) rfl ?_
                refine OW_ev (Ev_c (.inr rfl)) rfl ?_
                refine OW_nil ?_
                refine CW_ret ?_
                refine ⟨rfl, _, (.tmp rfl (.tmp rfl .nil)), ?_⟩
                exact ⟨T, by rw [htk]; rfl⟩
              · have d18 := c18
                first | (with_reducible replace d18 := of_decide_eq_false d18) | (with_reducible replace d18 := bnf d18; try (with_reducible replace d18 := of_decide_eq_true d18)) | skip
                have heq : p.r.slot (s.frame * p.r.frame + aheadT p.ws k + s.off) = s := Classical.byContradiction d18
                have htk := tick_yes he hb (by rw [htn]; rintro (h | h | h); omega; omega; exact h heq)
                rw [htn] at htk
                refine CW_skip ?_
                refine CW_seq ?_
                refine CW_reg rfl ?_
                refine OW_ev (Ev_mvi (.inl rfl) rfl) rfl ?_
                refine OW_ev (Ev_mvi (.inr rfl) rfl) rfl ?_
                refine OW_ev (Ev_c (.inr rfl)) rfl ?_
                refine OW_nil ?_
                refine CW_ret ?_
                refine ⟨rfl, _, (.tmp rfl (.tmp rfl .nil)), ?_⟩
                exact ⟨T, by rw [htk]; rfl⟩

set_option maxRecDepth 10000 in
set_option maxHeartbeats 2000000 in
theorem follow_c (w : World) (p : PlnM) (s : Slt) (hf : s.frame ≤ 9000000000000000000 ∧ -9000000000000000000 ≤ s.frame) (hw : s.window ≤ 9000000000000000000 ∧ -9000000000000000000 ≤ s.window) : Calls Try.prog 47 #[.agg p.cl.toArray, .agg s.cells.toArray] w (Ret fun v w' => Kp0 w w' ∧ v = .agg (p.r.follow s).cells.toArray) := by
  have T : Kp0 w w := Kp.refl _ _
  refine calls_start Try.func47 rfl (n := 22) rfl rfl rfl ?_
  refine CW_seq ?_
  refine CW_reg rfl ?_
  refine OW_st rfl (Stp_box (l := [.int _ _, .slice _ _ _, .slice _ _ _, .slice _ _ _]) rfl rfl rfl ?_)
  intro b1 w1 hb1 hz1 E1 B1
  have L1 : _ ≤ b1 := Nat.le_trans T.size (Nat.le_of_eq hb1.symm)
  have T := T.keep0 E1
  replace B1 : Blk w1 b1 26 (p.cl) := B1
  refine OW_st rfl (Stp_box (l := [.int _ _, .int _ _, .int _ _]) rfl rfl rfl ?_)
  intro b2 w2 hb2 hz2 E2 B2
  have L2 : _ ≤ b2 := Nat.le_trans T.size (Nat.le_of_eq hb2.symm)
  have T := T.keep0 E2
  have B1 := B1.keep0 E2
  replace B2 : Blk w2 b2 29 (s.cells) := B2
  refine OW_st rfl (Stp_alloc zero_29 rfl ?_)
  intro b3 w3 hb3 hz3 E3 B3
  have L3 : _ ≤ b3 := Nat.le_trans T.size (Nat.le_of_eq hb3.symm)
  have T := T.keep0 E3
  have B1 := B1.keep0 E3
  have B2 := B2.keep0 E3
  refine OW_nil ?_
  refine CW_seq ?_
  refine CW_seq ?_
  refine CW_reg rfl ?_
  refine OW_ev (Ev_fieldAddr fld_29_1 rfl rfl) rfl ?_
  refine OW_ev (Ev_load one_3 rfl rfl (B2.ld (q := 1) rfl)) rfl ?_
  refine OW_ev (Ev_add rfl rfl rfl (by first | (apply IntWalk.i64_in; omega) | (apply IntWalk.u64_in; omega) | (apply IntWalk.u32_in; omega) | (apply IntWalk.u8_in; omega) | (apply IntWalk.i32_in; omega) | rfl)) rfl ?_
  refine OW_ev (Ev_fieldAddr fld_26_2 rfl rfl) rfl ?_
  refine OW_ev (Ev_load one_23 rfl rfl (B1.ld (q := 2) rfl)) rfl ?_
  refine OW_ev (Ev_len und_23 rfl rfl) rfl ?_
  refine OW_ev (Ev_lss rfl rfl rfl) rfl ?_
  refine OW_nil ?_
  refine CW_cond rfl (fun c4 => ?_) (fun c4 => ?_)
  · have d4 := c4
    first | (with_reducible replace d4 := of_decide_eq_true d4) | (with_reducible replace d4 := bnt d4; try (with_reducible replace d4 := of_decide_eq_false d4)) | skip
    have hfl : p.r.follow s = ⟨s.frame, s.window + 1, 0⟩ := if_pos (by (have hl : p.r.ws.length = p.ws.length := rfl); omega)
    refine CW_seq ?_
    refine CW_reg rfl ?_
    refine OW_ev (Ev_fieldAddr fld_29_0 rfl rfl) rfl ?_
    refine OW_ev (Ev_load one_3 rfl rfl (B2.ld (q := 0) rfl)) rfl ?_
    refine OW_ev (Ev_fieldAddr fld_29_1 rfl rfl) rfl ?_
    refine OW_ev (Ev_load one_3 rfl rfl (B2.ld (q := 1) rfl)) rfl ?_
    refine OW_ev (Ev_add rfl rfl rfl (by first | (apply IntWalk.i64_in; omega) | (apply IntWalk.u64_in; omega) | (apply IntWalk.u32_in; omega) | (apply IntWalk.u8_in; omega) | (apply IntWalk.i32_in; omega) | rfl)) rfl ?_
    refine OW_ev (Ev_build (l := [.int _ _, .int _ _, .int _ _]) plc_29 zero_29 rfl rfl rfl) rfl ?_
    refine OW_st rfl (Stp_store (q := 0) (vs := [.int _ _, .int _ _, .int _ _]) B3 siz_29 rfl rfl rfl rfl (Nat.le_of_ble_eq_true rfl) rfl ?_)
    intro w5 hz5 E5 B5
    have Z5 := E5.size
    have T := T.transb E5 (by omega)
    have B1 := B1.keepb E5 (by intro h; first | omega | (change _ < _ at h; omega) | (change _ ≤ _ at h; omega) | (have h1 := h.1; have h2 := h.2; first | omega | (change _ ≤ _ at h1; omega) | (change _ < _ at h1; omega)))
    have B2 := B2.keepb E5 (by intro h; first | omega | (change _ < _ at h; omega) | (change _ ≤ _ at h; omega) | (have h1 := h.1; have h2 := h.2; first | omega | (change _ ≤ _ at h1; omega) | (change _ < _ at h1; omega)))
    clear B3
    have B3 : Blk _ _ _ [_, _, _] := B5
    clear B5
    refine OW_nil ?_
    refine CW_ret ?_
    refine ⟨rfl, _, (.cell rfl (ld_agg agg_29 (B3.sub 0 3 (Nat.le_of_ble_eq_true rfl)) rfl) .nil), ?_⟩
    exact ⟨T, by rw [hfl]; rfl⟩
  · have d4 := c4
    first | (with_reducible replace d4 := of_decide_eq_false d4) | (with_reducible replace d4 := bnf d4; try (with_reducible replace d4 := of_decide_eq_true d4)) | skip
    have hfl : p.r.follow s = ⟨s.frame + 1, 0, 0⟩ := if_neg (by (have hl : p.r.ws.length = p.ws.length := rfl); omega)
    refine CW_skip ?_
    refine CW_seq ?_
    refine CW_reg rfl ?_
    refine OW_ev (Ev_fieldAddr fld_29_0 rfl rfl) rfl ?_
    refine OW_ev (Ev_load one_3 rfl rfl (B2.ld (q := 0) rfl)) rfl ?_
    refine OW_ev (Ev_add rfl rfl rfl (by first | (apply IntWalk.i64_in; omega) | (apply IntWalk.u64_in; omega) | (apply IntWalk.u32_in; omega) | (apply IntWalk.u8_in; omega) | (apply IntWalk.i32_in; omega) | rfl)) rfl ?_
    refine OW_ev (Ev_build (l := [.int _ _, .int _ _, .int _ _]) plc_29 zero_29 rfl rfl rfl) rfl ?_
    refine OW_st rfl (Stp_store (q := 0) (vs := [.int _ _, .int _ _, .int _ _]) B3 siz_29 rfl rfl rfl rfl (Nat.le_of_ble_eq_true rfl) rfl ?_)
    intro w6 hz6 E6 B6
    have Z6 := E6.size
    have T := T.transb E6 (by omega)
    have B1 := B1.keepb E6 (by intro h; first | omega | (change _ < _ at h; omega) | (change _ ≤ _ at h; omega) | (have h1 := h.1; have h2 := h.2; first | omega | (change _ ≤ _ at h1; omega) | (change _ < _ at h1; omega)))
    have B2 := B2.keepb E6 (by intro h; first | omega | (change _ < _ at h; omega) | (change _ ≤ _ at h; omega) | (have h1 := h.1; have h2 := h.2; first | omega | (change _ ≤ _ at h1; omega) | (change _ < _ at h1; omega)))
    clear B3
    have B3 : Blk _ _ _ [_, _, _] := B6
    clear B6
    refine OW_nil ?_
    refine CW_ret ?_
    refine ⟨rfl, _, (.cell rfl (ld_agg agg_29 (B3.sub 0 3 (Nat.le_of_ble_eq_true rfl)) rfl) .nil), ?_⟩
    exact ⟨T, by rw [hfl]; rfl⟩

end Go.Proofs.Ytcfadhjiijngmaa