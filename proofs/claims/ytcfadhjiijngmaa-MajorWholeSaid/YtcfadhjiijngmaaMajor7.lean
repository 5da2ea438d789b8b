/- The laws MajorSlots and MajorBack. -/
import Derived.Test.YtcfadhjiijngmaaTypes
import Derived.Test.YtcfadhjiijngmaaMajorData
import Derived.Test.YtcfadhjiijngmaaMajor6
namespace Go.Proofs.Ytcfadhjiijngmaa
open Go Go.RowKit Bx Go.Proofs

theorem big_no {p : PlnM} (h : p.r.big = false) : p.ps.length ≤ 1000 ∧ p.ws.length ≤ 1000 ∧ p.cs.length ≤ 1000 := by
  unfold Pln.big at h
  have h1 := of_decide_eq_false h
  have h2 : p.r.ps.length = p.ps.length := by simp [PlnM.r]
  have h3 : p.r.ws.length = p.ws.length := rfl
  have h4 : p.r.cs.length = p.cs.length := rfl
  omega
theorem tick_at {p : Pln} {n : Int} (h : (p.at_ n).2 = 0) : p.tick (p.at_ n).1 = (n, 0) := by
  obtain ⟨hok, hn, hat⟩ := at_ok h
  have he : p.err = 0 := by
    by_cases e : p.err = 0
    · exact e
    · rw [show p.at_ n = (Slt.zero, p.err) from if_pos e] at h; exact absurd h e
  have hs := at_slot hok hn
  obtain ⟨g1, g2, g3⟩ := hok.win_spec n
  rw [hat]
  have hw : (p.slot n).window.toNat = p.win n := by rw [hs.2.2.2.2.2, Int.toNat_natCast]
  have hN : p.tickN (p.slot n) = n := by
    unfold Pln.tickN
    rw [hw, hs.1]
    show n / p.frame * p.frame + aheadT p.ws (p.win n) + (n % p.frame - aheadT p.ws (p.win n)) = n
    have := Int.emod_add_mul_ediv n p.frame
    rw [Int.mul_comm] at this
    omega
  have hb : p.tickBad (p.slot n) = false := by
    unfold Pln.tickBad
    have h5 := hs.1
    exact decide_eq_false (by rw [hs.2.2.2.2.2]; omega)
  have := tick_yes (s := p.slot n) he hb (by rw [hN]; rintro (h | h | h); omega; omega; exact h rfl)
  rw [this, hN]
theorem at_tick {p : Pln} {s : Slt} (h : (p.tick s).2 = 0) : p.at_ (p.tick s).1 = (s, 0) := by
  unfold Pln.tick at h ⊢
  by_cases he : p.err ≠ 0
  · rw [if_pos he] at h; exact absurd h he
  rw [if_neg he] at h ⊢
  by_cases hb : p.tickBad s = true
  · rw [if_pos hb] at h; cases h
  rw [if_neg hb] at h ⊢
  by_cases hn : p.tickN s < 0 ∨ 1099511627776 < p.tickN s ∨ p.slot (p.tickN s) ≠ s
  · rw [if_pos hn] at h; cases h
  rw [if_neg hn]
  show p.at_ (p.tickN s) = _
  unfold Pln.at_
  rw [if_neg he, if_neg (fun h => hn (by rcases h with h | h; exact .inl h; exact .inr (.inl h)))]
  rw [Classical.not_not.1 (fun h => hn (.inr (.inr h)))]

set_option maxRecDepth 10000 in
set_option maxHeartbeats 2000000 in
theorem slots_c {F : Nat → Prop} {w : World} {p : PlnM} {n : Int} (hP : PlnS F w p) : Calls Try.prog 3 #[.agg p.cl.toArray, .int .i64 n] w (Ret fun v w' => Kp0 w w' ∧ v = .bool (true)) := by
  have hP := hP.old
  obtain ⟨NW, hNW⟩ : ∃ x, x = w.heap.size := ⟨_, rfl⟩
  rw [← hNW] at hP
  have T : Kp0 w w := Kp.refl _ _
  refine calls_start Try.func3 rfl (n := 60) rfl rfl rfl ?_
  refine CW_seq ?_
  refine CW_reg rfl ?_
  refine OW_st rfl (Stp_box (l := [.int _ _, .slice _ _ _, .slice _ _ _, .slice _ _ _]) rfl rfl rfl ?_)
  intro b1 w1 hb1 hz1 E1 B1
  have L1 : _ ≤ b1 := Nat.le_trans T.size (Nat.le_of_eq hb1.symm)
  have hP := hP.keep0 E1
  have T := T.keep0 E1
  replace B1 : Blk w1 b1 26 (p.cl) := B1
  refine OW_ev (Ev_c (.inr rfl)) rfl ?_
  refine OW_nil ?_
  refine CW_seq ?_
  refine CW_seq ?_
  refine CW_reg rfl ?_
  refine OW_ev (Ev_loadAgg (l := [.int _ _, .slice _ _ _, .slice _ _ _, .slice _ _ _]) agg_26 rfl rfl (B1.sub 0 4 (Nat.le_of_ble_eq_true rfl)) rfl) rfl ?_
  refine OW_st rfl (Stp_call ent_10 rfl rfl rfl (rbig_c hP) ?_)
  rintro _ w2 ⟨E2, rfl⟩
  have Z2 := E2.size
  have hP := hP.keep0 E2
  have T := T.keep0 E2
  have B1 := B1.keep0 E2
  refine OW_nil ?_
  refine CW_cond rfl (fun c3 => ?_) (fun c3 => ?_)
  · have d3 := c3
    first | (with_reducible replace d3 := of_decide_eq_true d3) | (with_reducible replace d3 := bnt d3; try (with_reducible replace d3 := of_decide_eq_false d3)) | skip
    refine CW_seq ?_
    refine CW_reg rfl ?_
    refine OW_ev (Ev_c (.inr rfl)) rfl ?_
    refine OW_nil ?_
    refine CW_ret ?_
    refine ⟨rfl, _, (.tmp rfl .nil), ?_⟩
    first | exact ⟨T, rfl⟩ | exact ⟨T, vb rfl (decide_eq_true rfl)⟩
  · have d3 := c3
    first | (with_reducible replace d3 := of_decide_eq_false d3) | (with_reducible replace d3 := bnf d3; try (with_reducible replace d3 := of_decide_eq_true d3)) | skip
    have hsm := big_no d3
    refine CW_skip ?_
    refine CW_seq ?_
    refine CW_reg rfl ?_
    refine OW_ev (Ev_loadAgg (l := [.int _ _, .slice _ _ _, .slice _ _ _, .slice _ _ _]) agg_26 rfl rfl (B1.sub 0 4 (Nat.le_of_ble_eq_true rfl)) rfl) rfl ?_
    refine OW_ev (Ev_mvi (.inl rfl) rfl) rfl ?_
    refine OW_st rfl (Stp_call ent_11 rfl rfl rfl (at_c hP hsm) ?_)
    rintro _ w4 ⟨E4, rfl⟩
    have Z4 := E4.size
    have hP := hP.keep0 E4
    have T := T.keep0 E4
    have B1 := B1.keep0 E4
    refine OW_ev (Ev_mvt (.inl rfl) rfl) rfl ?_
    refine OW_ev (Ev_extract (vs := _) rfl rfl rfl) rfl ?_
    refine OW_ev (Ev_extract (vs := _) rfl rfl rfl) rfl ?_
    refine OW_st rfl (Stp_alloc zero_29 rfl ?_)
    intro b5 w5 hb5 hz5 E5 B5
    have L5 : _ ≤ b5 := Nat.le_trans T.size (Nat.le_of_eq hb5.symm)
    have hP := hP.keep0 E5
    have T := T.keep0 E5
    have B1 := B1.keep0 E5
    obtain ⟨bx, rfl⟩ : ∃ b, b = b5 := ⟨_, rfl⟩
    have Bx := B5
    refine OW_st rfl (Stp_store (q := 0) Bx siz_29 rfl rfl rfl rfl (Nat.le_of_ble_eq_true rfl) rfl ?_)
    intro w6 hz6 E6 B6
    have Z6 := E6.size
    have hP := hP.keepb E6 (fun h => by change _ < _ at h; omega)
    have T := T.transb E6 (by omega)
    have B1 := B1.keepb E6 (by intro h; first | omega | (change _ < _ at h; omega) | (change _ ≤ _ at h; omega) | (have h1 := h.1; have h2 := h.2; first | omega | (change _ ≤ _ at h1; omega) | (change _ < _ at h1; omega)))
    clear Bx
    have Bx := B6
    clear B6
    have Bx : Blk w6 bx 29 ((p.r.at_ n).1).cells := Bx
    refine OW_ev (Ev_mvi (.inr rfl) rfl) rfl ?_
    refine OW_nil ?_
    refine CW_seq ?_
    refine CW_reg rfl ?_
    refine OW_ev (Ev_loadAgg (l := [.int _ _, .slice _ _ _, .slice _ _ _, .slice _ _ _]) agg_26 rfl rfl (B1.sub 0 4 (Nat.le_of_ble_eq_true rfl)) rfl) rfl ?_
    refine OW_ev (Ev_mvi (.inl rfl) rfl) rfl ?_
    refine OW_st rfl (Stp_call ent_12 rfl rfl rfl (atR_c hP hsm) ?_)
    rintro _ w7 ⟨E7, rfl⟩
    have Z7 := E7.size
    have hP := hP.keep0 E7
    have T := T.keep0 E7
    have B1 := B1.keep0 E7
    have Bx := Bx.keep0 E7
    refine OW_ev (Ev_mvt (.inl rfl) rfl) rfl ?_
    refine OW_ev (Ev_extract (vs := _) rfl rfl rfl) rfl ?_
    refine OW_ev (Ev_extract (vs := _) rfl rfl rfl) rfl ?_
    refine OW_st rfl (Stp_alloc zero_29 rfl ?_)
    intro b8 w8 hb8 hz8 E8 B8
    have L8 : _ ≤ b8 := Nat.le_trans T.size (Nat.le_of_eq hb8.symm)
    have hP := hP.keep0 E8
    have T := T.keep0 E8
    have B1 := B1.keep0 E8
    have Bx := Bx.keep0 E8
    obtain ⟨bz, rfl⟩ : ∃ b, b = b8 := ⟨_, rfl⟩
    have Bz := B8
    refine OW_st rfl (Stp_store (q := 0) Bz siz_29 rfl rfl rfl rfl (Nat.le_of_ble_eq_true rfl) rfl ?_)
    intro w9 hz9 E9 B9
    have Z9 := E9.size
    have hP := hP.keepb E9 (fun h => by change _ < _ at h; omega)
    have T := T.transb E9 (by omega)
    have B1 := B1.keepb E9 (by intro h; first | omega | (change _ < _ at h; omega) | (change _ ≤ _ at h; omega) | (have h1 := h.1; have h2 := h.2; first | omega | (change _ ≤ _ at h1; omega) | (change _ < _ at h1; omega)))
    have Bx := Bx.keepb E9 (by intro h; first | omega | (change _ < _ at h; omega) | (change _ ≤ _ at h; omega) | (have h1 := h.1; have h2 := h.2; first | omega | (change _ ≤ _ at h1; omega) | (change _ < _ at h1; omega)))
    clear Bz
    have Bz := B9
    clear B9
    have Bz : Blk w9 bz 29 ((p.r.at_ n).1).cells := Bz
    refine OW_ev (Ev_mvi (.inr rfl) rfl) rfl ?_
    refine OW_nil ?_
    refine CW_seq ?_
    refine CW_re [(1, .int _ _), (2, .pointer _), (4, .bool _), (5, .pointer _), (6, .int _ _), (7, .pointer _), (8, .int _ _)] ⟨rfl, rfl, rfl, rfl, rfl, rfl, rfl, trivial⟩ (fun g => ?_)
    refine CW_reg rfl ?_
    refine OW_ev (Ev_loadAgg (l := [.int _ _, .slice _ _ _, .slice _ _ _, .slice _ _ _]) agg_26 rfl rfl (B1.sub 0 4 (Nat.le_of_ble_eq_true rfl)) rfl) rfl ?_
    refine OW_ev (Ev_mvi (.inl rfl) rfl) rfl ?_
    refine OW_st rfl (Stp_call ent_13 rfl rfl rfl (owner_c hP hsm) ?_)
    rintro _ w10 ⟨E10, rfl⟩
    have Z10 := E10.size
    have hP := hP.keep0 E10
    have T := T.keep0 E10
    have B1 := B1.keep0 E10
    have Bx := Bx.keep0 E10
    have Bz := Bz.keep0 E10
    refine OW_ev (Ev_mvt (.inl rfl) rfl) rfl ?_
    refine OW_ev (Ev_extract (vs := _) rfl rfl rfl) rfl ?_
    refine OW_ev (Ev_extract (vs := _) rfl rfl rfl) rfl ?_
    refine OW_ev (Ev_mvi (.inr rfl) rfl) rfl ?_
    refine OW_ev (Ev_mvi (.inr rfl) rfl) rfl ?_
    refine OW_nil ?_
    refine CW_seq ?_
    refine CW_reg rfl ?_
    refine OW_ev (Ev_loadAgg (l := [.int _ _, .slice _ _ _, .slice _ _ _, .slice _ _ _]) agg_26 rfl rfl (B1.sub 0 4 (Nat.le_of_ble_eq_true rfl)) rfl) rfl ?_
    refine OW_ev (Ev_mvi (.inl rfl) rfl) rfl ?_
    refine OW_st rfl (Stp_call ent_14 rfl rfl rfl (ownerR_c hP hsm) ?_)
    rintro _ w11 ⟨E11, rfl⟩
    have Z11 := E11.size
    have hP := hP.keep0 E11
    have T := T.keep0 E11
    have B1 := B1.keep0 E11
    have Bx := Bx.keep0 E11
    have Bz := Bz.keep0 E11
    refine OW_ev (Ev_mvt (.inl rfl) rfl) rfl ?_
    refine OW_ev (Ev_extract (vs := _) rfl rfl rfl) rfl ?_
    refine OW_ev (Ev_extract (vs := _) rfl rfl rfl) rfl ?_
    refine OW_ev (Ev_mvi (.inr rfl) rfl) rfl ?_
    refine OW_ev (Ev_mvi (.inr rfl) rfl) rfl ?_
    refine OW_nil ?_
    refine CW_seq ?_
    refine CW_re [(4, .bool _), (5, .pointer _), (6, .int _ _), (7, .pointer _), (8, .int _ _), (9, .int _ _), (10, .int _ _), (11, .int _ _), (12, .int _ _)] ⟨rfl, rfl, rfl, rfl, rfl, rfl, rfl, rfl, rfl, trivial⟩ (fun g => ?_)
    refine CW_reg rfl ?_
    refine OW_st rfl (Stp_call ent_15 rfl rfl rfl (framed_c _) ?_)
    rintro _ w12 ⟨E12, rfl⟩
    have Z12 := E12.size
    have hP := hP.keep0 E12
    have T := T.keep0 E12
    have B1 := B1.keep0 E12
    have Bx := Bx.keep0 E12
    have Bz := Bz.keep0 E12
    refine OW_ev (Ev_mvb (.inl rfl) rfl) rfl ?_
    refine OW_split (d := .tmp 40) rfl (fun c13 => ?_) (fun c13 => ?_)
    · have d13 := c13
      first | (with_reducible replace d13 := of_decide_eq_true d13) | (with_reducible replace d13 := bnt d13; try (with_reducible replace d13 := of_decide_eq_false d13)) | skip
      refine OW_yes rfl rfl rfl rfl c13 (Ev.stp (Ev_loadAgg (l := ((p.r.at_ n).1).cells) agg_29 rfl rfl (Bx.sub 0 3 (Nat.le_of_ble_eq_true rfl)) rfl) ?_)
      refine OW_yes rfl rfl rfl rfl c13 (Ev.stp (Ev_loadAgg (l := ((p.r.at_ n).1).cells) agg_29 rfl rfl (Bz.sub 0 3 (Nat.le_of_ble_eq_true rfl)) rfl) ?_)
      refine OW_yes rfl rfl rfl rfl c13 (Ev.stp (Ev_eqS flat_29 rfl rfl rfl rfl rfl (Slt.eqL (p.r.at_ n).1 (p.r.at_ n).1)) ?_)
      refine OW_ev (Ev_pickb_t rfl rfl c13 rfl) rfl ?_
      refine OW_ev (Ev_mvb (.inl rfl) rfl) rfl ?_
      refine OW_split (d := .tmp 45) rfl (fun c14 => ?_) (fun c14 => ?_)
      · have d14 := c14
        first | (with_reducible replace d14 := of_decide_eq_true d14) | (with_reducible replace d14 := bnt d14; try (with_reducible replace d14 := of_decide_eq_false d14)) | skip
        refine OW_yes rfl rfl rfl rfl c14 (Ev.stp (Ev_mvi (.inl rfl) rfl) ?_)
        refine OW_yes rfl rfl rfl rfl c14 (Ev.stp (Ev_mvi (.inl rfl) rfl) ?_)
        refine OW_yes rfl rfl rfl rfl c14 (Ev.stp (Ev_eql rfl rfl rfl) ?_)
        refine OW_ev (Ev_pickb_t rfl rfl c14 rfl) rfl ?_
        refine OW_ev (Ev_mvb (.inl rfl) rfl) rfl ?_
        refine OW_split (d := .tmp 50) rfl (fun c15 => ?_) (fun c15 => ?_)
        · have d15 := c15
          first | (with_reducible replace d15 := of_decide_eq_true d15) | (with_reducible replace d15 := bnt d15; try (with_reducible replace d15 := of_decide_eq_false d15)) | skip
          refine OW_yes rfl rfl rfl rfl c15 (Ev.stp (Ev_mvi (.inl rfl) rfl) ?_)
          refine OW_yes rfl rfl rfl rfl c15 (Ev.stp (Ev_mvi (.inl rfl) rfl) ?_)
          refine OW_yes rfl rfl rfl rfl c15 (Ev.stp (Ev_eql rfl rfl rfl) ?_)
          refine OW_ev (Ev_pickb_t rfl rfl c15 rfl) rfl ?_
          refine OW_ev (Ev_mvb (.inl rfl) rfl) rfl ?_
          refine OW_split (d := .tmp 55) rfl (fun c16 => ?_) (fun c16 => ?_)
          · have d16 := c16
            first | (with_reducible replace d16 := of_decide_eq_true d16) | (with_reducible replace d16 := bnt d16; try (with_reducible replace d16 := of_decide_eq_false d16)) | skip
            refine OW_yes rfl rfl rfl rfl c16 (Ev.stp (Ev_mvi (.inl rfl) rfl) ?_)
            refine OW_yes rfl rfl rfl rfl c16 (Ev.stp (Ev_mvi (.inl rfl) rfl) ?_)
            refine OW_yes rfl rfl rfl rfl c16 (Ev.stp (Ev_eql rfl rfl rfl) ?_)
            refine OW_ev (Ev_pickb_t rfl rfl c16 rfl) rfl ?_
            refine OW_ev (Ev_mvb (.inr rfl) rfl) rfl ?_
            refine OW_nil ?_
            refine CW_ret ?_
            refine ⟨rfl, _, (.tmp rfl .nil), ?_⟩
            first | exact ⟨T, rfl⟩ | exact ⟨T, vb rfl (decide_eq_true rfl)⟩
          · have d16 := c16
            first | (with_reducible replace d16 := of_decide_eq_false d16) | (with_reducible replace d16 := bnf d16; try (with_reducible replace d16 := of_decide_eq_true d16)) | skip
            exact absurd rfl d16
        · have d15 := c15
          first | (with_reducible replace d15 := of_decide_eq_false d15) | (with_reducible replace d15 := bnf d15; try (with_reducible replace d15 := of_decide_eq_true d15)) | skip
          exact absurd rfl d15
      · have d14 := c14
        first | (with_reducible replace d14 := of_decide_eq_false d14) | (with_reducible replace d14 := bnf d14; try (with_reducible replace d14 := of_decide_eq_true d14)) | skip
        exact absurd rfl d14
    · have d13 := c13
      first | (with_reducible replace d13 := of_decide_eq_false d13) | (with_reducible replace d13 := bnf d13; try (with_reducible replace d13 := of_decide_eq_true d13)) | skip
      cases c13

set_option maxRecDepth 10000 in
set_option maxHeartbeats 2000000 in
theorem back_c {F : Nat → Prop} {w : World} {p : PlnM} {n : Int} {s : Slt} (hP : PlnS F w p) : Calls Try.prog 4 #[.agg p.cl.toArray, .int .i64 n, .agg s.cells.toArray] w (Ret fun v w' => Kp0 w w' ∧ v = .bool (true)) := by
  have hP := hP.old
  obtain ⟨NW, hNW⟩ : ∃ x, x = w.heap.size := ⟨_, rfl⟩
  rw [← hNW] at hP
  have T : Kp0 w w := Kp.refl _ _
  refine calls_start Try.func4 rfl (n := 83) rfl rfl rfl ?_
  refine CW_seq ?_
  refine CW_reg rfl ?_
  refine OW_st rfl (Stp_box (l := [.int _ _, .slice _ _ _, .slice _ _ _, .slice _ _ _]) rfl rfl rfl ?_)
  intro b1 w1 hb1 hz1 E1 B1
  have L1 : _ ≤ b1 := Nat.le_trans T.size (Nat.le_of_eq hb1.symm)
  have hP := hP.keep0 E1
  have T := T.keep0 E1
  replace B1 : Blk w1 b1 26 (p.cl) := B1
  refine OW_st rfl (Stp_box (l := [.int _ _, .int _ _, .int _ _]) rfl rfl rfl ?_)
  intro b2 w2 hb2 hz2 E2 B2
  have L2 : _ ≤ b2 := Nat.le_trans T.size (Nat.le_of_eq hb2.symm)
  have hP := hP.keep0 E2
  have T := T.keep0 E2
  have B1 := B1.keep0 E2
  replace B2 : Blk w2 b2 29 (s.cells) := B2
  refine OW_ev (Ev_c (.inr rfl)) rfl ?_
  refine OW_nil ?_
  refine CW_seq ?_
  refine CW_seq ?_
  refine CW_reg rfl ?_
  refine OW_ev (Ev_loadAgg (l := [.int _ _, .slice _ _ _, .slice _ _ _, .slice _ _ _]) agg_26 rfl rfl (B1.sub 0 4 (Nat.le_of_ble_eq_true rfl)) rfl) rfl ?_
  refine OW_st rfl (Stp_call ent_10 rfl rfl rfl (rbig_c hP) ?_)
  rintro _ w3 ⟨E3, rfl⟩
  have Z3 := E3.size
  have hP := hP.keep0 E3
  have T := T.keep0 E3
  have B1 := B1.keep0 E3
  have B2 := B2.keep0 E3
  refine OW_nil ?_
  refine CW_cond rfl (fun c4 => ?_) (fun c4 => ?_)
  · have d4 := c4
    first | (with_reducible replace d4 := of_decide_eq_true d4) | (with_reducible replace d4 := bnt d4; try (with_reducible replace d4 := of_decide_eq_false d4)) | skip
    refine CW_seq ?_
    refine CW_reg rfl ?_
    refine OW_ev (Ev_c (.inr rfl)) rfl ?_
    refine OW_nil ?_
    refine CW_ret ?_
    refine ⟨rfl, _, (.tmp rfl .nil), ?_⟩
    first | exact ⟨T, rfl⟩ | exact ⟨T, vb rfl (decide_eq_true (by first | exact ea | (unfold Pln.at_; rw [if_neg (by omega), if_neg (by omega)])))⟩
  · have d4 := c4
    first | (with_reducible replace d4 := of_decide_eq_false d4) | (with_reducible replace d4 := bnf d4; try (with_reducible replace d4 := of_decide_eq_true d4)) | skip
    have hsm := big_no d4
    refine CW_skip ?_
    refine CW_seq ?_
    refine CW_reg rfl ?_
    refine OW_ev (Ev_loadAgg (l := [.int _ _, .slice _ _ _, .slice _ _ _, .slice _ _ _]) agg_26 rfl rfl (B1.sub 0 4 (Nat.le_of_ble_eq_true rfl)) rfl) rfl ?_
    refine OW_ev (Ev_mvi (.inl rfl) rfl) rfl ?_
    refine OW_st rfl (Stp_call ent_11 rfl rfl rfl (at_c hP hsm) ?_)
    rintro _ w5 ⟨E5, rfl⟩
    have Z5 := E5.size
    have hP := hP.keep0 E5
    have T := T.keep0 E5
    have B1 := B1.keep0 E5
    have B2 := B2.keep0 E5
    refine OW_ev (Ev_mvt (.inl rfl) rfl) rfl ?_
    refine OW_ev (Ev_extract (vs := _) rfl rfl rfl) rfl ?_
    refine OW_ev (Ev_extract (vs := _) rfl rfl rfl) rfl ?_
    refine OW_st rfl (Stp_alloc zero_29 rfl ?_)
    intro b6 w6 hb6 hz6 E6 B6
    have L6 : _ ≤ b6 := Nat.le_trans T.size (Nat.le_of_eq hb6.symm)
    have hP := hP.keep0 E6
    have T := T.keep0 E6
    have B1 := B1.keep0 E6
    have B2 := B2.keep0 E6
    obtain ⟨bx, rfl⟩ : ∃ b, b = b6 := ⟨_, rfl⟩
    have Bx := B6
    refine OW_st rfl (Stp_store (q := 0) Bx siz_29 rfl rfl rfl rfl (Nat.le_of_ble_eq_true rfl) rfl ?_)
    intro w7 hz7 E7 B7
    have Z7 := E7.size
    have hP := hP.keepb E7 (fun h => by change _ < _ at h; omega)
    have T := T.transb E7 (by omega)
    have B1 := B1.keepb E7 (by intro h; first | omega | (change _ < _ at h; omega) | (change _ ≤ _ at h; omega) | (have h1 := h.1; have h2 := h.2; first | omega | (change _ ≤ _ at h1; omega) | (change _ < _ at h1; omega)))
    have B2 := B2.keepb E7 (by intro h; first | omega | (change _ < _ at h; omega) | (change _ ≤ _ at h; omega) | (have h1 := h.1; have h2 := h.2; first | omega | (change _ ≤ _ at h1; omega) | (change _ < _ at h1; omega)))
    clear Bx
    have Bx := B7
    clear B7
    have Bx : Blk w7 bx 29 ((p.r.at_ n).1).cells := Bx
    refine OW_ev (Ev_mvi (.inr rfl) rfl) rfl ?_
    refine OW_nil ?_
    refine CW_seq ?_
    refine CW_reg rfl ?_
    refine OW_ev (Ev_loadAgg (l := [.int _ _, .slice _ _ _, .slice _ _ _, .slice _ _ _]) agg_26 rfl rfl (B1.sub 0 4 (Nat.le_of_ble_eq_true rfl)) rfl) rfl ?_
    refine OW_ev (Ev_loadAgg (l := ((p.r.at_ n).1).cells) agg_29 rfl rfl (Bx.sub 0 3 (Nat.le_of_ble_eq_true rfl)) rfl) rfl ?_
    refine OW_st rfl (Stp_call ent_16 rfl rfl rfl (tickS_c (s := (p.r.at_ n).1) hP hsm) ?_)
    rintro _ w8 ⟨E8, rfl⟩
    have Z8 := E8.size
    have hP := hP.keep0 E8
    have T := T.keep0 E8
    have B1 := B1.keep0 E8
    have B2 := B2.keep0 E8
    have Bx := Bx.keep0 E8
    refine OW_ev (Ev_mvt (.inl rfl) rfl) rfl ?_
    refine OW_ev (Ev_extract (vs := _) rfl rfl rfl) rfl ?_
    refine OW_ev (Ev_extract (vs := _) rfl rfl rfl) rfl ?_
    refine OW_ev (Ev_mvi (.inr rfl) rfl) rfl ?_
    refine OW_ev (Ev_mvi (.inr rfl) rfl) rfl ?_
    refine OW_nil ?_
    refine CW_seq ?_
    refine CW_re [(1, .int _ _), (3, .pointer _), (5, .pointer _), (6, .bool _), (8, .int _ _), (9, .int _ _), (10, .int _ _)] ⟨rfl, rfl, rfl, rfl, rfl, rfl, rfl, trivial⟩ (fun g => ?_)
    refine CW_reg rfl ?_
    refine OW_ev (Ev_loadAgg (l := [.int _ _, .slice _ _ _, .slice _ _ _, .slice _ _ _]) agg_26 rfl rfl (B1.sub 0 4 (Nat.le_of_ble_eq_true rfl)) rfl) rfl ?_
    refine OW_ev (Ev_loadAgg (l := [.int _ _, .int _ _, .int _ _]) agg_29 rfl rfl (B2.sub 0 3 (Nat.le_of_ble_eq_true rfl)) rfl) rfl ?_
    refine OW_st rfl (Stp_call ent_16 rfl rfl rfl (tickS_c (s := s) hP hsm) ?_)
    rintro _ w9 ⟨E9, rfl⟩
    have Z9 := E9.size
    have hP := hP.keep0 E9
    have T := T.keep0 E9
    have B1 := B1.keep0 E9
    have B2 := B2.keep0 E9
    have Bx := Bx.keep0 E9
    refine OW_ev (Ev_mvt (.inl rfl) rfl) rfl ?_
    refine OW_ev (Ev_extract (vs := _) rfl rfl rfl) rfl ?_
    refine OW_ev (Ev_extract (vs := _) rfl rfl rfl) rfl ?_
    refine OW_ev (Ev_mvi (.inr rfl) rfl) rfl ?_
    refine OW_ev (Ev_mvi (.inr rfl) rfl) rfl ?_
    refine OW_nil ?_
    refine CW_seq ?_
    refine CW_reg rfl ?_
    refine OW_ev (Ev_loadAgg (l := [.int _ _, .slice _ _ _, .slice _ _ _, .slice _ _ _]) agg_26 rfl rfl (B1.sub 0 4 (Nat.le_of_ble_eq_true rfl)) rfl) rfl ?_
    refine OW_ev (Ev_mvi (.inl rfl) rfl) rfl ?_
    refine OW_st rfl (Stp_call ent_11 rfl rfl rfl (at_c (n := (p.r.tick s).1) hP hsm) ?_)
    rintro _ w10 ⟨E10, rfl⟩
    have Z10 := E10.size
    have hP := hP.keep0 E10
    have T := T.keep0 E10
    have B1 := B1.keep0 E10
    have B2 := B2.keep0 E10
    have Bx := Bx.keep0 E10
    refine OW_ev (Ev_mvt (.inl rfl) rfl) rfl ?_
    refine OW_ev (Ev_extract (vs := _) rfl rfl rfl) rfl ?_
    refine OW_ev (Ev_extract (vs := _) rfl rfl rfl) rfl ?_
    refine OW_st rfl (Stp_alloc zero_29 rfl ?_)
    intro b11 w11 hb11 hz11 E11 B11
    have L11 : _ ≤ b11 := Nat.le_trans T.size (Nat.le_of_eq hb11.symm)
    have hP := hP.keep0 E11
    have T := T.keep0 E11
    have B1 := B1.keep0 E11
    have B2 := B2.keep0 E11
    have Bx := Bx.keep0 E11
    obtain ⟨bz, rfl⟩ : ∃ b, b = b11 := ⟨_, rfl⟩
    have Bz := B11
    refine OW_st rfl (Stp_store (q := 0) Bz siz_29 rfl rfl rfl rfl (Nat.le_of_ble_eq_true rfl) rfl ?_)
    intro w12 hz12 E12 B12
    have Z12 := E12.size
    have hP := hP.keepb E12 (fun h => by change _ < _ at h; omega)
    have T := T.transb E12 (by omega)
    have B1 := B1.keepb E12 (by intro h; first | omega | (change _ < _ at h; omega) | (change _ ≤ _ at h; omega) | (have h1 := h.1; have h2 := h.2; first | omega | (change _ ≤ _ at h1; omega) | (change _ < _ at h1; omega)))
    have B2 := B2.keepb E12 (by intro h; first | omega | (change _ < _ at h; omega) | (change _ ≤ _ at h; omega) | (have h1 := h.1; have h2 := h.2; first | omega | (change _ ≤ _ at h1; omega) | (change _ < _ at h1; omega)))
    have Bx := Bx.keepb E12 (by intro h; first | omega | (change _ < _ at h; omega) | (change _ ≤ _ at h; omega) | (have h1 := h.1; have h2 := h.2; first | omega | (change _ ≤ _ at h1; omega) | (change _ < _ at h1; omega)))
    clear Bz
    have Bz := B12
    clear B12
    have Bz : Blk w12 bz 29 ((p.r.at_ (p.r.tick s).1).1).cells := Bz
    refine OW_ev (Ev_mvi (.inr rfl) rfl) rfl ?_
    refine OW_nil ?_
    refine CW_seq ?_
    refine CW_seq ?_
    refine CW_re [(1, .int _ _), (3, .pointer _), (5, .pointer _), (6, .bool _), (8, .int _ _), (9, .int _ _), (10, .int _ _), (12, .int _ _), (13, .pointer _), (14, .int _ _)] ⟨rfl, rfl, rfl, rfl, rfl, rfl, rfl, rfl, rfl, rfl, trivial⟩ (fun g => ?_)
    refine CW_reg rfl ?_
    refine OW_ev (Ev_mvi (.inl rfl) rfl) rfl ?_
    refine OW_ev (Ev_eql rfl rfl rfl) rfl ?_
    refine OW_ev (Ev_mvb (.inl rfl) rfl) rfl ?_
    refine OW_split (d := .tmp 43) rfl (fun c13 => ?_) (fun c13 => ?_)
    · have d13 := c13
      first | (with_reducible replace d13 := of_decide_eq_true d13) | (with_reducible replace d13 := bnt d13; try (with_reducible replace d13 := of_decide_eq_false d13)) | skip
      have ea : (p.r.at_ n).2 = 0 := by omega
      have hta := tick_at ea
      refine OW_yes rfl rfl rfl rfl c13 (Ev.stp (Ev_mvi (.inl rfl) rfl) ?_)
      refine OW_yes rfl rfl rfl rfl c13 (Ev.stp (Ev_neq rfl rfl rfl) ?_)
      refine OW_yes rfl rfl rfl rfl c13 (Ev.stp (Ev_mvb (.inl rfl) rfl) ?_)
      refine OW_split (d := .tmp 46) rfl (fun c14 => ?_) (fun c14 => ?_)
      · have d14 := c14
        first | (with_reducible replace d14 := of_decide_eq_true d14) | (with_reducible replace d14 := bnt d14; try (with_reducible replace d14 := of_decide_eq_false d14)) | skip
        exfalso; apply d14; rw [hta]
      · have d14 := c14
        first | (with_reducible replace d14 := of_decide_eq_false d14) | (with_reducible replace d14 := bnf d14; try (with_reducible replace d14 := of_decide_eq_true d14)) | skip
        refine OW_yes rfl rfl rfl rfl c14 (Ev.stp (Ev_mvi (.inl rfl) rfl) ?_)
        refine OW_yes rfl rfl rfl rfl c14 (Ev.stp (Ev_mvi (.inl rfl) rfl) ?_)
        refine OW_yes rfl rfl rfl rfl c14 (Ev.stp (Ev_neq rfl rfl rfl) ?_)
        refine OW_yes rfl rfl rfl rfl c13 (Ev.stp (Ev_pickb_f rfl rfl c14 rfl) ?_)
        refine OW_ev (Ev_pickb_t rfl rfl c13 rfl) rfl ?_
        refine OW_ev (Ev_mvb (.inl rfl) rfl) rfl ?_
        refine OW_split (d := .tmp 52) rfl (fun c15 => ?_) (fun c15 => ?_)
        · have d15 := c15
          first | (with_reducible replace d15 := of_decide_eq_true d15) | (with_reducible replace d15 := bnt d15; try (with_reducible replace d15 := of_decide_eq_false d15)) | skip
          exfalso; first | (apply d15; rw [hta]) | (revert c15; simp)
        · have d15 := c15
          first | (with_reducible replace d15 := of_decide_eq_false d15) | (with_reducible replace d15 := bnf d15; try (with_reducible replace d15 := of_decide_eq_true d15)) | skip
          refine OW_yes rfl rfl rfl rfl c15 (Ev.stp (Ev_mvi (.inl rfl) rfl) ?_)
          refine OW_yes rfl rfl rfl rfl c15 (Ev.stp (Ev_eql rfl rfl rfl) ?_)
          refine OW_yes rfl rfl rfl rfl c15 (Ev.stp (Ev_mvb (.inl rfl) rfl) ?_)
          refine OW_split (d := .tmp 55) rfl (fun c16 => ?_) (fun c16 => ?_)
          · have d16 := c16
            first | (with_reducible replace d16 := of_decide_eq_true d16) | (with_reducible replace d16 := bnt d16; try (with_reducible replace d16 := of_decide_eq_false d16)) | skip
            have et : (p.r.tick s).2 = 0 := by omega
            have hat2 := at_tick et
            refine OW_yes rfl rfl rfl rfl c16 (Ev.stp (Ev_mvi (.inl rfl) rfl) ?_)
            refine OW_yes rfl rfl rfl rfl c16 (Ev.stp (Ev_neq rfl rfl rfl) ?_)
            refine OW_yes rfl rfl rfl rfl c16 (Ev.stp (Ev_mvb (.inl rfl) rfl) ?_)
            refine OW_split (d := .tmp 58) rfl (fun c17 => ?_) (fun c17 => ?_)
            · have d17 := c17
              first | (with_reducible replace d17 := of_decide_eq_true d17) | (with_reducible replace d17 := bnt d17; try (with_reducible replace d17 := of_decide_eq_false d17)) | skip
              exfalso; apply d17; rw [hat2]
            · have d17 := c17
              first | (with_reducible replace d17 := of_decide_eq_false d17) | (with_reducible replace d17 := bnf d17; try (with_reducible replace d17 := of_decide_eq_true d17)) | skip
              refine OW_yes rfl rfl rfl rfl c17 (Ev.stp (Ev_loadAgg (l := ((p.r.at_ (p.r.tick s).1).1).cells) agg_29 rfl rfl (Bz.sub 0 3 (Nat.le_of_ble_eq_true rfl)) rfl) ?_)
              refine OW_yes rfl rfl rfl rfl c17 (Ev.stp (Ev_loadAgg (l := [.int _ _, .int _ _, .int _ _]) agg_29 rfl rfl (B2.sub 0 3 (Nat.le_of_ble_eq_true rfl)) rfl) ?_)
              refine OW_yes rfl rfl rfl rfl c17 (Ev.stp (Ev_neS flat_29 rfl rfl rfl rfl rfl (Slt.neL (p.r.at_ (p.r.tick s).1).1 s)) ?_)
              refine OW_yes rfl rfl rfl rfl c16 (Ev.stp (Ev_pickb_f rfl rfl c17 rfl) ?_)
              refine OW_yes rfl rfl rfl rfl c15 (Ev.stp (Ev_pickb_t rfl rfl c16 rfl) ?_)
              refine OW_ev (Ev_pickb_f rfl rfl c15 rfl) rfl ?_
              refine OW_nil ?_
              refine CW_cond rfl (fun c18 => ?_) (fun c18 => ?_)
              · have d18 := c18
                first | (with_reducible replace d18 := of_decide_eq_true d18) | (with_reducible replace d18 := bnt d18; try (with_reducible replace d18 := of_decide_eq_false d18)) | skip
                exfalso; first | (apply d18; rw [hat2]) | (revert c18; simp)
              · have d18 := c18
                first | (with_reducible replace d18 := of_decide_eq_false d18) | (with_reducible replace d18 := bnf d18; try (with_reducible replace d18 := of_decide_eq_true d18)) | skip
                refine CW_skip ?_
                refine CW_seq ?_
                refine CW_re [(1, .int _ _), (3, .pointer _), (6, .bool _), (8, .int _ _)] ⟨rfl, rfl, rfl, rfl, trivial⟩ (fun g => ?_)
                refine CW_reg rfl ?_
                refine OW_st rfl (Stp_call ent_15 rfl rfl rfl (framed_c _) ?_)
                rintro _ w19 ⟨E19, rfl⟩
                have Z19 := E19.size
                have hP := hP.keep0 E19
                have T := T.keep0 E19
                have B1 := B1.keep0 E19
                have B2 := B2.keep0 E19
                have Bx := Bx.keep0 E19
                have Bz := Bz.keep0 E19
                refine OW_ev (Ev_mvb (.inl rfl) rfl) rfl ?_
                refine OW_split (d := .tmp 66) rfl (fun c20 => ?_) (fun c20 => ?_)
                · have d20 := c20
                  first | (with_reducible replace d20 := of_decide_eq_true d20) | (with_reducible replace d20 := bnt d20; try (with_reducible replace d20 := of_decide_eq_false d20)) | skip
                  refine OW_yes rfl rfl rfl rfl c20 (Ev.stp (Ev_loadAgg (l := [.int _ _, .slice _ _ _, .slice _ _ _, .slice _ _ _]) agg_26 rfl rfl (B1.sub 0 4 (Nat.le_of_ble_eq_true rfl)) rfl) ?_)
                  refine OW_yes rfl rfl rfl rfl c20 (Stp_call ent_17 rfl rfl rfl (check_c hP hsm) ?_)
                  rintro _ w21 ⟨E21, rfl⟩
                  have Z21 := E21.size
                  have hP := hP.keep0 E21
                  have T := T.keep0 E21
                  have B1 := B1.keep0 E21
                  have B2 := B2.keep0 E21
                  have Bx := Bx.keep0 E21
                  have Bz := Bz.keep0 E21
                  refine OW_yes rfl rfl rfl rfl c20 (Ev.stp (Ev_neq rfl rfl rfl) ?_)
                  refine OW_yes rfl rfl rfl rfl c20 (Ev.stp (Ev_mvb (.inl rfl) rfl) ?_)
                  refine OW_split (d := .tmp 70) rfl (fun c22 => ?_) (fun c22 => ?_)
                  · have d22 := c22
                    first | (with_reducible replace d22 := of_decide_eq_true d22) | (with_reducible replace d22 := bnt d22; try (with_reducible replace d22 := of_decide_eq_false d22)) | skip
                    refine OW_no rfl rfl rfl rfl c22 ?_
                    refine OW_no rfl rfl rfl rfl c22 ?_
                    refine OW_yes rfl rfl rfl rfl c20 (Ev.stp (Ev_pickb_t rfl rfl c22 rfl) ?_)
                    refine OW_yes rfl rfl rfl rfl c20 (Ev.stp (Ev_mvb (.inl rfl) rfl) ?_)
                    refine OW_no rfl rfl rfl rfl rfl ?_
                    refine OW_no rfl rfl rfl rfl rfl ?_
                    refine OW_yes rfl rfl rfl rfl c20 (Ev.stp (Ev_pickb_t rfl rfl rfl rfl) ?_)
                    refine OW_yes rfl rfl rfl rfl c20 (Ev.stp (Ev_mvb (.inl rfl) rfl) ?_)
                    refine OW_no rfl rfl rfl rfl rfl ?_
                    refine OW_no rfl rfl rfl rfl rfl ?_
                    refine OW_yes rfl rfl rfl rfl c20 (Ev.stp (Ev_pickb_t rfl rfl rfl rfl) ?_)
                    refine OW_ev (Ev_pickb_t rfl rfl c20 rfl) rfl ?_
                    refine OW_ev (Ev_mvb (.inr rfl) rfl) rfl ?_
                    refine OW_nil ?_
                    refine CW_ret ?_
                    refine ⟨rfl, _, (.tmp rfl .nil), ?_⟩
                    first | exact ⟨T, rfl⟩ | exact ⟨T, vb rfl (decide_eq_true (by first | exact ea | (unfold Pln.at_; rw [if_neg (by omega), if_neg (by omega)])))⟩
                  · have d22 := c22
                    first | (with_reducible replace d22 := of_decide_eq_false d22) | (with_reducible replace d22 := bnf d22; try (with_reducible replace d22 := of_decide_eq_true d22)) | skip
                    refine OW_yes rfl rfl rfl rfl c22 (Ev.stp (Ev_mvi (.inl rfl) rfl) ?_)
                    refine OW_yes rfl rfl rfl rfl c22 (Ev.stp (Ev_lss rfl rfl rfl) ?_)
                    refine OW_yes rfl rfl rfl rfl c20 (Ev.stp (Ev_pickb_f rfl rfl c22 rfl) ?_)
                    refine OW_yes rfl rfl rfl rfl c20 (Ev.stp (Ev_mvb (.inl rfl) rfl) ?_)
                    refine OW_split (d := .tmp 74) rfl (fun c23 => ?_) (fun c23 => ?_)
                    · have d23 := c23
                      first | (with_reducible replace d23 := of_decide_eq_true d23) | (with_reducible replace d23 := bnt d23; try (with_reducible replace d23 := of_decide_eq_false d23)) | skip
                      refine OW_no rfl rfl rfl rfl c23 ?_
                      refine OW_no rfl rfl rfl rfl c23 ?_
                      refine OW_yes rfl rfl rfl rfl c20 (Ev.stp (Ev_pickb_t rfl rfl c23 rfl) ?_)
                      refine OW_yes rfl rfl rfl rfl c20 (Ev.stp (Ev_mvb (.inl rfl) rfl) ?_)
                      refine OW_no rfl rfl rfl rfl rfl ?_
                      refine OW_no rfl rfl rfl rfl rfl ?_
                      refine OW_yes rfl rfl rfl rfl c20 (Ev.stp (Ev_pickb_t rfl rfl rfl rfl) ?_)
                      refine OW_ev (Ev_pickb_t rfl rfl c20 rfl) rfl ?_
                      refine OW_ev (Ev_mvb (.inr rfl) rfl) rfl ?_
                      refine OW_nil ?_
                      refine CW_ret ?_
                      refine ⟨rfl, _, (.tmp rfl .nil), ?_⟩
                      first | exact ⟨T, rfl⟩ | exact ⟨T, vb rfl (decide_eq_true (by first | exact ea | (unfold Pln.at_; rw [if_neg (by omega), if_neg (by omega)])))⟩
                    · have d23 := c23
                      first | (with_reducible replace d23 := of_decide_eq_false d23) | (with_reducible replace d23 := bnf d23; try (with_reducible replace d23 := of_decide_eq_true d23)) | skip
                      refine OW_yes rfl rfl rfl rfl c23 (Ev.stp (Ev_mvi (.inl rfl) rfl) ?_)
                      refine OW_yes rfl rfl rfl rfl c23 (Ev.stp (Ev_gtr rfl rfl rfl) ?_)
                      refine OW_yes rfl rfl rfl rfl c20 (Ev.stp (Ev_pickb_f rfl rfl c23 rfl) ?_)
                      refine OW_yes rfl rfl rfl rfl c20 (Ev.stp (Ev_mvb (.inl rfl) rfl) ?_)
                      refine OW_split (d := .tmp 78) rfl (fun c24 => ?_) (fun c24 => ?_)
                      · have d24 := c24
                        first | (with_reducible replace d24 := of_decide_eq_true d24) | (with_reducible replace d24 := bnt d24; try (with_reducible replace d24 := of_decide_eq_false d24)) | skip
                        refine OW_no rfl rfl rfl rfl c24 ?_
                        refine OW_no rfl rfl rfl rfl c24 ?_
                        refine OW_yes rfl rfl rfl rfl c20 (Ev.stp (Ev_pickb_t rfl rfl c24 rfl) ?_)
                        refine OW_ev (Ev_pickb_t rfl rfl c20 rfl) rfl ?_
                        refine OW_ev (Ev_mvb (.inr rfl) rfl) rfl ?_
                        refine OW_nil ?_
                        refine CW_ret ?_
                        refine ⟨rfl, _, (.tmp rfl .nil), ?_⟩
                        first | exact ⟨T, rfl⟩ | exact ⟨T, vb rfl (decide_eq_true (by first | exact ea | (unfold Pln.at_; rw [if_neg (by omega), if_neg (by omega)])))⟩
                      · have d24 := c24
                        first | (with_reducible replace d24 := of_decide_eq_false d24) | (with_reducible replace d24 := bnf d24; try (with_reducible replace d24 := of_decide_eq_true d24)) | skip
                        refine OW_yes rfl rfl rfl rfl c24 (Ev.stp (Ev_mvi (.inl rfl) rfl) ?_)
                        refine OW_yes rfl rfl rfl rfl c24 (Ev.stp (Ev_eql rfl rfl rfl) ?_)
                        refine OW_yes rfl rfl rfl rfl c20 (Ev.stp (Ev_pickb_f rfl rfl c24 rfl) ?_)
                        refine OW_ev (Ev_pickb_t rfl rfl c20 rfl) rfl ?_
                        refine OW_ev (Ev_mvb (.inr rfl) rfl) rfl ?_
                        refine OW_nil ?_
                        refine CW_ret ?_
                        refine ⟨rfl, _, (.tmp rfl .nil), ?_⟩
                        first | exact ⟨T, rfl⟩ | exact ⟨T, vb rfl (decide_eq_true (by first | exact ea | (unfold Pln.at_; rw [if_neg (by omega), if_neg (by omega)])))⟩
                · have d20 := c20
                  first | (with_reducible replace d20 := of_decide_eq_false d20) | (with_reducible replace d20 := bnf d20; try (with_reducible replace d20 := of_decide_eq_true d20)) | skip
                  cases c20
          · have d16 := c16
            first | (with_reducible replace d16 := of_decide_eq_false d16) | (with_reducible replace d16 := bnf d16; try (with_reducible replace d16 := of_decide_eq_true d16)) | skip
            refine OW_no rfl rfl rfl rfl c16 ?_
            refine OW_no rfl rfl rfl rfl c16 ?_
            refine OW_no rfl rfl rfl rfl c16 ?_
            refine OW_noU rfl rfl rfl ?_
            refine OW_noU rfl rfl rfl ?_
            refine OW_noU rfl rfl rfl ?_
            refine OW_no rfl rfl rfl rfl c16 ?_
            refine OW_yes rfl rfl rfl rfl c15 (Ev.stp (Ev_pickb_f rfl rfl c16 rfl) ?_)
            refine OW_ev (Ev_pickb_f rfl rfl c15 rfl) rfl ?_
            refine OW_nil ?_
            refine CW_cond_f rfl rfl ?_
            refine CW_skip ?_
            refine CW_seq ?_
            refine CW_re [(1, .int _ _), (3, .pointer _), (6, .bool _), (8, .int _ _)] ⟨rfl, rfl, rfl, rfl, trivial⟩ (fun g => ?_)
            refine CW_reg rfl ?_
            refine OW_st rfl (Stp_call ent_15 rfl rfl rfl (framed_c _) ?_)
            rintro _ w25 ⟨E25, rfl⟩
            have Z25 := E25.size
            have hP := hP.keep0 E25
            have T := T.keep0 E25
            have B1 := B1.keep0 E25
            have B2 := B2.keep0 E25
            have Bx := Bx.keep0 E25
            have Bz := Bz.keep0 E25
            refine OW_ev (Ev_mvb (.inl rfl) rfl) rfl ?_
            refine OW_split (d := .tmp 66) rfl (fun c26 => ?_) (fun c26 => ?_)
            · have d26 := c26
              first | (with_reducible replace d26 := of_decide_eq_true d26) | (with_reducible replace d26 := bnt d26; try (with_reducible replace d26 := of_decide_eq_false d26)) | skip
              refine OW_yes rfl rfl rfl rfl c26 (Ev.stp (Ev_loadAgg (l := [.int _ _, .slice _ _ _, .slice _ _ _, .slice _ _ _]) agg_26 rfl rfl (B1.sub 0 4 (Nat.le_of_ble_eq_true rfl)) rfl) ?_)
              refine OW_yes rfl rfl rfl rfl c26 (Stp_call ent_17 rfl rfl rfl (check_c hP hsm) ?_)
              rintro _ w27 ⟨E27, rfl⟩
              have Z27 := E27.size
              have hP := hP.keep0 E27
              have T := T.keep0 E27
              have B1 := B1.keep0 E27
              have B2 := B2.keep0 E27
              have Bx := Bx.keep0 E27
              have Bz := Bz.keep0 E27
              refine OW_yes rfl rfl rfl rfl c26 (Ev.stp (Ev_neq rfl rfl rfl) ?_)
              refine OW_yes rfl rfl rfl rfl c26 (Ev.stp (Ev_mvb (.inl rfl) rfl) ?_)
              refine OW_split (d := .tmp 70) rfl (fun c28 => ?_) (fun c28 => ?_)
              · have d28 := c28
                first | (with_reducible replace d28 := of_decide_eq_true d28) | (with_reducible replace d28 := bnt d28; try (with_reducible replace d28 := of_decide_eq_false d28)) | skip
                refine OW_no rfl rfl rfl rfl c28 ?_
                refine OW_no rfl rfl rfl rfl c28 ?_
                refine OW_yes rfl rfl rfl rfl c26 (Ev.stp (Ev_pickb_t rfl rfl c28 rfl) ?_)
                refine OW_yes rfl rfl rfl rfl c26 (Ev.stp (Ev_mvb (.inl rfl) rfl) ?_)
                refine OW_no rfl rfl rfl rfl rfl ?_
                refine OW_no rfl rfl rfl rfl rfl ?_
                refine OW_yes rfl rfl rfl rfl c26 (Ev.stp (Ev_pickb_t rfl rfl rfl rfl) ?_)
                refine OW_yes rfl rfl rfl rfl c26 (Ev.stp (Ev_mvb (.inl rfl) rfl) ?_)
                refine OW_no rfl rfl rfl rfl rfl ?_
                refine OW_no rfl rfl rfl rfl rfl ?_
                refine OW_yes rfl rfl rfl rfl c26 (Ev.stp (Ev_pickb_t rfl rfl rfl rfl) ?_)
                refine OW_ev (Ev_pickb_t rfl rfl c26 rfl) rfl ?_
                refine OW_ev (Ev_mvb (.inr rfl) rfl) rfl ?_
                refine OW_nil ?_
                refine CW_ret ?_
                refine ⟨rfl, _, (.tmp rfl .nil), ?_⟩
                first | exact ⟨T, rfl⟩ | exact ⟨T, vb rfl (decide_eq_true (by first | exact ea | (unfold Pln.at_; rw [if_neg (by omega), if_neg (by omega)])))⟩
              · have d28 := c28
                first | (with_reducible replace d28 := of_decide_eq_false d28) | (with_reducible replace d28 := bnf d28; try (with_reducible replace d28 := of_decide_eq_true d28)) | skip
                refine OW_yes rfl rfl rfl rfl c28 (Ev.stp (Ev_mvi (.inl rfl) rfl) ?_)
                refine OW_yes rfl rfl rfl rfl c28 (Ev.stp (Ev_lss rfl rfl rfl) ?_)
                refine OW_yes rfl rfl rfl rfl c26 (Ev.stp (Ev_pickb_f rfl rfl c28 rfl) ?_)
                refine OW_yes rfl rfl rfl rfl c26 (Ev.stp (Ev_mvb (.inl rfl) rfl) ?_)
                refine OW_split (d := .tmp 74) rfl (fun c29 => ?_) (fun c29 => ?_)
                · have d29 := c29
                  first | (with_reducible replace d29 := of_decide_eq_true d29) | (with_reducible replace d29 := bnt d29; try (with_reducible replace d29 := of_decide_eq_false d29)) | skip
                  refine OW_no rfl rfl rfl rfl c29 ?_
                  refine OW_no rfl rfl rfl rfl c29 ?_
                  refine OW_yes rfl rfl rfl rfl c26 (Ev.stp (Ev_pickb_t rfl rfl c29 rfl) ?_)
                  refine OW_yes rfl rfl rfl rfl c26 (Ev.stp (Ev_mvb (.inl rfl) rfl) ?_)
                  refine OW_no rfl rfl rfl rfl rfl ?_
                  refine OW_no rfl rfl rfl rfl rfl ?_
                  refine OW_yes rfl rfl rfl rfl c26 (Ev.stp (Ev_pickb_t rfl rfl rfl rfl) ?_)
                  refine OW_ev (Ev_pickb_t rfl rfl c26 rfl) rfl ?_
                  refine OW_ev (Ev_mvb (.inr rfl) rfl) rfl ?_
                  refine OW_nil ?_
                  refine CW_ret ?_
                  refine ⟨rfl, _, (.tmp rfl .nil), ?_⟩
                  first | exact ⟨T, rfl⟩ | exact ⟨T, vb rfl (decide_eq_true (by first | exact ea | (unfold Pln.at_; rw [if_neg (by omega), if_neg (by omega)])))⟩
                · have d29 := c29
                  first | (with_reducible replace d29 := of_decide_eq_false d29) | (with_reducible replace d29 := bnf d29; try (with_reducible replace d29 := of_decide_eq_true d29)) | skip
                  refine OW_yes rfl rfl rfl rfl c29 (Ev.stp (Ev_mvi (.inl rfl) rfl) ?_)
                  refine OW_yes rfl rfl rfl rfl c29 (Ev.stp (Ev_gtr rfl rfl rfl) ?_)
                  refine OW_yes rfl rfl rfl rfl c26 (Ev.stp (Ev_pickb_f rfl rfl c29 rfl) ?_)
                  refine OW_yes rfl rfl rfl rfl c26 (Ev.stp (Ev_mvb (.inl rfl) rfl) ?_)
                  refine OW_split (d := .tmp 78) rfl (fun c30 => ?_) (fun c30 => ?_)
                  · have d30 := c30
                    first | (with_reducible replace d30 := of_decide_eq_true d30) | (with_reducible replace d30 := bnt d30; try (with_reducible replace d30 := of_decide_eq_false d30)) | skip
                    refine OW_no rfl rfl rfl rfl c30 ?_
                    refine OW_no rfl rfl rfl rfl c30 ?_
                    refine OW_yes rfl rfl rfl rfl c26 (Ev.stp (Ev_pickb_t rfl rfl c30 rfl) ?_)
                    refine OW_ev (Ev_pickb_t rfl rfl c26 rfl) rfl ?_
                    refine OW_ev (Ev_mvb (.inr rfl) rfl) rfl ?_
                    refine OW_nil ?_
                    refine CW_ret ?_
                    refine ⟨rfl, _, (.tmp rfl .nil), ?_⟩
                    first | exact ⟨T, rfl⟩ | exact ⟨T, vb rfl (decide_eq_true (by first | exact ea | (unfold Pln.at_; rw [if_neg (by omega), if_neg (by omega)])))⟩
                  · have d30 := c30
                    first | (with_reducible replace d30 := of_decide_eq_false d30) | (with_reducible replace d30 := bnf d30; try (with_reducible replace d30 := of_decide_eq_true d30)) | skip
                    refine OW_yes rfl rfl rfl rfl c30 (Ev.stp (Ev_mvi (.inl rfl) rfl) ?_)
                    refine OW_yes rfl rfl rfl rfl c30 (Ev.stp (Ev_eql rfl rfl rfl) ?_)
                    refine OW_yes rfl rfl rfl rfl c26 (Ev.stp (Ev_pickb_f rfl rfl c30 rfl) ?_)
                    refine OW_ev (Ev_pickb_t rfl rfl c26 rfl) rfl ?_
                    refine OW_ev (Ev_mvb (.inr rfl) rfl) rfl ?_
                    refine OW_nil ?_
                    refine CW_ret ?_
                    refine ⟨rfl, _, (.tmp rfl .nil), ?_⟩
                    first | exact ⟨T, rfl⟩ | exact ⟨T, vb rfl (decide_eq_true (by first | exact ea | (unfold Pln.at_; rw [if_neg (by omega), if_neg (by omega)])))⟩
            · have d26 := c26
              first | (with_reducible replace d26 := of_decide_eq_false d26) | (with_reducible replace d26 := bnf d26; try (with_reducible replace d26 := of_decide_eq_true d26)) | skip
              cases c26
    · have d13 := c13
      first | (with_reducible replace d13 := of_decide_eq_false d13) | (with_reducible replace d13 := bnf d13; try (with_reducible replace d13 := of_decide_eq_true d13)) | skip
      have ea : ¬ (p.r.at_ n).2 = 0 := by omega
      refine OW_no rfl rfl rfl rfl c13 ?_
      refine OW_no rfl rfl rfl rfl c13 ?_
      refine OW_no rfl rfl rfl rfl c13 ?_
      refine OW_noU rfl rfl rfl ?_
      refine OW_noU rfl rfl rfl ?_
      refine OW_noU rfl rfl rfl ?_
      refine OW_no rfl rfl rfl rfl c13 ?_
      refine OW_ev (Ev_pickb_f rfl rfl c13 rfl) rfl ?_
      refine OW_ev (Ev_mvb (.inl rfl) rfl) rfl ?_
      refine OW_yes rfl rfl rfl rfl rfl (Ev.stp (Ev_mvi (.inl rfl) rfl) ?_)
      refine OW_yes rfl rfl rfl rfl rfl (Ev.stp (Ev_eql rfl rfl rfl) ?_)
      refine OW_yes rfl rfl rfl rfl rfl (Ev.stp (Ev_mvb (.inl rfl) rfl) ?_)
      refine OW_split (d := .tmp 55) rfl (fun c31 => ?_) (fun c31 => ?_)
      · have d31 := c31
        first | (with_reducible replace d31 := of_decide_eq_true d31) | (with_reducible replace d31 := bnt d31; try (with_reducible replace d31 := of_decide_eq_false d31)) | skip
        have et : (p.r.tick s).2 = 0 := by omega
        have hat2 := at_tick et
        refine OW_yes rfl rfl rfl rfl c31 (Ev.stp (Ev_mvi (.inl rfl) rfl) ?_)
        refine OW_yes rfl rfl rfl rfl c31 (Ev.stp (Ev_neq rfl rfl rfl) ?_)
        refine OW_yes rfl rfl rfl rfl c31 (Ev.stp (Ev_mvb (.inl rfl) rfl) ?_)
        refine OW_split (d := .tmp 58) rfl (fun c32 => ?_) (fun c32 => ?_)
        · have d32 := c32
          first | (with_reducible replace d32 := of_decide_eq_true d32) | (with_reducible replace d32 := bnt d32; try (with_reducible replace d32 := of_decide_eq_false d32)) | skip
          exfalso; apply d32; rw [hat2]
        · have d32 := c32
          first | (with_reducible replace d32 := of_decide_eq_false d32) | (with_reducible replace d32 := bnf d32; try (with_reducible replace d32 := of_decide_eq_true d32)) | skip
          refine OW_yes rfl rfl rfl rfl c32 (Ev.stp (Ev_loadAgg (l := ((p.r.at_ (p.r.tick s).1).1).cells) agg_29 rfl rfl (Bz.sub 0 3 (Nat.le_of_ble_eq_true rfl)) rfl) ?_)
          refine OW_yes rfl rfl rfl rfl c32 (Ev.stp (Ev_loadAgg (l := [.int _ _, .int _ _, .int _ _]) agg_29 rfl rfl (B2.sub 0 3 (Nat.le_of_ble_eq_true rfl)) rfl) ?_)
          refine OW_yes rfl rfl rfl rfl c32 (Ev.stp (Ev_neS flat_29 rfl rfl rfl rfl rfl (Slt.neL (p.r.at_ (p.r.tick s).1).1 s)) ?_)
          refine OW_yes rfl rfl rfl rfl c31 (Ev.stp (Ev_pickb_f rfl rfl c32 rfl) ?_)
          refine OW_yes rfl rfl rfl rfl rfl (Ev.stp (Ev_pickb_t rfl rfl c31 rfl) ?_)
          refine OW_ev (Ev_pickb_f rfl rfl rfl rfl) rfl ?_
          refine OW_nil ?_
          refine CW_cond rfl (fun c33 => ?_) (fun c33 => ?_)
          · have d33 := c33
            first | (with_reducible replace d33 := of_decide_eq_true d33) | (with_reducible replace d33 := bnt d33; try (with_reducible replace d33 := of_decide_eq_false d33)) | skip
            exfalso; first | (apply d33; rw [hat2]) | (revert c33; simp)
          · have d33 := c33
            first | (with_reducible replace d33 := of_decide_eq_false d33) | (with_reducible replace d33 := bnf d33; try (with_reducible replace d33 := of_decide_eq_true d33)) | skip
            refine CW_skip ?_
            refine CW_seq ?_
            refine CW_re [(1, .int _ _), (3, .pointer _), (6, .bool _), (8, .int _ _)] ⟨rfl, rfl, rfl, rfl, trivial⟩ (fun g => ?_)
            refine CW_reg rfl ?_
            refine OW_st rfl (Stp_call ent_15 rfl rfl rfl (framed_c _) ?_)
            rintro _ w34 ⟨E34, rfl⟩
            have Z34 := E34.size
            have hP := hP.keep0 E34
            have T := T.keep0 E34
            have B1 := B1.keep0 E34
            have B2 := B2.keep0 E34
            have Bx := Bx.keep0 E34
            have Bz := Bz.keep0 E34
            refine OW_ev (Ev_mvb (.inl rfl) rfl) rfl ?_
            refine OW_split (d := .tmp 66) rfl (fun c35 => ?_) (fun c35 => ?_)
            · have d35 := c35
              first | (with_reducible replace d35 := of_decide_eq_true d35) | (with_reducible replace d35 := bnt d35; try (with_reducible replace d35 := of_decide_eq_false d35)) | skip
              refine OW_yes rfl rfl rfl rfl c35 (Ev.stp (Ev_loadAgg (l := [.int _ _, .slice _ _ _, .slice _ _ _, .slice _ _ _]) agg_26 rfl rfl (B1.sub 0 4 (Nat.le_of_ble_eq_true rfl)) rfl) ?_)
              refine OW_yes rfl rfl rfl rfl c35 (Stp_call ent_17 rfl rfl rfl (check_c hP hsm) ?_)
              rintro _ w36 ⟨E36, rfl⟩
              have Z36 := E36.size
              have hP := hP.keep0 E36
              have T := T.keep0 E36
              have B1 := B1.keep0 E36
              have B2 := B2.keep0 E36
              have Bx := Bx.keep0 E36
              have Bz := Bz.keep0 E36
              refine OW_yes rfl rfl rfl rfl c35 (Ev.stp (Ev_neq rfl rfl rfl) ?_)
              refine OW_yes rfl rfl rfl rfl c35 (Ev.stp (Ev_mvb (.inl rfl) rfl) ?_)
              refine OW_split (d := .tmp 70) rfl (fun c37 => ?_) (fun c37 => ?_)
              · have d37 := c37
                first | (with_reducible replace d37 := of_decide_eq_true d37) | (with_reducible replace d37 := bnt d37; try (with_reducible replace d37 := of_decide_eq_false d37)) | skip
                refine OW_no rfl rfl rfl rfl c37 ?_
                refine OW_no rfl rfl rfl rfl c37 ?_
                refine OW_yes rfl rfl rfl rfl c35 (Ev.stp (Ev_pickb_t rfl rfl c37 rfl) ?_)
                refine OW_yes rfl rfl rfl rfl c35 (Ev.stp (Ev_mvb (.inl rfl) rfl) ?_)
                refine OW_no rfl rfl rfl rfl rfl ?_
                refine OW_no rfl rfl rfl rfl rfl ?_
                refine OW_yes rfl rfl rfl rfl c35 (Ev.stp (Ev_pickb_t rfl rfl rfl rfl) ?_)
                refine OW_yes rfl rfl rfl rfl c35 (Ev.stp (Ev_mvb (.inl rfl) rfl) ?_)
                refine OW_no rfl rfl rfl rfl rfl ?_
                refine OW_no rfl rfl rfl rfl rfl ?_
                refine OW_yes rfl rfl rfl rfl c35 (Ev.stp (Ev_pickb_t rfl rfl rfl rfl) ?_)
                refine OW_ev (Ev_pickb_t rfl rfl c35 rfl) rfl ?_
                refine OW_ev (Ev_mvb (.inr rfl) rfl) rfl ?_
                refine OW_nil ?_
                refine CW_ret ?_
                refine ⟨rfl, _, (.tmp rfl .nil), ?_⟩
                first | exact ⟨T, rfl⟩ | exact ⟨T, vb rfl (decide_eq_true (by first | exact ea | (unfold Pln.at_; rw [if_neg (by omega), if_neg (by omega)])))⟩
              · have d37 := c37
                first | (with_reducible replace d37 := of_decide_eq_false d37) | (with_reducible replace d37 := bnf d37; try (with_reducible replace d37 := of_decide_eq_true d37)) | skip
                refine OW_yes rfl rfl rfl rfl c37 (Ev.stp (Ev_mvi (.inl rfl) rfl) ?_)
                refine OW_yes rfl rfl rfl rfl c37 (Ev.stp (Ev_lss rfl rfl rfl) ?_)
                refine OW_yes rfl rfl rfl rfl c35 (Ev.stp (Ev_pickb_f rfl rfl c37 rfl) ?_)
                refine OW_yes rfl rfl rfl rfl c35 (Ev.stp (Ev_mvb (.inl rfl) rfl) ?_)
                refine OW_split (d := .tmp 74) rfl (fun c38 => ?_) (fun c38 => ?_)
                · have d38 := c38
                  first | (with_reducible replace d38 := of_decide_eq_true d38) | (with_reducible replace d38 := bnt d38; try (with_reducible replace d38 := of_decide_eq_false d38)) | skip
                  refine OW_no rfl rfl rfl rfl c38 ?_
                  refine OW_no rfl rfl rfl rfl c38 ?_
                  refine OW_yes rfl rfl rfl rfl c35 (Ev.stp (Ev_pickb_t rfl rfl c38 rfl) ?_)
                  refine OW_yes rfl rfl rfl rfl c35 (Ev.stp (Ev_mvb (.inl rfl) rfl) ?_)
                  refine OW_no rfl rfl rfl rfl rfl ?_
                  refine OW_no rfl rfl rfl rfl rfl ?_
                  refine OW_yes rfl rfl rfl rfl c35 (Ev.stp (Ev_pickb_t rfl rfl rfl rfl) ?_)
                  refine OW_ev (Ev_pickb_t rfl rfl c35 rfl) rfl ?_
                  refine OW_ev (Ev_mvb (.inr rfl) rfl) rfl ?_
                  refine OW_nil ?_
                  refine CW_ret ?_
                  refine ⟨rfl, _, (.tmp rfl .nil), ?_⟩
                  first | exact ⟨T, rfl⟩ | exact ⟨T, vb rfl (decide_eq_true (by first | exact ea | (unfold Pln.at_; rw [if_neg (by omega), if_neg (by omega)])))⟩
                · have d38 := c38
                  first | (with_reducible replace d38 := of_decide_eq_false d38) | (with_reducible replace d38 := bnf d38; try (with_reducible replace d38 := of_decide_eq_true d38)) | skip
                  refine OW_yes rfl rfl rfl rfl c38 (Ev.stp (Ev_mvi (.inl rfl) rfl) ?_)
                  refine OW_yes rfl rfl rfl rfl c38 (Ev.stp (Ev_gtr rfl rfl rfl) ?_)
                  refine OW_yes rfl rfl rfl rfl c35 (Ev.stp (Ev_pickb_f rfl rfl c38 rfl) ?_)
                  refine OW_yes rfl rfl rfl rfl c35 (Ev.stp (Ev_mvb (.inl rfl) rfl) ?_)
                  refine OW_split (d := .tmp 78) rfl (fun c39 => ?_) (fun c39 => ?_)
                  · have d39 := c39
                    first | (with_reducible replace d39 := of_decide_eq_true d39) | (with_reducible replace d39 := bnt d39; try (with_reducible replace d39 := of_decide_eq_false d39)) | skip
                    refine OW_no rfl rfl rfl rfl c39 ?_
                    refine OW_no rfl rfl rfl rfl c39 ?_
                    refine OW_yes rfl rfl rfl rfl c35 (Ev.stp (Ev_pickb_t rfl rfl c39 rfl) ?_)
                    refine OW_ev (Ev_pickb_t rfl rfl c35 rfl) rfl ?_
                    refine OW_ev (Ev_mvb (.inr rfl) rfl) rfl ?_
                    refine OW_nil ?_
                    refine CW_ret ?_
                    refine ⟨rfl, _, (.tmp rfl .nil), ?_⟩
                    first | exact ⟨T, rfl⟩ | exact ⟨T, vb rfl (decide_eq_true (by first | exact ea | (unfold Pln.at_; rw [if_neg (by omega), if_neg (by omega)])))⟩
                  · have d39 := c39
                    first | (with_reducible replace d39 := of_decide_eq_false d39) | (with_reducible replace d39 := bnf d39; try (with_reducible replace d39 := of_decide_eq_true d39)) | skip
                    refine OW_yes rfl rfl rfl rfl c39 (Ev.stp (Ev_mvi (.inl rfl) rfl) ?_)
                    refine OW_yes rfl rfl rfl rfl c39 (Ev.stp (Ev_eql rfl rfl rfl) ?_)
                    refine OW_yes rfl rfl rfl rfl c35 (Ev.stp (Ev_pickb_f rfl rfl c39 rfl) ?_)
                    refine OW_ev (Ev_pickb_t rfl rfl c35 rfl) rfl ?_
                    refine OW_ev (Ev_mvb (.inr rfl) rfl) rfl ?_
                    refine OW_nil ?_
                    refine CW_ret ?_
                    refine ⟨rfl, _, (.tmp rfl .nil), ?_⟩
                    first | exact ⟨T, rfl⟩ | exact ⟨T, vb rfl (decide_eq_true (by first | exact ea | (unfold Pln.at_; rw [if_neg (by omega), if_neg (by omega)])))⟩
            · have d35 := c35
              first | (with_reducible replace d35 := of_decide_eq_false d35) | (with_reducible replace d35 := bnf d35; try (with_reducible replace d35 := of_decide_eq_true d35)) | skip
              cases c35
      · have d31 := c31
        first | (with_reducible replace d31 := of_decide_eq_false d31) | (with_reducible replace d31 := bnf d31; try (with_reducible replace d31 := of_decide_eq_true d31)) | skip
        refine OW_no rfl rfl rfl rfl c31 ?_
        refine OW_no rfl rfl rfl rfl c31 ?_
        refine OW_no rfl rfl rfl rfl c31 ?_
        refine OW_noU rfl rfl rfl ?_
        refine OW_noU rfl rfl rfl ?_
        refine OW_noU rfl rfl rfl ?_
        refine OW_no rfl rfl rfl rfl c31 ?_
        refine OW_yes rfl rfl rfl rfl rfl (Ev.stp (Ev_pickb_f rfl rfl c31 rfl) ?_)
        refine OW_ev (Ev_pickb_f rfl rfl rfl rfl) rfl ?_
        refine OW_nil ?_
        refine CW_cond_f rfl rfl ?_
        refine CW_skip ?_
        refine CW_seq ?_
        refine CW_re [(1, .int _ _), (3, .pointer _), (6, .bool _), (8, .int _ _)] ⟨rfl, rfl, rfl, rfl, trivial⟩ (fun g => ?_)
        refine CW_reg rfl ?_
        refine OW_st rfl (Stp_call ent_15 rfl rfl rfl (framed_c _) ?_)
        rintro _ w40 ⟨E40, rfl⟩
        have Z40 := E40.size
        have hP := hP.keep0 E40
        have T := T.keep0 E40
        have B1 := B1.keep0 E40
        have B2 := B2.keep0 E40
        have Bx := Bx.keep0 E40
        have Bz := Bz.keep0 E40
        refine OW_ev (Ev_mvb (.inl rfl) rfl) rfl ?_
        refine OW_split (d := .tmp 66) rfl (fun c41 => ?_) (fun c41 => ?_)
        · have d41 := c41
          first | (with_reducible replace d41 := of_decide_eq_true d41) | (with_reducible replace d41 := bnt d41; try (with_reducible replace d41 := of_decide_eq_false d41)) | skip
          refine OW_yes rfl rfl rfl rfl c41 (Ev.stp (Ev_loadAgg (l := [.int _ _, .slice _ _ _, .slice _ _ _, .slice _ _ _]) agg_26 rfl rfl (B1.sub 0 4 (Nat.le_of_ble_eq_true rfl)) rfl) ?_)
          refine OW_yes rfl rfl rfl rfl c41 (Stp_call ent_17 rfl rfl rfl (check_c hP hsm) ?_)
          rintro _ w42 ⟨E42, rfl⟩
          have Z42 := E42.size
          have hP := hP.keep0 E42
          have T := T.keep0 E42
          have B1 := B1.keep0 E42
          have B2 := B2.keep0 E42
          have Bx := Bx.keep0 E42
          have Bz := Bz.keep0 E42
          refine OW_yes rfl rfl rfl rfl c41 (Ev.stp (Ev_neq rfl rfl rfl) ?_)
          refine OW_yes rfl rfl rfl rfl c41 (Ev.stp (Ev_mvb (.inl rfl) rfl) ?_)
          refine OW_split (d := .tmp 70) rfl (fun c43 => ?_) (fun c43 => ?_)
          · have d43 := c43
            first | (with_reducible replace d43 := of_decide_eq_true d43) | (with_reducible replace d43 := bnt d43; try (with_reducible replace d43 := of_decide_eq_false d43)) | skip
            refine OW_no rfl rfl rfl rfl c43 ?_
            refine OW_no rfl rfl rfl rfl c43 ?_
            refine OW_yes rfl rfl rfl rfl c41 (Ev.stp (Ev_pickb_t rfl rfl c43 rfl) ?_)
            refine OW_yes rfl rfl rfl rfl c41 (Ev.stp (Ev_mvb (.inl rfl) rfl) ?_)
            refine OW_no rfl rfl rfl rfl rfl ?_
            refine OW_no rfl rfl rfl rfl rfl ?_
            refine OW_yes rfl rfl rfl rfl c41 (Ev.stp (Ev_pickb_t rfl rfl rfl rfl) ?_)
            refine OW_yes rfl rfl rfl rfl c41 (Ev.stp (Ev_mvb (.inl rfl) rfl) ?_)
            refine OW_no rfl rfl rfl rfl rfl ?_
            refine OW_no rfl rfl rfl rfl rfl ?_
            refine OW_yes rfl rfl rfl rfl c41 (Ev.stp (Ev_pickb_t rfl rfl rfl rfl) ?_)
            refine OW_ev (Ev_pickb_t rfl rfl c41 rfl) rfl ?_
            refine OW_ev (Ev_mvb (.inr rfl) rfl) rfl ?_
            refine OW_nil ?_
            refine CW_ret ?_
            refine ⟨rfl, _, (.tmp rfl .nil), ?_⟩
            first | exact ⟨T, rfl⟩ | exact ⟨T, vb rfl (decide_eq_true (by first | exact ea | (unfold Pln.at_; rw [if_neg (by omega), if_neg (by omega)])))⟩
          · have d43 := c43
            first | (with_reducible replace d43 := of_decide_eq_false d43) | (with_reducible replace d43 := bnf d43; try (with_reducible replace d43 := of_decide_eq_true d43)) | skip
            refine OW_yes rfl rfl rfl rfl c43 (Ev.stp (Ev_mvi (.inl rfl) rfl) ?_)
            refine OW_yes rfl rfl rfl rfl c43 (Ev.stp (Ev_lss rfl rfl rfl) ?_)
            refine OW_yes rfl rfl rfl rfl c41 (Ev.stp (Ev_pickb_f rfl rfl c43 rfl) ?_)
            refine OW_yes rfl rfl rfl rfl c41 (Ev.stp (Ev_mvb (.inl rfl) rfl) ?_)
            refine OW_split (d := .tmp 74) rfl (fun c44 => ?_) (fun c44 => ?_)
            · have d44 := c44
              first | (with_reducible replace d44 := of_decide_eq_true d44) | (with_reducible replace d44 := bnt d44; try (with_reducible replace d44 := of_decide_eq_false d44)) | skip
              refine OW_no rfl rfl rfl rfl c44 ?_
              refine OW_no rfl rfl rfl rfl c44 ?_
              refine OW_yes rfl rfl rfl rfl c41 (Ev.stp (Ev_pickb_t rfl rfl c44 rfl) ?_)
              refine OW_yes rfl rfl rfl rfl c41 (Ev.stp (Ev_mvb (.inl rfl) rfl) ?_)
              refine OW_no rfl rfl rfl rfl rfl ?_
              refine OW_no rfl rfl rfl rfl rfl ?_
              refine OW_yes rfl rfl rfl rfl c41 (Ev.stp (Ev_pickb_t rfl rfl rfl rfl) ?_)
              refine OW_ev (Ev_pickb_t rfl rfl c41 rfl) rfl ?_
              refine OW_ev (Ev_mvb (.inr rfl) rfl) rfl ?_
              refine OW_nil ?_
              refine CW_ret ?_
              refine ⟨rfl, _, (.tmp rfl .nil), ?_⟩
              first | exact ⟨T, rfl⟩ | exact ⟨T, vb rfl (decide_eq_true (by first | exact ea | (unfold Pln.at_; rw [if_neg (by omega), if_neg (by omega)])))⟩
            · have d44 := c44
              first | (with_reducible replace d44 := of_decide_eq_false d44) | (with_reducible replace d44 := bnf d44; try (with_reducible replace d44 := of_decide_eq_true d44)) | skip
              refine OW_yes rfl rfl rfl rfl c44 (Ev.stp (Ev_mvi (.inl rfl) rfl) ?_)
              refine OW_yes rfl rfl rfl rfl c44 (Ev.stp (Ev_gtr rfl rfl rfl) ?_)
              refine OW_yes rfl rfl rfl rfl c41 (Ev.stp (Ev_pickb_f rfl rfl c44 rfl) ?_)
              refine OW_yes rfl rfl rfl rfl c41 (Ev.stp (Ev_mvb (.inl rfl) rfl) ?_)
              refine OW_split (d := .tmp 78) rfl (fun c45 => ?_) (fun c45 => ?_)
              · have d45 := c45
                first | (with_reducible replace d45 := of_decide_eq_true d45) | (with_reducible replace d45 := bnt d45; try (with_reducible replace d45 := of_decide_eq_false d45)) | skip
                refine OW_no rfl rfl rfl rfl c45 ?_
                refine OW_no rfl rfl rfl rfl c45 ?_
                refine OW_yes rfl rfl rfl rfl c41 (Ev.stp (Ev_pickb_t rfl rfl c45 rfl) ?_)
                refine OW_ev (Ev_pickb_t rfl rfl c41 rfl) rfl ?_
                refine OW_ev (Ev_mvb (.inr rfl) rfl) rfl ?_
                refine OW_nil ?_
                refine CW_ret ?_
                refine ⟨rfl, _, (.tmp rfl .nil), ?_⟩
                first | exact ⟨T, rfl⟩ | exact ⟨T, vb rfl (decide_eq_true (by first | exact ea | (unfold Pln.at_; rw [if_neg (by omega), if_neg (by omega)])))⟩
              · have d45 := c45
                first | (with_reducible replace d45 := of_decide_eq_false d45) | (with_reducible replace d45 := bnf d45; try (with_reducible replace d45 := of_decide_eq_true d45)) | skip
                refine OW_yes rfl rfl rfl rfl c45 (Ev.stp (Ev_mvi (.inl rfl) rfl) ?_)
                refine OW_yes rfl rfl rfl rfl c45 (Ev.stp (Ev_eql rfl rfl rfl) ?_)
                refine OW_yes rfl rfl rfl rfl c41 (Ev.stp (Ev_pickb_f rfl rfl c45 rfl) ?_)
                refine OW_ev (Ev_pickb_t rfl rfl c41 rfl) rfl ?_
                refine OW_ev (Ev_mvb (.inr rfl) rfl) rfl ?_
                refine OW_nil ?_
                refine CW_ret ?_
                refine ⟨rfl, _, (.tmp rfl .nil), ?_⟩
                first | exact ⟨T, rfl⟩ | exact ⟨T, vb rfl (decide_eq_true (by first | exact ea | (unfold Pln.at_; rw [if_neg (by omega), if_neg (by omega)])))⟩
        · have d41 := c41
          first | (with_reducible replace d41 := of_decide_eq_false d41) | (with_reducible replace d41 := bnf d41; try (with_reducible replace d41 := of_decide_eq_true d41)) | skip
          cases c41

end Go.Proofs.Ytcfadhjiijngmaa