/- Contracts of packages major and blackboxref18: At, Owner. -/
import Derived.Test.YtcfadhjiijngmaaTypes
import Derived.Test.YtcfadhjiijngmaaMajorData
import Derived.Test.YtcfadhjiijngmaaMajor1
namespace Go.Proofs.Ytcfadhjiijngmaa
open Go Go.RowKit Bx Go.Proofs

theorem at_ok {p : Pln} {n : Int} (h : (p.at_ n).2 = 0) : p.Ok ∧ (0 ≤ n ∧ n ≤ 1099511627776) ∧ p.at_ n = (p.slot n, 0) := by
  unfold Pln.at_ at h ⊢
  by_cases he : p.err ≠ 0
  · rw [if_pos he] at h; exact absurd h he
  · rw [if_neg he] at h ⊢
    by_cases hn : n < 0 ∨ 1099511627776 < n
    · rw [if_pos hn] at h; cases h
    · rw [if_neg hn]; exact ⟨Pln.ok_of (Classical.not_not.1 he), by omega, rfl⟩

set_option maxRecDepth 10000 in
set_option maxHeartbeats 2000000 in
theorem at_c {F : Nat → Prop} {w : World} {p : PlnM} {n : Int} (hP : PlnS F w p) (hsm : p.ps.length ≤ 1000 ∧ p.ws.length ≤ 1000 ∧ p.cs.length ≤ 1000) : Calls Try.prog 11 #[.agg p.cl.toArray, .int .i64 n] w (Ret fun v w' => Kp0 w w' ∧ v = .tuple #[.agg (p.r.at_ n).1.cells.toArray, .int .i64 (p.r.at_ n).2]) := by
  have hP := hP.old
  obtain ⟨NW, hNW⟩ : ∃ x, x = w.heap.size := ⟨_, rfl⟩
  rw [← hNW] at hP
  have T : Kp0 w w := Kp.refl _ _
  refine calls_start Try.func11 rfl (n := 20) rfl rfl rfl ?_
  refine CW_seq ?_
  refine CW_reg rfl ?_
  refine OW_st rfl (Stp_box (l := [.int _ _, .slice _ _ _, .slice _ _ _, .slice _ _ _]) rfl rfl rfl ?_)
  intro b1 w1 hb1 hz1 E1 B1
  have L1 : _ ≤ b1 := Nat.le_trans T.size (Nat.le_of_eq hb1.symm)
  have hP := hP.keep0 E1
  have T := T.keep0 E1
  replace B1 : Blk w1 b1 26 (p.cl) := B1
  refine OW_st rfl (Stp_alloc zero_29 rfl ?_)
  intro b2 w2 hb2 hz2 E2 B2
  have L2 : _ ≤ b2 := Nat.le_trans T.size (Nat.le_of_eq hb2.symm)
  have hP := hP.keep0 E2
  have T := T.keep0 E2
  have B1 := B1.keep0 E2
  refine OW_ev (Ev_c (.inr rfl)) rfl ?_
  refine OW_nil ?_
  refine CW_seq ?_
  refine CW_seq ?_
  refine CW_reg rfl ?_
  refine OW_ev (Ev_loadAgg (l := [.int _ _, .slice _ _ _, .slice _ _ _, .slice _ _ _]) agg_26 rfl rfl (B1.sub 0 4 (Nat.le_of_ble_eq_true rfl)) rfl) rfl ?_
  refine OW_st rfl (Stp_call ent_17 rfl rfl rfl (check_c hP hsm) ?_)
  rintro _ w3 ⟨E3, rfl⟩
  have Z3 := E3.size
  have hP := hP.keep0 E3
  have T := T.keep0 E3
  have B1 := B1.keep0 E3
  have B2 := B2.keep0 E3
  refine OW_ev (Ev_mvi (.inr rfl) rfl) rfl ?_
  refine OW_nil ?_
  refine CW_seq ?_
  refine CW_reg rfl ?_
  refine OW_ev (Ev_mvi (.inl rfl) rfl) rfl ?_
  refine OW_ev (Ev_neq rfl rfl rfl) rfl ?_
  refine OW_nil ?_
  refine CW_cond rfl (fun c4 => ?_) (fun c4 => ?_)
  · have d4 := c4
    first | (with_reducible replace d4 := of_decide_eq_true d4) | (with_reducible replace d4 := bnt d4; try (with_reducible replace d4 := of_decide_eq_false d4)) | skip
    have he := d4
    have hat : p.r.at_ n = (Slt.zero, p.r.err) := if_pos he
    refine CW_seq ?_
    refine CW_reg rfl ?_
    refine OW_ev (Ev_build (l := [.int _ _, .int _ _, .int _ _]) plc_29 zero_29 rfl rfl rfl) rfl ?_
    refine OW_ev (Ev_mvi (.inl rfl) rfl) rfl ?_
    refine OW_st rfl (Stp_store (q := 0) (vs := [.int _ _, .int _ _, .int _ _]) B2 siz_29 rfl rfl rfl rfl (Nat.le_of_ble_eq_true rfl) rfl ?_)
    intro w5 hz5 E5 B5
    have Z5 := E5.size
    have hP := hP.keepb E5 (fun h => by change _ < _ at h; omega)
    have T := T.transb E5 (by omega)
    have B1 := B1.keepb E5 (by intro h; first | omega | (change _ < _ at h; omega) | (change _ ≤ _ at h; omega) | (have h1 := h.1; have h2 := h.2; first | omega | (change _ ≤ _ at h1; omega) | (change _ < _ at h1; omega)))
    clear B2
    have B2 : Blk _ _ _ [_, _, _] := B5
    clear B5
    refine OW_ev (Ev_mvi (.inr rfl) rfl) rfl ?_
    refine OW_nil ?_
    refine CW_ret ?_
    refine ⟨rfl, _, (.cell rfl (ld_agg agg_29 (B2.sub 0 3 (Nat.le_of_ble_eq_true rfl)) rfl) (.tmp rfl .nil)), ?_⟩
    exact ⟨T, by rw [hat]; rfl⟩
  · have d4 := c4
    first | (with_reducible replace d4 := of_decide_eq_false d4) | (with_reducible replace d4 := bnf d4; try (with_reducible replace d4 := of_decide_eq_true d4)) | skip
    have he : p.r.err = 0 := by omega
    have hok := Pln.ok_of he
    refine CW_skip ?_
    refine CW_seq ?_
    refine CW_seq ?_
    refine CW_reg rfl ?_
    refine OW_ev (Ev_mvi (.inl rfl) rfl) rfl ?_
    refine OW_st rfl (Stp_call ent_36 rfl rfl rfl (mtick_c _ _) ?_)
    rintro _ w6 ⟨E6, rfl⟩
    have Z6 := E6.size
    have hP := hP.keep0 E6
    have T := T.keep0 E6
    have B1 := B1.keep0 E6
    have B2 := B2.keep0 E6
    refine OW_ev (Ev_not rfl rfl) rfl ?_
    refine OW_nil ?_
    refine CW_cond rfl (fun c7 => ?_) (fun c7 => ?_)
    · have d7 := c7
      first | (with_reducible replace d7 := of_decide_eq_true d7) | (with_reducible replace d7 := bnt d7; try (with_reducible replace d7 := of_decide_eq_false d7)) | skip
      have htk : isTick n = false := by first | exact d7 | simpa using c7
      have htk2 : n < 0 ∨ 1099511627776 < n := by unfold isTick at htk; have := of_decide_eq_false htk; omega
      have hat : p.r.at_ n = (Slt.zero, 6) := by unfold Pln.at_; rw [if_neg (by simp [he]), if_pos htk2]
      refine CW_seq ?_
      refine CW_reg rfl ?_
      refine OW_ev (Ev_build (l := [.int _ _, .int _ _, .int _ _]) plc_29 zero_29 rfl rfl rfl) rfl ?_
      refine OW_st rfl (Stp_store (q := 0) (vs := [.int _ _, .int _ _, .int _ _]) B2 siz_29 rfl rfl rfl rfl (Nat.le_of_ble_eq_true rfl) rfl ?_)
      intro w8 hz8 E8 B8
      have Z8 := E8.size
      have hP := hP.keepb E8 (fun h => by change _ < _ at h; omega)
      have T := T.transb E8 (by omega)
      have B1 := B1.keepb E8 (by intro h; first | omega | (change _ < _ at h; omega) | (change _ ≤ _ at h; omega) | (have h1 := h.1; have h2 := h.2; first | omega | (change _ ≤ _ at h1; omega) | (change _ < _ at h1; omega)))
      clear B2
      have B2 : Blk _ _ _ [_, _, _] := B8
      clear B8
      refine OW_ev (Ev_c (.inr rfl)) rfl ?_
      refine OW_nil ?_
      refine CW_ret ?_
      refine ⟨rfl, _, (.cell rfl (ld_agg agg_29 (B2.sub 0 3 (Nat.le_of_ble_eq_true rfl)) rfl) (.tmp rfl .nil)), ?_⟩
      exact ⟨T, by rw [hat]; rfl⟩
    · have d7 := c7
      first | (with_reducible replace d7 := of_decide_eq_false d7) | (with_reducible replace d7 := bnf d7; try (with_reducible replace d7 := of_decide_eq_true d7)) | skip
      have htk : isTick n = true := by first | exact d7 | simpa using c7
      have htk2 : 0 ≤ n ∧ n ≤ 1099511627776 := by unfold isTick at htk; exact of_decide_eq_true htk
      have hat : p.r.at_ n = (p.r.slot n, 0) := by unfold Pln.at_; rw [if_neg (by simp [he]), if_neg (by omega)]
      refine CW_skip ?_
      refine CW_seq ?_
      refine CW_reg rfl ?_
      refine OW_ev (Ev_loadAgg (l := [.int _ _, .slice _ _ _, .slice _ _ _, .slice _ _ _]) agg_26 rfl rfl (B1.sub 0 4 (Nat.le_of_ble_eq_true rfl)) rfl) rfl ?_
      refine OW_ev (Ev_mvi (.inl rfl) rfl) rfl ?_
      refine OW_st rfl (Stp_call ent_37 rfl rfl rfl (place_c hP hsm hok ⟨by omega, by omega⟩) ?_)
      rintro _ w9 ⟨E9, rfl⟩
      have Z9 := E9.size
      have hP := hP.keep0 E9
      have T := T.keep0 E9
      have B1 := B1.keep0 E9
      have B2 := B2.keep0 E9
      refine OW_st rfl (Stp_store (q := 0) B2 siz_29 rfl rfl rfl rfl (Nat.le_of_ble_eq_true rfl) rfl ?_)
      intro w10 hz10 E10 B10
      have Z10 := E10.size
      have hP := hP.keepb E10 (fun h => by change _ < _ at h; omega)
      have T := T.transb E10 (by omega)
      have B1 := B1.keepb E10 (by intro h; first | omega | (change _ < _ at h; omega) | (change _ ≤ _ at h; omega) | (have h1 := h.1; have h2 := h.2; first | omega | (change _ ≤ _ at h1; omega) | (change _ < _ at h1; omega)))
      clear B2
      have B2 := B10
      clear B10
      refine OW_ev (Ev_c (.inr rfl)) rfl ?_
      refine OW_nil ?_
      refine CW_ret ?_
      refine ⟨rfl, _, (.cell rfl (ld_agg agg_29 (B2.sub 0 3 (Nat.le_of_ble_eq_true rfl)) rfl) (.tmp rfl .nil)), ?_⟩
      exact ⟨T, by rw [hat]; rfl⟩

set_option maxRecDepth 10000 in
set_option maxHeartbeats 2000000 in
theorem atR_c {F : Nat → Prop} {w : World} {p : PlnM} {n : Int} (hP : PlnS F w p) (hsm : p.ps.length ≤ 1000 ∧ p.ws.length ≤ 1000 ∧ p.cs.length ≤ 1000) : Calls Try.prog 12 #[.agg p.cl.toArray, .int .i64 n] w (Ret fun v w' => Kp0 w w' ∧ v = .tuple #[.agg (p.r.at_ n).1.cells.toArray, .int .i64 (p.r.at_ n).2]) := by
  have hP := hP.old
  obtain ⟨NW, hNW⟩ : ∃ x, x = w.heap.size := ⟨_, rfl⟩
  rw [← hNW] at hP
  have T : Kp0 w w := Kp.refl _ _
  refine calls_start Try.func12 rfl (n := 58) rfl rfl rfl ?_
  refine CW_seq ?_
  refine CW_reg rfl ?_
  refine OW_st rfl (Stp_box (l := [.int _ _, .slice _ _ _, .slice _ _ _, .slice _ _ _]) rfl rfl rfl ?_)
  intro b1 w1 hb1 hz1 E1 B1
  have L1 : _ ≤ b1 := Nat.le_trans T.size (Nat.le_of_eq hb1.symm)
  have hP := hP.keep0 E1
  have T := T.keep0 E1
  replace B1 : Blk w1 b1 26 (p.cl) := B1
  refine OW_st rfl (Stp_alloc zero_29 rfl ?_)
  intro b2 w2 hb2 hz2 E2 B2
  have L2 : _ ≤ b2 := Nat.le_trans T.size (Nat.le_of_eq hb2.symm)
  have hP := hP.keep0 E2
  have T := T.keep0 E2
  have B1 := B1.keep0 E2
  refine OW_ev (Ev_c (.inr rfl)) rfl ?_
  refine OW_nil ?_
  refine CW_seq ?_
  refine CW_reg rfl ?_
  refine OW_ev (Ev_loadAgg (l := [.int _ _, .slice _ _ _, .slice _ _ _, .slice _ _ _]) agg_26 rfl rfl (B1.sub 0 4 (Nat.le_of_ble_eq_true rfl)) rfl) rfl ?_
  refine OW_st rfl (Stp_call ent_38 rfl rfl rfl (rcheck_c hP hsm) ?_)
  rintro _ w3 ⟨E3, rfl⟩
  have Z3 := E3.size
  have hP := hP.keep0 E3
  have T := T.keep0 E3
  have B1 := B1.keep0 E3
  have B2 := B2.keep0 E3
  refine OW_ev (Ev_mvi (.inr rfl) rfl) rfl ?_
  refine OW_nil ?_
  refine CW_seq ?_
  refine CW_seq ?_
  refine CW_reg rfl ?_
  refine OW_ev (Ev_mvi (.inl rfl) rfl) rfl ?_
  refine OW_ev (Ev_neq rfl rfl rfl) rfl ?_
  refine OW_nil ?_
  refine CW_cond rfl (fun c4 => ?_) (fun c4 => ?_)
  · have d4 := c4
    first | (with_reducible replace d4 := of_decide_eq_true d4) | (with_reducible replace d4 := bnt d4; try (with_reducible replace d4 := of_decide_eq_false d4)) | skip
    have he := d4
    have hat : p.r.at_ n = (Slt.zero, p.r.err) := if_pos he
    refine CW_seq ?_
    refine CW_reg rfl ?_
    refine OW_ev (Ev_build (l := [.int _ _, .int _ _, .int _ _]) plc_29 zero_29 rfl rfl rfl) rfl ?_
    refine OW_ev (Ev_mvi (.inl rfl) rfl) rfl ?_
    refine OW_st rfl (Stp_store (q := 0) (vs := [.int _ _, .int _ _, .int _ _]) B2 siz_29 rfl rfl rfl rfl (Nat.le_of_ble_eq_true rfl) rfl ?_)
    intro w5 hz5 E5 B5
    have Z5 := E5.size
    have hP := hP.keepb E5 (fun h => by change _ < _ at h; omega)
    have T := T.transb E5 (by omega)
    have B1 := B1.keepb E5 (by intro h; first | omega | (change _ < _ at h; omega) | (change _ ≤ _ at h; omega) | (have h1 := h.1; have h2 := h.2; first | omega | (change _ ≤ _ at h1; omega) | (change _ < _ at h1; omega)))
    clear B2
    have B2 : Blk _ _ _ [_, _, _] := B5
    clear B5
    refine OW_ev (Ev_mvi (.inr rfl) rfl) rfl ?_
    refine OW_nil ?_
    refine CW_ret ?_
    refine ⟨rfl, _, (.cell rfl (ld_agg agg_29 (B2.sub 0 3 (Nat.le_of_ble_eq_true rfl)) rfl) (.tmp rfl .nil)), ?_⟩
    exact ⟨T, by rw [hat]; first | rfl | (rw [hsl]; rfl)⟩
  · have d4 := c4
    first | (with_reducible replace d4 := of_decide_eq_false d4) | (with_reducible replace d4 := bnf d4; try (with_reducible replace d4 := of_decide_eq_true d4)) | skip
    have he : p.r.err = 0 := by omega
    have hok := Pln.ok_of he
    have hfb := hok.frame_bd
    have hwl : 1 ≤ p.ws.length ∧ p.ws.length ≤ 32 := hok.wsl
    refine CW_skip ?_
    refine CW_seq ?_
    refine CW_seq ?_
    refine CW_reg rfl ?_
    refine OW_ev (Ev_mvi (.inl rfl) rfl) rfl ?_
    refine OW_ev (Ev_lss rfl rfl rfl) rfl ?_
    refine OW_ev (Ev_mvb (.inl rfl) rfl) rfl ?_
    refine OW_split (d := .tmp 18) rfl (fun c6 => ?_) (fun c6 => ?_)
    · have d6 := c6
      first | (with_reducible replace d6 := of_decide_eq_true d6) | (with_reducible replace d6 := bnt d6; try (with_reducible replace d6 := of_decide_eq_false d6)) | skip
      refine OW_no rfl rfl rfl rfl c6 ?_
      refine OW_no rfl rfl rfl rfl c6 ?_
      refine OW_ev (Ev_pickb_t rfl rfl c6 rfl) rfl ?_
      refine OW_nil ?_
      have hat : p.r.at_ n = (Slt.zero, 6) := by unfold Pln.at_; rw [if_neg (by simp [he]), if_pos (by omega)]
      refine CW_cond_t rfl rfl ?_
      refine CW_seq ?_
      refine CW_reg rfl ?_
      refine OW_ev (Ev_build (l := [.int _ _, .int _ _, .int _ _]) plc_29 zero_29 rfl rfl rfl) rfl ?_
      refine OW_st rfl (Stp_store (q := 0) (vs := [.int _ _, .int _ _, .int _ _]) B2 siz_29 rfl rfl rfl rfl (Nat.le_of_ble_eq_true rfl) rfl ?_)
      intro w7 hz7 E7 B7
      have Z7 := E7.size
      have hP := hP.keepb E7 (fun h => by change _ < _ at h; omega)
      have T := T.transb E7 (by omega)
      have B1 := B1.keepb E7 (by intro h; first | omega | (change _ < _ at h; omega) | (change _ ≤ _ at h; omega) | (have h1 := h.1; have h2 := h.2; first | omega | (change _ ≤ _ at h1; omega) | (change _ < _ at h1; omega)))
      clear B2
      have B2 : Blk _ _ _ [_, _, _] := B7
      clear B7
      refine OW_ev (Ev_c (.inr rfl)) rfl ?_
      refine OW_nil ?_
      refine CW_ret ?_
      refine ⟨rfl, _, (.cell rfl (ld_agg agg_29 (B2.sub 0 3 (Nat.le_of_ble_eq_true rfl)) rfl) (.tmp rfl .nil)), ?_⟩
      exact ⟨T, by rw [hat]; first | rfl | (rw [hsl]; rfl)⟩
    · have d6 := c6
      first | (with_reducible replace d6 := of_decide_eq_false d6) | (with_reducible replace d6 := bnf d6; try (with_reducible replace d6 := of_decide_eq_true d6)) | skip
      refine OW_yes rfl rfl rfl rfl c6 (Ev.stp (Ev_mvi (.inl rfl) rfl) ?_)
      refine OW_yes rfl rfl rfl rfl c6 (Ev.stp (Ev_gtr rfl rfl rfl) ?_)
      refine OW_ev (Ev_pickb_f rfl rfl c6 rfl) rfl ?_
      refine OW_nil ?_
      refine CW_cond rfl (fun c8 => ?_) (fun c8 => ?_)
      · have d8 := c8
        first | (with_reducible replace d8 := of_decide_eq_true d8) | (with_reducible replace d8 := bnt d8; try (with_reducible replace d8 := of_decide_eq_false d8)) | skip
        have hat : p.r.at_ n = (Slt.zero, 6) := by unfold Pln.at_; rw [if_neg (by simp [he]), if_pos (by omega)]
        refine CW_seq ?_
        refine CW_reg rfl ?_
        refine OW_ev (Ev_build (l := [.int _ _, .int _ _, .int _ _]) plc_29 zero_29 rfl rfl rfl) rfl ?_
        refine OW_st rfl (Stp_store (q := 0) (vs := [.int _ _, .int _ _, .int _ _]) B2 siz_29 rfl rfl rfl rfl (Nat.le_of_ble_eq_true rfl) rfl ?_)
        intro w9 hz9 E9 B9
        have Z9 := E9.size
        have hP := hP.keepb E9 (fun h => by change _ < _ at h; omega)
        have T := T.transb E9 (by omega)
        have B1 := B1.keepb E9 (by intro h; first | omega | (change _ < _ at h; omega) | (change _ ≤ _ at h; omega) | (have h1 := h.1; have h2 := h.2; first | omega | (change _ ≤ _ at h1; omega) | (change _ < _ at h1; omega)))
        clear B2
        have B2 : Blk _ _ _ [_, _, _] := B9
        clear B9
        refine OW_ev (Ev_c (.inr rfl)) rfl ?_
        refine OW_nil ?_
        refine CW_ret ?_
        refine ⟨rfl, _, (.cell rfl (ld_agg agg_29 (B2.sub 0 3 (Nat.le_of_ble_eq_true rfl)) rfl) (.tmp rfl .nil)), ?_⟩
        exact ⟨T, by rw [hat]; first | rfl | (rw [hsl]; rfl)⟩
      · have d8 := c8
        first | (with_reducible replace d8 := of_decide_eq_false d8) | (with_reducible replace d8 := bnf d8; try (with_reducible replace d8 := of_decide_eq_true d8)) | skip
        have hn0 : 0 ≤ n ∧ n ≤ 1099511627776 := by omega
        have hat : p.r.at_ n = (p.r.slot n, 0) := by unfold Pln.at_; rw [if_neg (by simp [he]), if_neg (by omega)]
        have hm0 := Int.emod_nonneg n (show p.r.frame ≠ 0 by omega)
        have hm1 := Int.emod_lt_of_pos n (show 0 < p.r.frame by omega)
        have hfe : p.r.frame = aheadT p.ws p.ws.length := (Pln.Ok.frame_eq (p := p.r))
        have hq0 : 0 ≤ n / p.r.frame := Int.ediv_nonneg hn0.1 (by omega)
        have hq1 : n / p.r.frame ≤ n := Int.ediv_le_self _ hn0.1
        refine CW_skip ?_
        refine CW_seq ?_
        refine CW_reg rfl ?_
        refine OW_ev (Ev_loadAgg (l := [.int _ _, .slice _ _ _, .slice _ _ _, .slice _ _ _]) agg_26 rfl rfl (B1.sub 0 4 (Nat.le_of_ble_eq_true rfl)) rfl) rfl ?_
        refine OW_st rfl (Stp_call ent_39 rfl rfl rfl (rframe_c hP (by omega)) ?_)
        rintro _ w10 ⟨E10, rfl⟩
        have Z10 := E10.size
        have hP := hP.keep0 E10
        have T := T.keep0 E10
        have B1 := B1.keep0 E10
        have B2 := B2.keep0 E10
        refine OW_ev (Ev_mvi (.inr rfl) rfl) rfl ?_
        refine OW_nil ?_
        refine CW_seq ?_
        refine CW_re [(1, .int _ _), (2, .pointer _), (4, .pointer _), (5, .int _ _), (7, .int _ _)] ⟨rfl, rfl, rfl, rfl, rfl, trivial⟩ (fun g => ?_)
        refine CW_reg rfl ?_
        refine OW_ev (Ev_mvi (.inl rfl) rfl) rfl ?_
        refine OW_ev (Ev_mvi (.inl rfl) rfl) rfl ?_
        refine OW_ev (Ev_rem rfl rfl rfl (by omega) (by omega)) rfl ?_
        refine OW_ev (Ev_mvi (.inr rfl) rfl) rfl ?_
        refine OW_nil ?_
        refine CW_seq ?_
        refine CW_seq ?_
        refine CW_reg rfl ?_
        refine OW_ev (Ev_c (.inr rfl)) rfl ?_
        refine OW_nil ?_
        refine CW_block ?_
        refine CW_loop (α := Nat) (fun (k : Nat) f wr => AllEq f [(1, .int .i64 n), (2, .pointer (some ⟨b1, 0, none⟩)), (4, .pointer (some ⟨b2, 0, none⟩)), (7, .int .i64 p.r.frame), (8, .int .i64 (n % p.r.frame - aheadT p.ws k)), (9, .int .i64 (k : Int))] ∧ (k ≤ p.ws.length) ∧ (aheadT p.ws k ≤ n % p.r.frame) ∧ (Blk wr b1 26 p.cl) ∧ (Blk wr b2 29 [.int .i64 0, .int .i64 0, .int .i64 0]) ∧ (PlnS (fun b => b < NW) wr p) ∧ (Kp0 w wr)) (fun k => p.ws.length - k) 0 ?_ ?_
        ·
          have h0 : aheadT p.ws 0 = 0 := by unfold aheadT; simp [ticksOf]
          exact ⟨⟨rfl, rfl, rfl, rfl, vi rfl (by rw [h0]; omega), rfl, trivial⟩, Nat.zero_le _, by rw [h0]; exact hm0, B1, B2, hP, T⟩
        ·
          rintro k f wr ⟨hf, hk, hlo, B1, B2, hP, T⟩
          obtain ⟨g, rfl⟩ : ∃ g, f = upl g [(1, .int .i64 n), (2, .pointer (some ⟨b1, 0, none⟩)), (4, .pointer (some ⟨b2, 0, none⟩)), (7, .int .i64 p.r.frame), (8, .int .i64 (n % p.r.frame - aheadT p.ws k)), (9, .int .i64 (k : Int))] := ⟨f, upl_self hf⟩
          clear hf
          refine CW_seq ?_
          refine CW_seq ?_
          refine CW_reg rfl ?_
          refine OW_ev (Ev_mvi (.inl rfl) rfl) rfl ?_
          refine OW_ev (Ev_fieldAddr fld_26_2 rfl rfl) rfl ?_
          refine OW_ev (Ev_load one_23 rfl rfl (B1.ld (q := 2) rfl)) rfl ?_
          refine OW_ev (Ev_len und_23 rfl rfl) rfl ?_
          refine OW_ev (Ev_lss rfl rfl rfl) rfl ?_
          refine OW_nil ?_
          refine CW_cond rfl (fun c11 => ?_) (fun c11 => ?_)
          · have d11 := c11
            first | (with_reducible replace d11 := of_decide_eq_true d11) | (with_reducible replace d11 := bnt d11; try (with_reducible replace d11 := of_decide_eq_false d11)) | skip
            have hk2 : k < p.ws.length := by omega
            obtain ⟨x, hxj, hgx, hmem⟩ := getW (ws := p.ws) (j := k) (by omega)
            have K := hP.2.1.at_ hgx
            have htx := hok.ticks x hmem
            have hah := aheadT_succ hxj htx
            have habd := aheadT_bd (ws := p.ws) k
            refine CW_skip ?_
            refine CW_seq ?_
            refine CW_block ?_
            refine CW_seq ?_
            refine CW_seq ?_
            refine CW_reg rfl ?_
            refine OW_ev (Ev_mvi (.inl rfl) rfl) rfl ?_
            refine OW_ev (Ev_fieldAddr fld_26_2 rfl rfl) rfl ?_
            refine OW_ev (Ev_load one_23 rfl rfl (B1.ld (q := 2) rfl)) rfl ?_
            refine OW_ev (Ev_mvi (.inl rfl) rfl) rfl ?_
            refine OW_ev (Ev_idx k (hP.2.1.ad hgx) sl_23 rfl rfl rfl rfl (by omega)) rfl ?_
            refine OW_ev (Ev_fieldAddr fld_88_1 rfl rfl) rfl ?_
            refine OW_ev (Ev_load one_3 rfl rfl (K.one 1 rfl)) rfl ?_
            refine OW_ev (Ev_lss rfl rfl rfl) rfl ?_
            refine OW_nil ?_
            refine CW_cond rfl (fun c12 => ?_) (fun c12 => ?_)
            · have d12 := c12
              first | (with_reducible replace d12 := of_decide_eq_true d12) | (with_reducible replace d12 := bnt d12; try (with_reducible replace d12 := of_decide_eq_false d12)) | skip
              have hlt : n % p.r.frame < aheadT p.ws (k + 1) := by omega
              have hsl := hok.slot_eq (n := n) (k := k) hlo hlt
              refine CW_seq ?_
              refine CW_re [(1, .int _ _), (2, .pointer _), (4, .pointer _), (7, .int _ _), (8, .int _ _), (9, .int _ _)] ⟨rfl, rfl, rfl, rfl, rfl, rfl, trivial⟩ (fun g => ?_)
              refine CW_reg rfl ?_
              refine OW_ev (Ev_mvi (.inl rfl) rfl) rfl ?_
              refine OW_ev (Ev_mvi (.inl rfl) rfl) rfl ?_
              refine OW_ev (Ev_quo rfl rfl rfl (by omega) (by omega) (by apply IntWalk.i64_in; omega)) rfl ?_
              refine OW_ev (Ev_mvi (.inl rfl) rfl) rfl ?_
              refine OW_ev (Ev_mvi (.inl rfl) rfl) rfl ?_
              refine OW_ev (Ev_build (l := [.int _ _, .int _ _, .int _ _]) plc_29 zero_29 rfl rfl rfl) rfl ?_
              refine OW_st rfl (Stp_store (q := 0) (vs := [.int _ _, .int _ _, .int _ _]) B2 siz_29 rfl rfl rfl rfl (Nat.le_of_ble_eq_true rfl) rfl ?_)
              intro w13 hz13 E13 B13
              have Z13 := E13.size
              have T := T.transb E13 (by omega)
              have B1 := B1.keepb E13 (by intro h; first | omega | (change _ < _ at h; omega) | (change _ ≤ _ at h; omega) | (have h1 := h.1; have h2 := h.2; first | omega | (change _ ≤ _ at h1; omega) | (change _ < _ at h1; omega)))
              have hP := hP.keepb E13 (fun h => by change _ < _ at h; omega)
              clear B2
              have B2 : Blk _ _ _ [_, _, _] := B13
              clear B13
              refine OW_ev (Ev_c (.inr rfl)) rfl ?_
              refine OW_nil ?_
              refine CW_ret ?_
              refine blk_ret ?_
              refine blk_ret ?_
              refine ⟨rfl, _, (.cell rfl (ld_agg agg_29 (B2.sub 0 3 (Nat.le_of_ble_eq_true rfl)) rfl) (.tmp rfl .nil)), ?_⟩
              exact ⟨T, by rw [hat]; first | rfl | (rw [hsl]; rfl)⟩
            · have d12 := c12
              first | (with_reducible replace d12 := of_decide_eq_false d12) | (with_reducible replace d12 := bnf d12; try (with_reducible replace d12 := of_decide_eq_true d12)) | skip
              have hge : aheadT p.ws (k + 1) ≤ n % p.r.frame := by omega
              refine CW_skip ?_
              refine CW_re [(1, .int _ _), (2, .pointer _), (4, .pointer _), (7, .int _ _), (8, .int _ _), (9, .int _ _)] ⟨rfl, rfl, rfl, rfl, rfl, rfl, trivial⟩ (fun g => ?_)
              refine CW_reg rfl ?_
              refine OW_ev (Ev_mvi (.inl rfl) rfl) rfl ?_
              refine OW_ev (Ev_fieldAddr fld_26_2 rfl rfl) rfl ?_
              refine OW_ev (Ev_load one_23 rfl rfl (B1.ld (q := 2) rfl)) rfl ?_
              refine OW_ev (Ev_mvi (.inl rfl) rfl) rfl ?_
              refine OW_ev (Ev_idx k (hP.2.1.ad hgx) sl_23 rfl rfl rfl rfl (by omega)) rfl ?_
              refine OW_ev (Ev_fieldAddr fld_88_1 rfl rfl) rfl ?_
              refine OW_ev (Ev_load one_3 rfl rfl (K.one 1 rfl)) rfl ?_
              refine OW_ev (Ev_sub rfl rfl rfl (by first | (apply IntWalk.i64_in; omega) | (apply IntWalk.u64_in; omega) | (apply IntWalk.u32_in; omega) | (apply IntWalk.u8_in; omega) | (apply IntWalk.i32_in; omega) | rfl)) rfl ?_
              refine OW_ev (Ev_mvi (.inr rfl) rfl) rfl ?_
              refine OW_nil ?_
              refine CW_reg rfl ?_
              refine OW_ev (Ev_mvi (.inl rfl) rfl) rfl ?_
              refine OW_ev (Ev_add rfl rfl rfl (by first | (apply IntWalk.i64_in; omega) | (apply IntWalk.u64_in; omega) | (apply IntWalk.u32_in; omega) | (apply IntWalk.u8_in; omega) | (apply IntWalk.i32_in; omega) | rfl)) rfl ?_
              refine OW_ev (Ev_mvi (.inr rfl) rfl) rfl ?_
              refine OW_nil ?_
              exact ⟨k + 1, by omega, ⟨rfl, rfl, rfl, rfl, vi rfl (by rw [hah]; omega), congrArg (Value.int .i64) (by omega), trivial⟩, by omega, hge, B1, B2, hP, T⟩
          · have d11 := c11
            first | (with_reducible replace d11 := of_decide_eq_false d11) | (with_reducible replace d11 := bnf d11; try (with_reducible replace d11 := of_decide_eq_true d11)) | skip
            exfalso; (have hk2 : k = p.ws.length := by omega); rw [hk2, ← hfe] at hlo; omega

set_option maxRecDepth 10000 in
set_option maxHeartbeats 2000000 in
theorem owner_c {F : Nat → Prop} {w : World} {p : PlnM} {n : Int} (hP : PlnS F w p) (hsm : p.ps.length ≤ 1000 ∧ p.ws.length ≤ 1000 ∧ p.cs.length ≤ 1000) : Calls Try.prog 13 #[.agg p.cl.toArray, .int .i64 n] w (Ret fun v w' => Kp0 w w' ∧ v = .tuple #[.int .i64 (p.r.owner n).1, .int .i64 (p.r.owner n).2]) := by
  have hP := hP.old
  obtain ⟨NW, hNW⟩ : ∃ x, x = w.heap.size := ⟨_, rfl⟩
  rw [← hNW] at hP
  have T : Kp0 w w := Kp.refl _ _
  refine calls_start Try.func13 rfl (n := 24) rfl rfl rfl ?_
  refine CW_seq ?_
  refine CW_reg rfl ?_
  refine OW_st rfl (Stp_box (l := [.int _ _, .slice _ _ _, .slice _ _ _, .slice _ _ _]) rfl rfl rfl ?_)
  intro b1 w1 hb1 hz1 E1 B1
  have L1 : _ ≤ b1 := Nat.le_trans T.size (Nat.le_of_eq hb1.symm)
  have hP := hP.keep0 E1
  have T := T.keep0 E1
  replace B1 : Blk w1 b1 26 (p.cl) := B1
  refine OW_ev (Ev_c (.inr rfl)) rfl ?_
  refine OW_ev (Ev_c (.inr rfl)) rfl ?_
  refine OW_nil ?_
  refine CW_seq ?_
  refine CW_reg rfl ?_
  refine OW_ev (Ev_loadAgg (l := [.int _ _, .slice _ _ _, .slice _ _ _, .slice _ _ _]) agg_26 rfl rfl (B1.sub 0 4 (Nat.le_of_ble_eq_true rfl)) rfl) rfl ?_
  refine OW_ev (Ev_mvi (.inl rfl) rfl) rfl ?_
  refine OW_st rfl (Stp_call ent_11 rfl rfl rfl (at_c hP hsm) ?_)
  rintro _ w2 ⟨E2, rfl⟩
  have Z2 := E2.size
  have hP := hP.keep0 E2
  have T := T.keep0 E2
  have B1 := B1.keep0 E2
  refine OW_ev (Ev_mvt (.inl rfl) rfl) rfl ?_
  refine OW_ev (Ev_extract (vs := _) rfl rfl rfl) rfl ?_
  refine OW_ev (Ev_extract (vs := _) rfl rfl rfl) rfl ?_
  refine OW_st rfl (Stp_alloc zero_29 rfl ?_)
  intro b3 w3 hb3 hz3 E3 B3
  have L3 : _ ≤ b3 := Nat.le_trans T.size (Nat.le_of_eq hb3.symm)
  have hP := hP.keep0 E3
  have T := T.keep0 E3
  have B1 := B1.keep0 E3
  obtain ⟨bs, rfl⟩ : ∃ b, b = b3 := ⟨_, rfl⟩
  have BS := B3
  refine OW_st rfl (Stp_store (q := 0) BS siz_29 rfl rfl rfl rfl (Nat.le_of_ble_eq_true rfl) rfl ?_)
  intro w4 hz4 E4 B4
  have Z4 := E4.size
  have hP := hP.keepb E4 (fun h => by change _ < _ at h; omega)
  have T := T.transb E4 (by omega)
  have B1 := B1.keepb E4 (by intro h; first | omega | (change _ < _ at h; omega) | (change _ ≤ _ at h; omega) | (have h1 := h.1; have h2 := h.2; first | omega | (change _ ≤ _ at h1; omega) | (change _ < _ at h1; omega)))
  clear BS
  have BS := B4
  clear B4
  have BS : Blk w4 bs 29 (p.r.at_ n).1.cells := BS
  refine OW_ev (Ev_mvi (.inr rfl) rfl) rfl ?_
  refine OW_nil ?_
  refine CW_seq ?_
  refine CW_seq ?_
  refine CW_reg rfl ?_
  refine OW_ev (Ev_mvi (.inl rfl) rfl) rfl ?_
  refine OW_ev (Ev_neq rfl rfl rfl) rfl ?_
  refine OW_nil ?_
  refine CW_cond rfl (fun c5 => ?_) (fun c5 => ?_)
  · have d5 := c5
    first | (with_reducible replace d5 := of_decide_eq_true d5) | (with_reducible replace d5 := bnt d5; try (with_reducible replace d5 := of_decide_eq_false d5)) | skip
    have he := d5
    have how : p.r.owner n = (0, (p.r.at_ n).2) := if_pos he
    refine CW_seq ?_
    refine CW_reg rfl ?_
    refine OW_ev (Ev_mvi (.inl rfl) rfl) rfl ?_
    refine OW_ev (Ev_c (.inr rfl)) rfl ?_
    refine OW_ev (Ev_mvi (.inr rfl) rfl) rfl ?_
    refine OW_nil ?_
    refine CW_ret ?_
    refine ⟨rfl, _, (.tmp rfl (.tmp rfl .nil)), ?_⟩
    exact ⟨T, by rw [how]; first | rfl | (show Value.tuple #[.int .i64 x.1, .int .i64 0] = Value.tuple #[.int .i64 (p.r.winp (p.r.win n : Int)), .int .i64 0]; rw [hwp])⟩
  · have d5 := c5
    first | (with_reducible replace d5 := of_decide_eq_false d5) | (with_reducible replace d5 := bnf d5; try (with_reducible replace d5 := of_decide_eq_true d5)) | skip
    have he : (p.r.at_ n).2 = 0 := by omega
    have how : p.r.owner n = (p.r.winp (p.r.at_ n).1.window, 0) := if_neg (by simp [he])
    obtain ⟨hok, hn0, hat⟩ := at_ok he
    have hwin := (hok.win_spec n).1
    rw [hat] at BS how
    obtain ⟨x, hxj, hgx, hmem⟩ := getW (ws := p.ws) (j := p.r.win n) hwin
    have K := hP.2.1.at_ hgx
    have hwp := Pln.winp_eq (p := p.r) (k := p.r.win n) hxj
    refine CW_skip ?_
    refine CW_seq ?_
    refine CW_reg rfl ?_
    refine OW_ev (Ev_fieldAddr fld_26_2 rfl rfl) rfl ?_
    refine OW_ev (Ev_load one_23 rfl rfl (B1.ld (q := 2) rfl)) rfl ?_
    refine OW_ev (Ev_fieldAddr fld_29_1 rfl rfl) rfl ?_
    refine OW_ev (Ev_load one_3 rfl rfl (BS.ld (q := 1) rfl)) rfl ?_
    refine OW_ev (Ev_idx (p.r.win n) (hP.2.1.ad hgx) sl_23 rfl rfl rfl rfl hwin) rfl ?_
    refine OW_ev (Ev_fieldAddr fld_88_0 rfl rfl) rfl ?_
    refine OW_ev (Ev_load one_3 rfl rfl (K.one 0 rfl)) rfl ?_
    refine OW_ev (Ev_mvi (.inr rfl) rfl) rfl ?_
    refine OW_ev (Ev_c (.inr rfl)) rfl ?_
    refine OW_nil ?_
    refine CW_ret ?_
    refine ⟨rfl, _, (.tmp rfl (.tmp rfl .nil)), ?_⟩
    exact ⟨T, by rw [how]; first | rfl | (show Value.tuple #[.int .i64 x.1, .int .i64 0] = Value.tuple #[.int .i64 (p.r.winp (p.r.win n : Int)), .int .i64 0]; rw [hwp])⟩

set_option maxRecDepth 10000 in
set_option maxHeartbeats 2000000 in
theorem ownerR_c {F : Nat → Prop} {w : World} {p : PlnM} {n : Int} (hP : PlnS F w p) (hsm : p.ps.length ≤ 1000 ∧ p.ws.length ≤ 1000 ∧ p.cs.length ≤ 1000) : Calls Try.prog 14 #[.agg p.cl.toArray, .int .i64 n] w (Ret fun v w' => Kp0 w w' ∧ v = .tuple #[.int .i64 (p.r.owner n).1, .int .i64 (p.r.owner n).2]) := by
  have hP := hP.old
  obtain ⟨NW, hNW⟩ : ∃ x, x = w.heap.size := ⟨_, rfl⟩
  rw [← hNW] at hP
  have T : Kp0 w w := Kp.refl _ _
  refine calls_start Try.func14 rfl (n := 24) rfl rfl rfl ?_
  refine CW_seq ?_
  refine CW_reg rfl ?_
  refine OW_st rfl (Stp_box (l := [.int _ _, .slice _ _ _, .slice _ _ _, .slice _ _ _]) rfl rfl rfl ?_)
  intro b1 w1 hb1 hz1 E1 B1
  have L1 : _ ≤ b1 := Nat.le_trans T.size (Nat.le_of_eq hb1.symm)
  have hP := hP.keep0 E1
  have T := T.keep0 E1
  replace B1 : Blk w1 b1 26 (p.cl) := B1
  refine OW_ev (Ev_c (.inr rfl)) rfl ?_
  refine OW_ev (Ev_c (.inr rfl)) rfl ?_
  refine OW_nil ?_
  refine CW_seq ?_
  refine CW_reg rfl ?_
  refine OW_ev (Ev_loadAgg (l := [.int _ _, .slice _ _ _, .slice _ _ _, .slice _ _ _]) agg_26 rfl rfl (B1.sub 0 4 (Nat.le_of_ble_eq_true rfl)) rfl) rfl ?_
  refine OW_ev (Ev_mvi (.inl rfl) rfl) rfl ?_
  refine OW_st rfl (Stp_call ent_12 rfl rfl rfl (atR_c hP hsm) ?_)
  rintro _ w2 ⟨E2, rfl⟩
  have Z2 := E2.size
  have hP := hP.keep0 E2
  have T := T.keep0 E2
  have B1 := B1.keep0 E2
  refine OW_ev (Ev_mvt (.inl rfl) rfl) rfl ?_
  refine OW_ev (Ev_extract (vs := _) rfl rfl rfl) rfl ?_
  refine OW_ev (Ev_extract (vs := _) rfl rfl rfl) rfl ?_
  refine OW_st rfl (Stp_alloc zero_29 rfl ?_)
  intro b3 w3 hb3 hz3 E3 B3
  have L3 : _ ≤ b3 := Nat.le_trans T.size (Nat.le_of_eq hb3.symm)
  have hP := hP.keep0 E3
  have T := T.keep0 E3
  have B1 := B1.keep0 E3
  obtain ⟨bs, rfl⟩ : ∃ b, b = b3 := ⟨_, rfl⟩
  have BS := B3
  refine OW_st rfl (Stp_store (q := 0) BS siz_29 rfl rfl rfl rfl (Nat.le_of_ble_eq_true rfl) rfl ?_)
  intro w4 hz4 E4 B4
  have Z4 := E4.size
  have hP := hP.keepb E4 (fun h => by change _ < _ at h; omega)
  have T := T.transb E4 (by omega)
  have B1 := B1.keepb E4 (by intro h; first | omega | (change _ < _ at h; omega) | (change _ ≤ _ at h; omega) | (have h1 := h.1; have h2 := h.2; first | omega | (change _ ≤ _ at h1; omega) | (change _ < _ at h1; omega)))
  clear BS
  have BS := B4
  clear B4
  have BS : Blk w4 bs 29 (p.r.at_ n).1.cells := BS
  refine OW_ev (Ev_mvi (.inr rfl) rfl) rfl ?_
  refine OW_nil ?_
  refine CW_seq ?_
  refine CW_seq ?_
  refine CW_reg rfl ?_
  refine OW_ev (Ev_mvi (.inl rfl) rfl) rfl ?_
  refine OW_ev (Ev_neq rfl rfl rfl) rfl ?_
  refine OW_nil ?_
  refine CW_cond rfl (fun c5 => ?_) (fun c5 => ?_)
  · have d5 := c5
    first | (with_reducible replace d5 := of_decide_eq_true d5) | (with_reducible replace d5 := bnt d5; try (with_reducible replace d5 := of_decide_eq_false d5)) | skip
    have he := d5
    have how : p.r.owner n = (0, (p.r.at_ n).2) := if_pos he
    refine CW_seq ?_
    refine CW_reg rfl ?_
    refine OW_ev (Ev_mvi (.inl rfl) rfl) rfl ?_
    refine OW_ev (Ev_c (.inr rfl)) rfl ?_
    refine OW_ev (Ev_mvi (.inr rfl) rfl) rfl ?_
    refine OW_nil ?_
    refine CW_ret ?_
    refine ⟨rfl, _, (.tmp rfl (.tmp rfl .nil)), ?_⟩
    exact ⟨T, by rw [how]; first | rfl | (show Value.tuple #[.int .i64 x.1, .int .i64 0] = Value.tuple #[.int .i64 (p.r.winp (p.r.win n : Int)), .int .i64 0]; rw [hwp])⟩
  · have d5 := c5
    first | (with_reducible replace d5 := of_decide_eq_false d5) | (with_reducible replace d5 := bnf d5; try (with_reducible replace d5 := of_decide_eq_true d5)) | skip
    have he : (p.r.at_ n).2 = 0 := by omega
    have how : p.r.owner n = (p.r.winp (p.r.at_ n).1.window, 0) := if_neg (by simp [he])
    obtain ⟨hok, hn0, hat⟩ := at_ok he
    have hwin := (hok.win_spec n).1
    rw [hat] at BS how
    obtain ⟨x, hxj, hgx, hmem⟩ := getW (ws := p.ws) (j := p.r.win n) hwin
    have K := hP.2.1.at_ hgx
    have hwp := Pln.winp_eq (p := p.r) (k := p.r.win n) hxj
    refine CW_skip ?_
    refine CW_seq ?_
    refine CW_reg rfl ?_
    refine OW_ev (Ev_fieldAddr fld_26_2 rfl rfl) rfl ?_
    refine OW_ev (Ev_load one_23 rfl rfl (B1.ld (q := 2) rfl)) rfl ?_
    refine OW_ev (Ev_fieldAddr fld_29_1 rfl rfl) rfl ?_
    refine OW_ev (Ev_load one_3 rfl rfl (BS.ld (q := 1) rfl)) rfl ?_
    refine OW_ev (Ev_idx (p.r.win n) (hP.2.1.ad hgx) sl_23 rfl rfl rfl rfl hwin) rfl ?_
    refine OW_ev (Ev_fieldAddr fld_88_0 rfl rfl) rfl ?_
    refine OW_ev (Ev_load one_3 rfl rfl (K.one 0 rfl)) rfl ?_
    refine OW_ev (Ev_mvi (.inr rfl) rfl) rfl ?_
    refine OW_ev (Ev_c (.inr rfl)) rfl ?_
    refine OW_nil ?_
    refine CW_ret ?_
    refine ⟨rfl, _, (.tmp rfl (.tmp rfl .nil)), ?_⟩
    exact ⟨T, by rw [how]; first | rfl | (show Value.tuple #[.int .i64 x.1, .int .i64 0] = Value.tuple #[.int .i64 (p.r.winp (p.r.win n : Int)), .int .i64 0]; rw [hwp])⟩

end Go.Proofs.Ytcfadhjiijngmaa