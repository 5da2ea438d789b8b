/- Contracts of blackboxref26.Put, blackboxref29.with and blackboxref29.Offer. -/
import Derived.Test.YtiedmigdgelhkaaMerge9
namespace Go.Proofs.Ytiedmigdgelhkaa
open Go Go.RowKit Bx Go.Proofs

set_option maxRecDepth 10000 in
set_option maxHeartbeats 2000000 in
theorem putR_c {F : Nat → Prop} {w : World} {ao : Option Addr} {c : Nat} {r : Rg} {x : Ent} (hx : Sl F w 7 ao (r.l.map Ent.cells)) : Calls Try.prog 26 #[.agg (r.cl ao c).toArray, .agg x.cells.toArray] w (Ret fun v w' => Kp0 w w' ∧ ∃ zo z, v = .tuple #[.agg ((r.put x).1.cl zo z).toArray, .int .i64 (r.put x).2] ∧ RgS (fun b => w.heap.size ≤ b) w' (r.put x).1 zo z) := by
  have hx := hx.old
  have T : Kp0 w w := Kp.refl _ _
  refine calls_start Try.func26 rfl (n := 91) rfl rfl rfl ?_
  refine CW_seq ?_
  refine CW_reg rfl ?_
  refine OW_st rfl (Stp_box (l := [.int _ _, .slice _ _ _, .int _ _, .int _ _, .int _ _, .int _ _, .int _ _, .int _ _, .int _ _]) rfl rfl rfl ?_)
  intro b1 w1 hb1 hz1 E1 B1
  have L1 : _ ≤ b1 := Nat.le_trans T.size (Nat.le_of_eq hb1.symm)
  have hx := hx.keep0 E1
  have T := T.keep0 E1
  replace B1 : Blk w1 b1 33 (r.cl ao c) := B1
  refine OW_st rfl (Stp_box (l := [.int _ _, .int _ _, .int _ _, .int _ _, .int _ _, .int _ _, .int _ _]) rfl rfl rfl ?_)
  intro b2 w2 hb2 hz2 E2 B2
  have L2 : _ ≤ b2 := Nat.le_trans T.size (Nat.le_of_eq hb2.symm)
  have hx := hx.keep0 E2
  have T := T.keep0 E2
  have B1 := B1.keep0 E2
  replace B2 : Blk w2 b2 31 (x.cells) := B2
  refine OW_st rfl (Stp_alloc zero_33 rfl ?_)
  intro b3 w3 hb3 hz3 E3 B3
  have L3 : _ ≤ b3 := Nat.le_trans T.size (Nat.le_of_eq hb3.symm)
  have hx := hx.keep0 E3
  have T := T.keep0 E3
  have B1 := B1.keep0 E3
  have B2 := B2.keep0 E3
  refine OW_ev (Ev_c (.inr rfl)) rfl ?_
  refine OW_nil ?_
  refine CW_seq ?_
  refine CW_seq ?_
  refine CW_reg rfl ?_
  refine OW_ev (Ev_loadAgg (l := [.int _ _, .slice _ _ _, .int _ _, .int _ _, .int _ _, .int _ _, .int _ _, .int _ _, .int _ _]) agg_33 rfl rfl (B1.sub 0 9 (Nat.le_of_ble_eq_true rfl)) rfl) rfl ?_
  refine OW_st rfl (Stp_call ent_45 rfl rfl rfl (ringIsR_c _ r ao c) ?_)
  rintro _ w4 ⟨E4, rfl⟩
  have Z4 := E4.size
  have hx := hx.keep0 E4
  have T := T.keep0 E4
  have B1 := B1.keep0 E4
  have B2 := B2.keep0 E4
  have B3 := B3.keep0 E4
  refine OW_ev (Ev_not rfl rfl) rfl ?_
  refine OW_ev (Ev_mvb (.inl rfl) rfl) rfl ?_
  refine OW_split (d := .tmp 10) rfl (fun c5 => ?_) (fun c5 => ?_)
  · have d5 := c5
    first | (with_reducible replace d5 := of_decide_eq_true d5) | (with_reducible replace d5 := bnt d5; try (with_reducible replace d5 := of_decide_eq_false d5)) | skip
    have hp : r.put x = (Rg.zero, 1) := if_neg (by simp [d5])
    refine OW_no rfl rfl rfl rfl c5 ?_
    refine OW_no rfl rfl rfl rfl c5 ?_
    refine OW_no rfl rfl rfl rfl c5 ?_
    refine OW_no rfl rfl rfl rfl c5 ?_
    refine OW_ev (Ev_pickb_t rfl rfl c5 rfl) rfl ?_
    refine OW_nil ?_
    refine CW_cond_t rfl rfl ?_
    refine CW_seq ?_
    refine CW_reg rfl ?_
    refine OW_ev (Ev_build (l := [.int _ _, .slice _ _ _, .int _ _, .int _ _, .int _ _, .int _ _, .int _ _, .int _ _, .int _ _]) plc_33 zero_33 rfl rfl rfl) rfl ?_
    refine OW_st rfl (Stp_store (q := 0) (vs := [.int _ _, .slice _ _ _, .int _ _, .int _ _, .int _ _, .int _ _, .int _ _, .int _ _, .int _ _]) B3 siz_33 rfl rfl rfl rfl (Nat.le_of_ble_eq_true rfl) rfl ?_)
    intro w6 hz6 E6 B6
    have Z6 := E6.size
    have hx := hx.keepb E6 (by show ¬ _ < _; omega)
    have T := T.transb E6 (by omega)
    have B1 := B1.keepb E6 (by intro h; first | omega | (change _ < _ at h; omega) | (change _ ≤ _ at h; omega) | (have h1 := h.1; have h2 := h.2; first | omega | (change _ ≤ _ at h1; omega) | (change _ < _ at h1; omega)))
    have B2 := B2.keepb E6 (by intro h; first | omega | (change _ < _ at h; omega) | (change _ ≤ _ at h; omega) | (have h1 := h.1; have h2 := h.2; first | omega | (change _ ≤ _ at h1; omega) | (change _ < _ at h1; omega)))
    clear B3
    have B3 : Blk _ _ _ [_, _, _, _, _, _, _, _, _] := B6
    clear B6
    refine OW_ev (Ev_c (.inr rfl)) rfl ?_
    refine OW_nil ?_
    refine CW_ret ?_
    refine ⟨rfl, _, (.cell rfl (ld_agg agg_33 (B3.sub 0 9 (Nat.le_of_ble_eq_true rfl)) rfl) (.tmp rfl .nil)), ?_⟩
    rw [hp]
    first | exact ⟨T, none, 0, rfl, Nat.zero_le _, Nat.zero_le _, Sl.nil _ _ _ _⟩ | exact ⟨T, _, _, rfl, l_O1, m_O1, O1.sls.mono (fun b _ h => Nat.le_trans (by omega) h)⟩ | exact ⟨T, _, _, rfl, l_O2, m_O2, O2.sls.mono (fun b _ h => Nat.le_trans (by omega) h)⟩ | exact ⟨T, a_O3, q_O3, by rw [show r.l ++ [r.gap, x] = r.l ++ [r.gap] ++ [x] by simp]; rfl, by simpa using l_O3, m_O3, by have := O3.sls.mono (G := fun b => w.heap.size ≤ b) (fun b _ h => Nat.le_trans (by omega) h); simpa using this⟩
  · have d5 := c5
    first | (with_reducible replace d5 := of_decide_eq_false d5) | (with_reducible replace d5 := bnf d5; try (with_reducible replace d5 := of_decide_eq_true d5)) | skip
    have hris : r.is = true := d5
    refine OW_yes rfl rfl rfl rfl c5 (Ev.stp (Ev_fieldAddr fld_31_1 rfl rfl) ?_)
    refine OW_yes rfl rfl rfl rfl c5 (Ev.stp (Ev_loadAgg (l := [.int _ _, .int _ _, .int _ _, .int _ _, .int _ _, .int _ _]) agg_29 rfl rfl (B2.sub 1 6 (Nat.le_of_ble_eq_true rfl)) rfl) ?_)
    refine OW_yes rfl rfl rfl rfl c5 (Stp_call ent_46 rfl rfl rfl (eventIsR_c _ x.e) ?_)
    rintro _ w7 ⟨E7, rfl⟩
    have Z7 := E7.size
    have hx := hx.keep0 E7
    have T := T.keep0 E7
    have B1 := B1.keep0 E7
    have B2 := B2.keep0 E7
    have B3 := B3.keep0 E7
    refine OW_yes rfl rfl rfl rfl c5 (Ev.stp (Ev_not rfl rfl) ?_)
    refine OW_ev (Ev_pickb_f rfl rfl c5 rfl) rfl ?_
    refine OW_nil ?_
    refine CW_cond rfl (fun c8 => ?_) (fun c8 => ?_)
    · have d8 := c8
      first | (with_reducible replace d8 := of_decide_eq_true d8) | (with_reducible replace d8 := bnt d8; try (with_reducible replace d8 := of_decide_eq_false d8)) | skip
      have hp : r.put x = (Rg.zero, 1) := if_neg (by simp [d8])
      refine CW_seq ?_
      refine CW_reg rfl ?_
      refine OW_ev (Ev_build (l := [.int _ _, .slice _ _ _, .int _ _, .int _ _, .int _ _, .int _ _, .int _ _, .int _ _, .int _ _]) plc_33 zero_33 rfl rfl rfl) rfl ?_
      refine OW_st rfl (Stp_store (q := 0) (vs := [.int _ _, .slice _ _ _, .int _ _, .int _ _, .int _ _, .int _ _, .int _ _, .int _ _, .int _ _]) B3 siz_33 rfl rfl rfl rfl (Nat.le_of_ble_eq_true rfl) rfl ?_)
      intro w9 hz9 E9 B9
      have Z9 := E9.size
      have hx := hx.keepb E9 (by show ¬ _ < _; omega)
      have T := T.transb E9 (by omega)
      have B1 := B1.keepb E9 (by intro h; first | omega | (change _ < _ at h; omega) | (change _ ≤ _ at h; omega) | (have h1 := h.1; have h2 := h.2; first | omega | (change _ ≤ _ at h1; omega) | (change _ < _ at h1; omega)))
      have B2 := B2.keepb E9 (by intro h; first | omega | (change _ < _ at h; omega) | (change _ ≤ _ at h; omega) | (have h1 := h.1; have h2 := h.2; first | omega | (change _ ≤ _ at h1; omega) | (change _ < _ at h1; omega)))
      clear B3
      have B3 : Blk _ _ _ [_, _, _, _, _, _, _, _, _] := B9
      clear B9
      refine OW_ev (Ev_c (.inr rfl)) rfl ?_
      refine OW_nil ?_
      refine CW_ret ?_
      refine ⟨rfl, _, (.cell rfl (ld_agg agg_33 (B3.sub 0 9 (Nat.le_of_ble_eq_true rfl)) rfl) (.tmp rfl .nil)), ?_⟩
      rw [hp]
      first | exact ⟨T, none, 0, rfl, Nat.zero_le _, Nat.zero_le _, Sl.nil _ _ _ _⟩ | exact ⟨T, _, _, rfl, l_O1, m_O1, O1.sls.mono (fun b _ h => Nat.le_trans (by omega) h)⟩ | exact ⟨T, _, _, rfl, l_O2, m_O2, O2.sls.mono (fun b _ h => Nat.le_trans (by omega) h)⟩ | exact ⟨T, a_O3, q_O3, by rw [show r.l ++ [r.gap, x] = r.l ++ [r.gap] ++ [x] by simp]; rfl, by simpa using l_O3, m_O3, by have := O3.sls.mono (G := fun b => w.heap.size ≤ b) (fun b _ h => Nat.le_trans (by omega) h); simpa using this⟩
    · have d8 := c8
      first | (with_reducible replace d8 := of_decide_eq_false d8) | (with_reducible replace d8 := bnf d8; try (with_reducible replace d8 := of_decide_eq_true d8)) | skip
      have hxis : x.e.is = true := d8
      have hp0 : r.put x = (r.put1 x, 0) := if_pos ⟨hris, hxis⟩
      have hlen := Rg.is_len hris
      refine CW_skip ?_
      refine CW_seq ?_
      refine CW_reg rfl ?_
      refine OW_ev (Ev_fieldAddr fld_33_0 rfl rfl) rfl ?_
      refine OW_ev (Ev_load one_3 rfl rfl (B1.ld (q := 0) rfl)) rfl ?_
      refine OW_ev (Ev_fieldAddr fld_33_2 rfl rfl) rfl ?_
      refine OW_ev (Ev_loadAgg (l := [.int _ _, .int _ _, .int _ _, .int _ _, .int _ _, .int _ _, .int _ _]) agg_31 rfl rfl (B1.sub 2 7 (Nat.le_of_ble_eq_true rfl)) rfl) rfl ?_
      refine OW_ev (Ev_build (l := [.int _ _, .slice _ _ _, .int _ _, .int _ _, .int _ _, .int _ _, .int _ _, .int _ _, .int _ _]) plc_33 zero_33 rfl rfl rfl) rfl ?_
      refine OW_st rfl (Stp_alloc zero_33 rfl ?_)
      intro b10 w10 hb10 hz10 E10 B10
      have L10 : _ ≤ b10 := Nat.le_trans T.size (Nat.le_of_eq hb10.symm)
      have hx := hx.keep0 E10
      have T := T.keep0 E10
      have B1 := B1.keep0 E10
      have B2 := B2.keep0 E10
      have B3 := B3.keep0 E10
      obtain ⟨bn, rfl⟩ : ∃ b, b = b10 := ⟨_, rfl⟩
      have BN := B10
      obtain ⟨NB, hNB⟩ : ∃ x, x = w10.heap.size := ⟨_, rfl⟩
      refine OW_st rfl (Stp_store (q := 0) BN siz_33 rfl rfl rfl rfl (Nat.le_of_ble_eq_true rfl) rfl ?_)
      intro w11 hz11 E11 B11
      have Z11 := E11.size
      have hx := hx.keepb E11 (by show ¬ _ < _; omega)
      have T := T.transb E11 (by omega)
      have B1 := B1.keepb E11 (by intro h; first | omega | (change _ < _ at h; omega) | (change _ ≤ _ at h; omega) | (have h1 := h.1; have h2 := h.2; first | omega | (change _ ≤ _ at h1; omega) | (change _ < _ at h1; omega)))
      have B2 := B2.keepb E11 (by intro h; first | omega | (change _ < _ at h; omega) | (change _ ≤ _ at h; omega) | (have h1 := h.1; have h2 := h.2; first | omega | (change _ ≤ _ at h1; omega) | (change _ < _ at h1; omega)))
      have B3 := B3.keepb E11 (by intro h; first | omega | (change _ < _ at h; omega) | (change _ ≤ _ at h; omega) | (have h1 := h.1; have h2 := h.2; first | omega | (change _ ≤ _ at h1; omega) | (change _ < _ at h1; omega)))
      clear BN
      have BN := B11
      clear B11
      have BN : Blk w11 bn 33 ([.int .i64 r.room, .slice none 0 0] ++ (r.gap).cells) := BN
      refine OW_nil ?_
      refine CW_seq ?_
      refine CW_re [(2, .pointer _), (3, .pointer _), (4, .pointer _), (5, .int _ _), (6, .pointer _)] ⟨rfl, rfl, rfl, rfl, rfl, trivial⟩ (fun g => ?_)
      refine CW_reg rfl ?_
      refine OW_ev (Ev_fieldAddr fld_33_1 rfl rfl) rfl ?_
      refine OW_ev (Ev_load one_26 rfl rfl (BN.ld (q := 1) rfl)) rfl ?_
      refine OW_ev (Ev_fieldAddr fld_33_1 rfl rfl) rfl ?_
      refine OW_ev (Ev_load one_26 rfl rfl (B1.ld (q := 1) rfl)) rfl ?_
      refine OW_st rfl (Stp_append (Own.none_ NB _ 31 7 none) hx el_26 rfl rfl rfl rfl (by simp) (Ent.one _) (by simp [maxLen]; omega) (by simp; omega) (by omega) ?_)
      intro v12 w12 O12 E12 X12
      have Z12 := E12.size
      have hx := hx.keepo E12 (fun b hb hl he => by first | omega | (have := hsp b he; omega) | (change b < _ at hb; omega) | (change _ ≤ b at hb; omega) | (have h1 := hb.1; have h2 := hb.2; first | omega | (change _ ≤ _ at h1; omega) | (change _ < _ at h1; omega)))
      have T := T.transo E12 (by omega)
      have B1 := B1.keepo E12 (fun b hb hl he => by first | omega | (have := hsp b he; omega) | (change b < _ at hb; omega) | (change _ ≤ b at hb; omega) | (have h1 := hb.1; have h2 := hb.2; first | omega | (change _ ≤ _ at h1; omega) | (change _ < _ at h1; omega)))
      have B2 := B2.keepo E12 (fun b hb hl he => by first | omega | (have := hsp b he; omega) | (change b < _ at hb; omega) | (change _ ≤ b at hb; omega) | (have h1 := hb.1; have h2 := hb.2; first | omega | (change _ ≤ _ at h1; omega) | (change _ < _ at h1; omega)))
      have B3 := B3.keepo E12 (fun b hb hl he => by first | omega | (have := hsp b he; omega) | (change b < _ at hb; omega) | (change _ ≤ b at hb; omega) | (have h1 := hb.1; have h2 := hb.2; first | omega | (change _ ≤ _ at h1; omega) | (change _ < _ at h1; omega)))
      have BN := BN.keepo E12 (fun b hb hl he => by first | omega | (have := hsp b he; omega) | (change b < _ at hb; omega) | (change _ ≤ b at hb; omega) | (have h1 := hb.1; have h2 := hb.2; first | omega | (change _ ≤ _ at h1; omega) | (change _ < _ at h1; omega)))
      obtain ⟨a12, q12, rfl, l12, m12, S12⟩ := O12.sl
      have hL12 : ([] ++ List.map Ent.cells r.l).length = r.l.length := by simp
      rw [hL12] at O12 l12
      rw [hL12]
      have O1 := O12
      obtain ⟨a_O1, rfl⟩ : ∃ x, x = a12 := ⟨_, rfl⟩
      obtain ⟨q_O1, rfl⟩ : ∃ x, x = q12 := ⟨_, rfl⟩
      have m_O1 := m12
      have l_O1 := l12
      have O1 : Own NB w12 31 7 (.slice a_O1 r.l.length q_O1) (r.l.map Ent.cells) := by simpa using O1
      refine OW_ev (Ev_fieldAddr fld_33_1 rfl rfl) rfl ?_
      refine OW_st rfl (Stp_store (q := 1) BN siz_26 rfl rfl rfl rfl (Nat.le_of_ble_eq_true rfl) rfl ?_)
      intro w13 hz13 E13 B13
      have Z13 := E13.size
      have hx := hx.keepb E13 (by show ¬ _ < _; omega)
      have T := T.transb E13 (by omega)
      have B1 := B1.keepb E13 (by intro h; first | omega | (change _ < _ at h; omega) | (change _ ≤ _ at h; omega) | (have h1 := h.1; have h2 := h.2; first | omega | (change _ ≤ _ at h1; omega) | (change _ < _ at h1; omega)))
      have B2 := B2.keepb E13 (by intro h; first | omega | (change _ < _ at h; omega) | (change _ ≤ _ at h; omega) | (have h1 := h.1; have h2 := h.2; first | omega | (change _ ≤ _ at h1; omega) | (change _ < _ at h1; omega)))
      have B3 := B3.keepb E13 (by intro h; first | omega | (change _ < _ at h; omega) | (change _ ≤ _ at h; omega) | (have h1 := h.1; have h2 := h.2; first | omega | (change _ ≤ _ at h1; omega) | (change _ < _ at h1; omega)))
      have O1 := O1.keepb E13 (fun b hb _ => by omega)
      clear BN
      have BN := B13
      clear B13
      have BN : Blk w13 bn 33 ([.int .i64 r.room, .slice a_O1 r.l.length q_O1] ++ (r.gap).cells) := BN
      refine OW_nil ?_
      refine CW_seq ?_
      refine CW_seq ?_
      refine CW_reg rfl ?_
      refine OW_ev (Ev_fieldAddr fld_33_2 rfl rfl) rfl ?_
      refine OW_ev (Ev_fieldAddr fld_31_1 rfl rfl) rfl ?_
      refine OW_ev (Ev_fieldAddr fld_29_4 rfl rfl) rfl ?_
      refine OW_ev (Ev_load one_3 rfl rfl (B1.ld (q := 7) rfl)) rfl ?_
      refine OW_ev (Ev_eql rfl rfl rfl) rfl ?_
      refine OW_nil ?_
      refine CW_cond rfl (fun c14 => ?_) (fun c14 => ?_)
      · have d14 := c14
        first | (with_reducible replace d14 := of_decide_eq_true d14) | (with_reducible replace d14 := bnt d14; try (with_reducible replace d14 := of_decide_eq_false d14)) | skip
        have hg : r.hasGap = false := by unfold Rg.hasGap; exact decide_eq_false (by omega)
        refine CW_seq ?_
        refine CW_seq ?_
        refine CW_reg rfl ?_
        refine OW_ev (Ev_fieldAddr fld_33_1 rfl rfl) rfl ?_
        refine OW_ev (Ev_load one_26 rfl rfl (B1.ld (q := 1) rfl)) rfl ?_
        refine OW_ev (Ev_len und_26 rfl rfl) rfl ?_
        refine OW_ev (Ev_fieldAddr fld_33_0 rfl rfl) rfl ?_
        refine OW_ev (Ev_load one_3 rfl rfl (B1.ld (q := 0) rfl)) rfl ?_
        refine OW_ev (Ev_lss rfl rfl rfl) rfl ?_
        refine OW_nil ?_
        refine CW_cond rfl (fun c15 => ?_) (fun c15 => ?_)
        · have d15 := c15
          first | (with_reducible replace d15 := of_decide_eq_true d15) | (with_reducible replace d15 := bnt d15; try (with_reducible replace d15 := of_decide_eq_false d15)) | skip
          have hp : r.put x = (⟨r.room, r.l ++ [x], r.gap⟩, 0) := by rw [hp0, Rg.put1, if_neg (by simp [hg]), if_pos (by omega)]
          refine CW_seq ?_
          refine CW_re [(2, .pointer _), (3, .pointer _), (4, .pointer _), (5, .int _ _), (6, .pointer _)] ⟨rfl, rfl, rfl, rfl, rfl, trivial⟩ (fun g => ?_)
          refine CW_reg rfl ?_
          refine OW_ev (Ev_fieldAddr fld_33_1 rfl rfl) rfl ?_
          refine OW_ev (Ev_load one_26 rfl rfl (BN.ld (q := 1) rfl)) rfl ?_
          refine OW_ev (Ev_loadAgg (l := [.int _ _, .int _ _, .int _ _, .int _ _, .int _ _, .int _ _, .int _ _]) agg_31 rfl rfl (B2.sub 0 7 (Nat.le_of_ble_eq_true rfl)) rfl) rfl ?_
          refine OW_st rfl (Stp_buildSlice (l := [_, _, _, _, _, _, _]) el_26 zero_31 rfl rfl rfl rfl ?_)
          intro b16 w16 hb16 hz16 E16 B16
          have L16 : _ ≤ b16 := Nat.le_trans T.size (Nat.le_of_eq hb16.symm)
          have hx := hx.keep0 E16
          have T := T.keep0 E16
          have B1 := B1.keep0 E16
          have B2 := B2.keep0 E16
          have B3 := B3.keep0 E16
          have BN := BN.keep0 E16
          have O1 := O1.keep0 E16
          have hY : Sl (· = b16) w16 7 (some ⟨b16, 0, none⟩) ([x].map Ent.cells) := Sl.ofBlk B16 (by simp [Ent.cells_length])
          have hbw : b16 < w16.heap.size := by omega
          refine OW_st rfl (Stp_append O1 hY el_26 rfl rfl rfl rfl (by simp) (Ent.one _) (by simp [maxLen]; omega) (by simp; omega) (by omega) ?_)
          intro v17 w17 O17 E17 X17
          have Z17 := E17.size
          have hx := hx.keepo E17 (fun b hb hl he => by first | omega | (have := hsp b he; omega) | (change b < _ at hb; omega) | (change _ ≤ b at hb; omega) | (have h1 := hb.1; have h2 := hb.2; first | omega | (change _ ≤ _ at h1; omega) | (change _ < _ at h1; omega)))
          have T := T.transo E17 (by omega)
          have B1 := B1.keepo E17 (fun b hb hl he => by first | omega | (have := hsp b he; omega) | (change b < _ at hb; omega) | (change _ ≤ b at hb; omega) | (have h1 := hb.1; have h2 := hb.2; first | omega | (change _ ≤ _ at h1; omega) | (change _ < _ at h1; omega)))
          have B2 := B2.keepo E17 (fun b hb hl he => by first | omega | (have := hsp b he; omega) | (change b < _ at hb; omega) | (change _ ≤ b at hb; omega) | (have h1 := hb.1; have h2 := hb.2; first | omega | (change _ ≤ _ at h1; omega) | (change _ < _ at h1; omega)))
          have B3 := B3.keepo E17 (fun b hb hl he => by first | omega | (have := hsp b he; omega) | (change b < _ at hb; omega) | (change _ ≤ b at hb; omega) | (have h1 := hb.1; have h2 := hb.2; first | omega | (change _ ≤ _ at h1; omega) | (change _ < _ at h1; omega)))
          have BN := BN.keepo E17 (fun b hb hl he => by first | omega | (have := hsp b he; omega) | (change b < _ at hb; omega) | (change _ ≤ b at hb; omega) | (have h1 := hb.1; have h2 := hb.2; first | omega | (change _ ≤ _ at h1; omega) | (change _ < _ at h1; omega)))
          obtain ⟨a17, q17, rfl, l17, m17, S17⟩ := O17.sl
          have hL17 : (List.map Ent.cells r.l ++ List.map Ent.cells [x]).length = (r.l ++ [x]).length := by simp
          rw [hL17] at O17 l17
          rw [hL17]
          have O2 := O17
          obtain ⟨a_O2, rfl⟩ : ∃ x, x = a17 := ⟨_, rfl⟩
          obtain ⟨q_O2, rfl⟩ : ∃ x, x = q17 := ⟨_, rfl⟩
          have m_O2 := m17
          have l_O2 := l17
          have O2 : Own NB w17 31 7 (.slice a_O2 (r.l ++ [x]).length q_O2) ((r.l ++ [x]).map Ent.cells) := by simpa using O2
          refine OW_ev (Ev_fieldAddr fld_33_1 rfl rfl) rfl ?_
          refine OW_st rfl (Stp_store (q := 1) BN siz_26 rfl rfl rfl rfl (Nat.le_of_ble_eq_true rfl) rfl ?_)
          intro w18 hz18 E18 B18
          have Z18 := E18.size
          have hx := hx.keepb E18 (by show ¬ _ < _; omega)
          have T := T.transb E18 (by omega)
          have B1 := B1.keepb E18 (by intro h; first | omega | (change _ < _ at h; omega) | (change _ ≤ _ at h; omega) | (have h1 := h.1; have h2 := h.2; first | omega | (change _ ≤ _ at h1; omega) | (change _ < _ at h1; omega)))
          have B2 := B2.keepb E18 (by intro h; first | omega | (change _ < _ at h; omega) | (change _ ≤ _ at h; omega) | (have h1 := h.1; have h2 := h.2; first | omega | (change _ ≤ _ at h1; omega) | (change _ < _ at h1; omega)))
          have B3 := B3.keepb E18 (by intro h; first | omega | (change _ < _ at h; omega) | (change _ ≤ _ at h; omega) | (have h1 := h.1; have h2 := h.2; first | omega | (change _ ≤ _ at h1; omega) | (change _ < _ at h1; omega)))
          have O2 := O2.keepb E18 (fun b hb _ => by omega)
          clear BN
          have BN := B18
          clear B18
          have BN : Blk w18 bn 33 ([.int .i64 r.room, .slice a_O2 (r.l ++ [x]).length q_O2] ++ (r.gap).cells) := BN
          refine OW_nil ?_
          refine CW_seq ?_
          refine CW_reg rfl ?_
          refine OW_ev (Ev_loadAgg (l := [.int _ _, .slice _ _ _, .int _ _, .int _ _, .int _ _, .int _ _, .int _ _, .int _ _, .int _ _]) agg_33 rfl rfl (BN.sub 0 9 (Nat.le_of_ble_eq_true rfl)) rfl) rfl ?_
          refine OW_st rfl (Stp_store (q := 0) (vs := [.int _ _, .slice _ _ _, .int _ _, .int _ _, .int _ _, .int _ _, .int _ _, .int _ _, .int _ _]) B3 siz_33 rfl rfl rfl rfl (Nat.le_of_ble_eq_true rfl) rfl ?_)
          intro w19 hz19 E19 B19
          have Z19 := E19.size
          have hx := hx.keepb E19 (by show ¬ _ < _; omega)
          have T := T.transb E19 (by omega)
          have B1 := B1.keepb E19 (by intro h; first | omega | (change _ < _ at h; omega) | (change _ ≤ _ at h; omega) | (have h1 := h.1; have h2 := h.2; first | omega | (change _ ≤ _ at h1; omega) | (change _ < _ at h1; omega)))
          have B2 := B2.keepb E19 (by intro h; first | omega | (change _ < _ at h; omega) | (change _ ≤ _ at h; omega) | (have h1 := h.1; have h2 := h.2; first | omega | (change _ ≤ _ at h1; omega) | (change _ < _ at h1; omega)))
          have BN := BN.keepb E19 (by intro h; first | omega | (change _ < _ at h; omega) | (change _ ≤ _ at h; omega) | (have h1 := h.1; have h2 := h.2; first | omega | (change _ ≤ _ at h1; omega) | (change _ < _ at h1; omega)))
          have O2 := O2.keepb E19 (fun b hb _ => by omega)
          clear B3
          have B3 : Blk _ _ _ [_, _, _, _, _, _, _, _, _] := B19
          clear B19
          refine OW_ev (Ev_c (.inr rfl)) rfl ?_
          refine OW_nil ?_
          refine CW_ret ?_
          refine ⟨rfl, _, (.cell rfl (ld_agg agg_33 (B3.sub 0 9 (Nat.le_of_ble_eq_true rfl)) rfl) (.tmp rfl .nil)), ?_⟩
          rw [hp]
          first | exact ⟨T, none, 0, rfl, Nat.zero_le _, Nat.zero_le _, Sl.nil _ _ _ _⟩ | exact ⟨T, _, _, rfl, l_O1, m_O1, O1.sls.mono (fun b _ h => Nat.le_trans (by omega) h)⟩ | exact ⟨T, _, _, rfl, l_O2, m_O2, O2.sls.mono (fun b _ h => Nat.le_trans (by omega) h)⟩ | exact ⟨T, a_O3, q_O3, by rw [show r.l ++ [r.gap, x] = r.l ++ [r.gap] ++ [x] by simp]; rfl, by simpa using l_O3, m_O3, by have := O3.sls.mono (G := fun b => w.heap.size ≤ b) (fun b _ h => Nat.le_trans (by omega) h); simpa using this⟩
        · have d15 := c15
          first | (with_reducible replace d15 := of_decide_eq_false d15) | (with_reducible replace d15 := bnf d15; try (with_reducible replace d15 := of_decide_eq_true d15)) | skip
          have hp : r.put x = (⟨r.room, r.l, x.gapOf⟩, 0) := by rw [hp0, Rg.put1, if_neg (by simp [hg]), if_neg (by omega)]
          refine CW_skip ?_
          refine CW_seq ?_
          refine CW_re [(2, .pointer _), (3, .pointer _), (4, .pointer _), (5, .int _ _), (6, .pointer _)] ⟨rfl, rfl, rfl, rfl, rfl, trivial⟩ (fun g => ?_)
          refine CW_reg rfl ?_
          refine OW_ev (Ev_fieldAddr fld_31_0 rfl rfl) rfl ?_
          refine OW_ev (Ev_load one_27 rfl rfl (B2.ld (q := 0) rfl)) rfl ?_
          refine OW_ev (Ev_fieldAddr fld_31_1 rfl rfl) rfl ?_
          refine OW_ev (Ev_fieldAddr fld_29_1 rfl rfl) rfl ?_
          refine OW_ev (Ev_load one_3 rfl rfl (B2.ld (q := 2) rfl)) rfl ?_
          refine OW_ev (Ev_fieldAddr fld_31_1 rfl rfl) rfl ?_
          refine OW_ev (Ev_fieldAddr fld_29_2 rfl rfl) rfl ?_
          refine OW_ev (Ev_load one_3 rfl rfl (B2.ld (q := 3) rfl)) rfl ?_
          refine OW_ev (Ev_build (l := [.int _ _, .int _ _, .int _ _, .int _ _, .int _ _, .int _ _]) plc_29 zero_29 rfl rfl rfl) rfl ?_
          refine OW_ev (Ev_build (l := [.int _ _, .int _ _, .int _ _, .int _ _, .int _ _, .int _ _, .int _ _]) plc_31 zero_31 rfl rfl rfl) rfl ?_
          refine OW_ev (Ev_fieldAddr fld_33_2 rfl rfl) rfl ?_
          refine OW_st rfl (Stp_store (q := 2) BN siz_31 rfl rfl rfl rfl (Nat.le_of_ble_eq_true rfl) rfl ?_)
          intro w20 hz20 E20 B20
          have Z20 := E20.size
          have hx := hx.keepb E20 (by show ¬ _ < _; omega)
          have T := T.transb E20 (by omega)
          have B1 := B1.keepb E20 (by intro h; first | omega | (change _ < _ at h; omega) | (change _ ≤ _ at h; omega) | (have h1 := h.1; have h2 := h.2; first | omega | (change _ ≤ _ at h1; omega) | (change _ < _ at h1; omega)))
          have B2 := B2.keepb E20 (by intro h; first | omega | (change _ < _ at h; omega) | (change _ ≤ _ at h; omega) | (have h1 := h.1; have h2 := h.2; first | omega | (change _ ≤ _ at h1; omega) | (change _ < _ at h1; omega)))
          have B3 := B3.keepb E20 (by intro h; first | omega | (change _ < _ at h; omega) | (change _ ≤ _ at h; omega) | (have h1 := h.1; have h2 := h.2; first | omega | (change _ ≤ _ at h1; omega) | (change _ < _ at h1; omega)))
          have O1 := O1.keepb E20 (fun b hb _ => by omega)
          clear BN
          have BN := B20
          clear B20
          have BN : Blk w20 bn 33 ([.int .i64 r.room, .slice a_O1 r.l.length q_O1] ++ (x.gapOf).cells) := BN
          refine OW_nil ?_
          refine CW_seq ?_
          refine CW_reg rfl ?_
          refine OW_ev (Ev_loadAgg (l := [.int _ _, .slice _ _ _, .int _ _, .int _ _, .int _ _, .int _ _, .int _ _, .int _ _, .int _ _]) agg_33 rfl rfl (BN.sub 0 9 (Nat.le_of_ble_eq_true rfl)) rfl) rfl ?_
          refine OW_st rfl (Stp_store (q := 0) (vs := [.int _ _, .slice _ _ _, .int _ _, .int _ _, .int _ _, .int _ _, .int _ _, .int _ _, .int _ _]) B3 siz_33 rfl rfl rfl rfl (Nat.le_of_ble_eq_true rfl) rfl ?_)
          intro w21 hz21 E21 B21
          have Z21 := E21.size
          have hx := hx.keepb E21 (by show ¬ _ < _; omega)
          have T := T.transb E21 (by omega)
          have B1 := B1.keepb E21 (by intro h; first | omega | (change _ < _ at h; omega) | (change _ ≤ _ at h; omega) | (have h1 := h.1; have h2 := h.2; first | omega | (change _ ≤ _ at h1; omega) | (change _ < _ at h1; omega)))
          have B2 := B2.keepb E21 (by intro h; first | omega | (change _ < _ at h; omega) | (change _ ≤ _ at h; omega) | (have h1 := h.1; have h2 := h.2; first | omega | (change _ ≤ _ at h1; omega) | (change _ < _ at h1; omega)))
          have BN := BN.keepb E21 (by intro h; first | omega | (change _ < _ at h; omega) | (change _ ≤ _ at h; omega) | (have h1 := h.1; have h2 := h.2; first | omega | (change _ ≤ _ at h1; omega) | (change _ < _ at h1; omega)))
          have O1 := O1.keepb E21 (fun b hb _ => by omega)
          clear B3
          have B3 : Blk _ _ _ [_, _, _, _, _, _, _, _, _] := B21
          clear B21
          refine OW_ev (Ev_c (.inr rfl)) rfl ?_
          refine OW_nil ?_
          refine CW_ret ?_
          refine ⟨rfl, _, (.cell rfl (ld_agg agg_33 (B3.sub 0 9 (Nat.le_of_ble_eq_true rfl)) rfl) (.tmp rfl .nil)), ?_⟩
          rw [hp]
          first | exact ⟨T, none, 0, rfl, Nat.zero_le _, Nat.zero_le _, Sl.nil _ _ _ _⟩ | exact ⟨T, _, _, rfl, l_O1, m_O1, O1.sls.mono (fun b _ h => Nat.le_trans (by omega) h)⟩ | exact ⟨T, _, _, rfl, l_O2, m_O2, O2.sls.mono (fun b _ h => Nat.le_trans (by omega) h)⟩ | exact ⟨T, a_O3, q_O3, by rw [show r.l ++ [r.gap, x] = r.l ++ [r.gap] ++ [x] by simp]; rfl, by simpa using l_O3, m_O3, by have := O3.sls.mono (G := fun b => w.heap.size ≤ b) (fun b _ h => Nat.le_trans (by omega) h); simpa using this⟩
      · have d14 := c14
        first | (with_reducible replace d14 := of_decide_eq_false d14) | (with_reducible replace d14 := bnf d14; try (with_reducible replace d14 := of_decide_eq_true d14)) | skip
        have hg : r.hasGap = true := by unfold Rg.hasGap; exact decide_eq_true (by omega)
        have hga := Rg.is_gap hris hg
        refine CW_skip ?_
        refine CW_seq ?_
        refine CW_seq ?_
        refine CW_reg rfl ?_
        refine OW_ev (Ev_fieldAddr fld_33_1 rfl rfl) rfl ?_
        refine OW_ev (Ev_load one_26 rfl rfl (B1.ld (q := 1) rfl)) rfl ?_
        refine OW_ev (Ev_len und_26 rfl rfl) rfl ?_
        refine OW_ev (Ev_add rfl rfl rfl (by first | (apply IntWalk.i64_in; omega) | (apply IntWalk.u64_in; omega) | (apply IntWalk.u32_in; omega) | (apply IntWalk.u8_in; omega) | (apply IntWalk.i32_in; omega) | rfl)) rfl ?_
        refine OW_ev (Ev_fieldAddr fld_33_0 rfl rfl) rfl ?_
        refine OW_ev (Ev_load one_3 rfl rfl (B1.ld (q := 0) rfl)) rfl ?_
        refine OW_ev (Ev_leq rfl rfl rfl) rfl ?_
        refine OW_nil ?_
        refine CW_cond rfl (fun c22 => ?_) (fun c22 => ?_)
        · have d22 := c22
          first | (with_reducible replace d22 := of_decide_eq_true d22) | (with_reducible replace d22 := bnt d22; try (with_reducible replace d22 := of_decide_eq_false d22)) | skip
          have hp : r.put x = (⟨r.room, r.l ++ [r.gap, x], Ent.zero⟩, 0) := by rw [hp0, Rg.put1, if_pos hg, if_pos (by omega)]
          refine CW_seq ?_
          refine CW_re [(2, .pointer _), (3, .pointer _), (4, .pointer _), (5, .int _ _), (6, .pointer _)] ⟨rfl, rfl, rfl, rfl, rfl, trivial⟩ (fun g => ?_)
          refine CW_reg rfl ?_
          refine OW_ev (Ev_fieldAddr fld_33_1 rfl rfl) rfl ?_
          refine OW_ev (Ev_load one_26 rfl rfl (BN.ld (q := 1) rfl)) rfl ?_
          refine OW_ev (Ev_fieldAddr fld_33_2 rfl rfl) rfl ?_
          refine OW_ev (Ev_loadAgg (l := [.int _ _, .int _ _, .int _ _, .int _ _, .int _ _, .int _ _, .int _ _]) agg_31 rfl rfl (B1.sub 2 7 (Nat.le_of_ble_eq_true rfl)) rfl) rfl ?_
          refine OW_st rfl (Stp_buildSlice (l := [_, _, _, _, _, _, _]) el_26 zero_31 rfl rfl rfl rfl ?_)
          intro b23 w23 hb23 hz23 E23 B23
          have L23 : _ ≤ b23 := Nat.le_trans T.size (Nat.le_of_eq hb23.symm)
          have hx := hx.keep0 E23
          have T := T.keep0 E23
          have B1 := B1.keep0 E23
          have B2 := B2.keep0 E23
          have B3 := B3.keep0 E23
          have BN := BN.keep0 E23
          have O1 := O1.keep0 E23
          have hY : Sl (· = b23) w23 7 (some ⟨b23, 0, none⟩) ([r.gap].map Ent.cells) := Sl.ofBlk B23 (by simp [Ent.cells_length])
          have hbw : b23 < w23.heap.size := by omega
          refine OW_st rfl (Stp_append O1 hY el_26 rfl rfl rfl rfl (by simp) (Ent.one _) (by simp [maxLen]; omega) (by simp; omega) (by omega) ?_)
          intro v24 w24 O24 E24 X24
          have Z24 := E24.size
          have hx := hx.keepo E24 (fun b hb hl he => by first | omega | (have := hsp b he; omega) | (change b < _ at hb; omega) | (change _ ≤ b at hb; omega) | (have h1 := hb.1; have h2 := hb.2; first | omega | (change _ ≤ _ at h1; omega) | (change _ < _ at h1; omega)))
          have T := T.transo E24 (by omega)
          have B1 := B1.keepo E24 (fun b hb hl he => by first | omega | (have := hsp b he; omega) | (change b < _ at hb; omega) | (change _ ≤ b at hb; omega) | (have h1 := hb.1; have h2 := hb.2; first | omega | (change _ ≤ _ at h1; omega) | (change _ < _ at h1; omega)))
          have B2 := B2.keepo E24 (fun b hb hl he => by first | omega | (have := hsp b he; omega) | (change b < _ at hb; omega) | (change _ ≤ b at hb; omega) | (have h1 := hb.1; have h2 := hb.2; first | omega | (change _ ≤ _ at h1; omega) | (change _ < _ at h1; omega)))
          have B3 := B3.keepo E24 (fun b hb hl he => by first | omega | (have := hsp b he; omega) | (change b < _ at hb; omega) | (change _ ≤ b at hb; omega) | (have h1 := hb.1; have h2 := hb.2; first | omega | (change _ ≤ _ at h1; omega) | (change _ < _ at h1; omega)))
          have BN := BN.keepo E24 (fun b hb hl he => by first | omega | (have := hsp b he; omega) | (change b < _ at hb; omega) | (change _ ≤ b at hb; omega) | (have h1 := hb.1; have h2 := hb.2; first | omega | (change _ ≤ _ at h1; omega) | (change _ < _ at h1; omega)))
          obtain ⟨a24, q24, rfl, l24, m24, S24⟩ := O24.sl
          have hL24 : (List.map Ent.cells r.l ++ List.map Ent.cells [r.gap]).length = (r.l ++ [r.gap]).length := by simp
          rw [hL24] at O24 l24
          rw [hL24]
          have O2 := O24
          obtain ⟨a_O2, rfl⟩ : ∃ x, x = a24 := ⟨_, rfl⟩
          obtain ⟨q_O2, rfl⟩ : ∃ x, x = q24 := ⟨_, rfl⟩
          have m_O2 := m24
          have l_O2 := l24
          have O2 : Own NB w24 31 7 (.slice a_O2 (r.l ++ [r.gap]).length q_O2) ((r.l ++ [r.gap]).map Ent.cells) := by simpa using O2
          refine OW_ev (Ev_fieldAddr fld_33_1 rfl rfl) rfl ?_
          refine OW_st rfl (Stp_store (q := 1) BN siz_26 rfl rfl rfl rfl (Nat.le_of_ble_eq_true rfl) rfl ?_)
          intro w25 hz25 E25 B25
          have Z25 := E25.size
          have hx := hx.keepb E25 (by show ¬ _ < _; omega)
          have T := T.transb E25 (by omega)
          have B1 := B1.keepb E25 (by intro h; first | omega | (change _ < _ at h; omega) | (change _ ≤ _ at h; omega) | (have h1 := h.1; have h2 := h.2; first | omega | (change _ ≤ _ at h1; omega) | (change _ < _ at h1; omega)))
          have B2 := B2.keepb E25 (by intro h; first | omega | (change _ < _ at h; omega) | (change _ ≤ _ at h; omega) | (have h1 := h.1; have h2 := h.2; first | omega | (change _ ≤ _ at h1; omega) | (change _ < _ at h1; omega)))
          have B3 := B3.keepb E25 (by intro h; first | omega | (change _ < _ at h; omega) | (change _ ≤ _ at h; omega) | (have h1 := h.1; have h2 := h.2; first | omega | (change _ ≤ _ at h1; omega) | (change _ < _ at h1; omega)))
          have O2 := O2.keepb E25 (fun b hb _ => by omega)
          clear BN
          have BN := B25
          clear B25
          have BN : Blk w25 bn 33 ([.int .i64 r.room, .slice a_O2 (r.l ++ [r.gap]).length q_O2] ++ (r.gap).cells) := BN
          refine OW_nil ?_
          refine CW_seq ?_
          refine CW_reg rfl ?_
          refine OW_ev (Ev_fieldAddr fld_33_1 rfl rfl) rfl ?_
          refine OW_ev (Ev_load one_26 rfl rfl (BN.ld (q := 1) rfl)) rfl ?_
          refine OW_ev (Ev_loadAgg (l := [.int _ _, .int _ _, .int _ _, .int _ _, .int _ _, .int _ _, .int _ _]) agg_31 rfl rfl (B2.sub 0 7 (Nat.le_of_ble_eq_true rfl)) rfl) rfl ?_
          refine OW_st rfl (Stp_buildSlice (l := [_, _, _, _, _, _, _]) el_26 zero_31 rfl rfl rfl rfl ?_)
          intro b26 w26 hb26 hz26 E26 B26
          have L26 : _ ≤ b26 := Nat.le_trans T.size (Nat.le_of_eq hb26.symm)
          have hx := hx.keep0 E26
          have T := T.keep0 E26
          have B1 := B1.keep0 E26
          have B2 := B2.keep0 E26
          have B3 := B3.keep0 E26
          have BN := BN.keep0 E26
          have O2 := O2.keep0 E26
          have hY : Sl (· = b26) w26 7 (some ⟨b26, 0, none⟩) ([x].map Ent.cells) := Sl.ofBlk B26 (by simp [Ent.cells_length])
          have hbw : b26 < w26.heap.size := by omega
          refine OW_st rfl (Stp_append O2 hY el_26 rfl rfl rfl rfl (by simp) (Ent.one _) (by simp [maxLen]; omega) (by simp; omega) (by omega) ?_)
          intro v27 w27 O27 E27 X27
          have Z27 := E27.size
          have hx := hx.keepo E27 (fun b hb hl he => by first | omega | (have := hsp b he; omega) | (change b < _ at hb; omega) | (change _ ≤ b at hb; omega) | (have h1 := hb.1; have h2 := hb.2; first | omega | (change _ ≤ _ at h1; omega) | (change _ < _ at h1; omega)))
          have T := T.transo E27 (by omega)
          have B1 := B1.keepo E27 (fun b hb hl he => by first | omega | (have := hsp b he; omega) | (change b < _ at hb; omega) | (change _ ≤ b at hb; omega) | (have h1 := hb.1; have h2 := hb.2; first | omega | (change _ ≤ _ at h1; omega) | (change _ < _ at h1; omega)))
          have B2 := B2.keepo E27 (fun b hb hl he => by first | omega | (have := hsp b he; omega) | (change b < _ at hb; omega) | (change _ ≤ b at hb; omega) | (have h1 := hb.1; have h2 := hb.2; first | omega | (change _ ≤ _ at h1; omega) | (change _ < _ at h1; omega)))
          have B3 := B3.keepo E27 (fun b hb hl he => by first | omega | (have := hsp b he; omega) | (change b < _ at hb; omega) | (change _ ≤ b at hb; omega) | (have h1 := hb.1; have h2 := hb.2; first | omega | (change _ ≤ _ at h1; omega) | (change _ < _ at h1; omega)))
          have BN := BN.keepo E27 (fun b hb hl he => by first | omega | (have := hsp b he; omega) | (change b < _ at hb; omega) | (change _ ≤ b at hb; omega) | (have h1 := hb.1; have h2 := hb.2; first | omega | (change _ ≤ _ at h1; omega) | (change _ < _ at h1; omega)))
          obtain ⟨a27, q27, rfl, l27, m27, S27⟩ := O27.sl
          have hL27 : (List.map Ent.cells (r.l ++ [r.gap]) ++ List.map Ent.cells [x]).length = ((r.l ++ [r.gap]) ++ [x]).length := by simp
          rw [hL27] at O27 l27
          rw [hL27]
          have O3 := O27
          obtain ⟨a_O3, rfl⟩ : ∃ x, x = a27 := ⟨_, rfl⟩
          obtain ⟨q_O3, rfl⟩ : ∃ x, x = q27 := ⟨_, rfl⟩
          have m_O3 := m27
          have l_O3 := l27
          have O3 : Own NB w27 31 7 (.slice a_O3 ((r.l ++ [r.gap]) ++ [x]).length q_O3) (((r.l ++ [r.gap]) ++ [x]).map Ent.cells) := by simpa using O3
          refine OW_ev (Ev_fieldAddr fld_33_1 rfl rfl) rfl ?_
          refine OW_st rfl (Stp_store (q := 1) BN siz_26 rfl rfl rfl rfl (Nat.le_of_ble_eq_true rfl) rfl ?_)
          intro w28 hz28 E28 B28
          have Z28 := E28.size
          have hx := hx.keepb E28 (by show ¬ _ < _; omega)
          have T := T.transb E28 (by omega)
          have B1 := B1.keepb E28 (by intro h; first | omega | (change _ < _ at h; omega) | (change _ ≤ _ at h; omega) | (have h1 := h.1; have h2 := h.2; first | omega | (change _ ≤ _ at h1; omega) | (change _ < _ at h1; omega)))
          have B2 := B2.keepb E28 (by intro h; first | omega | (change _ < _ at h; omega) | (change _ ≤ _ at h; omega) | (have h1 := h.1; have h2 := h.2; first | omega | (change _ ≤ _ at h1; omega) | (change _ < _ at h1; omega)))
          have B3 := B3.keepb E28 (by intro h; first | omega | (change _ < _ at h; omega) | (change _ ≤ _ at h; omega) | (have h1 := h.1; have h2 := h.2; first | omega | (change _ ≤ _ at h1; omega) | (change _ < _ at h1; omega)))
          have O3 := O3.keepb E28 (fun b hb _ => by omega)
          clear BN
          have BN := B28
          clear B28
          have BN : Blk w28 bn 33 ([.int .i64 r.room, .slice a_O3 (r.l ++ [r.gap] ++ [x]).length q_O3] ++ (r.gap).cells) := BN
          refine OW_nil ?_
          refine CW_seq ?_
          refine CW_re [(2, .pointer _), (4, .pointer _), (5, .int _ _), (6, .pointer _)] ⟨rfl, rfl, rfl, rfl, trivial⟩ (fun g => ?_)
          refine CW_reg rfl ?_
          refine OW_ev (Ev_build (l := [.int _ _, .int _ _, .int _ _, .int _ _, .int _ _, .int _ _, .int _ _]) plc_31 zero_31 rfl rfl rfl) rfl ?_
          refine OW_ev (Ev_fieldAddr fld_33_2 rfl rfl) rfl ?_
          refine OW_st rfl (Stp_store (q := 2) BN siz_31 rfl rfl rfl rfl (Nat.le_of_ble_eq_true rfl) rfl ?_)
          intro w29 hz29 E29 B29
          have Z29 := E29.size
          have hx := hx.keepb E29 (by show ¬ _ < _; omega)
          have T := T.transb E29 (by omega)
          have B1 := B1.keepb E29 (by intro h; first | omega | (change _ < _ at h; omega) | (change _ ≤ _ at h; omega) | (have h1 := h.1; have h2 := h.2; first | omega | (change _ ≤ _ at h1; omega) | (change _ < _ at h1; omega)))
          have B2 := B2.keepb E29 (by intro h; first | omega | (change _ < _ at h; omega) | (change _ ≤ _ at h; omega) | (have h1 := h.1; have h2 := h.2; first | omega | (change _ ≤ _ at h1; omega) | (change _ < _ at h1; omega)))
          have B3 := B3.keepb E29 (by intro h; first | omega | (change _ < _ at h; omega) | (change _ ≤ _ at h; omega) | (have h1 := h.1; have h2 := h.2; first | omega | (change _ ≤ _ at h1; omega) | (change _ < _ at h1; omega)))
          have O3 := O3.keepb E29 (fun b hb _ => by omega)
          clear BN
          have BN := B29
          clear B29
          have BN : Blk w29 bn 33 ([.int .i64 r.room, .slice a_O3 (r.l ++ [r.gap] ++ [x]).length q_O3] ++ (Ent.zero).cells) := BN
          refine OW_nil ?_
          refine CW_seq ?_
          refine CW_reg rfl ?_
          refine OW_ev (Ev_loadAgg (l := [.int _ _, .slice _ _ _, .int _ _, .int _ _, .int _ _, .int _ _, .int _ _, .int _ _, .int _ _]) agg_33 rfl rfl (BN.sub 0 9 (Nat.le_of_ble_eq_true rfl)) rfl) rfl ?_
          refine OW_st rfl (Stp_store (q := 0) (vs := [.int _ _, .slice _ _ _, .int _ _, .int _ _, .int _ _, .int _ _, .int _ _, .int _ _, .int _ _]) B3 siz_33 rfl rfl rfl rfl (Nat.le_of_ble_eq_true rfl) rfl ?_)
          intro w30 hz30 E30 B30
          have Z30 := E30.size
          have hx := hx.keepb E30 (by show ¬ _ < _; omega)
          have T := T.transb E30 (by omega)
          have B1 := B1.keepb E30 (by intro h; first | omega | (change _ < _ at h; omega) | (change _ ≤ _ at h; omega) | (have h1 := h.1; have h2 := h.2; first | omega | (change _ ≤ _ at h1; omega) | (change _ < _ at h1; omega)))
          have B2 := B2.keepb E30 (by intro h; first | omega | (change _ < _ at h; omega) | (change _ ≤ _ at h; omega) | (have h1 := h.1; have h2 := h.2; first | omega | (change _ ≤ _ at h1; omega) | (change _ < _ at h1; omega)))
          have BN := BN.keepb E30 (by intro h; first | omega | (change _ < _ at h; omega) | (change _ ≤ _ at h; omega) | (have h1 := h.1; have h2 := h.2; first | omega | (change _ ≤ _ at h1; omega) | (change _ < _ at h1; omega)))
          have O3 := O3.keepb E30 (fun b hb _ => by omega)
          clear B3
          have B3 : Blk _ _ _ [_, _, _, _, _, _, _, _, _] := B30
          clear B30
          refine OW_ev (Ev_c (.inr rfl)) rfl ?_
          refine OW_nil ?_
          refine CW_ret ?_
          refine ⟨rfl, _, (.cell rfl (ld_agg agg_33 (B3.sub 0 9 (Nat.le_of_ble_eq_true rfl)) rfl) (.tmp rfl .nil)), ?_⟩
          rw [hp]
          first | exact ⟨T, none, 0, rfl, Nat.zero_le _, Nat.zero_le _, Sl.nil _ _ _ _⟩ | exact ⟨T, _, _, rfl, l_O1, m_O1, O1.sls.mono (fun b _ h => Nat.le_trans (by omega) h)⟩ | exact ⟨T, _, _, rfl, l_O2, m_O2, O2.sls.mono (fun b _ h => Nat.le_trans (by omega) h)⟩ | exact ⟨T, a_O3, q_O3, by rw [show r.l ++ [r.gap, x] = r.l ++ [r.gap] ++ [x] by simp]; rfl, by simpa using l_O3, m_O3, by have := O3.sls.mono (G := fun b => w.heap.size ≤ b) (fun b _ h => Nat.le_trans (by omega) h); simpa using this⟩
        · have d22 := c22
          first | (with_reducible replace d22 := of_decide_eq_false d22) | (with_reducible replace d22 := bnf d22; try (with_reducible replace d22 := of_decide_eq_true d22)) | skip
          have hp : r.put x = (⟨r.room, r.l, { r.gap with e := { r.gap.e with a := min (r.gap.e.a + 1) 4294967295 } }⟩, 0) := by rw [hp0, Rg.put1, if_pos hg, if_neg (by omega)]
          refine CW_skip ?_
          refine CW_seq ?_
          refine CW_re [(2, .pointer _), (4, .pointer _), (5, .int _ _), (6, .pointer _)] ⟨rfl, rfl, rfl, rfl, trivial⟩ (fun g => ?_)
          refine CW_reg rfl ?_
          refine OW_ev (Ev_fieldAddr fld_33_2 rfl rfl) rfl ?_
          refine OW_ev (Ev_fieldAddr fld_31_1 rfl rfl) rfl ?_
          refine OW_ev (Ev_fieldAddr fld_29_4 rfl rfl) rfl ?_
          refine OW_ev (Ev_load one_3 rfl rfl (B1.ld (q := 7) rfl)) rfl ?_
          refine OW_ev (Ev_add rfl rfl rfl (by first | (apply IntWalk.i64_in; omega) | (apply IntWalk.u64_in; omega) | (apply IntWalk.u32_in; omega) | (apply IntWalk.u8_in; omega) | (apply IntWalk.i32_in; omega) | rfl)) rfl ?_
          refine OW_ev (Ev_min2 rfl rfl rfl) rfl ?_
          refine OW_ev (Ev_fieldAddr fld_33_2 rfl rfl) rfl ?_
          refine OW_ev (Ev_fieldAddr fld_31_1 rfl rfl) rfl ?_
          refine OW_ev (Ev_fieldAddr fld_29_4 rfl rfl) rfl ?_
          refine OW_st rfl (Stp_store (q := 7) BN siz_3 rfl rfl rfl rfl (Nat.le_of_ble_eq_true rfl) rfl ?_)
          intro w31 hz31 E31 B31
          have Z31 := E31.size
          have hx := hx.keepb E31 (by show ¬ _ < _; omega)
          have T := T.transb E31 (by omega)
          have B1 := B1.keepb E31 (by intro h; first | omega | (change _ < _ at h; omega) | (change _ ≤ _ at h; omega) | (have h1 := h.1; have h2 := h.2; first | omega | (change _ ≤ _ at h1; omega) | (change _ < _ at h1; omega)))
          have B2 := B2.keepb E31 (by intro h; first | omega | (change _ < _ at h; omega) | (change _ ≤ _ at h; omega) | (have h1 := h.1; have h2 := h.2; first | omega | (change _ ≤ _ at h1; omega) | (change _ < _ at h1; omega)))
          have B3 := B3.keepb E31 (by intro h; first | omega | (change _ < _ at h; omega) | (change _ ≤ _ at h; omega) | (have h1 := h.1; have h2 := h.2; first | omega | (change _ ≤ _ at h1; omega) | (change _ < _ at h1; omega)))
          have O1 := O1.keepb E31 (fun b hb _ => by omega)
          clear BN
          have BN := B31
          clear B31
          have BN : Blk w31 bn 33 ([.int .i64 r.room, .slice a_O1 r.l.length q_O1] ++ (({ r.gap with e := { r.gap.e with a := min (r.gap.e.a + 1) 4294967295 } } : Ent)).cells) := BN
          refine OW_nil ?_
          refine CW_seq ?_
          refine CW_reg rfl ?_
          refine OW_ev (Ev_loadAgg (l := [.int _ _, .slice _ _ _, .int _ _, .int _ _, .int _ _, .int _ _, .int _ _, .int _ _, .int _ _]) agg_33 rfl rfl (BN.sub 0 9 (Nat.le_of_ble_eq_true rfl)) rfl) rfl ?_
          refine OW_st rfl (Stp_store (q := 0) (vs := [.int _ _, .slice _ _ _, .int _ _, .int _ _, .int _ _, .int _ _, .int _ _, .int _ _, .int _ _]) B3 siz_33 rfl rfl rfl rfl (Nat.le_of_ble_eq_true rfl) rfl ?_)
          intro w32 hz32 E32 B32
          have Z32 := E32.size
          have hx := hx.keepb E32 (by show ¬ _ < _; omega)
          have T := T.transb E32 (by omega)
          have B1 := B1.keepb E32 (by intro h; first | omega | (change _ < _ at h; omega) | (change _ ≤ _ at h; omega) | (have h1 := h.1; have h2 := h.2; first | omega | (change _ ≤ _ at h1; omega) | (change _ < _ at h1; omega)))
          have B2 := B2.keepb E32 (by intro h; first | omega | (change _ < _ at h; omega) | (change _ ≤ _ at h; omega) | (have h1 := h.1; have h2 := h.2; first | omega | (change _ ≤ _ at h1; omega) | (change _ < _ at h1; omega)))
          have BN := BN.keepb E32 (by intro h; first | omega | (change _ < _ at h; omega) | (change _ ≤ _ at h; omega) | (have h1 := h.1; have h2 := h.2; first | omega | (change _ ≤ _ at h1; omega) | (change _ < _ at h1; omega)))
          have O1 := O1.keepb E32 (fun b hb _ => by omega)
          clear B3
          have B3 : Blk _ _ _ [_, _, _, _, _, _, _, _, _] := B32
          clear B32
          refine OW_ev (Ev_c (.inr rfl)) rfl ?_
          refine OW_nil ?_
          refine CW_ret ?_
          refine ⟨rfl, _, (.cell rfl (ld_agg agg_33 (B3.sub 0 9 (Nat.le_of_ble_eq_true rfl)) rfl) (.tmp rfl .nil)), ?_⟩
          rw [hp]
          first | exact ⟨T, none, 0, rfl, Nat.zero_le _, Nat.zero_le _, Sl.nil _ _ _ _⟩ | exact ⟨T, _, _, rfl, l_O1, m_O1, O1.sls.mono (fun b _ h => Nat.le_trans (by omega) h)⟩ | exact ⟨T, _, _, rfl, l_O2, m_O2, O2.sls.mono (fun b _ h => Nat.le_trans (by omega) h)⟩ | exact ⟨T, a_O3, q_O3, by rw [show r.l ++ [r.gap, x] = r.l ++ [r.gap] ++ [x] by simp]; rfl, by simpa using l_O3, m_O3, by have := O3.sls.mono (G := fun b => w.heap.size ≤ b) (fun b _ h => Nat.le_trans (by omega) h); simpa using this⟩

end Go.Proofs.Ytiedmigdgelhkaa