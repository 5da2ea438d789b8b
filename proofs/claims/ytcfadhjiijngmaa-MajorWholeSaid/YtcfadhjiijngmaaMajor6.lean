/- Contract of framed, the example of chapter 18. -/
import Derived.Test.YtcfadhjiijngmaaTypes
import Derived.Test.YtcfadhjiijngmaaMajorData
import Derived.Test.YtcfadhjiijngmaaMajor5
namespace Go.Proofs.Ytcfadhjiijngmaa
open Go Go.RowKit Bx Go.Proofs

theorem frA_ok : (⟨0, 4, 2, [0], 1, 0⟩ : Prt).ok := by
  unfold Prt.ok i64r
  refine ⟨by decide, by decide, by decide, by decide, by decide, ?_⟩
  intro n hn; simp at hn; subst hn; decide
theorem frB_ok : (⟨4, 4, 2, [0], 1, 0⟩ : Prt).ok := by
  unfold Prt.ok i64r
  refine ⟨by decide, by decide, by decide, by decide, by decide, ?_⟩
  intro n hn; simp at hn; subst hn; decide
theorem frW_ok : ∀ x ∈ [((0 : Int), (3 : Int)), (-1, 2), (1, 1)], i64r x.1 ∧ i64r x.2 := by
  unfold i64r; decide
theorem le_maxLen {n : Nat} (h : n ≤ 1000000) : n ≤ maxLen := by simp only [maxLen]; omega
def fr0p : Pln := ⟨8, [⟨0, 4, 2, [0], 1, 0⟩, ⟨4, 4, 2, [0], 1, 0⟩], [(0, 3), (-1, 2), (1, 1)], []⟩
def zerop : Pln := ⟨0, [], [], []⟩
theorem fr0_err : fr0p.err = 0 := by decide +kernel
theorem fr0_all : fr0p.at_ 10 = (⟨1, 1, 1⟩, 0) ∧ fr0p.tick ⟨1, 1, 1⟩ = (10, 0) ∧ fr0p.next 10 = (11, 0) ∧ fr0p.owner 11 = (1, 0) ∧ fr0p.at_ (-1) = (Slt.zero, 6) ∧ zerop.at_ (-1) = (Slt.zero, 2) := by decide +kernel
theorem fr0_begins : fr0p.begins 4 10 = [⟨0, 2, 0⟩, ⟨1, 0, 0⟩, ⟨1, 1, 0⟩] := by decide +kernel

set_option maxRecDepth 10000 in
set_option maxHeartbeats 2000000 in
theorem framed_c (w : World) : Calls Try.prog 15 #[] w (Ret fun v w' => Kp0 w w' ∧ v = .bool (true)) := by
  have T : Kp0 w w := Kp.refl _ _
  refine calls_start Try.func15 rfl (n := 108) rfl rfl rfl ?_
  refine CW_seq ?_
  refine CW_reg rfl ?_
  refine OW_ev (Ev_c (.inr rfl)) rfl ?_
  refine OW_nil ?_
  refine CW_seq ?_
  refine CW_reg rfl ?_
  refine OW_st rfl (Stp_buildSlice (l := [_]) el_55 zero_56 rfl rfl rfl rfl ?_)
  intro b1 w1 hb1 hz1 E1 B1
  have L1 : _ ≤ b1 := Nat.le_trans T.size (Nat.le_of_eq hb1.symm)
  have T := T.keep0 E1
  have S1 : Sl (· = b1) w1 1 (some ⟨b1, 0, none⟩) ([0].map U1) := Sl.ofBlk B1 (by decide)
  refine OW_ev (Ev_mvs (.inr rfl) rfl) rfl ?_
  refine OW_nil ?_
  refine CW_seq ?_
  refine CW_reg rfl ?_
  refine OW_ev (Ev_mvs (.inl rfl) rfl) rfl ?_
  refine OW_ev (Ev_build (l := [.int _ _, .int _ _, .int _ _, .slice _ _ _, .int _ _, .int _ _]) plc_69 zero_69 rfl rfl rfl) rfl ?_
  refine OW_ev (Ev_mvs (.inl rfl) rfl) rfl ?_
  refine OW_ev (Ev_build (l := [.int _ _, .int _ _, .int _ _, .slice _ _ _, .int _ _, .int _ _]) plc_69 zero_69 rfl rfl rfl) rfl ?_
  refine OW_st rfl (Stp_buildSlice (l := [_, _, _, _, _, _, _, _, _, _, _, _]) el_22 zero_69 rfl rfl rfl rfl ?_)
  intro b2 w2 hb2 hz2 E2 B2
  have L2 : _ ≤ b2 := Nat.le_trans T.size (Nat.le_of_eq hb2.symm)
  have T := T.keep0 E2
  have S1 := S1.keep0 E2
  have S2 : Sl (· = b2) w2 6 (some ⟨b2, 0, none⟩) (List.map PrtM.cl [⟨⟨0, 4, 2, [0], 1, 0⟩, some ⟨b1, 0, none⟩, 1⟩, ⟨⟨4, 4, 2, [0], 1, 0⟩, some ⟨b1, 0, none⟩, 1⟩]) := Sl.ofBlk B2 (by simp [PrtM.cl, Prt.cl])
  refine OW_ev (Ev_build (l := [.int _ _, .int _ _]) plc_88 zero_88 rfl rfl rfl) rfl ?_
  refine OW_ev (Ev_build (l := [.int _ _, .int _ _]) plc_88 zero_88 rfl rfl rfl) rfl ?_
  refine OW_ev (Ev_build (l := [.int _ _, .int _ _]) plc_88 zero_88 rfl rfl rfl) rfl ?_
  refine OW_st rfl (Stp_buildSlice (l := [_, _, _, _, _, _]) el_23 zero_88 rfl rfl rfl rfl ?_)
  intro b3 w3 hb3 hz3 E3 B3
  have L3 : _ ≤ b3 := Nat.le_trans T.size (Nat.le_of_eq hb3.symm)
  have T := T.keep0 E3
  have S1 := S1.keep0 E3
  have S2 := S2.keep0 E3
  have S3 : Sl (· = b3) w3 2 (some ⟨b3, 0, none⟩) (List.map I2 [(0, 3), (-1, 2), (1, 1)]) := Sl.ofBlk B3 (by simp [I2])
  refine OW_ev (Ev_build (l := [.int _ _, .slice _ _ _, .slice _ _ _, .slice _ _ _]) plc_26 zero_26 rfl rfl rfl) rfl ?_
  refine OW_st rfl (Stp_alloc zero_26 rfl ?_)
  intro b4 w4 hb4 hz4 E4 B4
  have L4 : _ ≤ b4 := Nat.le_trans T.size (Nat.le_of_eq hb4.symm)
  have T := T.keep0 E4
  have S1 := S1.keep0 E4
  have S2 := S2.keep0 E4
  have S3 := S3.keep0 E4
  obtain ⟨PM, hPM⟩ : ∃ PM : PlnM, PM = (⟨8, [⟨⟨0, 4, 2, [0], 1, 0⟩, some ⟨b1, 0, none⟩, 1⟩, ⟨⟨4, 4, 2, [0], 1, 0⟩, some ⟨b1, 0, none⟩, 1⟩], [(0, 3), (-1, 2), (1, 1)], [], some ⟨b2, 0, none⟩, some ⟨b3, 0, none⟩, none, 2, 3, 0⟩ : PlnM) := ⟨_, rfl⟩
  have hcl : PM.cl = [.int .i64 8, .slice (some ⟨b2, 0, none⟩) 2 2, .slice (some ⟨b3, 0, none⟩) 3 3, .slice none 0 0] := by rw [hPM]; rfl
  have hr : PM.r = fr0p := by rw [hPM]; rfl
  obtain ⟨bp, rfl⟩ : ∃ b, b = b4 := ⟨_, rfl⟩
  have BP := B4
  have S1 := S1.mono (G := fun b => b < bp) (fun b _ hb => by have e : b = b1 := hb; omega)
  have S2 := S2.mono (G := fun b => b < bp) (fun b _ hb => by have e : b = b2 := hb; omega)
  have S3 := S3.mono (G := fun b => b < bp) (fun b _ hb => by have e : b = b3 := hb; omega)
  have hP : PlnS (fun b => b < bp) w4 PM := by
    rw [hPM]
    refine ⟨S2, S3, Sl.nil _ _ _ _, fun m hm => ?_, ⟨by show (-9223372036854775808 : Int) ≤ 8; omega, by show (8 : Int) ≤ 9223372036854775807; omega⟩, frW_ok, fun c hc => (nomatch hc), ⟨Nat.le_refl _, le_maxLen (by show 2 ≤ 1000000; omega)⟩, ⟨Nat.le_refl _, le_maxLen (by show 3 ≤ 1000000; omega)⟩, ⟨Nat.le_refl _, le_maxLen (by show 0 ≤ 1000000; omega)⟩⟩
    rcases List.mem_cons.1 hm with rfl | hm
    · exact ⟨frA_ok, Nat.le_refl _, le_maxLen (by show 1 ≤ 1000000; omega), S1⟩
    · rw [List.mem_singleton.1 hm]
      exact ⟨frB_ok, Nat.le_refl _, le_maxLen (by show 1 ≤ 1000000; omega), S1⟩
  have hsm : PM.ps.length ≤ 1000 ∧ PM.ws.length ≤ 1000 ∧ PM.cs.length ≤ 1000 := by rw [hPM]; exact ⟨by show 2 ≤ 1000; omega, by show 3 ≤ 1000; omega, by show 0 ≤ 1000; omega⟩
  refine OW_st rfl (Stp_store (q := 0) BP siz_26 rfl rfl rfl rfl (Nat.le_of_ble_eq_true rfl) rfl ?_)
  intro w5 hz5 E5 B5
  have Z5 := E5.size
  have T := T.transb E5 (by omega)
  have hP := hP.keepb E5 (fun h => by change _ < _ at h; omega)
  clear BP
  have BP := B5
  clear B5
  have BP : Blk w5 bp 26 PM.cl := by rw [hcl]; exact BP
  refine OW_nil ?_
  refine CW_seq ?_
  refine CW_reg rfl ?_
  refine OW_ev (Ev_loadAgg (l := PM.cl) agg_26 rfl rfl (BP.sub 0 4 (Nat.le_of_ble_eq_true rfl)) rfl) rfl ?_
  have hc := at_c (n := 10) hP hsm
  rw [hr, fr0_all.1] at hc
  refine OW_st rfl (Stp_call ent_11 rfl rfl rfl (hc) ?_)
  rintro _ w6 ⟨E6, rfl⟩
  have Z6 := E6.size
  have T := T.keep0 E6
  have BP := BP.keep0 E6
  have hP := hP.keep0 E6
  refine OW_ev (Ev_mvt (.inl rfl) rfl) rfl ?_
  refine OW_ev (Ev_extract (vs := _) rfl rfl rfl) rfl ?_
  refine OW_ev (Ev_extract (vs := _) rfl rfl rfl) rfl ?_
  refine OW_st rfl (Stp_alloc zero_29 rfl ?_)
  intro b7 w7 hb7 hz7 E7 B7
  have L7 : _ ≤ b7 := Nat.le_trans T.size (Nat.le_of_eq hb7.symm)
  have T := T.keep0 E7
  have BP := BP.keep0 E7
  have hP := hP.keep0 E7
  refine OW_st rfl (Stp_store (q := 0) (vs := [.int _ _, .int _ _, .int _ _]) B7 siz_29 rfl rfl rfl rfl (Nat.le_of_ble_eq_true rfl) rfl ?_)
  intro w8 hz8 E8 B8
  have Z8 := E8.size
  have T := T.transb E8 (by omega)
  have BP := BP.keepb E8 (by intro h; first | omega | (change _ < _ at h; omega) | (change _ ≤ _ at h; omega) | (have h1 := h.1; have h2 := h.2; first | omega | (change _ ≤ _ at h1; omega) | (change _ < _ at h1; omega)))
  have hP := hP.keepb E8 (fun h => by change _ < _ at h; omega)
  clear B7
  have B7 : Blk _ _ _ [_, _, _] := B8
  clear B8
  refine OW_ev (Ev_mvi (.inr rfl) rfl) rfl ?_
  refine OW_nil ?_
  refine CW_seq ?_
  refine CW_re [(0, .bool _), (2, .pointer _), (3, .pointer _), (4, .int _ _)] ⟨rfl, rfl, rfl, rfl, trivial⟩ (fun g => ?_)
  refine CW_reg rfl ?_
  refine OW_ev (Ev_loadAgg (l := PM.cl) agg_26 rfl rfl (BP.sub 0 4 (Nat.le_of_ble_eq_true rfl)) rfl) rfl ?_
  refine OW_ev (Ev_loadAgg (l := [.int _ _, .int _ _, .int _ _]) agg_29 rfl rfl (B7.sub 0 3 (Nat.le_of_ble_eq_true rfl)) rfl) rfl ?_
  have hc := tickS_c (s := ⟨1, 1, 1⟩) hP hsm
  rw [hr, fr0_all.2.1] at hc
  refine OW_st rfl (Stp_call ent_16 rfl rfl rfl (hc) ?_)
  rintro _ w9 ⟨E9, rfl⟩
  have Z9 := E9.size
  have T := T.keep0 E9
  have BP := BP.keep0 E9
  have hP := hP.keep0 E9
  have B7 := B7.keep0 E9
  refine OW_ev (Ev_mvt (.inl rfl) rfl) rfl ?_
  refine OW_ev (Ev_extract (vs := _) rfl rfl rfl) rfl ?_
  refine OW_ev (Ev_extract (vs := _) rfl rfl rfl) rfl ?_
  refine OW_ev (Ev_mvi (.inr rfl) rfl) rfl ?_
  refine OW_ev (Ev_mvi (.inr rfl) rfl) rfl ?_
  refine OW_nil ?_
  refine CW_seq ?_
  refine CW_reg rfl ?_
  refine OW_ev (Ev_loadAgg (l := PM.cl) agg_26 rfl rfl (BP.sub 0 4 (Nat.le_of_ble_eq_true rfl)) rfl) rfl ?_
  have hc := next_c (n := 10) hP hsm
  rw [hr, fr0_all.2.2.1] at hc
  refine OW_st rfl (Stp_call ent_40 rfl rfl rfl (hc) ?_)
  rintro _ w10 ⟨E10, rfl⟩
  have Z10 := E10.size
  have T := T.keep0 E10
  have BP := BP.keep0 E10
  have hP := hP.keep0 E10
  have B7 := B7.keep0 E10
  refine OW_ev (Ev_mvt (.inl rfl) rfl) rfl ?_
  refine OW_ev (Ev_extract (vs := _) rfl rfl rfl) rfl ?_
  refine OW_ev (Ev_extract (vs := _) rfl rfl rfl) rfl ?_
  refine OW_ev (Ev_mvi (.inr rfl) rfl) rfl ?_
  refine OW_ev (Ev_mvi (.inr rfl) rfl) rfl ?_
  refine OW_nil ?_
  refine CW_seq ?_
  refine CW_re [(0, .bool _), (2, .pointer _), (3, .pointer _), (4, .int _ _), (5, .int _ _), (6, .int _ _), (7, .int _ _), (8, .int _ _)] ⟨rfl, rfl, rfl, rfl, rfl, rfl, rfl, rfl, trivial⟩ (fun g => ?_)
  refine CW_reg rfl ?_
  refine OW_ev (Ev_loadAgg (l := PM.cl) agg_26 rfl rfl (BP.sub 0 4 (Nat.le_of_ble_eq_true rfl)) rfl) rfl ?_
  have hc := owner_c (n := 11) hP hsm
  rw [hr, fr0_all.2.2.2.1] at hc
  refine OW_st rfl (Stp_call ent_13 rfl rfl rfl (hc) ?_)
  rintro _ w11 ⟨E11, rfl⟩
  have Z11 := E11.size
  have T := T.keep0 E11
  have BP := BP.keep0 E11
  have hP := hP.keep0 E11
  have B7 := B7.keep0 E11
  refine OW_ev (Ev_mvt (.inl rfl) rfl) rfl ?_
  refine OW_ev (Ev_extract (vs := _) rfl rfl rfl) rfl ?_
  refine OW_ev (Ev_extract (vs := _) rfl rfl rfl) rfl ?_
  refine OW_ev (Ev_mvi (.inr rfl) rfl) rfl ?_
  refine OW_ev (Ev_mvi (.inr rfl) rfl) rfl ?_
  refine OW_nil ?_
  refine CW_seq ?_
  refine CW_reg rfl ?_
  refine OW_ev (Ev_loadAgg (l := PM.cl) agg_26 rfl rfl (BP.sub 0 4 (Nat.le_of_ble_eq_true rfl)) rfl) rfl ?_
  have hc := at_c (n := -1) hP hsm
  rw [hr, fr0_all.2.2.2.2.1] at hc
  refine OW_st rfl (Stp_call ent_11 rfl rfl rfl (hc) ?_)
  rintro _ w12 ⟨E12, rfl⟩
  have Z12 := E12.size
  have T := T.keep0 E12
  have BP := BP.keep0 E12
  have hP := hP.keep0 E12
  have B7 := B7.keep0 E12
  refine OW_ev (Ev_mvt (.inl rfl) rfl) rfl ?_
  refine OW_ev (Ev_extract (vs := _) rfl rfl rfl) rfl ?_
  refine OW_ev (Ev_extract (vs := _) rfl rfl rfl) rfl ?_
  refine OW_st rfl (Stp_alloc zero_29 rfl ?_)
  intro b13 w13 hb13 hz13 E13 B13
  have L13 : _ ≤ b13 := Nat.le_trans T.size (Nat.le_of_eq hb13.symm)
  have T := T.keep0 E13
  have BP := BP.keep0 E13
  have hP := hP.keep0 E13
  have B7 := B7.keep0 E13
  refine OW_st rfl (Stp_store (q := 0) (vs := [.int _ _, .int _ _, .int _ _]) B13 siz_29 rfl rfl rfl rfl (Nat.le_of_ble_eq_true rfl) rfl ?_)
  intro w14 hz14 E14 B14
  have Z14 := E14.size
  have T := T.transb E14 (by omega)
  have BP := BP.keepb E14 (by intro h; first | omega | (change _ < _ at h; omega) | (change _ ≤ _ at h; omega) | (have h1 := h.1; have h2 := h.2; first | omega | (change _ ≤ _ at h1; omega) | (change _ < _ at h1; omega)))
  have hP := hP.keepb E14 (fun h => by change _ < _ at h; omega)
  have B7 := B7.keepb E14 (by intro h; first | omega | (change _ < _ at h; omega) | (change _ ≤ _ at h; omega) | (have h1 := h.1; have h2 := h.2; first | omega | (change _ ≤ _ at h1; omega) | (change _ < _ at h1; omega)))
  clear B13
  have B13 : Blk _ _ _ [_, _, _] := B14
  clear B14
  refine OW_ev (Ev_mvi (.inr rfl) rfl) rfl ?_
  refine OW_nil ?_
  refine CW_seq ?_
  refine CW_re [(0, .bool _), (2, .pointer _), (3, .pointer _), (4, .int _ _), (5, .int _ _), (6, .int _ _), (7, .int _ _), (8, .int _ _), (9, .int _ _), (10, .int _ _), (12, .int _ _)] ⟨rfl, rfl, rfl, rfl, rfl, rfl, rfl, rfl, rfl, rfl, rfl, trivial⟩ (fun g => ?_)
  refine CW_reg rfl ?_
  refine OW_ev (Ev_build (l := [.int _ _, .slice _ _ _, .slice _ _ _, .slice _ _ _]) plc_26 zero_26 rfl rfl rfl) rfl ?_
  have hZ : ∀ w : World, PlnS (fun _ => True) w (⟨0, [], [], [], none, none, none, 0, 0, 0⟩ : PlnM) := fun w => ⟨Sl.nil _ _ _ _, Sl.nil _ _ _ _, Sl.nil _ _ _ _, fun m hm => (nomatch hm), ⟨by show (-9223372036854775808 : Int) ≤ 0; omega, by show (0 : Int) ≤ 9223372036854775807; omega⟩, fun m hm => (nomatch hm), fun m hm => (nomatch hm), ⟨Nat.le_refl _, Nat.zero_le _⟩, ⟨Nat.le_refl _, Nat.zero_le _⟩, ⟨Nat.le_refl _, Nat.zero_le _⟩⟩
  have hc := fun w : World => at_c (n := -1) (hZ w) (by decide)
  simp only [show (⟨0, [], [], [], none, none, none, 0, 0, 0⟩ : PlnM).r = zerop from rfl, fr0_all.2.2.2.2.2] at hc
  refine OW_st rfl (Stp_call ent_11 rfl rfl rfl (hc _) ?_)
  rintro _ w15 ⟨E15, rfl⟩
  have Z15 := E15.size
  have T := T.keep0 E15
  have BP := BP.keep0 E15
  have hP := hP.keep0 E15
  have B7 := B7.keep0 E15
  have B13 := B13.keep0 E15
  refine OW_ev (Ev_mvt (.inl rfl) rfl) rfl ?_
  refine OW_ev (Ev_extract (vs := _) rfl rfl rfl) rfl ?_
  refine OW_ev (Ev_extract (vs := _) rfl rfl rfl) rfl ?_
  refine OW_st rfl (Stp_alloc zero_29 rfl ?_)
  intro b16 w16 hb16 hz16 E16 B16
  have L16 : _ ≤ b16 := Nat.le_trans T.size (Nat.le_of_eq hb16.symm)
  have T := T.keep0 E16
  have BP := BP.keep0 E16
  have hP := hP.keep0 E16
  have B7 := B7.keep0 E16
  have B13 := B13.keep0 E16
  refine OW_st rfl (Stp_store (q := 0) (vs := [.int _ _, .int _ _, .int _ _]) B16 siz_29 rfl rfl rfl rfl (Nat.le_of_ble_eq_true rfl) rfl ?_)
  intro w17 hz17 E17 B17
  have Z17 := E17.size
  have T := T.transb E17 (by omega)
  have BP := BP.keepb E17 (by intro h; first | omega | (change _ < _ at h; omega) | (change _ ≤ _ at h; omega) | (have h1 := h.1; have h2 := h.2; first | omega | (change _ ≤ _ at h1; omega) | (change _ < _ at h1; omega)))
  have hP := hP.keepb E17 (fun h => by change _ < _ at h; omega)
  have B7 := B7.keepb E17 (by intro h; first | omega | (change _ < _ at h; omega) | (change _ ≤ _ at h; omega) | (have h1 := h.1; have h2 := h.2; first | omega | (change _ ≤ _ at h1; omega) | (change _ < _ at h1; omega)))
  have B13 := B13.keepb E17 (by intro h; first | omega | (change _ < _ at h; omega) | (change _ ≤ _ at h; omega) | (have h1 := h.1; have h2 := h.2; first | omega | (change _ ≤ _ at h1; omega) | (change _ < _ at h1; omega)))
  clear B16
  have B16 : Blk _ _ _ [_, _, _] := B17
  clear B17
  refine OW_ev (Ev_mvi (.inr rfl) rfl) rfl ?_
  refine OW_nil ?_
  refine CW_seq ?_
  refine CW_re [(0, .bool _), (2, .pointer _), (3, .pointer _), (4, .int _ _), (5, .int _ _), (6, .int _ _), (7, .int _ _), (8, .int _ _), (9, .int _ _), (10, .int _ _), (12, .int _ _), (14, .int _ _)] ⟨rfl, rfl, rfl, rfl, rfl, rfl, rfl, rfl, rfl, rfl, rfl, rfl, trivial⟩ (fun g => ?_)
  refine CW_reg rfl ?_
  refine OW_ev (Ev_mvi (.inl rfl) rfl) rfl ?_
  refine OW_ev (Ev_eql rfl rfl rfl) rfl ?_
  refine OW_ev (Ev_mvb (.inl rfl) rfl) rfl ?_
  refine OW_split (d := .tmp 59) rfl (fun c18 => ?_) (fun c18 => ?_)
  · have d18 := c18
    first | (with_reducible replace d18 := of_decide_eq_true d18) | (with_reducible replace d18 := bnt d18; try (with_reducible replace d18 := of_decide_eq_false d18)) | skip
    refine OW_yes rfl rfl rfl rfl c18 (Ev.stp (Ev_loadAgg (l := [.int _ _, .int _ _, .int _ _]) agg_29 rfl rfl (B7.sub 0 3 (Nat.le_of_ble_eq_true rfl)) rfl) ?_)
    refine OW_yes rfl rfl rfl rfl c18 (Ev.stp (Ev_build (l := [.int _ _, .int _ _, .int _ _]) plc_29 zero_29 rfl rfl rfl) ?_)
    refine OW_yes rfl rfl rfl rfl c18 (Ev.stp (Ev_eqS flat_29 rfl rfl rfl rfl rfl (Slt.eqL ⟨1, 1, 1⟩ ⟨1, 1, 1⟩)) ?_)
    refine OW_ev (Ev_pickb_t rfl rfl c18 rfl) rfl ?_
    refine OW_ev (Ev_mvb (.inl rfl) rfl) rfl ?_
    refine OW_split (d := .tmp 64) rfl (fun c19 => ?_) (fun c19 => ?_)
    · have d19 := c19
      first | (with_reducible replace d19 := of_decide_eq_true d19) | (with_reducible replace d19 := bnt d19; try (with_reducible replace d19 := of_decide_eq_false d19)) | skip
      refine OW_yes rfl rfl rfl rfl c19 (Ev.stp (Ev_mvi (.inl rfl) rfl) ?_)
      refine OW_yes rfl rfl rfl rfl c19 (Ev.stp (Ev_mvi (.inl rfl) rfl) ?_)
      refine OW_yes rfl rfl rfl rfl c19 (Ev.stp (Ev_eql rfl rfl rfl) ?_)
      refine OW_ev (Ev_pickb_t rfl rfl c19 rfl) rfl ?_
      refine OW_ev (Ev_mvb (.inl rfl) rfl) rfl ?_
      refine OW_split (d := .tmp 69) rfl (fun c20 => ?_) (fun c20 => ?_)
      · have d20 := c20
        first | (with_reducible replace d20 := of_decide_eq_true d20) | (with_reducible replace d20 := bnt d20; try (with_reducible replace d20 := of_decide_eq_false d20)) | skip
        refine OW_yes rfl rfl rfl rfl c20 (Ev.stp (Ev_mvi (.inl rfl) rfl) ?_)
        refine OW_yes rfl rfl rfl rfl c20 (Ev.stp (Ev_eql rfl rfl rfl) ?_)
        refine OW_ev (Ev_pickb_t rfl rfl c20 rfl) rfl ?_
        refine OW_ev (Ev_mvb (.inl rfl) rfl) rfl ?_
        refine OW_split (d := .tmp 73) rfl (fun c21 => ?_) (fun c21 => ?_)
        · have d21 := c21
          first | (with_reducible replace d21 := of_decide_eq_true d21) | (with_reducible replace d21 := bnt d21; try (with_reducible replace d21 := of_decide_eq_false d21)) | skip
          refine OW_yes rfl rfl rfl rfl c21 (Ev.stp (Ev_mvi (.inl rfl) rfl) ?_)
          refine OW_yes rfl rfl rfl rfl c21 (Ev.stp (Ev_mvi (.inl rfl) rfl) ?_)
          refine OW_yes rfl rfl rfl rfl c21 (Ev.stp (Ev_eql rfl rfl rfl) ?_)
          refine OW_ev (Ev_pickb_t rfl rfl c21 rfl) rfl ?_
          refine OW_ev (Ev_mvb (.inl rfl) rfl) rfl ?_
          refine OW_split (d := .tmp 78) rfl (fun c22 => ?_) (fun c22 => ?_)
          · have d22 := c22
            first | (with_reducible replace d22 := of_decide_eq_true d22) | (with_reducible replace d22 := bnt d22; try (with_reducible replace d22 := of_decide_eq_false d22)) | skip
            refine OW_yes rfl rfl rfl rfl c22 (Ev.stp (Ev_mvi (.inl rfl) rfl) ?_)
            refine OW_yes rfl rfl rfl rfl c22 (Ev.stp (Ev_eql rfl rfl rfl) ?_)
            refine OW_ev (Ev_pickb_t rfl rfl c22 rfl) rfl ?_
            refine OW_ev (Ev_mvb (.inl rfl) rfl) rfl ?_
            refine OW_split (d := .tmp 82) rfl (fun c23 => ?_) (fun c23 => ?_)
            · have d23 := c23
              first | (with_reducible replace d23 := of_decide_eq_true d23) | (with_reducible replace d23 := bnt d23; try (with_reducible replace d23 := of_decide_eq_false d23)) | skip
              refine OW_yes rfl rfl rfl rfl c23 (Ev.stp (Ev_mvi (.inl rfl) rfl) ?_)
              refine OW_yes rfl rfl rfl rfl c23 (Ev.stp (Ev_mvi (.inl rfl) rfl) ?_)
              refine OW_yes rfl rfl rfl rfl c23 (Ev.stp (Ev_eql rfl rfl rfl) ?_)
              refine OW_ev (Ev_pickb_t rfl rfl c23 rfl) rfl ?_
              refine OW_ev (Ev_mvb (.inl rfl) rfl) rfl ?_
              refine OW_split (d := .tmp 87) rfl (fun c24 => ?_) (fun c24 => ?_)
              · have d24 := c24
                first | (with_reducible replace d24 := of_decide_eq_true d24) | (with_reducible replace d24 := bnt d24; try (with_reducible replace d24 := of_decide_eq_false d24)) | skip
                refine OW_yes rfl rfl rfl rfl c24 (Ev.stp (Ev_mvi (.inl rfl) rfl) ?_)
                refine OW_yes rfl rfl rfl rfl c24 (Ev.stp (Ev_eql rfl rfl rfl) ?_)
                refine OW_ev (Ev_pickb_t rfl rfl c24 rfl) rfl ?_
                refine OW_ev (Ev_mvb (.inl rfl) rfl) rfl ?_
                refine OW_split (d := .tmp 91) rfl (fun c25 => ?_) (fun c25 => ?_)
                · have d25 := c25
                  first | (with_reducible replace d25 := of_decide_eq_true d25) | (with_reducible replace d25 := bnt d25; try (with_reducible replace d25 := of_decide_eq_false d25)) | skip
                  refine OW_yes rfl rfl rfl rfl c25 (Ev.stp (Ev_mvi (.inl rfl) rfl) ?_)
                  refine OW_yes rfl rfl rfl rfl c25 (Ev.stp (Ev_eql rfl rfl rfl) ?_)
                  refine OW_ev (Ev_pickb_t rfl rfl c25 rfl) rfl ?_
                  refine OW_ev (Ev_mvb (.inl rfl) rfl) rfl ?_
                  refine OW_split (d := .tmp 95) rfl (fun c26 => ?_) (fun c26 => ?_)
                  · have d26 := c26
                    first | (with_reducible replace d26 := of_decide_eq_true d26) | (with_reducible replace d26 := bnt d26; try (with_reducible replace d26 := of_decide_eq_false d26)) | skip
                    refine OW_yes rfl rfl rfl rfl c26 (Ev.stp (Ev_mvi (.inl rfl) rfl) ?_)
                    refine OW_yes rfl rfl rfl rfl c26 (Ev.stp (Ev_eql rfl rfl rfl) ?_)
                    refine OW_ev (Ev_pickb_t rfl rfl c26 rfl) rfl ?_
                    refine OW_ev (Ev_mvb (.inl rfl) rfl) rfl ?_
                    refine OW_split (d := .tmp 99) rfl (fun c27 => ?_) (fun c27 => ?_)
                    · have d27 := c27
                      first | (with_reducible replace d27 := of_decide_eq_true d27) | (with_reducible replace d27 := bnt d27; try (with_reducible replace d27 := of_decide_eq_false d27)) | skip
                      refine OW_yes rfl rfl rfl rfl c27 (Ev.stp (Ev_loadAgg (l := PM.cl) agg_26 rfl rfl (BP.sub 0 4 (Nat.le_of_ble_eq_true rfl)) rfl) ?_)
                      have hc := begins_c (n := 4) (to := 10) hP hsm
                      rw [hr, fr0_begins] at hc
                      refine OW_yes rfl rfl rfl rfl c27 (Stp_call ent_18 rfl rfl rfl (hc) ?_)
                      rintro _ w28 ⟨E28, aB, qB, rfl, hB1, hB2, SB⟩
                      have Z28 := E28.size
                      have T := T.keep0 E28
                      have BP := BP.keep0 E28
                      have hP := hP.keep0 E28
                      have B7 := B7.keep0 E28
                      have B13 := B13.keep0 E28
                      have B16 := B16.keep0 E28
                      refine OW_yes rfl rfl rfl rfl c27 (Ev.stp (Ev_build (l := [.int _ _, .int _ _, .int _ _]) plc_29 zero_29 rfl rfl rfl) ?_)
                      refine OW_yes rfl rfl rfl rfl c27 (Ev.stp (Ev_build (l := [.int _ _, .int _ _, .int _ _]) plc_29 zero_29 rfl rfl rfl) ?_)
                      refine OW_yes rfl rfl rfl rfl c27 (Ev.stp (Ev_build (l := [.int _ _, .int _ _, .int _ _]) plc_29 zero_29 rfl rfl rfl) ?_)
                      refine OW_yes rfl rfl rfl rfl c27 (Stp_buildSlice (l := [_, _, _, _, _, _, _, _, _]) el_40 zero_29 rfl rfl rfl rfl ?_)
                      intro b29 w29 hb29 hz29 E29 B29
                      have L29 : _ ≤ b29 := Nat.le_trans T.size (Nat.le_of_eq hb29.symm)
                      have T := T.keep0 E29
                      have BP := BP.keep0 E29
                      have hP := hP.keep0 E29
                      have B7 := B7.keep0 E29
                      have B13 := B13.keep0 E29
                      have B16 := B16.keep0 E29
                      have SB := SB.keep0 E29
                      have SY : Sl (· = b29) w29 3 (some ⟨b29, 0, none⟩) (List.map Slt.cells [⟨0, 2, 0⟩, ⟨1, 0, 0⟩, ⟨1, 1, 0⟩]) := Sl.ofBlk B29 (by simp [Slt.cells])
                      refine OW_yes rfl rfl rfl rfl c27 (Stp_call ent_41 rfl rfl rfl (sameS_c (xs := [⟨0, 2, 0⟩, ⟨1, 0, 0⟩, ⟨1, 1, 0⟩]) (ys := [⟨0, 2, 0⟩, ⟨1, 0, 0⟩, ⟨1, 1, 0⟩]) rfl rfl SB SY (by decide)) ?_)
                      rintro _ w30 ⟨E30, rfl⟩
                      have Z30 := E30.size
                      have T := T.keep0 E30
                      have BP := BP.keep0 E30
                      have hP := hP.keep0 E30
                      have B7 := B7.keep0 E30
                      have B13 := B13.keep0 E30
                      have B16 := B16.keep0 E30
                      have SB := SB.keep0 E30
                      have B29 := B29.keep0 E30
                      refine OW_ev (Ev_pickb_t rfl rfl c27 rfl) rfl ?_
                      refine OW_ev (Ev_mvb (.inr rfl) rfl) rfl ?_
                      refine OW_nil ?_
                      refine CW_ret ?_
                      refine ⟨rfl, _, (.tmp rfl .nil), ?_⟩
                      exact ⟨T, vb rfl (by decide)⟩
                    · have d27 := c27
                      first | (with_reducible replace d27 := of_decide_eq_false d27) | (with_reducible replace d27 := bnf d27; try (with_reducible replace d27 := of_decide_eq_true d27)) | skip
                      exact absurd (by decide) d27
                  · have d26 := c26
                    first | (with_reducible replace d26 := of_decide_eq_false d26) | (with_reducible replace d26 := bnf d26; try (with_reducible replace d26 := of_decide_eq_true d26)) | skip
                    exact absurd (by decide) d26
                · have d25 := c25
                  first | (with_reducible replace d25 := of_decide_eq_false d25) | (with_reducible replace d25 := bnf d25; try (with_reducible replace d25 := of_decide_eq_true d25)) | skip
                  exact absurd (by decide) d25
              · have d24 := c24
                first | (with_reducible replace d24 := of_decide_eq_false d24) | (with_reducible replace d24 := bnf d24; try (with_reducible replace d24 := of_decide_eq_true d24)) | skip
                exact absurd (by decide) d24
            · have d23 := c23
              first | (with_reducible replace d23 := of_decide_eq_false d23) | (with_reducible replace d23 := bnf d23; try (with_reducible replace d23 := of_decide_eq_true d23)) | skip
              exact absurd (by decide) d23
          · have d22 := c22
            first | (with_reducible replace d22 := of_decide_eq_false d22) | (with_reducible replace d22 := bnf d22; try (with_reducible replace d22 := of_decide_eq_true d22)) | skip
            exact absurd (by decide) d22
        · have d21 := c21
          first | (with_reducible replace d21 := of_decide_eq_false d21) | (with_reducible replace d21 := bnf d21; try (with_reducible replace d21 := of_decide_eq_true d21)) | skip
          exact absurd (by decide) d21
      · have d20 := c20
        first | (with_reducible replace d20 := of_decide_eq_false d20) | (with_reducible replace d20 := bnf d20; try (with_reducible replace d20 := of_decide_eq_true d20)) | skip
        exact absurd (by decide) d20
    · have d19 := c19
      first | (with_reducible replace d19 := of_decide_eq_false d19) | (with_reducible replace d19 := bnf d19; try (with_reducible replace d19 := of_decide_eq_true d19)) | skip
      exact absurd (by decide) d19
  · have d18 := c18
    first | (with_reducible replace d18 := of_decide_eq_false d18) | (with_reducible replace d18 := bnf d18; try (with_reducible replace d18 := of_decide_eq_true d18)) | skip
    exact absurd (by decide) d18

end Go.Proofs.Ytcfadhjiijngmaa