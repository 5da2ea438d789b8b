/- The law MergeOffers. -/
import Derived.Test.YtiedmigdgelhkaaMerge11
namespace Go.Proofs.Ytiedmigdgelhkaa
open Go Go.RowKit Bx Go.Proofs

theorem new_len {p : PlnM} {ms : List RgM} (h : ms.map RgM.r = (rings p.r).1) (hs : p.ps.length ≤ 1000) : ms.length ≤ 1000000 ∧ ∀ m ∈ ms, m.r.l.length ≤ 1000000 := by
  have hl := congrArg List.length h
  rw [List.length_map] at hl
  have hr : ∀ r ∈ (rings p.r).1, r.l.length ≤ 1000000 := by
    unfold rings
    split
    · intro r hr; cases hr
    · intro r hr
      rcases List.mem_append.1 hr with hr | hr
      · obtain ⟨x, _, rfl⟩ := List.mem_map.1 hr; exact Nat.zero_le _
      · rw [List.mem_singleton.1 hr]; exact Nat.zero_le _
  refine ⟨?_, fun m hm => hr _ (by rw [← h]; exact List.mem_map_of_mem hm)⟩
  rw [hl]
  unfold rings
  split
  · exact Nat.zero_le _
  · have : p.r.ps.length = p.ps.length := by simp [PlnM.r]
    simp [this]; omega

set_option maxRecDepth 10000 in
set_option maxHeartbeats 2000000 in
theorem offers_c {F G : Nat → Prop} {w : World} {p : PlnM} {ao : Option Addr} {c n : Nat} {ms : List RgM} {x : Ent} (hP : PlnS F w p) (hms : ms.length = n) (hx : RgsS G w ao ms) : Calls Try.prog 5 #[.agg p.cl.toArray, .slice ao n c, .agg x.cells.toArray] w (Ret fun v w' => Kp0 w w' ∧ v = .bool (true)) := by
  have hP := hP.old
  obtain ⟨NW, hNW⟩ : ∃ x, x = w.heap.size := ⟨_, rfl⟩
  rw [← hNW] at hP
  have T : Kp0 w w := Kp.refl _ _
  refine calls_start Try.func5 rfl (n := 64) rfl rfl rfl ?_
  refine CW_seq ?_
  refine CW_reg rfl ?_
  refine OW_st rfl (Stp_box (l := [.int _ _, .slice _ _ _, .slice _ _ _, .slice _ _ _]) rfl rfl rfl ?_)
  intro b1 w1 hb1 hz1 E1 B1
  have L1 : _ ≤ b1 := Nat.le_trans T.size (Nat.le_of_eq hb1.symm)
  have hP := hP.keep0 E1
  have hx := hx.keep0 E1
  have T := T.keep0 E1
  replace B1 : Blk w1 b1 51 (p.cl) := B1
  refine OW_st rfl (Stp_box (l := [.int _ _, .int _ _, .int _ _, .int _ _, .int _ _, .int _ _, .int _ _]) rfl rfl rfl ?_)
  intro b2 w2 hb2 hz2 E2 B2
  have L2 : _ ≤ b2 := Nat.le_trans T.size (Nat.le_of_eq hb2.symm)
  have hP := hP.keep0 E2
  have hx := hx.keep0 E2
  have T := T.keep0 E2
  have B1 := B1.keep0 E2
  replace B2 : Blk w2 b2 31 (x.cells) := B2
  refine OW_ev (Ev_c (.inr rfl)) rfl ?_
  refine OW_nil ?_
  refine CW_seq ?_
  refine CW_seq ?_
  refine CW_reg rfl ?_
  refine OW_ev (Ev_loadAgg (l := [.int _ _, .slice _ _ _, .slice _ _ _, .slice _ _ _]) agg_51 rfl rfl (B1.sub 0 4 (Nat.le_of_ble_eq_true rfl)) rfl) rfl ?_
  refine OW_st rfl (Stp_call ent_13 rfl rfl rfl (rbig_c hP) ?_)
  rintro _ w3 ⟨E3, rfl⟩
  have Z3 := E3.size
  have hP := hP.keep0 E3
  have hx := hx.keep0 E3
  have T := T.keep0 E3
  have B1 := B1.keep0 E3
  have B2 := B2.keep0 E3
  refine OW_ev (Ev_mvb (.inl rfl) rfl) rfl ?_
  refine OW_split (d := .tmp 17) rfl (fun c4 => ?_) (fun c4 => ?_)
  · have d4 := c4
    first | (with_reducible replace d4 := of_decide_eq_true d4) | (with_reducible replace d4 := bnt d4; try (with_reducible replace d4 := of_decide_eq_false d4)) | skip
    refine OW_no rfl rfl rfl rfl c4 ?_
    refine OW_no rfl rfl rfl rfl c4 ?_
    refine OW_ev (Ev_pickb_t rfl rfl c4 rfl) rfl ?_
    refine OW_nil ?_
    refine CW_cond_t rfl rfl ?_
    refine CW_seq ?_
    refine CW_reg rfl ?_
    refine OW_ev (Ev_c (.inr rfl)) rfl ?_
    refine OW_nil ?_
    refine CW_ret ?_
    refine ⟨rfl, _, (.tmp rfl .nil), ?_⟩
    first | exact ⟨T, rfl⟩ | exact ⟨T, vb rfl (decide_eq_true rfl)⟩
  · have d4 := c4
    first | (with_reducible replace d4 := of_decide_eq_false d4) | (with_reducible replace d4 := bnf d4; try (with_reducible replace d4 := of_decide_eq_true d4)) | skip
    have hsm := big_no c4
    refine OW_yes rfl rfl rfl rfl c4 (Ev.stp (Ev_mvs (.inl rfl) rfl) ?_)
    refine OW_yes rfl rfl rfl rfl c4 (Stp_call ent_11 rfl rfl rfl (bigRs_c (c := c) hms hx) ?_)
    rintro _ w5 ⟨E5, rfl⟩
    have Z5 := E5.size
    have hP := hP.keep0 E5
    have hx := hx.keep0 E5
    have T := T.keep0 E5
    have B1 := B1.keep0 E5
    have B2 := B2.keep0 E5
    refine OW_ev (Ev_pickb_f rfl rfl c4 rfl) rfl ?_
    refine OW_nil ?_
    refine CW_cond rfl (fun c6 => ?_) (fun c6 => ?_)
    · have d6 := c6
      first | (with_reducible replace d6 := of_decide_eq_true d6) | (with_reducible replace d6 := bnt d6; try (with_reducible replace d6 := of_decide_eq_false d6)) | skip
      refine CW_seq ?_
      refine CW_reg rfl ?_
      refine OW_ev (Ev_c (.inr rfl)) rfl ?_
      refine OW_nil ?_
      refine CW_ret ?_
      refine ⟨rfl, _, (.tmp rfl .nil), ?_⟩
      first | exact ⟨T, rfl⟩ | exact ⟨T, vb rfl (decide_eq_true rfl)⟩
    · have d6 := c6
      first | (with_reducible replace d6 := of_decide_eq_false d6) | (with_reducible replace d6 := bnf d6; try (with_reducible replace d6 := of_decide_eq_true d6)) | skip
      obtain ⟨hn40, hl200⟩ := bigRs_no c6
      rw [List.length_map, hms] at hn40
      have hlm : ∀ m ∈ ms, m.r.l.length ≤ 200 := fun m hm => hl200 _ (List.mem_map_of_mem hm)
      refine CW_skip ?_
      refine CW_seq ?_
      refine CW_reg rfl ?_
      refine OW_ev (Ev_loadAgg (l := [.int _ _, .slice _ _ _, .slice _ _ _, .slice _ _ _]) agg_51 rfl rfl (B1.sub 0 4 (Nat.le_of_ble_eq_true rfl)) rfl) rfl ?_
      refine OW_st rfl (Stp_call ent_14 rfl rfl rfl (mnew_c hP hsm) ?_)
      rintro _ w7 ⟨E7, aA, qA, mA, rfl, hA, SA⟩
      have Z7 := E7.size
      have hP := hP.keep0 E7
      have hx := hx.keep0 E7
      have T := T.keep0 E7
      have B1 := B1.keep0 E7
      have B2 := B2.keep0 E7
      refine OW_ev (Ev_mvt (.inl rfl) rfl) rfl ?_
      refine OW_ev (Ev_extract (vs := _) rfl rfl rfl) rfl ?_
      refine OW_ev (Ev_extract (vs := _) rfl rfl rfl) rfl ?_
      refine OW_ev (Ev_mvs (.inr rfl) rfl) rfl ?_
      refine OW_ev (Ev_mvi (.inr rfl) rfl) rfl ?_
      refine OW_nil ?_
      refine CW_seq ?_
      refine CW_re [(1, .slice _ _ _), (3, .pointer _), (5, .pointer _), (6, .bool _), (7, .slice _ _ _), (8, .int _ _)] ⟨rfl, rfl, rfl, rfl, rfl, rfl, trivial⟩ (fun g => ?_)
      refine CW_reg rfl ?_
      refine OW_ev (Ev_loadAgg (l := [.int _ _, .slice _ _ _, .slice _ _ _, .slice _ _ _]) agg_51 rfl rfl (B1.sub 0 4 (Nat.le_of_ble_eq_true rfl)) rfl) rfl ?_
      refine OW_st rfl (Stp_call ent_15 rfl rfl rfl (rnew_c hP hsm) ?_)
      rintro _ w8 ⟨E8, aB, qB, mB, rfl, hB, SB⟩
      have Z8 := E8.size
      have hP := hP.keep0 E8
      have hx := hx.keep0 E8
      have T := T.keep0 E8
      have B1 := B1.keep0 E8
      have B2 := B2.keep0 E8
      have SA := SA.keep0 E8
      refine OW_ev (Ev_mvt (.inl rfl) rfl) rfl ?_
      refine OW_ev (Ev_extract (vs := _) rfl rfl rfl) rfl ?_
      refine OW_ev (Ev_extract (vs := _) rfl rfl rfl) rfl ?_
      refine OW_ev (Ev_mvs (.inr rfl) rfl) rfl ?_
      refine OW_ev (Ev_mvi (.inr rfl) rfl) rfl ?_
      refine OW_nil ?_
      refine CW_seq ?_
      refine CW_reg rfl ?_
      refine OW_ev (Ev_mvs (.inl rfl) rfl) rfl ?_
      refine OW_ev (Ev_loadAgg (l := [.int _ _, .int _ _, .int _ _, .int _ _, .int _ _, .int _ _, .int _ _]) agg_31 rfl rfl (B2.sub 0 7 (Nat.le_of_ble_eq_true rfl)) rfl) rfl ?_
      refine OW_st rfl (Stp_call ent_7 rfl rfl rfl (offer_c (c := c) (x := x) hms hx (by omega) (fun m hm => by have := hlm m hm; omega)) ?_)
      rintro _ w9 ⟨E9, aC, qC, mC, rfl, hC, hC1, hC2, SC⟩
      have Z9 := E9.size
      have hP := hP.keep0 E9
      have hx := hx.keep0 E9
      have T := T.keep0 E9
      have B1 := B1.keep0 E9
      have B2 := B2.keep0 E9
      have SA := SA.keep0 E9
      have SB := SB.keep0 E9
      refine OW_ev (Ev_mvt (.inl rfl) rfl) rfl ?_
      refine OW_ev (Ev_extract (vs := _) rfl rfl rfl) rfl ?_
      refine OW_ev (Ev_extract (vs := _) rfl rfl rfl) rfl ?_
      refine OW_ev (Ev_mvs (.inr rfl) rfl) rfl ?_
      refine OW_ev (Ev_mvi (.inr rfl) rfl) rfl ?_
      refine OW_nil ?_
      refine CW_seq ?_
      refine CW_re [(1, .slice _ _ _), (5, .pointer _), (6, .bool _), (7, .slice _ _ _), (8, .int _ _), (9, .slice _ _ _), (10, .int _ _), (11, .slice _ _ _), (12, .int _ _)] ⟨rfl, rfl, rfl, rfl, rfl, rfl, rfl, rfl, rfl, trivial⟩ (fun g => ?_)
      refine CW_reg rfl ?_
      refine OW_ev (Ev_mvs (.inl rfl) rfl) rfl ?_
      refine OW_ev (Ev_loadAgg (l := [.int _ _, .int _ _, .int _ _, .int _ _, .int _ _, .int _ _, .int _ _]) agg_31 rfl rfl (B2.sub 0 7 (Nat.le_of_ble_eq_true rfl)) rfl) rfl ?_
      refine OW_st rfl (Stp_call ent_16 rfl rfl rfl (offerR_c (c := c) (x := x) hms hx (by omega)) ?_)
      rintro _ w10 ⟨E10, aD, qD, mD, rfl, hD, SD⟩
      have Z10 := E10.size
      have hP := hP.keep0 E10
      have hx := hx.keep0 E10
      have T := T.keep0 E10
      have B1 := B1.keep0 E10
      have B2 := B2.keep0 E10
      have SA := SA.keep0 E10
      have SB := SB.keep0 E10
      have SC := SC.keep0 E10
      have hlA := new_len hA (by omega)
      have hlC := offer_lenM hC (n := n) (N := 200) (by rw [List.length_map]; omega) (lenR.1 hlm)
      refine OW_ev (Ev_mvt (.inl rfl) rfl) rfl ?_
      refine OW_ev (Ev_extract (vs := _) rfl rfl rfl) rfl ?_
      refine OW_ev (Ev_extract (vs := _) rfl rfl rfl) rfl ?_
      refine OW_ev (Ev_mvs (.inr rfl) rfl) rfl ?_
      refine OW_ev (Ev_mvi (.inr rfl) rfl) rfl ?_
      refine OW_nil ?_
      refine CW_seq ?_
      refine CW_reg rfl ?_
      refine OW_st rfl (Stp_call ent_6 rfl rfl rfl (merged_c _) ?_)
      rintro _ w11 ⟨E11, rfl⟩
      have Z11 := E11.size
      have hP := hP.keep0 E11
      have hx := hx.keep0 E11
      have T := T.keep0 E11
      have B1 := B1.keep0 E11
      have B2 := B2.keep0 E11
      have SA := SA.keep0 E11
      have SB := SB.keep0 E11
      have SC := SC.keep0 E11
      have SD := SD.keep0 E11
      refine OW_ev (Ev_mvb (.inl rfl) rfl) rfl ?_
      refine OW_split (d := .tmp 44) rfl (fun c12 => ?_) (fun c12 => ?_)
      · have d12 := c12
        first | (with_reducible replace d12 := of_decide_eq_true d12) | (with_reducible replace d12 := bnt d12; try (with_reducible replace d12 := of_decide_eq_false d12)) | skip
        refine OW_yes rfl rfl rfl rfl c12 (Ev.stp (Ev_mvs (.inl rfl) rfl) ?_)
        refine OW_yes rfl rfl rfl rfl c12 (Ev.stp (Ev_mvs (.inl rfl) rfl) ?_)
        refine OW_yes rfl rfl rfl rfl c12 (Stp_call ent_12 rfl rfl rfl (sameRs_c (c := qA) (d := qB) rfl rfl SA SB (by omega) hlA.2) ?_)
        rintro _ w13 ⟨E13, rfl⟩
        have Z13 := E13.size
        have hP := hP.keep0 E13
        have hx := hx.keep0 E13
        have T := T.keep0 E13
        have B1 := B1.keep0 E13
        have B2 := B2.keep0 E13
        have SA := SA.keep0 E13
        have SB := SB.keep0 E13
        have SC := SC.keep0 E13
        have SD := SD.keep0 E13
        refine OW_ev (Ev_pickb_t rfl rfl c12 rfl) rfl ?_
        refine OW_ev (Ev_mvb (.inl rfl) rfl) rfl ?_
        refine OW_split (d := .tmp 49) rfl (fun c14 => ?_) (fun c14 => ?_)
        · have d14 := c14
          first | (with_reducible replace d14 := of_decide_eq_true d14) | (with_reducible replace d14 := bnt d14; try (with_reducible replace d14 := of_decide_eq_false d14)) | skip
          refine OW_yes rfl rfl rfl rfl c14 (Ev.stp (Ev_mvi (.inl rfl) rfl) ?_)
          refine OW_yes rfl rfl rfl rfl c14 (Ev.stp (Ev_mvi (.inl rfl) rfl) ?_)
          refine OW_yes rfl rfl rfl rfl c14 (Ev.stp (Ev_eql rfl rfl rfl) ?_)
          refine OW_ev (Ev_pickb_t rfl rfl c14 rfl) rfl ?_
          refine OW_ev (Ev_mvb (.inl rfl) rfl) rfl ?_
          refine OW_split (d := .tmp 54) rfl (fun c15 => ?_) (fun c15 => ?_)
          · have d15 := c15
            first | (with_reducible replace d15 := of_decide_eq_true d15) | (with_reducible replace d15 := bnt d15; try (with_reducible replace d15 := of_decide_eq_false d15)) | skip
            refine OW_yes rfl rfl rfl rfl c15 (Ev.stp (Ev_mvs (.inl rfl) rfl) ?_)
            refine OW_yes rfl rfl rfl rfl c15 (Ev.stp (Ev_mvs (.inl rfl) rfl) ?_)
            refine OW_yes rfl rfl rfl rfl c15 (Stp_call ent_12 rfl rfl rfl (sameRs_c (c := qC) (d := qD) rfl rfl SC SD (by omega) (fun m hm => by have := hlC.2 m hm; omega)) ?_)
            rintro _ w16 ⟨E16, rfl⟩
            have Z16 := E16.size
            have hP := hP.keep0 E16
            have hx := hx.keep0 E16
            have T := T.keep0 E16
            have B1 := B1.keep0 E16
            have B2 := B2.keep0 E16
            have SA := SA.keep0 E16
            have SB := SB.keep0 E16
            have SC := SC.keep0 E16
            have SD := SD.keep0 E16
            refine OW_ev (Ev_pickb_t rfl rfl c15 rfl) rfl ?_
            refine OW_ev (Ev_mvb (.inl rfl) rfl) rfl ?_
            refine OW_split (d := .tmp 59) rfl (fun c17 => ?_) (fun c17 => ?_)
            · have d17 := c17
              first | (with_reducible replace d17 := of_decide_eq_true d17) | (with_reducible replace d17 := bnt d17; try (with_reducible replace d17 := of_decide_eq_false d17)) | skip
              refine OW_yes rfl rfl rfl rfl c17 (Ev.stp (Ev_mvi (.inl rfl) rfl) ?_)
              refine OW_yes rfl rfl rfl rfl c17 (Ev.stp (Ev_mvi (.inl rfl) rfl) ?_)
              refine OW_yes rfl rfl rfl rfl c17 (Ev.stp (Ev_eql rfl rfl rfl) ?_)
              refine OW_ev (Ev_pickb_t rfl rfl c17 rfl) rfl ?_
              refine OW_ev (Ev_mvb (.inr rfl) rfl) rfl ?_
              refine OW_nil ?_
              refine CW_ret ?_
              refine ⟨rfl, _, (.tmp rfl .nil), ?_⟩
              first | exact ⟨T, rfl⟩ | exact ⟨T, vb rfl (decide_eq_true rfl)⟩
            · have d17 := c17
              first | (with_reducible replace d17 := of_decide_eq_false d17) | (with_reducible replace d17 := bnf d17; try (with_reducible replace d17 := of_decide_eq_true d17)) | skip
              exact absurd (hC.trans hD.symm) d17
          · have d15 := c15
            first | (with_reducible replace d15 := of_decide_eq_false d15) | (with_reducible replace d15 := bnf d15; try (with_reducible replace d15 := of_decide_eq_true d15)) | skip
            exact absurd rfl d15
        · have d14 := c14
          first | (with_reducible replace d14 := of_decide_eq_false d14) | (with_reducible replace d14 := bnf d14; try (with_reducible replace d14 := of_decide_eq_true d14)) | skip
          exact absurd (hA.trans hB.symm) d14
      · have d12 := c12
        first | (with_reducible replace d12 := of_decide_eq_false d12) | (with_reducible replace d12 := bnf d12; try (with_reducible replace d12 := of_decide_eq_true d12)) | skip
        cases c12

end Go.Proofs.Ytiedmigdgelhkaa