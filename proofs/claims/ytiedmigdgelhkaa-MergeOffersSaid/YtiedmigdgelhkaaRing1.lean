/- Contracts of the functions of packages event and ring that read alone. -/
import Derived.Test.YtiedmigdgelhkaaTypes
import Derived.Test.YtiedmigdgelhkaaRingData
namespace Go.Proofs.Ytiedmigdgelhkaa
open Go Go.RowKit Bx Go.Proofs

theorem within_c (w : World) (n a b : Int) : Calls Try.prog 47 #[.int .i64 n, .int .i64 a, .int .i64 b] w (Ret fun v w' => Kp0 w w' ∧ v = .bool (decide (a ≤ n ∧ n ≤ b))) := by
  have T : Kp0 w w := Kp.refl _ _
  refine calls_start Try.func47 rfl (n := 15) rfl rfl rfl ?_
  refine CW_seq ?_
  refine CW_reg rfl ?_
  refine OW_ev (Ev_c (.inr rfl)) rfl ?_
  refine OW_nil ?_
  refine CW_seq ?_
  refine CW_reg rfl ?_
  refine OW_ev (Ev_mvi (.inl rfl) rfl) rfl ?_
  refine OW_ev (Ev_mvi (.inl rfl) rfl) rfl ?_
  refine OW_ev (Ev_geq rfl rfl rfl) rfl ?_
  refine OW_ev (Ev_mvb (.inl rfl) rfl) rfl ?_
  refine OW_split (d := .tmp 10) rfl (fun c1 => ?_) (fun c1 => ?_)
  · have d1 := c1
    first | (with_reducible replace d1 := of_decide_eq_true d1) | (with_reducible replace d1 := bnt d1; try (with_reducible replace d1 := of_decide_eq_false d1)) | skip
    refine OW_yes rfl rfl rfl rfl c1 (Ev.stp (Ev_mvi (.inl rfl) rfl) ?_)
    refine OW_yes rfl rfl rfl rfl c1 (Ev.stp (Ev_mvi (.inl rfl) rfl) ?_)
    refine OW_yes rfl rfl rfl rfl c1 (Ev.stp (Ev_leq rfl rfl rfl) ?_)
    refine OW_ev (Ev_pickb_t rfl rfl c1 rfl) rfl ?_
    refine OW_ev (Ev_mvb (.inr rfl) rfl) rfl ?_
    refine OW_nil ?_
    refine CW_ret ?_
    refine ⟨rfl, _, (.tmp rfl .nil), ?_⟩
    exact ⟨T, vb rfl (by first | rfl | exact decide_eq_decide.2 (by omega) | exact (decide_eq_false (by omega)).symm | exact (decide_eq_true (by omega)).symm)⟩
  · have d1 := c1
    first | (with_reducible replace d1 := of_decide_eq_false d1) | (with_reducible replace d1 := bnf d1; try (with_reducible replace d1 := of_decide_eq_true d1)) | skip
    refine OW_no rfl rfl rfl rfl c1 ?_
    refine OW_no rfl rfl rfl rfl c1 ?_
    refine OW_no rfl rfl rfl rfl c1 ?_
    refine OW_ev (Ev_pickb_f rfl rfl c1 rfl) rfl ?_
    refine OW_ev (Ev_mvb (.inr rfl) rfl) rfl ?_
    refine OW_nil ?_
    refine CW_ret ?_
    refine ⟨rfl, _, (.tmp rfl .nil), ?_⟩
    exact ⟨T, vb rfl (by first | rfl | exact decide_eq_decide.2 (by omega) | exact (decide_eq_false (by omega)).symm | exact (decide_eq_true (by omega)).symm)⟩

theorem eventIs_c (w : World) (x : Evt) : Calls Try.prog 31 #[.agg x.cells.toArray] w (Ret fun v w' => Kp0 w w' ∧ v = .bool (x.is)) := by
  have T : Kp0 w w := Kp.refl _ _
  refine calls_start Try.func31 rfl (n := 26) rfl rfl rfl ?_
  refine CW_seq ?_
  refine CW_reg rfl ?_
  refine OW_st rfl (Stp_box (l := [.int _ _, .int _ _, .int _ _, .int _ _, .int _ _, .int _ _]) rfl rfl rfl ?_)
  intro b1 w1 hb1 hz1 E1 B1
  have L1 : _ ≤ b1 := Nat.le_trans T.size (Nat.le_of_eq hb1.symm)
  have T := T.keep0 E1
  replace B1 : Blk w1 b1 29 (x.cells) := B1
  refine OW_ev (Ev_c (.inr rfl)) rfl ?_
  refine OW_nil ?_
  refine CW_seq ?_
  refine CW_reg rfl ?_
  refine OW_ev (Ev_fieldAddr fld_29_3 rfl rfl) rfl ?_
  refine OW_ev (Ev_load one_3 rfl rfl (B1.ld (q := 3) rfl)) rfl ?_
  refine OW_st rfl (Stp_call ent_47 rfl rfl rfl (within_c _ _ _ _) ?_)
  rintro _ w2 ⟨E2, rfl⟩
  have Z2 := E2.size
  have T := T.keep0 E2
  have B1 := B1.keep0 E2
  refine OW_ev (Ev_mvb (.inl rfl) rfl) rfl ?_
  refine OW_split (d := .tmp 6) rfl (fun c3 => ?_) (fun c3 => ?_)
  · have d3 := c3
    first | (with_reducible replace d3 := of_decide_eq_true d3) | (with_reducible replace d3 := bnt d3; try (with_reducible replace d3 := of_decide_eq_false d3)) | skip
    refine OW_yes rfl rfl rfl rfl c3 (Ev.stp (Ev_fieldAddr fld_29_1 rfl rfl) ?_)
    refine OW_yes rfl rfl rfl rfl c3 (Ev.stp (Ev_load one_3 rfl rfl (B1.ld (q := 1) rfl)) ?_)
    refine OW_yes rfl rfl rfl rfl c3 (Stp_call ent_47 rfl rfl rfl (within_c _ _ _ _) ?_)
    rintro _ w4 ⟨E4, rfl⟩
    have Z4 := E4.size
    have T := T.keep0 E4
    have B1 := B1.keep0 E4
    refine OW_ev (Ev_pickb_t rfl rfl c3 rfl) rfl ?_
    refine OW_ev (Ev_mvb (.inl rfl) rfl) rfl ?_
    refine OW_split (d := .tmp 11) rfl (fun c5 => ?_) (fun c5 => ?_)
    · have d5 := c5
      first | (with_reducible replace d5 := of_decide_eq_true d5) | (with_reducible replace d5 := bnt d5; try (with_reducible replace d5 := of_decide_eq_false d5)) | skip
      refine OW_yes rfl rfl rfl rfl c5 (Ev.stp (Ev_fieldAddr fld_29_2 rfl rfl) ?_)
      refine OW_yes rfl rfl rfl rfl c5 (Ev.stp (Ev_load one_3 rfl rfl (B1.ld (q := 2) rfl)) ?_)
      refine OW_yes rfl rfl rfl rfl c5 (Stp_call ent_47 rfl rfl rfl (within_c _ _ _ _) ?_)
      rintro _ w6 ⟨E6, rfl⟩
      have Z6 := E6.size
      have T := T.keep0 E6
      have B1 := B1.keep0 E6
      refine OW_ev (Ev_pickb_t rfl rfl c5 rfl) rfl ?_
      refine OW_ev (Ev_mvb (.inl rfl) rfl) rfl ?_
      refine OW_split (d := .tmp 16) rfl (fun c7 => ?_) (fun c7 => ?_)
      · have d7 := c7
        first | (with_reducible replace d7 := of_decide_eq_true d7) | (with_reducible replace d7 := bnt d7; try (with_reducible replace d7 := of_decide_eq_false d7)) | skip
        refine OW_yes rfl rfl rfl rfl c7 (Ev.stp (Ev_fieldAddr fld_29_4 rfl rfl) ?_)
        refine OW_yes rfl rfl rfl rfl c7 (Ev.stp (Ev_load one_3 rfl rfl (B1.ld (q := 4) rfl)) ?_)
        refine OW_yes rfl rfl rfl rfl c7 (Stp_call ent_47 rfl rfl rfl (within_c _ _ _ _) ?_)
        rintro _ w8 ⟨E8, rfl⟩
        have Z8 := E8.size
        have T := T.keep0 E8
        have B1 := B1.keep0 E8
        refine OW_ev (Ev_pickb_t rfl rfl c7 rfl) rfl ?_
        refine OW_ev (Ev_mvb (.inl rfl) rfl) rfl ?_
        refine OW_split (d := .tmp 21) rfl (fun c9 => ?_) (fun c9 => ?_)
        · have d9 := c9
          first | (with_reducible replace d9 := of_decide_eq_true d9) | (with_reducible replace d9 := bnt d9; try (with_reducible replace d9 := of_decide_eq_false d9)) | skip
          refine OW_yes rfl rfl rfl rfl c9 (Ev.stp (Ev_fieldAddr fld_29_5 rfl rfl) ?_)
          refine OW_yes rfl rfl rfl rfl c9 (Ev.stp (Ev_load one_3 rfl rfl (B1.ld (q := 5) rfl)) ?_)
          refine OW_yes rfl rfl rfl rfl c9 (Stp_call ent_47 rfl rfl rfl (within_c _ _ _ _) ?_)
          rintro _ w10 ⟨E10, rfl⟩
          have Z10 := E10.size
          have T := T.keep0 E10
          have B1 := B1.keep0 E10
          refine OW_ev (Ev_pickb_t rfl rfl c9 rfl) rfl ?_
          refine OW_ev (Ev_mvb (.inr rfl) rfl) rfl ?_
          refine OW_nil ?_
          refine CW_ret ?_
          refine ⟨rfl, _, (.tmp rfl .nil), ?_⟩
          exact ⟨T, vb rfl (by unfold Evt.is; first | rfl | exact decide_eq_decide.2 (by omega) | exact (decide_eq_false (by omega)).symm | exact (decide_eq_true (by omega)).symm)⟩
        · have d9 := c9
          first | (with_reducible replace d9 := of_decide_eq_false d9) | (with_reducible replace d9 := bnf d9; try (with_reducible replace d9 := of_decide_eq_true d9)) | skip
          refine OW_no rfl rfl rfl rfl c9 ?_
          refine OW_no rfl rfl rfl rfl c9 ?_
          refine OW_no rfl rfl rfl rfl c9 ?_
          refine OW_ev (Ev_pickb_f rfl rfl c9 rfl) rfl ?_
          refine OW_ev (Ev_mvb (.inr rfl) rfl) rfl ?_
          refine OW_nil ?_
          refine CW_ret ?_
          refine ⟨rfl, _, (.tmp rfl .nil), ?_⟩
          exact ⟨T, vb rfl (by unfold Evt.is; first | rfl | exact decide_eq_decide.2 (by omega) | exact (decide_eq_false (by omega)).symm | exact (decide_eq_true (by omega)).symm)⟩
      · have d7 := c7
        first | (with_reducible replace d7 := of_decide_eq_false d7) | (with_reducible replace d7 := bnf d7; try (with_reducible replace d7 := of_decide_eq_true d7)) | skip
        refine OW_no rfl rfl rfl rfl c7 ?_
        refine OW_no rfl rfl rfl rfl c7 ?_
        refine OW_no rfl rfl rfl rfl c7 ?_
        refine OW_ev (Ev_pickb_f rfl rfl c7 rfl) rfl ?_
        refine OW_ev (Ev_mvb (.inl rfl) rfl) rfl ?_
        refine OW_no rfl rfl rfl rfl rfl ?_
        refine OW_no rfl rfl rfl rfl rfl ?_
        refine OW_no rfl rfl rfl rfl rfl ?_
        refine OW_ev (Ev_pickb_f rfl rfl rfl rfl) rfl ?_
        refine OW_ev (Ev_mvb (.inr rfl) rfl) rfl ?_
        refine OW_nil ?_
        refine CW_ret ?_
        refine ⟨rfl, _, (.tmp rfl .nil), ?_⟩
        exact ⟨T, vb rfl (by unfold Evt.is; first | rfl | exact decide_eq_decide.2 (by omega) | exact (decide_eq_false (by omega)).symm | exact (decide_eq_true (by omega)).symm)⟩
    · have d5 := c5
      first | (with_reducible replace d5 := of_decide_eq_false d5) | (with_reducible replace d5 := bnf d5; try (with_reducible replace d5 := of_decide_eq_true d5)) | skip
      refine OW_no rfl rfl rfl rfl c5 ?_
      refine OW_no rfl rfl rfl rfl c5 ?_
      refine OW_no rfl rfl rfl rfl c5 ?_
      refine OW_ev (Ev_pickb_f rfl rfl c5 rfl) rfl ?_
      refine OW_ev (Ev_mvb (.inl rfl) rfl) rfl ?_
      refine OW_no rfl rfl rfl rfl rfl ?_
      refine OW_no rfl rfl rfl rfl rfl ?_
      refine OW_no rfl rfl rfl rfl rfl ?_
      refine OW_ev (Ev_pickb_f rfl rfl rfl rfl) rfl ?_
      refine OW_ev (Ev_mvb (.inl rfl) rfl) rfl ?_
      refine OW_no rfl rfl rfl rfl rfl ?_
      refine OW_no rfl rfl rfl rfl rfl ?_
      refine OW_no rfl rfl rfl rfl rfl ?_
      refine OW_ev (Ev_pickb_f rfl rfl rfl rfl) rfl ?_
      refine OW_ev (Ev_mvb (.inr rfl) rfl) rfl ?_
      refine OW_nil ?_
      refine CW_ret ?_
      refine ⟨rfl, _, (.tmp rfl .nil), ?_⟩
      exact ⟨T, vb rfl (by unfold Evt.is; first | rfl | exact decide_eq_decide.2 (by omega) | exact (decide_eq_false (by omega)).symm | exact (decide_eq_true (by omega)).symm)⟩
  · have d3 := c3
    first | (with_reducible replace d3 := of_decide_eq_false d3) | (with_reducible replace d3 := bnf d3; try (with_reducible replace d3 := of_decide_eq_true d3)) | skip
    refine OW_no rfl rfl rfl rfl c3 ?_
    refine OW_no rfl rfl rfl rfl c3 ?_
    refine OW_no rfl rfl rfl rfl c3 ?_
    refine OW_ev (Ev_pickb_f rfl rfl c3 rfl) rfl ?_
    refine OW_ev (Ev_mvb (.inl rfl) rfl) rfl ?_
    refine OW_no rfl rfl rfl rfl rfl ?_
    refine OW_no rfl rfl rfl rfl rfl ?_
    refine OW_no rfl rfl rfl rfl rfl ?_
    refine OW_ev (Ev_pickb_f rfl rfl rfl rfl) rfl ?_
    refine OW_ev (Ev_mvb (.inl rfl) rfl) rfl ?_
    refine OW_no rfl rfl rfl rfl rfl ?_
    refine OW_no rfl rfl rfl rfl rfl ?_
    refine OW_no rfl rfl rfl rfl rfl ?_
    refine OW_ev (Ev_pickb_f rfl rfl rfl rfl) rfl ?_
    refine OW_ev (Ev_mvb (.inl rfl) rfl) rfl ?_
    refine OW_no rfl rfl rfl rfl rfl ?_
    refine OW_no rfl rfl rfl rfl rfl ?_
    refine OW_no rfl rfl rfl rfl rfl ?_
    refine OW_ev (Ev_pickb_f rfl rfl rfl rfl) rfl ?_
    refine OW_ev (Ev_mvb (.inr rfl) rfl) rfl ?_
    refine OW_nil ?_
    refine CW_ret ?_
    refine ⟨rfl, _, (.tmp rfl .nil), ?_⟩
    exact ⟨T, vb rfl (by unfold Evt.is; first | rfl | exact decide_eq_decide.2 (by omega) | exact (decide_eq_false (by omega)).symm | exact (decide_eq_true (by omega)).symm)⟩

theorem eventIsR_c (w : World) (x : Evt) : Calls Try.prog 46 #[.agg x.cells.toArray] w (Ret fun v w' => Kp0 w w' ∧ v = .bool (x.is)) := by
  have T : Kp0 w w := Kp.refl _ _
  refine calls_start Try.func46 rfl (n := 51) rfl rfl rfl ?_
  refine CW_seq ?_
  refine CW_reg rfl ?_
  refine OW_st rfl (Stp_box (l := [.int _ _, .int _ _, .int _ _, .int _ _, .int _ _, .int _ _]) rfl rfl rfl ?_)
  intro b1 w1 hb1 hz1 E1 B1
  have L1 : _ ≤ b1 := Nat.le_trans T.size (Nat.le_of_eq hb1.symm)
  have T := T.keep0 E1
  replace B1 : Blk w1 b1 29 (x.cells) := B1
  refine OW_ev (Ev_c (.inr rfl)) rfl ?_
  refine OW_nil ?_
  refine CW_seq ?_
  refine CW_reg rfl ?_
  refine OW_ev (Ev_fieldAddr fld_29_3 rfl rfl) rfl ?_
  refine OW_ev (Ev_load one_3 rfl rfl (B1.ld (q := 3) rfl)) rfl ?_
  refine OW_ev (Ev_geq rfl rfl rfl) rfl ?_
  refine OW_ev (Ev_mvb (.inl rfl) rfl) rfl ?_
  refine OW_split (d := .tmp 6) rfl (fun c2 => ?_) (fun c2 => ?_)
  · have d2 := c2
    first | (with_reducible replace d2 := of_decide_eq_true d2) | (with_reducible replace d2 := bnt d2; try (with_reducible replace d2 := of_decide_eq_false d2)) | skip
    refine OW_yes rfl rfl rfl rfl c2 (Ev.stp (Ev_fieldAddr fld_29_3 rfl rfl) ?_)
    refine OW_yes rfl rfl rfl rfl c2 (Ev.stp (Ev_load one_3 rfl rfl (B1.ld (q := 3) rfl)) ?_)
    refine OW_yes rfl rfl rfl rfl c2 (Ev.stp (Ev_leq rfl rfl rfl) ?_)
    refine OW_ev (Ev_pickb_t rfl rfl c2 rfl) rfl ?_
    refine OW_ev (Ev_mvb (.inl rfl) rfl) rfl ?_
    refine OW_split (d := .tmp 11) rfl (fun c3 => ?_) (fun c3 => ?_)
    · have d3 := c3
      first | (with_reducible replace d3 := of_decide_eq_true d3) | (with_reducible replace d3 := bnt d3; try (with_reducible replace d3 := of_decide_eq_false d3)) | skip
      refine OW_yes rfl rfl rfl rfl c3 (Ev.stp (Ev_fieldAddr fld_29_1 rfl rfl) ?_)
      refine OW_yes rfl rfl rfl rfl c3 (Ev.stp (Ev_load one_3 rfl rfl (B1.ld (q := 1) rfl)) ?_)
      refine OW_yes rfl rfl rfl rfl c3 (Ev.stp (Ev_geq rfl rfl rfl) ?_)
      refine OW_ev (Ev_pickb_t rfl rfl c3 rfl) rfl ?_
      refine OW_ev (Ev_mvb (.inl rfl) rfl) rfl ?_
      refine OW_split (d := .tmp 16) rfl (fun c4 => ?_) (fun c4 => ?_)
      · have d4 := c4
        first | (with_reducible replace d4 := of_decide_eq_true d4) | (with_reducible replace d4 := bnt d4; try (with_reducible replace d4 := of_decide_eq_false d4)) | skip
        refine OW_yes rfl rfl rfl rfl c4 (Ev.stp (Ev_fieldAddr fld_29_1 rfl rfl) ?_)
        refine OW_yes rfl rfl rfl rfl c4 (Ev.stp (Ev_load one_3 rfl rfl (B1.ld (q := 1) rfl)) ?_)
        refine OW_yes rfl rfl rfl rfl c4 (Ev.stp (Ev_leq rfl rfl rfl) ?_)
        refine OW_ev (Ev_pickb_t rfl rfl c4 rfl) rfl ?_
        refine OW_ev (Ev_mvb (.inl rfl) rfl) rfl ?_
        refine OW_split (d := .tmp 21) rfl (fun c5 => ?_) (fun c5 => ?_)
        · have d5 := c5
          first | (with_reducible replace d5 := of_decide_eq_true d5) | (with_reducible replace d5 := bnt d5; try (with_reducible replace d5 := of_decide_eq_false d5)) | skip
          refine OW_yes rfl rfl rfl rfl c5 (Ev.stp (Ev_fieldAddr fld_29_2 rfl rfl) ?_)
          refine OW_yes rfl rfl rfl rfl c5 (Ev.stp (Ev_load one_3 rfl rfl (B1.ld (q := 2) rfl)) ?_)
          refine OW_yes rfl rfl rfl rfl c5 (Ev.stp (Ev_geq rfl rfl rfl) ?_)
          refine OW_ev (Ev_pickb_t rfl rfl c5 rfl) rfl ?_
          refine OW_ev (Ev_mvb (.inl rfl) rfl) rfl ?_
          refine OW_split (d := .tmp 26) rfl (fun c6 => ?_) (fun c6 => ?_)
          · have d6 := c6
            first | (with_reducible replace d6 := of_decide_eq_true d6) | (with_reducible replace d6 := bnt d6; try (with_reducible replace d6 := of_decide_eq_false d6)) | skip
            refine OW_yes rfl rfl rfl rfl c6 (Ev.stp (Ev_fieldAddr fld_29_2 rfl rfl) ?_)
            refine OW_yes rfl rfl rfl rfl c6 (Ev.stp (Ev_load one_3 rfl rfl (B1.ld (q := 2) rfl)) ?_)
            refine OW_yes rfl rfl rfl rfl c6 (Ev.stp (Ev_leq rfl rfl rfl) ?_)
            refine OW_ev (Ev_pickb_t rfl rfl c6 rfl) rfl ?_
            refine OW_ev (Ev_mvb (.inl rfl) rfl) rfl ?_
            refine OW_split (d := .tmp 31) rfl (fun c7 => ?_) (fun c7 => ?_)
            · have d7 := c7
              first | (with_reducible replace d7 := of_decide_eq_true d7) | (with_reducible replace d7 := bnt d7; try (with_reducible replace d7 := of_decide_eq_false d7)) | skip
              refine OW_yes rfl rfl rfl rfl c7 (Ev.stp (Ev_fieldAddr fld_29_4 rfl rfl) ?_)
              refine OW_yes rfl rfl rfl rfl c7 (Ev.stp (Ev_load one_3 rfl rfl (B1.ld (q := 4) rfl)) ?_)
              refine OW_yes rfl rfl rfl rfl c7 (Ev.stp (Ev_geq rfl rfl rfl) ?_)
              refine OW_ev (Ev_pickb_t rfl rfl c7 rfl) rfl ?_
              refine OW_ev (Ev_mvb (.inl rfl) rfl) rfl ?_
              refine OW_split (d := .tmp 36) rfl (fun c8 => ?_) (fun c8 => ?_)
              · have d8 := c8
                first | (with_reducible replace d8 := of_decide_eq_true d8) | (with_reducible replace d8 := bnt d8; try (with_reducible replace d8 := of_decide_eq_false d8)) | skip
                refine OW_yes rfl rfl rfl rfl c8 (Ev.stp (Ev_fieldAddr fld_29_4 rfl rfl) ?_)
                refine OW_yes rfl rfl rfl rfl c8 (Ev.stp (Ev_load one_3 rfl rfl (B1.ld (q := 4) rfl)) ?_)
                refine OW_yes rfl rfl rfl rfl c8 (Ev.stp (Ev_leq rfl rfl rfl) ?_)
                refine OW_ev (Ev_pickb_t rfl rfl c8 rfl) rfl ?_
                refine OW_ev (Ev_mvb (.inl rfl) rfl) rfl ?_
                refine OW_split (d := .tmp 41) rfl (fun c9 => ?_) (fun c9 => ?_)
                · have d9 := c9
                  first | (with_reducible replace d9 := of_decide_eq_true d9) | (with_reducible replace d9 := bnt d9; try (with_reducible replace d9 := of_decide_eq_false d9)) | skip
                  refine OW_yes rfl rfl rfl rfl c9 (Ev.stp (Ev_fieldAddr fld_29_5 rfl rfl) ?_)
                  refine OW_yes rfl rfl rfl rfl c9 (Ev.stp (Ev_load one_3 rfl rfl (B1.ld (q := 5) rfl)) ?_)
                  refine OW_yes rfl rfl rfl rfl c9 (Ev.stp (Ev_geq rfl rfl rfl) ?_)
                  refine OW_ev (Ev_pickb_t rfl rfl c9 rfl) rfl ?_
                  refine OW_ev (Ev_mvb (.inl rfl) rfl) rfl ?_
                  refine OW_split (d := .tmp 46) rfl (fun c10 => ?_) (fun c10 => ?_)
                  · have d10 := c10
                    first | (with_reducible replace d10 := of_decide_eq_true d10) | (with_reducible replace d10 := bnt d10; try (with_reducible replace d10 := of_decide_eq_false d10)) | skip
                    refine OW_yes rfl rfl rfl rfl c10 (Ev.stp (Ev_fieldAddr fld_29_5 rfl rfl) ?_)
                    refine OW_yes rfl rfl rfl rfl c10 (Ev.stp (Ev_load one_3 rfl rfl (B1.ld (q := 5) rfl)) ?_)
                    refine OW_yes rfl rfl rfl rfl c10 (Ev.stp (Ev_leq rfl rfl rfl) ?_)
                    refine OW_ev (Ev_pickb_t rfl rfl c10 rfl) rfl ?_
                    refine OW_ev (Ev_mvb (.inr rfl) rfl) rfl ?_
                    refine OW_nil ?_
                    refine CW_ret ?_
                    refine ⟨rfl, _, (.tmp rfl .nil), ?_⟩
                    exact ⟨T, vb rfl (by unfold Evt.is; first | rfl | exact decide_eq_decide.2 (by omega) | exact (decide_eq_false (by omega)).symm | exact (decide_eq_true (by omega)).symm)⟩
                  · have d10 := c10
                    first | (with_reducible replace d10 := of_decide_eq_false d10) | (with_reducible replace d10 := bnf d10; try (with_reducible replace d10 := of_decide_eq_true d10)) | skip
                    refine OW_no rfl rfl rfl rfl c10 ?_
                    refine OW_no rfl rfl rfl rfl c10 ?_
                    refine OW_no rfl rfl rfl rfl c10 ?_
                    refine OW_ev (Ev_pickb_f rfl rfl c10 rfl) rfl ?_
                    refine OW_ev (Ev_mvb (.inr rfl) rfl) rfl ?_
                    refine OW_nil ?_
                    refine CW_ret ?_
                    refine ⟨rfl, _, (.tmp rfl .nil), ?_⟩
                    exact ⟨T, vb rfl (by unfold Evt.is; first | rfl | exact decide_eq_decide.2 (by omega) | exact (decide_eq_false (by omega)).symm | exact (decide_eq_true (by omega)).symm)⟩
                · have d9 := c9
                  first | (with_reducible replace d9 := of_decide_eq_false d9) | (with_reducible replace d9 := bnf d9; try (with_reducible replace d9 := of_decide_eq_true d9)) | skip
                  refine OW_no rfl rfl rfl rfl c9 ?_
                  refine OW_no rfl rfl rfl rfl c9 ?_
                  refine OW_no rfl rfl rfl rfl c9 ?_
                  refine OW_ev (Ev_pickb_f rfl rfl c9 rfl) rfl ?_
                  refine OW_ev (Ev_mvb (.inl rfl) rfl) rfl ?_
                  refine OW_no rfl rfl rfl rfl rfl ?_
                  refine OW_no rfl rfl rfl rfl rfl ?_
                  refine OW_no rfl rfl rfl rfl rfl ?_
                  refine OW_ev (Ev_pickb_f rfl rfl rfl rfl) rfl ?_
                  refine OW_ev (Ev_mvb (.inr rfl) rfl) rfl ?_
                  refine OW_nil ?_
                  refine CW_ret ?_
                  refine ⟨rfl, _, (.tmp rfl .nil), ?_⟩
                  exact ⟨T, vb rfl (by unfold Evt.is; first | rfl | exact decide_eq_decide.2 (by omega) | exact (decide_eq_false (by omega)).symm | exact (decide_eq_true (by omega)).symm)⟩
              · have d8 := c8
                first | (with_reducible replace d8 := of_decide_eq_false d8) | (with_reducible replace d8 := bnf d8; try (with_reducible replace d8 := of_decide_eq_true d8)) | skip
                refine OW_no rfl rfl rfl rfl c8 ?_
                refine OW_no rfl rfl rfl rfl c8 ?_
                refine OW_no rfl rfl rfl rfl c8 ?_
                refine OW_ev (Ev_pickb_f rfl rfl c8 rfl) rfl ?_
                refine OW_ev (Ev_mvb (.inl rfl) rfl) rfl ?_
                refine OW_no rfl rfl rfl rfl rfl ?_
                refine OW_no rfl rfl rfl rfl rfl ?_
                refine OW_no rfl rfl rfl rfl rfl ?_
                refine OW_ev (Ev_pickb_f rfl rfl rfl rfl) rfl ?_
                refine OW_ev (Ev_mvb (.inl rfl) rfl) rfl ?_
                refine OW_no rfl rfl rfl rfl rfl ?_
                refine OW_no rfl rfl rfl rfl rfl ?_
                refine OW_no rfl rfl rfl rfl rfl ?_
                refine OW_ev (Ev_pickb_f rfl rfl rfl rfl) rfl ?_
                refine OW_ev (Ev_mvb (.inr rfl) rfl) rfl ?_
                refine OW_nil ?_
                refine CW_ret ?_
                refine ⟨rfl, _, (.tmp rfl .nil), ?_⟩
                exact ⟨T, vb rfl (by unfold Evt.is; first | rfl | exact decide_eq_decide.2 (by omega) | exact (decide_eq_false (by omega)).symm | exact (decide_eq_true (by omega)).symm)⟩
            · have d7 := c7
              first | (with_reducible replace d7 := of_decide_eq_false d7) | (with_reducible replace d7 := bnf d7; try (with_reducible replace d7 := of_decide_eq_true d7)) | skip
              refine OW_no rfl rfl rfl rfl c7 ?_
              refine OW_no rfl rfl rfl rfl c7 ?_
              refine OW_no rfl rfl rfl rfl c7 ?_
              refine OW_ev (Ev_pickb_f rfl rfl c7 rfl) rfl ?_
              refine OW_ev (Ev_mvb (.inl rfl) rfl) rfl ?_
              refine OW_no rfl rfl rfl rfl rfl ?_
              refine OW_no rfl rfl rfl rfl rfl ?_
              refine OW_no rfl rfl rfl rfl rfl ?_
              refine OW_ev (Ev_pickb_f rfl rfl rfl rfl) rfl ?_
              refine OW_ev (Ev_mvb (.inl rfl) rfl) rfl ?_
              refine OW_no rfl rfl rfl rfl rfl ?_
              refine OW_no rfl rfl rfl rfl rfl ?_
              refine OW_no rfl rfl rfl rfl rfl ?_
              refine OW_ev (Ev_pickb_f rfl rfl rfl rfl) rfl ?_
              refine OW_ev (Ev_mvb (.inl rfl) rfl) rfl ?_
              refine OW_no rfl rfl rfl rfl rfl ?_
              refine OW_no rfl rfl rfl rfl rfl ?_
              refine OW_no rfl rfl rfl rfl rfl ?_
              refine OW_ev (Ev_pickb_f rfl rfl rfl rfl) rfl ?_
              refine OW_ev (Ev_mvb (.inr rfl) rfl) rfl ?_
              refine OW_nil ?_
              refine CW_ret ?_
              refine ⟨rfl, _, (.tmp rfl .nil), ?_⟩
              exact ⟨T, vb rfl (by unfold Evt.is; first | rfl | exact decide_eq_decide.2 (by omega) | exact (decide_eq_false (by omega)).symm | exact (decide_eq_true (by omega)).symm)⟩
          · have d6 := c6
            first | (with_reducible replace d6 := of_decide_eq_false d6) | (with_reducible replace d6 := bnf d6; try (with_reducible replace d6 := of_decide_eq_true d6)) | skip
            refine OW_no rfl rfl rfl rfl c6 ?_
            refine OW_no rfl rfl rfl rfl c6 ?_
            refine OW_no rfl rfl rfl rfl c6 ?_
            refine OW_ev (Ev_pickb_f rfl rfl c6 rfl) rfl ?_
            refine OW_ev (Ev_mvb (.inl rfl) rfl) rfl ?_
            refine OW_no rfl rfl rfl rfl rfl ?_
            refine OW_no rfl rfl rfl rfl rfl ?_
            refine OW_no rfl rfl rfl rfl rfl ?_
            refine OW_ev (Ev_pickb_f rfl rfl rfl rfl) rfl ?_
            refine OW_ev (Ev_mvb (.inl rfl) rfl) rfl ?_
            refine OW_no rfl rfl rfl rfl rfl ?_
            refine OW_no rfl rfl rfl rfl rfl ?_
            refine OW_no rfl rfl rfl rfl rfl ?_
            refine OW_ev (Ev_pickb_f rfl rfl rfl rfl) rfl ?_
            refine OW_ev (Ev_mvb (.inl rfl) rfl) rfl ?_
            refine OW_no rfl rfl rfl rfl rfl ?_
            refine OW_no rfl rfl rfl rfl rfl ?_
            refine OW_no rfl rfl rfl rfl rfl ?_
            refine OW_ev (Ev_pickb_f rfl rfl rfl rfl) rfl ?_
            refine OW_ev (Ev_mvb (.inl rfl) rfl) rfl ?_
            refine OW_no rfl rfl rfl rfl rfl ?_
            refine OW_no rfl rfl rfl rfl rfl ?_
            refine OW_no rfl rfl rfl rfl rfl ?_
            refine OW_ev (Ev_pickb_f rfl rfl rfl rfl) rfl ?_
            refine OW_ev (Ev_mvb (.inr rfl) rfl) rfl ?_
            refine OW_nil ?_
            refine CW_ret ?_
            refine ⟨rfl, _, (.tmp rfl .nil), ?_⟩
            exact ⟨T, vb rfl (by unfold Evt.is; first | rfl | exact decide_eq_decide.2 (by omega) | exact (decide_eq_false (by omega)).symm | exact (decide_eq_true (by omega)).symm)⟩
        · have d5 := c5
          first | (with_reducible replace d5 := of_decide_eq_false d5) | (with_reducible replace d5 := bnf d5; try (with_reducible replace d5 := of_decide_eq_true d5)) | skip
          refine OW_no rfl rfl rfl rfl c5 ?_
          refine OW_no rfl rfl rfl rfl c5 ?_
          refine OW_no rfl rfl rfl rfl c5 ?_
          refine OW_ev (Ev_pickb_f rfl rfl c5 rfl) rfl ?_
          refine OW_ev (Ev_mvb (.inl rfl) rfl) rfl ?_
          refine OW_no rfl rfl rfl rfl rfl ?_
          refine OW_no rfl rfl rfl rfl rfl ?_
          refine OW_no rfl rfl rfl rfl rfl ?_
          refine OW_ev (Ev_pickb_f rfl rfl rfl rfl) rfl ?_
          refine OW_ev (Ev_mvb (.inl rfl) rfl) rfl ?_
          refine OW_no rfl rfl rfl rfl rfl ?_
          refine OW_no rfl rfl rfl rfl rfl ?_
          refine OW_no rfl rfl rfl rfl rfl ?_
          refine OW_ev (Ev_pickb_f rfl rfl rfl rfl) rfl ?_
          refine OW_ev (Ev_mvb (.inl rfl) rfl) rfl ?_
          refine OW_no rfl rfl rfl rfl rfl ?_
          refine OW_no rfl rfl rfl rfl rfl ?_
          refine OW_no rfl rfl rfl rfl rfl ?_
          refine OW_ev (Ev_pickb_f rfl rfl rfl rfl) rfl ?_
          refine OW_ev (Ev_mvb (.inl rfl) rfl) rfl ?_
          refine OW_no rfl rfl rfl rfl rfl ?_
          refine OW_no rfl rfl rfl rfl rfl ?_
          refine OW_no rfl rfl rfl rfl rfl ?_
          refine OW_ev (Ev_pickb_f rfl rfl rfl rfl) rfl ?_
          refine OW_ev (Ev_mvb (.inl rfl) rfl) rfl ?_
          refine OW_no rfl rfl rfl rfl rfl ?_
          refine OW_no rfl rfl rfl rfl rfl ?_
          refine OW_no rfl rfl rfl rfl rfl ?_
          refine OW_ev (Ev_pickb_f rfl rfl rfl rfl) rfl ?_
          refine OW_ev (Ev_mvb (.inr rfl) rfl) rfl ?_
          refine OW_nil ?_
          refine CW_ret ?_
          refine ⟨rfl, _, (.tmp rfl .nil), ?_⟩
          exact ⟨T, vb rfl (by unfold Evt.is; first | rfl | exact decide_eq_decide.2 (by omega) | exact (decide_eq_false (by omega)).symm | exact (decide_eq_true (by omega)).symm)⟩
      · have d4 := c4
        first | (with_reducible replace d4 := of_decide_eq_false d4) | (with_reducible replace d4 := bnf d4; try (with_reducible replace d4 := of_decide_eq_true d4)) | skip
        refine OW_no rfl rfl rfl rfl c4 ?_
        refine OW_no rfl rfl rfl rfl c4 ?_
        refine OW_no rfl rfl rfl rfl c4 ?_
        refine OW_ev (Ev_pickb_f rfl rfl c4 rfl) rfl ?_
        refine OW_ev (Ev_mvb (.inl rfl) rfl) rfl ?_
        refine OW_no rfl rfl rfl rfl rfl ?_
        refine OW_no rfl rfl rfl rfl rfl ?_
        refine OW_no rfl rfl rfl rfl rfl ?_
        refine OW_ev (Ev_pickb_f rfl rfl rfl rfl) rfl ?_
        refine OW_ev (Ev_mvb (.inl rfl) rfl) rfl ?_
        refine OW_no rfl rfl rfl rfl rfl ?_
        refine OW_no rfl rfl rfl rfl rfl ?_
        refine OW_no rfl rfl rfl rfl rfl ?_
        refine OW_ev (Ev_pickb_f rfl rfl rfl rfl) rfl ?_
        refine OW_ev (Ev_mvb (.inl rfl) rfl) rfl ?_
        refine OW_no rfl rfl rfl rfl rfl ?_
        refine OW_no rfl rfl rfl rfl rfl ?_
        refine OW_no rfl rfl rfl rfl rfl ?_
        refine OW_ev (Ev_pickb_f rfl rfl rfl rfl) rfl ?_
        refine OW_ev (Ev_mvb (.inl rfl) rfl) rfl ?_
        refine OW_no rfl rfl rfl rfl rfl ?_
        refine OW_no rfl rfl rfl rfl rfl ?_
        refine OW_no rfl rfl rfl rfl rfl ?_
        refine OW_ev (Ev_pickb_f rfl rfl rfl rfl) rfl ?_
        refine OW_ev (Ev_mvb (.inl rfl) rfl) rfl ?_
        refine OW_no rfl rfl rfl rfl rfl ?_
        refine OW_no rfl rfl rfl rfl rfl ?_
        refine OW_no rfl rfl rfl rfl rfl ?_
        refine OW_ev (Ev_pickb_f rfl rfl rfl rfl) rfl ?_
        refine OW_ev (Ev_mvb (.inl rfl) rfl) rfl ?_
        refine OW_no rfl rfl rfl rfl rfl ?_
        refine OW_no rfl rfl rfl rfl rfl ?_
        refine OW_no rfl rfl rfl rfl rfl ?_
        refine OW_ev (Ev_pickb_f rfl rfl rfl rfl) rfl ?_
        refine OW_ev (Ev_mvb (.inr rfl) rfl) rfl ?_
        refine OW_nil ?_
        refine CW_ret ?_
        refine ⟨rfl, _, (.tmp rfl .nil), ?_⟩
        exact ⟨T, vb rfl (by unfold Evt.is; first | rfl | exact decide_eq_decide.2 (by omega) | exact (decide_eq_false (by omega)).symm | exact (decide_eq_true (by omega)).symm)⟩
    · have d3 := c3
      first | (with_reducible replace d3 := of_decide_eq_false d3) | (with_reducible replace d3 := bnf d3; try (with_reducible replace d3 := of_decide_eq_true d3)) | skip
      refine OW_no rfl rfl rfl rfl c3 ?_
      refine OW_no rfl rfl rfl rfl c3 ?_
      refine OW_no rfl rfl rfl rfl c3 ?_
      refine OW_ev (Ev_pickb_f rfl rfl c3 rfl) rfl ?_
      refine OW_ev (Ev_mvb (.inl rfl) rfl) rfl ?_
      refine OW_no rfl rfl rfl rfl rfl ?_
      refine OW_no rfl rfl rfl rfl rfl ?_
      refine OW_no rfl rfl rfl rfl rfl ?_
      refine OW_ev (Ev_pickb_f rfl rfl rfl rfl) rfl ?_
      refine OW_ev (Ev_mvb (.inl rfl) rfl) rfl ?_
      refine OW_no rfl rfl rfl rfl rfl ?_
      refine OW_no rfl rfl rfl rfl rfl ?_
      refine OW_no rfl rfl rfl rfl rfl ?_
      refine OW_ev (Ev_pickb_f rfl rfl rfl rfl) rfl ?_
      refine OW_ev (Ev_mvb (.inl rfl) rfl) rfl ?_
      refine OW_no rfl rfl rfl rfl rfl ?_
      refine OW_no rfl rfl rfl rfl rfl ?_
      refine OW_no rfl rfl rfl rfl rfl ?_
      refine OW_ev (Ev_pickb_f rfl rfl rfl rfl) rfl ?_
      refine OW_ev (Ev_mvb (.inl rfl) rfl) rfl ?_
      refine OW_no rfl rfl rfl rfl rfl ?_
      refine OW_no rfl rfl rfl rfl rfl ?_
      refine OW_no rfl rfl rfl rfl rfl ?_
      refine OW_ev (Ev_pickb_f rfl rfl rfl rfl) rfl ?_
      refine OW_ev (Ev_mvb (.inl rfl) rfl) rfl ?_
      refine OW_no rfl rfl rfl rfl rfl ?_
      refine OW_no rfl rfl rfl rfl rfl ?_
      refine OW_no rfl rfl rfl rfl rfl ?_
      refine OW_ev (Ev_pickb_f rfl rfl rfl rfl) rfl ?_
      refine OW_ev (Ev_mvb (.inl rfl) rfl) rfl ?_
      refine OW_no rfl rfl rfl rfl rfl ?_
      refine OW_no rfl rfl rfl rfl rfl ?_
      refine OW_no rfl rfl rfl rfl rfl ?_
      refine OW_ev (Ev_pickb_f rfl rfl rfl rfl) rfl ?_
      refine OW_ev (Ev_mvb (.inl rfl) rfl) rfl ?_
      refine OW_no rfl rfl rfl rfl rfl ?_
      refine OW_no rfl rfl rfl rfl rfl ?_
      refine OW_no rfl rfl rfl rfl rfl ?_
      refine OW_ev (Ev_pickb_f rfl rfl rfl rfl) rfl ?_
      refine OW_ev (Ev_mvb (.inr rfl) rfl) rfl ?_
      refine OW_nil ?_
      refine CW_ret ?_
      refine ⟨rfl, _, (.tmp rfl .nil), ?_⟩
      exact ⟨T, vb rfl (by unfold Evt.is; first | rfl | exact decide_eq_decide.2 (by omega) | exact (decide_eq_false (by omega)).symm | exact (decide_eq_true (by omega)).symm)⟩
  · have d2 := c2
    first | (with_reducible replace d2 := of_decide_eq_false d2) | (with_reducible replace d2 := bnf d2; try (with_reducible replace d2 := of_decide_eq_true d2)) | skip
    refine OW_no rfl rfl rfl rfl c2 ?_
    refine OW_no rfl rfl rfl rfl c2 ?_
    refine OW_no rfl rfl rfl rfl c2 ?_
    refine OW_ev (Ev_pickb_f rfl rfl c2 rfl) rfl ?_
    refine OW_ev (Ev_mvb (.inl rfl) rfl) rfl ?_
    refine OW_no rfl rfl rfl rfl rfl ?_
    refine OW_no rfl rfl rfl rfl rfl ?_
    refine OW_no rfl rfl rfl rfl rfl ?_
    refine OW_ev (Ev_pickb_f rfl rfl rfl rfl) rfl ?_
    refine OW_ev (Ev_mvb (.inl rfl) rfl) rfl ?_
    refine OW_no rfl rfl rfl rfl rfl ?_
    refine OW_no rfl rfl rfl rfl rfl ?_
    refine OW_no rfl rfl rfl rfl rfl ?_
    refine OW_ev (Ev_pickb_f rfl rfl rfl rfl) rfl ?_
    refine OW_ev (Ev_mvb (.inl rfl) rfl) rfl ?_
    refine OW_no rfl rfl rfl rfl rfl ?_
    refine OW_no rfl rfl rfl rfl rfl ?_
    refine OW_no rfl rfl rfl rfl rfl ?_
    refine OW_ev (Ev_pickb_f rfl rfl rfl rfl) rfl ?_
    refine OW_ev (Ev_mvb (.inl rfl) rfl) rfl ?_
    refine OW_no rfl rfl rfl rfl rfl ?_
    refine OW_no rfl rfl rfl rfl rfl ?_
    refine OW_no rfl rfl rfl rfl rfl ?_
    refine OW_ev (Ev_pickb_f rfl rfl rfl rfl) rfl ?_
    refine OW_ev (Ev_mvb (.inl rfl) rfl) rfl ?_
    refine OW_no rfl rfl rfl rfl rfl ?_
    refine OW_no rfl rfl rfl rfl rfl ?_
    refine OW_no rfl rfl rfl rfl rfl ?_
    refine OW_ev (Ev_pickb_f rfl rfl rfl rfl) rfl ?_
    refine OW_ev (Ev_mvb (.inl rfl) rfl) rfl ?_
    refine OW_no rfl rfl rfl rfl rfl ?_
    refine OW_no rfl rfl rfl rfl rfl ?_
    refine OW_no rfl rfl rfl rfl rfl ?_
    refine OW_ev (Ev_pickb_f rfl rfl rfl rfl) rfl ?_
    refine OW_ev (Ev_mvb (.inl rfl) rfl) rfl ?_
    refine OW_no rfl rfl rfl rfl rfl ?_
    refine OW_no rfl rfl rfl rfl rfl ?_
    refine OW_no rfl rfl rfl rfl rfl ?_
    refine OW_ev (Ev_pickb_f rfl rfl rfl rfl) rfl ?_
    refine OW_ev (Ev_mvb (.inl rfl) rfl) rfl ?_
    refine OW_no rfl rfl rfl rfl rfl ?_
    refine OW_no rfl rfl rfl rfl rfl ?_
    refine OW_no rfl rfl rfl rfl rfl ?_
    refine OW_ev (Ev_pickb_f rfl rfl rfl rfl) rfl ?_
    refine OW_ev (Ev_mvb (.inr rfl) rfl) rfl ?_
    refine OW_nil ?_
    refine CW_ret ?_
    refine ⟨rfl, _, (.tmp rfl .nil), ?_⟩
    exact ⟨T, vb rfl (by unfold Evt.is; first | rfl | exact decide_eq_decide.2 (by omega) | exact (decide_eq_false (by omega)).symm | exact (decide_eq_true (by omega)).symm)⟩

theorem isRoom_c (w : World) (n : Int) : Calls Try.prog 36 #[.int .i64 n] w (Ret fun v w' => Kp0 w w' ∧ v = .bool (decide (2 ≤ n ∧ n ≤ 64))) := by
  have T : Kp0 w w := Kp.refl _ _
  refine calls_start Try.func36 rfl (n := 9) rfl rfl rfl ?_
  refine CW_seq ?_
  refine CW_reg rfl ?_
  refine OW_ev (Ev_c (.inr rfl)) rfl ?_
  refine OW_nil ?_
  refine CW_seq ?_
  refine CW_reg rfl ?_
  refine OW_ev (Ev_mvi (.inl rfl) rfl) rfl ?_
  refine OW_ev (Ev_geq rfl rfl rfl) rfl ?_
  refine OW_ev (Ev_mvb (.inl rfl) rfl) rfl ?_
  refine OW_split (d := .tmp 5) rfl (fun c1 => ?_) (fun c1 => ?_)
  · have d1 := c1
    first | (with_reducible replace d1 := of_decide_eq_true d1) | (with_reducible replace d1 := bnt d1; try (with_reducible replace d1 := of_decide_eq_false d1)) | skip
    refine OW_yes rfl rfl rfl rfl c1 (Ev.stp (Ev_mvi (.inl rfl) rfl) ?_)
    refine OW_yes rfl rfl rfl rfl c1 (Ev.stp (Ev_leq rfl rfl rfl) ?_)
    refine OW_ev (Ev_pickb_t rfl rfl c1 rfl) rfl ?_
    refine OW_ev (Ev_mvb (.inr rfl) rfl) rfl ?_
    refine OW_nil ?_
    refine CW_ret ?_
    refine ⟨rfl, _, (.tmp rfl .nil), ?_⟩
    exact ⟨T, vb rfl (by first | rfl | exact decide_eq_decide.2 (by omega) | exact (decide_eq_false (by omega)).symm | exact (decide_eq_true (by omega)).symm)⟩
  · have d1 := c1
    first | (with_reducible replace d1 := of_decide_eq_false d1) | (with_reducible replace d1 := bnf d1; try (with_reducible replace d1 := of_decide_eq_true d1)) | skip
    refine OW_no rfl rfl rfl rfl c1 ?_
    refine OW_no rfl rfl rfl rfl c1 ?_
    refine OW_ev (Ev_pickb_f rfl rfl c1 rfl) rfl ?_
    refine OW_ev (Ev_mvb (.inr rfl) rfl) rfl ?_
    refine OW_nil ?_
    refine CW_ret ?_
    refine ⟨rfl, _, (.tmp rfl .nil), ?_⟩
    exact ⟨T, vb rfl (by first | rfl | exact decide_eq_decide.2 (by omega) | exact (decide_eq_false (by omega)).symm | exact (decide_eq_true (by omega)).symm)⟩

theorem gapR_c (w : World) (x : Ent) : Calls Try.prog 63 #[.agg x.cells.toArray] w (Ret fun v w' => Kp0 w w' ∧ v = .bool (x.isGap)) := by
  have T : Kp0 w w := Kp.refl _ _
  refine calls_start Try.func63 rfl (n := 30) rfl rfl rfl ?_
  refine CW_seq ?_
  refine CW_reg rfl ?_
  refine OW_st rfl (Stp_box (l := [.int _ _, .int _ _, .int _ _, .int _ _, .int _ _, .int _ _, .int _ _]) rfl rfl rfl ?_)
  intro b1 w1 hb1 hz1 E1 B1
  have L1 : _ ≤ b1 := Nat.le_trans T.size (Nat.le_of_eq hb1.symm)
  have T := T.keep0 E1
  replace B1 : Blk w1 b1 31 (x.cells) := B1
  refine OW_ev (Ev_c (.inr rfl)) rfl ?_
  refine OW_nil ?_
  refine CW_seq ?_
  refine CW_reg rfl ?_
  refine OW_ev (Ev_fieldAddr fld_31_1 rfl rfl) rfl ?_
  refine OW_ev (Ev_loadAgg (l := [.int _ _, .int _ _, .int _ _, .int _ _, .int _ _, .int _ _]) agg_29 rfl rfl (B1.sub 1 6 (Nat.le_of_ble_eq_true rfl)) rfl) rfl ?_
  refine OW_st rfl (Stp_call ent_46 rfl rfl rfl (eventIsR_c _ x.e) ?_)
  rintro _ w2 ⟨E2, rfl⟩
  have Z2 := E2.size
  have T := T.keep0 E2
  have B1 := B1.keep0 E2
  refine OW_ev (Ev_mvb (.inl rfl) rfl) rfl ?_
  refine OW_split (d := .tmp 6) rfl (fun c3 => ?_) (fun c3 => ?_)
  · have d3 := c3
    first | (with_reducible replace d3 := of_decide_eq_true d3) | (with_reducible replace d3 := bnt d3; try (with_reducible replace d3 := of_decide_eq_false d3)) | skip
    refine OW_yes rfl rfl rfl rfl c3 (Ev.stp (Ev_fieldAddr fld_31_1 rfl rfl) ?_)
    refine OW_yes rfl rfl rfl rfl c3 (Ev.stp (Ev_fieldAddr fld_29_3 rfl rfl) ?_)
    refine OW_yes rfl rfl rfl rfl c3 (Ev.stp (Ev_load one_3 rfl rfl (B1.ld (q := 4) rfl)) ?_)
    refine OW_yes rfl rfl rfl rfl c3 (Ev.stp (Ev_eql rfl rfl rfl) ?_)
    refine OW_ev (Ev_pickb_t rfl rfl c3 rfl) rfl ?_
    refine OW_ev (Ev_mvb (.inl rfl) rfl) rfl ?_
    refine OW_split (d := .tmp 12) rfl (fun c4 => ?_) (fun c4 => ?_)
    · have d4 := c4
      first | (with_reducible replace d4 := of_decide_eq_true d4) | (with_reducible replace d4 := bnt d4; try (with_reducible replace d4 := of_decide_eq_false d4)) | skip
      refine OW_yes rfl rfl rfl rfl c4 (Ev.stp (Ev_fieldAddr fld_31_1 rfl rfl) ?_)
      refine OW_yes rfl rfl rfl rfl c4 (Ev.stp (Ev_fieldAddr fld_29_4 rfl rfl) ?_)
      refine OW_yes rfl rfl rfl rfl c4 (Ev.stp (Ev_load one_3 rfl rfl (B1.ld (q := 5) rfl)) ?_)
      refine OW_yes rfl rfl rfl rfl c4 (Ev.stp (Ev_geq rfl rfl rfl) ?_)
      refine OW_ev (Ev_pickb_t rfl rfl c4 rfl) rfl ?_
      refine OW_ev (Ev_mvb (.inl rfl) rfl) rfl ?_
      refine OW_split (d := .tmp 18) rfl (fun c5 => ?_) (fun c5 => ?_)
      · have d5 := c5
        first | (with_reducible replace d5 := of_decide_eq_true d5) | (with_reducible replace d5 := bnt d5; try (with_reducible replace d5 := of_decide_eq_false d5)) | skip
        refine OW_yes rfl rfl rfl rfl c5 (Ev.stp (Ev_fieldAddr fld_31_1 rfl rfl) ?_)
        refine OW_yes rfl rfl rfl rfl c5 (Ev.stp (Ev_fieldAddr fld_29_0 rfl rfl) ?_)
        refine OW_yes rfl rfl rfl rfl c5 (Ev.stp (Ev_load one_27 rfl rfl (B1.ld (q := 1) rfl)) ?_)
        refine OW_yes rfl rfl rfl rfl c5 (Ev.stp (Ev_eql rfl rfl rfl) ?_)
        refine OW_ev (Ev_pickb_t rfl rfl c5 rfl) rfl ?_
        refine OW_ev (Ev_mvb (.inl rfl) rfl) rfl ?_
        refine OW_split (d := .tmp 24) rfl (fun c6 => ?_) (fun c6 => ?_)
        · have d6 := c6
          first | (with_reducible replace d6 := of_decide_eq_true d6) | (with_reducible replace d6 := bnt d6; try (with_reducible replace d6 := of_decide_eq_false d6)) | skip
          refine OW_yes rfl rfl rfl rfl c6 (Ev.stp (Ev_fieldAddr fld_31_1 rfl rfl) ?_)
          refine OW_yes rfl rfl rfl rfl c6 (Ev.stp (Ev_fieldAddr fld_29_5 rfl rfl) ?_)
          refine OW_yes rfl rfl rfl rfl c6 (Ev.stp (Ev_load one_3 rfl rfl (B1.ld (q := 6) rfl)) ?_)
          refine OW_yes rfl rfl rfl rfl c6 (Ev.stp (Ev_eql rfl rfl rfl) ?_)
          refine OW_ev (Ev_pickb_t rfl rfl c6 rfl) rfl ?_
          refine OW_ev (Ev_mvb (.inr rfl) rfl) rfl ?_
          refine OW_nil ?_
          refine CW_ret ?_
          refine ⟨rfl, _, (.tmp rfl .nil), ?_⟩
          exact ⟨T, vb rfl (by unfold Ent.isGap; first | rfl | (rw [Bool.eq_iff_iff]; simp_all; done) | (rw [Bool.eq_iff_iff]; simp_all; omega) | exact (decide_eq_false (by intro h; omega)).symm)⟩
        · have d6 := c6
          first | (with_reducible replace d6 := of_decide_eq_false d6) | (with_reducible replace d6 := bnf d6; try (with_reducible replace d6 := of_decide_eq_true d6)) | skip
          refine OW_no rfl rfl rfl rfl c6 ?_
          refine OW_no rfl rfl rfl rfl c6 ?_
          refine OW_no rfl rfl rfl rfl c6 ?_
          refine OW_no rfl rfl rfl rfl c6 ?_
          refine OW_ev (Ev_pickb_f rfl rfl c6 rfl) rfl ?_
          refine OW_ev (Ev_mvb (.inr rfl) rfl) rfl ?_
          refine OW_nil ?_
          refine CW_ret ?_
          refine ⟨rfl, _, (.tmp rfl .nil), ?_⟩
          exact ⟨T, vb rfl (by unfold Ent.isGap; first | rfl | (rw [Bool.eq_iff_iff]; simp_all; done) | (rw [Bool.eq_iff_iff]; simp_all; omega) | exact (decide_eq_false (by intro h; omega)).symm)⟩
      · have d5 := c5
        first | (with_reducible replace d5 := of_decide_eq_false d5) | (with_reducible replace d5 := bnf d5; try (with_reducible replace d5 := of_decide_eq_true d5)) | skip
        refine OW_no rfl rfl rfl rfl c5 ?_
        refine OW_no rfl rfl rfl rfl c5 ?_
        refine OW_no rfl rfl rfl rfl c5 ?_
        refine OW_no rfl rfl rfl rfl c5 ?_
        refine OW_ev (Ev_pickb_f rfl rfl c5 rfl) rfl ?_
        refine OW_ev (Ev_mvb (.inl rfl) rfl) rfl ?_
        refine OW_no rfl rfl rfl rfl rfl ?_
        refine OW_no rfl rfl rfl rfl rfl ?_
        refine OW_no rfl rfl rfl rfl rfl ?_
        refine OW_no rfl rfl rfl rfl rfl ?_
        refine OW_ev (Ev_pickb_f rfl rfl rfl rfl) rfl ?_
        refine OW_ev (Ev_mvb (.inr rfl) rfl) rfl ?_
        refine OW_nil ?_
        refine CW_ret ?_
        refine ⟨rfl, _, (.tmp rfl .nil), ?_⟩
        exact ⟨T, vb rfl (by unfold Ent.isGap; first | rfl | (rw [Bool.eq_iff_iff]; simp_all; done) | (rw [Bool.eq_iff_iff]; simp_all; omega) | exact (decide_eq_false (by intro h; omega)).symm)⟩
    · have d4 := c4
      first | (with_reducible replace d4 := of_decide_eq_false d4) | (with_reducible replace d4 := bnf d4; try (with_reducible replace d4 := of_decide_eq_true d4)) | skip
      refine OW_no rfl rfl rfl rfl c4 ?_
      refine OW_no rfl rfl rfl rfl c4 ?_
      refine OW_no rfl rfl rfl rfl c4 ?_
      refine OW_no rfl rfl rfl rfl c4 ?_
      refine OW_ev (Ev_pickb_f rfl rfl c4 rfl) rfl ?_
      refine OW_ev (Ev_mvb (.inl rfl) rfl) rfl ?_
      refine OW_no rfl rfl rfl rfl rfl ?_
      refine OW_no rfl rfl rfl rfl rfl ?_
      refine OW_no rfl rfl rfl rfl rfl ?_
      refine OW_no rfl rfl rfl rfl rfl ?_
      refine OW_ev (Ev_pickb_f rfl rfl rfl rfl) rfl ?_
      refine OW_ev (Ev_mvb (.inl rfl) rfl) rfl ?_
      refine OW_no rfl rfl rfl rfl rfl ?_
      refine OW_no rfl rfl rfl rfl rfl ?_
      refine OW_no rfl rfl rfl rfl rfl ?_
      refine OW_no rfl rfl rfl rfl rfl ?_
      refine OW_ev (Ev_pickb_f rfl rfl rfl rfl) rfl ?_
      refine OW_ev (Ev_mvb (.inr rfl) rfl) rfl ?_
      refine OW_nil ?_
      refine CW_ret ?_
      refine ⟨rfl, _, (.tmp rfl .nil), ?_⟩
      exact ⟨T, vb rfl (by unfold Ent.isGap; first | rfl | (rw [Bool.eq_iff_iff]; simp_all; done) | (rw [Bool.eq_iff_iff]; simp_all; omega) | exact (decide_eq_false (by intro h; omega)).symm)⟩
  · have d3 := c3
    first | (with_reducible replace d3 := of_decide_eq_false d3) | (with_reducible replace d3 := bnf d3; try (with_reducible replace d3 := of_decide_eq_true d3)) | skip
    refine OW_no rfl rfl rfl rfl c3 ?_
    refine OW_no rfl rfl rfl rfl c3 ?_
    refine OW_no rfl rfl rfl rfl c3 ?_
    refine OW_no rfl rfl rfl rfl c3 ?_
    refine OW_ev (Ev_pickb_f rfl rfl c3 rfl) rfl ?_
    refine OW_ev (Ev_mvb (.inl rfl) rfl) rfl ?_
    refine OW_no rfl rfl rfl rfl rfl ?_
    refine OW_no rfl rfl rfl rfl rfl ?_
    refine OW_no rfl rfl rfl rfl rfl ?_
    refine OW_no rfl rfl rfl rfl rfl ?_
    refine OW_ev (Ev_pickb_f rfl rfl rfl rfl) rfl ?_
    refine OW_ev (Ev_mvb (.inl rfl) rfl) rfl ?_
    refine OW_no rfl rfl rfl rfl rfl ?_
    refine OW_no rfl rfl rfl rfl rfl ?_
    refine OW_no rfl rfl rfl rfl rfl ?_
    refine OW_no rfl rfl rfl rfl rfl ?_
    refine OW_ev (Ev_pickb_f rfl rfl rfl rfl) rfl ?_
    refine OW_ev (Ev_mvb (.inl rfl) rfl) rfl ?_
    refine OW_no rfl rfl rfl rfl rfl ?_
    refine OW_no rfl rfl rfl rfl rfl ?_
    refine OW_no rfl rfl rfl rfl rfl ?_
    refine OW_no rfl rfl rfl rfl rfl ?_
    refine OW_ev (Ev_pickb_f rfl rfl rfl rfl) rfl ?_
    refine OW_ev (Ev_mvb (.inr rfl) rfl) rfl ?_
    refine OW_nil ?_
    refine CW_ret ?_
    refine ⟨rfl, _, (.tmp rfl .nil), ?_⟩
    exact ⟨T, vb rfl (by unfold Ent.isGap; first | rfl | (rw [Bool.eq_iff_iff]; simp_all; done) | (rw [Bool.eq_iff_iff]; simp_all; omega) | exact (decide_eq_false (by intro h; omega)).symm)⟩

theorem isGap_c (w : World) (x : Ent) : Calls Try.prog 37 #[.agg x.cells.toArray] w (Ret fun v w' => Kp0 w w' ∧ v = .bool (decide (x = Ent.zero ∨ x.isGap = true))) := by
  have T : Kp0 w w := Kp.refl _ _
  refine calls_start Try.func37 rfl (n := 33) rfl rfl rfl ?_
  refine CW_seq ?_
  refine CW_reg rfl ?_
  refine OW_st rfl (Stp_box (l := [.int _ _, .int _ _, .int _ _, .int _ _, .int _ _, .int _ _, .int _ _]) rfl rfl rfl ?_)
  intro b1 w1 hb1 hz1 E1 B1
  have L1 : _ ≤ b1 := Nat.le_trans T.size (Nat.le_of_eq hb1.symm)
  have T := T.keep0 E1
  replace B1 : Blk w1 b1 31 (x.cells) := B1
  refine OW_ev (Ev_c (.inr rfl)) rfl ?_
  refine OW_nil ?_
  refine CW_seq ?_
  refine CW_seq ?_
  refine CW_reg rfl ?_
  refine OW_ev (Ev_loadAgg (l := [.int _ _, .int _ _, .int _ _, .int _ _, .int _ _, .int _ _, .int _ _]) agg_31 rfl rfl (B1.sub 0 7 (Nat.le_of_ble_eq_true rfl)) rfl) rfl ?_
  refine OW_ev (Ev_build (l := [.int _ _, .int _ _, .int _ _, .int _ _, .int _ _, .int _ _, .int _ _]) plc_31 zero_31 rfl rfl rfl) rfl ?_
  refine OW_ev (Ev_eqS flat_31 rfl rfl rfl rfl rfl (Ent.eqL x Ent.zero)) rfl ?_
  refine OW_nil ?_
  refine CW_cond rfl (fun c2 => ?_) (fun c2 => ?_)
  · have d2 := c2
    first | (with_reducible replace d2 := of_decide_eq_true d2) | (with_reducible replace d2 := bnt d2; try (with_reducible replace d2 := of_decide_eq_false d2)) | skip
    refine CW_seq ?_
    refine CW_reg rfl ?_
    refine OW_ev (Ev_c (.inr rfl)) rfl ?_
    refine OW_nil ?_
    refine CW_ret ?_
    refine ⟨rfl, _, (.tmp rfl .nil), ?_⟩
    exact ⟨T, vb rfl (by unfold Ent.isGap; first | rfl | (rw [Bool.eq_iff_iff]; simp_all; done) | (rw [Bool.eq_iff_iff]; simp_all; omega) | exact (decide_eq_false (by intro h; omega)).symm)⟩
  · have d2 := c2
    first | (with_reducible replace d2 := of_decide_eq_false d2) | (with_reducible replace d2 := bnf d2; try (with_reducible replace d2 := of_decide_eq_true d2)) | skip
    refine CW_skip ?_
    refine CW_seq ?_
    refine CW_reg rfl ?_
    refine OW_ev (Ev_fieldAddr fld_31_1 rfl rfl) rfl ?_
    refine OW_ev (Ev_loadAgg (l := [.int _ _, .int _ _, .int _ _, .int _ _, .int _ _, .int _ _]) agg_29 rfl rfl (B1.sub 1 6 (Nat.le_of_ble_eq_true rfl)) rfl) rfl ?_
    refine OW_st rfl (Stp_call ent_31 rfl rfl rfl (eventIs_c _ x.e) ?_)
    rintro _ w3 ⟨E3, rfl⟩
    have Z3 := E3.size
    have T := T.keep0 E3
    have B1 := B1.keep0 E3
    refine OW_ev (Ev_mvb (.inl rfl) rfl) rfl ?_
    refine OW_split (d := .tmp 9) rfl (fun c4 => ?_) (fun c4 => ?_)
    · have d4 := c4
      first | (with_reducible replace d4 := of_decide_eq_true d4) | (with_reducible replace d4 := bnt d4; try (with_reducible replace d4 := of_decide_eq_false d4)) | skip
      refine OW_yes rfl rfl rfl rfl c4 (Ev.stp (Ev_fieldAddr fld_31_1 rfl rfl) ?_)
      refine OW_yes rfl rfl rfl rfl c4 (Ev.stp (Ev_fieldAddr fld_29_3 rfl rfl) ?_)
      refine OW_yes rfl rfl rfl rfl c4 (Ev.stp (Ev_load one_3 rfl rfl (B1.ld (q := 4) rfl)) ?_)
      refine OW_yes rfl rfl rfl rfl c4 (Ev.stp (Ev_eql rfl rfl rfl) ?_)
      refine OW_ev (Ev_pickb_t rfl rfl c4 rfl) rfl ?_
      refine OW_ev (Ev_mvb (.inl rfl) rfl) rfl ?_
      refine OW_split (d := .tmp 15) rfl (fun c5 => ?_) (fun c5 => ?_)
      · have d5 := c5
        first | (with_reducible replace d5 := of_decide_eq_true d5) | (with_reducible replace d5 := bnt d5; try (with_reducible replace d5 := of_decide_eq_false d5)) | skip
        refine OW_yes rfl rfl rfl rfl c5 (Ev.stp (Ev_fieldAddr fld_31_1 rfl rfl) ?_)
        refine OW_yes rfl rfl rfl rfl c5 (Ev.stp (Ev_fieldAddr fld_29_4 rfl rfl) ?_)
        refine OW_yes rfl rfl rfl rfl c5 (Ev.stp (Ev_load one_3 rfl rfl (B1.ld (q := 5) rfl)) ?_)
        refine OW_yes rfl rfl rfl rfl c5 (Ev.stp (Ev_geq rfl rfl rfl) ?_)
        refine OW_ev (Ev_pickb_t rfl rfl c5 rfl) rfl ?_
        refine OW_ev (Ev_mvb (.inl rfl) rfl) rfl ?_
        refine OW_split (d := .tmp 21) rfl (fun c6 => ?_) (fun c6 => ?_)
        · have d6 := c6
          first | (with_reducible replace d6 := of_decide_eq_true d6) | (with_reducible replace d6 := bnt d6; try (with_reducible replace d6 := of_decide_eq_false d6)) | skip
          refine OW_yes rfl rfl rfl rfl c6 (Ev.stp (Ev_fieldAddr fld_31_1 rfl rfl) ?_)
          refine OW_yes rfl rfl rfl rfl c6 (Ev.stp (Ev_fieldAddr fld_29_0 rfl rfl) ?_)
          refine OW_yes rfl rfl rfl rfl c6 (Ev.stp (Ev_load one_27 rfl rfl (B1.ld (q := 1) rfl)) ?_)
          refine OW_yes rfl rfl rfl rfl c6 (Ev.stp (Ev_eql rfl rfl rfl) ?_)
          refine OW_ev (Ev_pickb_t rfl rfl c6 rfl) rfl ?_
          refine OW_ev (Ev_mvb (.inl rfl) rfl) rfl ?_
          refine OW_split (d := .tmp 27) rfl (fun c7 => ?_) (fun c7 => ?_)
          · have d7 := c7
            first | (with_reducible replace d7 := of_decide_eq_true d7) | (with_reducible replace d7 := bnt d7; try (with_reducible replace d7 := of_decide_eq_false d7)) | skip
            refine OW_yes rfl rfl rfl rfl c7 (Ev.stp (Ev_fieldAddr fld_31_1 rfl rfl) ?_)
            refine OW_yes rfl rfl rfl rfl c7 (Ev.stp (Ev_fieldAddr fld_29_5 rfl rfl) ?_)
            refine OW_yes rfl rfl rfl rfl c7 (Ev.stp (Ev_load one_3 rfl rfl (B1.ld (q := 6) rfl)) ?_)
            refine OW_yes rfl rfl rfl rfl c7 (Ev.stp (Ev_eql rfl rfl rfl) ?_)
            refine OW_ev (Ev_pickb_t rfl rfl c7 rfl) rfl ?_
            refine OW_ev (Ev_mvb (.inr rfl) rfl) rfl ?_
            refine OW_nil ?_
            refine CW_ret ?_
            refine ⟨rfl, _, (.tmp rfl .nil), ?_⟩
            exact ⟨T, vb rfl (by unfold Ent.isGap; first | rfl | (rw [Bool.eq_iff_iff]; simp_all; done) | (rw [Bool.eq_iff_iff]; simp_all; omega) | exact (decide_eq_false (by intro h; omega)).symm)⟩
          · have d7 := c7
            first | (with_reducible replace d7 := of_decide_eq_false d7) | (with_reducible replace d7 := bnf d7; try (with_reducible replace d7 := of_decide_eq_true d7)) | skip
            refine OW_no rfl rfl rfl rfl c7 ?_
            refine OW_no rfl rfl rfl rfl c7 ?_
            refine OW_no rfl rfl rfl rfl c7 ?_
            refine OW_no rfl rfl rfl rfl c7 ?_
            refine OW_ev (Ev_pickb_f rfl rfl c7 rfl) rfl ?_
            refine OW_ev (Ev_mvb (.inr rfl) rfl) rfl ?_
            refine OW_nil ?_
            refine CW_ret ?_
            refine ⟨rfl, _, (.tmp rfl .nil), ?_⟩
            exact ⟨T, vb rfl (by unfold Ent.isGap; first | rfl | (rw [Bool.eq_iff_iff]; simp_all; done) | (rw [Bool.eq_iff_iff]; simp_all; omega) | exact (decide_eq_false (by intro h; omega)).symm)⟩
        · have d6 := c6
          first | (with_reducible replace d6 := of_decide_eq_false d6) | (with_reducible replace d6 := bnf d6; try (with_reducible replace d6 := of_decide_eq_true d6)) | skip
          refine OW_no rfl rfl rfl rfl c6 ?_
          refine OW_no rfl rfl rfl rfl c6 ?_
          refine OW_no rfl rfl rfl rfl c6 ?_
          refine OW_no rfl rfl rfl rfl c6 ?_
          refine OW_ev (Ev_pickb_f rfl rfl c6 rfl) rfl ?_
          refine OW_ev (Ev_mvb (.inl rfl) rfl) rfl ?_
          refine OW_no rfl rfl rfl rfl rfl ?_
          refine OW_no rfl rfl rfl rfl rfl ?_
          refine OW_no rfl rfl rfl rfl rfl ?_
          refine OW_no rfl rfl rfl rfl rfl ?_
          refine OW_ev (Ev_pickb_f rfl rfl rfl rfl) rfl ?_
          refine OW_ev (Ev_mvb (.inr rfl) rfl) rfl ?_
          refine OW_nil ?_
          refine CW_ret ?_
          refine ⟨rfl, _, (.tmp rfl .nil), ?_⟩
          exact ⟨T, vb rfl (by unfold Ent.isGap; first | rfl | (rw [Bool.eq_iff_iff]; simp_all; done) | (rw [Bool.eq_iff_iff]; simp_all; omega) | exact (decide_eq_false (by intro h; omega)).symm)⟩
      · have d5 := c5
        first | (with_reducible replace d5 := of_decide_eq_false d5) | (with_reducible replace d5 := bnf d5; try (with_reducible replace d5 := of_decide_eq_true d5)) | skip
        refine OW_no rfl rfl rfl rfl c5 ?_
        refine OW_no rfl rfl rfl rfl c5 ?_
        refine OW_no rfl rfl rfl rfl c5 ?_
        refine OW_no rfl rfl rfl rfl c5 ?_
        refine OW_ev (Ev_pickb_f rfl rfl c5 rfl) rfl ?_
        refine OW_ev (Ev_mvb (.inl rfl) rfl) rfl ?_
        refine OW_no rfl rfl rfl rfl rfl ?_
        refine OW_no rfl rfl rfl rfl rfl ?_
        refine OW_no rfl rfl rfl rfl rfl ?_
        refine OW_no rfl rfl rfl rfl rfl ?_
        refine OW_ev (Ev_pickb_f rfl rfl rfl rfl) rfl ?_
        refine OW_ev (Ev_mvb (.inl rfl) rfl) rfl ?_
        refine OW_no rfl rfl rfl rfl rfl ?_
        refine OW_no rfl rfl rfl rfl rfl ?_
        refine OW_no rfl rfl rfl rfl rfl ?_
        refine OW_no rfl rfl rfl rfl rfl ?_
        refine OW_ev (Ev_pickb_f rfl rfl rfl rfl) rfl ?_
        refine OW_ev (Ev_mvb (.inr rfl) rfl) rfl ?_
        refine OW_nil ?_
        refine CW_ret ?_
        refine ⟨rfl, _, (.tmp rfl .nil), ?_⟩
        exact ⟨T, vb rfl (by unfold Ent.isGap; first | rfl | (rw [Bool.eq_iff_iff]; simp_all; done) | (rw [Bool.eq_iff_iff]; simp_all; omega) | exact (decide_eq_false (by intro h; omega)).symm)⟩
    · have d4 := c4
      first | (with_reducible replace d4 := of_decide_eq_false d4) | (with_reducible replace d4 := bnf d4; try (with_reducible replace d4 := of_decide_eq_true d4)) | skip
      refine OW_no rfl rfl rfl rfl c4 ?_
      refine OW_no rfl rfl rfl rfl c4 ?_
      refine OW_no rfl rfl rfl rfl c4 ?_
      refine OW_no rfl rfl rfl rfl c4 ?_
      refine OW_ev (Ev_pickb_f rfl rfl c4 rfl) rfl ?_
      refine OW_ev (Ev_mvb (.inl rfl) rfl) rfl ?_
      refine OW_no rfl rfl rfl rfl rfl ?_
      refine OW_no rfl rfl rfl rfl rfl ?_
      refine OW_no rfl rfl rfl rfl rfl ?_
      refine OW_no rfl rfl rfl rfl rfl ?_
      refine OW_ev (Ev_pickb_f rfl rfl rfl rfl) rfl ?_
      refine OW_ev (Ev_mvb (.inl rfl) rfl) rfl ?_
      refine OW_no rfl rfl rfl rfl rfl ?_
      refine OW_no rfl rfl rfl rfl rfl ?_
      refine OW_no rfl rfl rfl rfl rfl ?_
      refine OW_no rfl rfl rfl rfl rfl ?_
      refine OW_ev (Ev_pickb_f rfl rfl rfl rfl) rfl ?_
      refine OW_ev (Ev_mvb (.inl rfl) rfl) rfl ?_
      refine OW_no rfl rfl rfl rfl rfl ?_
      refine OW_no rfl rfl rfl rfl rfl ?_
      refine OW_no rfl rfl rfl rfl rfl ?_
      refine OW_no rfl rfl rfl rfl rfl ?_
      refine OW_ev (Ev_pickb_f rfl rfl rfl rfl) rfl ?_
      refine OW_ev (Ev_mvb (.inr rfl) rfl) rfl ?_
      refine OW_nil ?_
      refine CW_ret ?_
      refine ⟨rfl, _, (.tmp rfl .nil), ?_⟩
      exact ⟨T, vb rfl (by unfold Ent.isGap; first | rfl | (rw [Bool.eq_iff_iff]; simp_all; done) | (rw [Bool.eq_iff_iff]; simp_all; omega) | exact (decide_eq_false (by intro h; omega)).symm)⟩

theorem ringIs_c (w : World) (r : Rg) (ao : Option Addr) (c : Nat) : Calls Try.prog 22 #[.agg (Rg.cl r ao c).toArray] w (Ret fun v w' => Kp0 w w' ∧ v = .bool (r.is)) := by
  have T : Kp0 w w := Kp.refl _ _
  refine calls_start Try.func22 rfl (n := 19) rfl rfl rfl ?_
  refine CW_seq ?_
  refine CW_reg rfl ?_
  refine OW_st rfl (Stp_box (l := [.int _ _, .slice _ _ _, .int _ _, .int _ _, .int _ _, .int _ _, .int _ _, .int _ _, .int _ _]) rfl rfl rfl ?_)
  intro b1 w1 hb1 hz1 E1 B1
  have L1 : _ ≤ b1 := Nat.le_trans T.size (Nat.le_of_eq hb1.symm)
  have T := T.keep0 E1
  replace B1 : Blk w1 b1 33 (Rg.cl r ao c) := B1
  refine OW_ev (Ev_c (.inr rfl)) rfl ?_
  refine OW_nil ?_
  refine CW_seq ?_
  refine CW_reg rfl ?_
  refine OW_ev (Ev_fieldAddr fld_33_0 rfl rfl) rfl ?_
  refine OW_ev (Ev_load one_3 rfl rfl (B1.ld (q := 0) rfl)) rfl ?_
  refine OW_st rfl (Stp_call ent_36 rfl rfl rfl (isRoom_c _ _) ?_)
  rintro _ w2 ⟨E2, rfl⟩
  have Z2 := E2.size
  have T := T.keep0 E2
  have B1 := B1.keep0 E2
  refine OW_ev (Ev_mvb (.inl rfl) rfl) rfl ?_
  refine OW_split (d := .tmp 6) rfl (fun c3 => ?_) (fun c3 => ?_)
  · have d3 := c3
    first | (with_reducible replace d3 := of_decide_eq_true d3) | (with_reducible replace d3 := bnt d3; try (with_reducible replace d3 := of_decide_eq_false d3)) | skip
    refine OW_yes rfl rfl rfl rfl c3 (Ev.stp (Ev_fieldAddr fld_33_1 rfl rfl) ?_)
    refine OW_yes rfl rfl rfl rfl c3 (Ev.stp (Ev_load one_26 rfl rfl (B1.ld (q := 1) rfl)) ?_)
    refine OW_yes rfl rfl rfl rfl c3 (Ev.stp (Ev_len und_26 rfl rfl) ?_)
    refine OW_yes rfl rfl rfl rfl c3 (Ev.stp (Ev_fieldAddr fld_33_0 rfl rfl) ?_)
    refine OW_yes rfl rfl rfl rfl c3 (Ev.stp (Ev_load one_3 rfl rfl (B1.ld (q := 0) rfl)) ?_)
    refine OW_yes rfl rfl rfl rfl c3 (Ev.stp (Ev_leq rfl rfl rfl) ?_)
    refine OW_ev (Ev_pickb_t rfl rfl c3 rfl) rfl ?_
    refine OW_ev (Ev_mvb (.inl rfl) rfl) rfl ?_
    refine OW_split (d := .tmp 14) rfl (fun c4 => ?_) (fun c4 => ?_)
    · have d4 := c4
      first | (with_reducible replace d4 := of_decide_eq_true d4) | (with_reducible replace d4 := bnt d4; try (with_reducible replace d4 := of_decide_eq_false d4)) | skip
      refine OW_yes rfl rfl rfl rfl c4 (Ev.stp (Ev_fieldAddr fld_33_2 rfl rfl) ?_)
      refine OW_yes rfl rfl rfl rfl c4 (Ev.stp (Ev_loadAgg (l := [.int _ _, .int _ _, .int _ _, .int _ _, .int _ _, .int _ _, .int _ _]) agg_31 rfl rfl (B1.sub 2 7 (Nat.le_of_ble_eq_true rfl)) rfl) ?_)
      refine OW_yes rfl rfl rfl rfl c4 (Stp_call ent_37 rfl rfl rfl (isGap_c _ r.gap) ?_)
      rintro _ w5 ⟨E5, rfl⟩
      have Z5 := E5.size
      have T := T.keep0 E5
      have B1 := B1.keep0 E5
      refine OW_ev (Ev_pickb_t rfl rfl c4 rfl) rfl ?_
      refine OW_ev (Ev_mvb (.inr rfl) rfl) rfl ?_
      refine OW_nil ?_
      refine CW_ret ?_
      refine ⟨rfl, _, (.tmp rfl .nil), ?_⟩
      exact ⟨T, vb rfl (by unfold Rg.is; first | rfl | (rw [Bool.eq_iff_iff]; simp_all; done) | (rw [Bool.eq_iff_iff]; simp_all; omega) | exact (decide_eq_false (by intro h; omega)).symm)⟩
    · have d4 := c4
      first | (with_reducible replace d4 := of_decide_eq_false d4) | (with_reducible replace d4 := bnf d4; try (with_reducible replace d4 := of_decide_eq_true d4)) | skip
      refine OW_no rfl rfl rfl rfl c4 ?_
      refine OW_no rfl rfl rfl rfl c4 ?_
      refine OW_no rfl rfl rfl rfl c4 ?_
      refine OW_ev (Ev_pickb_f rfl rfl c4 rfl) rfl ?_
      refine OW_ev (Ev_mvb (.inr rfl) rfl) rfl ?_
      refine OW_nil ?_
      refine CW_ret ?_
      refine ⟨rfl, _, (.tmp rfl .nil), ?_⟩
      exact ⟨T, vb rfl (by unfold Rg.is; first | rfl | (rw [Bool.eq_iff_iff]; simp_all; done) | (rw [Bool.eq_iff_iff]; simp_all; omega) | exact (decide_eq_false (by intro h; omega)).symm)⟩
  · have d3 := c3
    first | (with_reducible replace d3 := of_decide_eq_false d3) | (with_reducible replace d3 := bnf d3; try (with_reducible replace d3 := of_decide_eq_true d3)) | skip
    refine OW_no rfl rfl rfl rfl c3 ?_
    refine OW_no rfl rfl rfl rfl c3 ?_
    refine OW_no rfl rfl rfl rfl c3 ?_
    refine OW_no rfl rfl rfl rfl c3 ?_
    refine OW_no rfl rfl rfl rfl c3 ?_
    refine OW_no rfl rfl rfl rfl c3 ?_
    refine OW_ev (Ev_pickb_f rfl rfl c3 rfl) rfl ?_
    refine OW_ev (Ev_mvb (.inl rfl) rfl) rfl ?_
    refine OW_no rfl rfl rfl rfl rfl ?_
    refine OW_no rfl rfl rfl rfl rfl ?_
    refine OW_no rfl rfl rfl rfl rfl ?_
    refine OW_ev (Ev_pickb_f rfl rfl rfl rfl) rfl ?_
    refine OW_ev (Ev_mvb (.inr rfl) rfl) rfl ?_
    refine OW_nil ?_
    refine CW_ret ?_
    refine ⟨rfl, _, (.tmp rfl .nil), ?_⟩
    exact ⟨T, vb rfl (by unfold Rg.is; first | rfl | (rw [Bool.eq_iff_iff]; simp_all; done) | (rw [Bool.eq_iff_iff]; simp_all; omega) | exact (decide_eq_false (by intro h; omega)).symm)⟩

theorem ringIsR_c (w : World) (r : Rg) (ao : Option Addr) (c : Nat) : Calls Try.prog 45 #[.agg (Rg.cl r ao c).toArray] w (Ret fun v w' => Kp0 w w' ∧ v = .bool (r.is)) := by
  have T : Kp0 w w := Kp.refl _ _
  refine calls_start Try.func45 rfl (n := 30) rfl rfl rfl ?_
  refine CW_seq ?_
  refine CW_reg rfl ?_
  refine OW_st rfl (Stp_box (l := [.int _ _, .slice _ _ _, .int _ _, .int _ _, .int _ _, .int _ _, .int _ _, .int _ _, .int _ _]) rfl rfl rfl ?_)
  intro b1 w1 hb1 hz1 E1 B1
  have L1 : _ ≤ b1 := Nat.le_trans T.size (Nat.le_of_eq hb1.symm)
  have T := T.keep0 E1
  replace B1 : Blk w1 b1 33 (Rg.cl r ao c) := B1
  refine OW_ev (Ev_c (.inr rfl)) rfl ?_
  refine OW_nil ?_
  refine CW_seq ?_
  refine CW_reg rfl ?_
  refine OW_ev (Ev_fieldAddr fld_33_0 rfl rfl) rfl ?_
  refine OW_ev (Ev_load one_3 rfl rfl (B1.ld (q := 0) rfl)) rfl ?_
  refine OW_ev (Ev_geq rfl rfl rfl) rfl ?_
  refine OW_ev (Ev_mvb (.inl rfl) rfl) rfl ?_
  refine OW_split (d := .tmp 6) rfl (fun c2 => ?_) (fun c2 => ?_)
  · have d2 := c2
    first | (with_reducible replace d2 := of_decide_eq_true d2) | (with_reducible replace d2 := bnt d2; try (with_reducible replace d2 := of_decide_eq_false d2)) | skip
    refine OW_yes rfl rfl rfl rfl c2 (Ev.stp (Ev_fieldAddr fld_33_0 rfl rfl) ?_)
    refine OW_yes rfl rfl rfl rfl c2 (Ev.stp (Ev_load one_3 rfl rfl (B1.ld (q := 0) rfl)) ?_)
    refine OW_yes rfl rfl rfl rfl c2 (Ev.stp (Ev_leq rfl rfl rfl) ?_)
    refine OW_ev (Ev_pickb_t rfl rfl c2 rfl) rfl ?_
    refine OW_ev (Ev_mvb (.inl rfl) rfl) rfl ?_
    refine OW_split (d := .tmp 11) rfl (fun c3 => ?_) (fun c3 => ?_)
    · have d3 := c3
      first | (with_reducible replace d3 := of_decide_eq_true d3) | (with_reducible replace d3 := bnt d3; try (with_reducible replace d3 := of_decide_eq_false d3)) | skip
      refine OW_yes rfl rfl rfl rfl c3 (Ev.stp (Ev_fieldAddr fld_33_1 rfl rfl) ?_)
      refine OW_yes rfl rfl rfl rfl c3 (Ev.stp (Ev_load one_26 rfl rfl (B1.ld (q := 1) rfl)) ?_)
      refine OW_yes rfl rfl rfl rfl c3 (Ev.stp (Ev_len und_26 rfl rfl) ?_)
      refine OW_yes rfl rfl rfl rfl c3 (Ev.stp (Ev_fieldAddr fld_33_0 rfl rfl) ?_)
      refine OW_yes rfl rfl rfl rfl c3 (Ev.stp (Ev_load one_3 rfl rfl (B1.ld (q := 0) rfl)) ?_)
      refine OW_yes rfl rfl rfl rfl c3 (Ev.stp (Ev_leq rfl rfl rfl) ?_)
      refine OW_ev (Ev_pickb_t rfl rfl c3 rfl) rfl ?_
      refine OW_ev (Ev_mvb (.inl rfl) rfl) rfl ?_
      refine OW_split (d := .tmp 19) rfl (fun c4 => ?_) (fun c4 => ?_)
      · have d4 := c4
        first | (with_reducible replace d4 := of_decide_eq_true d4) | (with_reducible replace d4 := bnt d4; try (with_reducible replace d4 := of_decide_eq_false d4)) | skip
        refine OW_yes rfl rfl rfl rfl c4 (Ev.stp (Ev_fieldAddr fld_33_2 rfl rfl) ?_)
        refine OW_yes rfl rfl rfl rfl c4 (Ev.stp (Ev_loadAgg (l := [.int _ _, .int _ _, .int _ _, .int _ _, .int _ _, .int _ _, .int _ _]) agg_31 rfl rfl (B1.sub 2 7 (Nat.le_of_ble_eq_true rfl)) rfl) ?_)
        refine OW_yes rfl rfl rfl rfl c4 (Ev.stp (Ev_build (l := [.int _ _, .int _ _, .int _ _, .int _ _, .int _ _, .int _ _, .int _ _]) plc_31 zero_31 rfl rfl rfl) ?_)
        refine OW_yes rfl rfl rfl rfl c4 (Ev.stp (Ev_eqS flat_31 rfl rfl rfl rfl rfl (Ent.eqL r.gap Ent.zero)) ?_)
        refine OW_yes rfl rfl rfl rfl c4 (Ev.stp (Ev_mvb (.inl rfl) rfl) ?_)
        refine OW_split (d := .tmp 24) rfl (fun c5 => ?_) (fun c5 => ?_)
        · have d5 := c5
          first | (with_reducible replace d5 := of_decide_eq_true d5) | (with_reducible replace d5 := bnt d5; try (with_reducible replace d5 := of_decide_eq_false d5)) | skip
          refine OW_no rfl rfl rfl rfl c5 ?_
          refine OW_no rfl rfl rfl rfl c5 ?_
          refine OW_no rfl rfl rfl rfl c5 ?_
          refine OW_yes rfl rfl rfl rfl c4 (Ev.stp (Ev_pickb_t rfl rfl c5 rfl) ?_)
          refine OW_ev (Ev_pickb_t rfl rfl c4 rfl) rfl ?_
          refine OW_ev (Ev_mvb (.inr rfl) rfl) rfl ?_
          refine OW_nil ?_
          refine CW_ret ?_
          refine ⟨rfl, _, (.tmp rfl .nil), ?_⟩
          exact ⟨T, vb rfl (by unfold Rg.is; first | rfl | (rw [Bool.eq_iff_iff]; simp_all; done) | (rw [Bool.eq_iff_iff]; simp_all; omega) | exact (decide_eq_false (by intro h; omega)).symm)⟩
        · have d5 := c5
          first | (with_reducible replace d5 := of_decide_eq_false d5) | (with_reducible replace d5 := bnf d5; try (with_reducible replace d5 := of_decide_eq_true d5)) | skip
          refine OW_yes rfl rfl rfl rfl c5 (Ev.stp (Ev_fieldAddr fld_33_2 rfl rfl) ?_)
          refine OW_yes rfl rfl rfl rfl c5 (Ev.stp (Ev_loadAgg (l := [.int _ _, .int _ _, .int _ _, .int _ _, .int _ _, .int _ _, .int _ _]) agg_31 rfl rfl (B1.sub 2 7 (Nat.le_of_ble_eq_true rfl)) rfl) ?_)
          refine OW_yes rfl rfl rfl rfl c5 (Stp_call ent_63 rfl rfl rfl (gapR_c _ r.gap) ?_)
          rintro _ w6 ⟨E6, rfl⟩
          have Z6 := E6.size
          have T := T.keep0 E6
          have B1 := B1.keep0 E6
          refine OW_yes rfl rfl rfl rfl c4 (Ev.stp (Ev_pickb_f rfl rfl c5 rfl) ?_)
          refine OW_ev (Ev_pickb_t rfl rfl c4 rfl) rfl ?_
          refine OW_ev (Ev_mvb (.inr rfl) rfl) rfl ?_
          refine OW_nil ?_
          refine CW_ret ?_
          refine ⟨rfl, _, (.tmp rfl .nil), ?_⟩
          exact ⟨T, vb rfl (by unfold Rg.is; first | rfl | (rw [Bool.eq_iff_iff]; simp_all; done) | (rw [Bool.eq_iff_iff]; simp_all; omega) | exact (decide_eq_false (by intro h; omega)).symm)⟩
      · have d4 := c4
        first | (with_reducible replace d4 := of_decide_eq_false d4) | (with_reducible replace d4 := bnf d4; try (with_reducible replace d4 := of_decide_eq_true d4)) | skip
        refine OW_no rfl rfl rfl rfl c4 ?_
        refine OW_no rfl rfl rfl rfl c4 ?_
        refine OW_no rfl rfl rfl rfl c4 ?_
        refine OW_no rfl rfl rfl rfl c4 ?_
        refine OW_no rfl rfl rfl rfl c4 ?_
        refine OW_noU rfl rfl rfl ?_
        refine OW_noU rfl rfl rfl ?_
        refine OW_noU rfl rfl rfl ?_
        refine OW_no rfl rfl rfl rfl c4 ?_
        refine OW_ev (Ev_pickb_f rfl rfl c4 rfl) rfl ?_
        refine OW_ev (Ev_mvb (.inr rfl) rfl) rfl ?_
        refine OW_nil ?_
        refine CW_ret ?_
        refine ⟨rfl, _, (.tmp rfl .nil), ?_⟩
        exact ⟨T, vb rfl (by unfold Rg.is; first | rfl | (rw [Bool.eq_iff_iff]; simp_all; done) | (rw [Bool.eq_iff_iff]; simp_all; omega) | exact (decide_eq_false (by intro h; omega)).symm)⟩
    · have d3 := c3
      first | (with_reducible replace d3 := of_decide_eq_false d3) | (with_reducible replace d3 := bnf d3; try (with_reducible replace d3 := of_decide_eq_true d3)) | skip
      refine OW_no rfl rfl rfl rfl c3 ?_
      refine OW_no rfl rfl rfl rfl c3 ?_
      refine OW_no rfl rfl rfl rfl c3 ?_
      refine OW_no rfl rfl rfl rfl c3 ?_
      refine OW_no rfl rfl rfl rfl c3 ?_
      refine OW_no rfl rfl rfl rfl c3 ?_
      refine OW_ev (Ev_pickb_f rfl rfl c3 rfl) rfl ?_
      refine OW_ev (Ev_mvb (.inl rfl) rfl) rfl ?_
      refine OW_no rfl rfl rfl rfl rfl ?_
      refine OW_no rfl rfl rfl rfl rfl ?_
      refine OW_no rfl rfl rfl rfl rfl ?_
      refine OW_no rfl rfl rfl rfl rfl ?_
      refine OW_no rfl rfl rfl rfl rfl ?_
      refine OW_noU rfl rfl rfl ?_
      refine OW_noU rfl rfl rfl ?_
      refine OW_noU rfl rfl rfl ?_
      refine OW_no rfl rfl rfl rfl rfl ?_
      refine OW_ev (Ev_pickb_f rfl rfl rfl rfl) rfl ?_
      refine OW_ev (Ev_mvb (.inr rfl) rfl) rfl ?_
      refine OW_nil ?_
      refine CW_ret ?_
      refine ⟨rfl, _, (.tmp rfl .nil), ?_⟩
      exact ⟨T, vb rfl (by unfold Rg.is; first | rfl | (rw [Bool.eq_iff_iff]; simp_all; done) | (rw [Bool.eq_iff_iff]; simp_all; omega) | exact (decide_eq_false (by intro h; omega)).symm)⟩
  · have d2 := c2
    first | (with_reducible replace d2 := of_decide_eq_false d2) | (with_reducible replace d2 := bnf d2; try (with_reducible replace d2 := of_decide_eq_true d2)) | skip
    refine OW_no rfl rfl rfl rfl c2 ?_
    refine OW_no rfl rfl rfl rfl c2 ?_
    refine OW_no rfl rfl rfl rfl c2 ?_
    refine OW_ev (Ev_pickb_f rfl rfl c2 rfl) rfl ?_
    refine OW_ev (Ev_mvb (.inl rfl) rfl) rfl ?_
    refine OW_no rfl rfl rfl rfl rfl ?_
    refine OW_no rfl rfl rfl rfl rfl ?_
    refine OW_no rfl rfl rfl rfl rfl ?_
    refine OW_no rfl rfl rfl rfl rfl ?_
    refine OW_no rfl rfl rfl rfl rfl ?_
    refine OW_no rfl rfl rfl rfl rfl ?_
    refine OW_ev (Ev_pickb_f rfl rfl rfl rfl) rfl ?_
    refine OW_ev (Ev_mvb (.inl rfl) rfl) rfl ?_
    refine OW_no rfl rfl rfl rfl rfl ?_
    refine OW_no rfl rfl rfl rfl rfl ?_
    refine OW_no rfl rfl rfl rfl rfl ?_
    refine OW_no rfl rfl rfl rfl rfl ?_
    refine OW_no rfl rfl rfl rfl rfl ?_
    refine OW_noU rfl rfl rfl ?_
    refine OW_noU rfl rfl rfl ?_
    refine OW_noU rfl rfl rfl ?_
    refine OW_no rfl rfl rfl rfl rfl ?_
    refine OW_ev (Ev_pickb_f rfl rfl rfl rfl) rfl ?_
    refine OW_ev (Ev_mvb (.inr rfl) rfl) rfl ?_
    refine OW_nil ?_
    refine CW_ret ?_
    refine ⟨rfl, _, (.tmp rfl .nil), ?_⟩
    exact ⟨T, vb rfl (by unfold Rg.is; first | rfl | (rw [Bool.eq_iff_iff]; simp_all; done) | (rw [Bool.eq_iff_iff]; simp_all; omega) | exact (decide_eq_false (by intro h; omega)).symm)⟩

theorem hasGap_c (w : World) (r : Rg) (ao : Option Addr) (c : Nat) : Calls Try.prog 32 #[.agg (Rg.cl r ao c).toArray] w (Ret fun v w' => Kp0 w w' ∧ v = .bool (r.hasGap)) := by
  have T : Kp0 w w := Kp.refl _ _
  refine calls_start Try.func32 rfl (n := 8) rfl rfl rfl ?_
  refine CW_seq ?_
  refine CW_reg rfl ?_
  refine OW_st rfl (Stp_box (l := [.int _ _, .slice _ _ _, .int _ _, .int _ _, .int _ _, .int _ _, .int _ _, .int _ _, .int _ _]) rfl rfl rfl ?_)
  intro b1 w1 hb1 hz1 E1 B1
  have L1 : _ ≤ b1 := Nat.le_trans T.size (Nat.le_of_eq hb1.symm)
  have T := T.keep0 E1
  replace B1 : Blk w1 b1 33 (Rg.cl r ao c) := B1
  refine OW_ev (Ev_c (.inr rfl)) rfl ?_
  refine OW_nil ?_
  refine CW_seq ?_
  refine CW_reg rfl ?_
  refine OW_ev (Ev_fieldAddr fld_33_2 rfl rfl) rfl ?_
  refine OW_ev (Ev_fieldAddr fld_31_1 rfl rfl) rfl ?_
  refine OW_ev (Ev_fieldAddr fld_29_4 rfl rfl) rfl ?_
  refine OW_ev (Ev_load one_3 rfl rfl (B1.ld (q := 7) rfl)) rfl ?_
  refine OW_ev (Ev_neq rfl rfl rfl) rfl ?_
  refine OW_ev (Ev_mvb (.inr rfl) rfl) rfl ?_
  refine OW_nil ?_
  refine CW_ret ?_
  refine ⟨rfl, _, (.tmp rfl .nil), ?_⟩
  exact ⟨T, vb rfl rfl⟩

end Go.Proofs.Ytiedmigdgelhkaa