/- The law AreaKeeps. -/
import Derived.Test.YthfelkjklnhdiaaArea7
namespace Go.Proofs.Ythfelkjklnhdiaa
open Go Go.RowKit Bx Go.Proofs

set_option maxRecDepth 10000 in
set_option maxHeartbeats 2000000 in
theorem keeps_bad1 {w : World} {many size fr wide at_ first : Int} {m c : List UInt8} (hbad : ¬ newOk many size) : Calls Try.prog 3 #[.int .i64 many, .int .i64 size, .int .i64 fr, .int .i64 wide, .int .i64 at_, St m, .int .i64 first, St c] w (Ret fun v w' => Kp0 w w' ∧ v = .bool (true)) := by
  have T : Kp0 w w := Kp.refl _ _
  refine calls_start Try.func3 rfl (n := 164) rfl rfl rfl ?_
  refine CW_seq ?_
  refine CW_reg rfl ?_
  refine OW_ev (Ev_c (.inr rfl)) rfl ?_
  refine OW_nil ?_
  refine CW_seq ?_
  refine CW_seq ?_
  refine CW_reg rfl ?_
  refine OW_ev (Ev_mvi (.inl rfl) rfl) rfl ?_
  refine OW_ev (Ev_gtr rfl rfl rfl) rfl ?_
  refine OW_ev (Ev_mvb (.inl rfl) rfl) rfl ?_
  refine OW_split (d := .tmp 30) rfl (fun c1 => ?_) (fun c1 => ?_)
  · have d1 := c1
    first | (with_reducible replace d1 := of_decide_eq_true d1) | (with_reducible replace d1 := bnt d1; try (with_reducible replace d1 := of_decide_eq_false d1)) | skip
    refine OW_no rfl rfl rfl rfl c1 ?_
    refine OW_no rfl rfl rfl rfl c1 ?_
    refine OW_no rfl rfl rfl rfl c1 ?_
    refine OW_ev (Ev_pickb_t rfl rfl c1 rfl) rfl ?_
    refine OW_ev (Ev_mvb (.inl rfl) rfl) rfl ?_
    refine OW_no rfl rfl rfl rfl rfl ?_
    refine OW_no rfl rfl rfl rfl rfl ?_
    refine OW_no rfl rfl rfl rfl rfl ?_
    refine OW_ev (Ev_pickb_t rfl rfl rfl rfl) rfl ?_
    refine OW_nil ?_
    refine CW_cond_t rfl rfl ?_
    refine CW_seq ?_
    refine CW_re [(0, .int _ _), (1, .int _ _), (2, .int _ _), (3, .int _ _), (4, .int _ _), (5, .string _), (6, .int _ _), (7, .string _), (16, .bool _)] ⟨rfl, rfl, rfl, rfl, rfl, rfl, rfl, rfl, rfl, trivial⟩ (fun g => ?_)
    refine CW_reg rfl ?_
    refine OW_ev (Ev_c (.inr rfl)) rfl ?_
    refine OW_nil ?_
    refine CW_ret ?_
    refine ⟨rfl, _, (.tmp rfl .nil), ?_⟩
    first | exact ⟨T, rfl⟩ | exact ⟨T, vb rfl (decide_eq_true rfl)⟩
  · have d1 := c1
    first | (with_reducible replace d1 := of_decide_eq_false d1) | (with_reducible replace d1 := bnf d1; try (with_reducible replace d1 := of_decide_eq_true d1)) | skip
    refine OW_yes rfl rfl rfl rfl c1 (Ev.stp (Ev_mvst (.inl rfl) rfl) ?_)
    refine OW_yes rfl rfl rfl rfl c1 (Ev.stp (Ev_lenSt und_9 rfl rfl) ?_)
    refine OW_yes rfl rfl rfl rfl c1 (Ev.stp (Ev_gtr rfl rfl rfl) ?_)
    refine OW_ev (Ev_pickb_f rfl rfl c1 rfl) rfl ?_
    refine OW_ev (Ev_mvb (.inl rfl) rfl) rfl ?_
    refine OW_split (d := .tmp 35) rfl (fun c2 => ?_) (fun c2 => ?_)
    · have d2 := c2
      first | (with_reducible replace d2 := of_decide_eq_true d2) | (with_reducible replace d2 := bnt d2; try (with_reducible replace d2 := of_decide_eq_false d2)) | skip
      refine OW_no rfl rfl rfl rfl c2 ?_
      refine OW_no rfl rfl rfl rfl c2 ?_
      refine OW_no rfl rfl rfl rfl c2 ?_
      refine OW_ev (Ev_pickb_t rfl rfl c2 rfl) rfl ?_
      refine OW_nil ?_
      refine CW_cond_t rfl rfl ?_
      refine CW_seq ?_
      refine CW_re [(0, .int _ _), (1, .int _ _), (2, .int _ _), (3, .int _ _), (4, .int _ _), (5, .string _), (6, .int _ _), (7, .string _), (16, .bool _)] ⟨rfl, rfl, rfl, rfl, rfl, rfl, rfl, rfl, rfl, trivial⟩ (fun g => ?_)
      refine CW_reg rfl ?_
      refine OW_ev (Ev_c (.inr rfl)) rfl ?_
      refine OW_nil ?_
      refine CW_ret ?_
      refine ⟨rfl, _, (.tmp rfl .nil), ?_⟩
      first | exact ⟨T, rfl⟩ | exact ⟨T, vb rfl (decide_eq_true rfl)⟩
    · have d2 := c2
      first | (with_reducible replace d2 := of_decide_eq_false d2) | (with_reducible replace d2 := bnf d2; try (with_reducible replace d2 := of_decide_eq_true d2)) | skip
      refine OW_yes rfl rfl rfl rfl c2 (Ev.stp (Ev_mvst (.inl rfl) rfl) ?_)
      refine OW_yes rfl rfl rfl rfl c2 (Ev.stp (Ev_lenSt und_9 rfl rfl) ?_)
      refine OW_yes rfl rfl rfl rfl c2 (Ev.stp (Ev_gtr rfl rfl rfl) ?_)
      refine OW_ev (Ev_pickb_f rfl rfl c2 rfl) rfl ?_
      refine OW_nil ?_
      refine CW_cond rfl (fun c3 => ?_) (fun c3 => ?_)
      · have d3 := c3
        first | (with_reducible replace d3 := of_decide_eq_true d3) | (with_reducible replace d3 := bnt d3; try (with_reducible replace d3 := of_decide_eq_false d3)) | skip
        refine CW_seq ?_
        refine CW_re [(0, .int _ _), (1, .int _ _), (2, .int _ _), (3, .int _ _), (4, .int _ _), (5, .string _), (6, .int _ _), (7, .string _), (16, .bool _)] ⟨rfl, rfl, rfl, rfl, rfl, rfl, rfl, rfl, rfl, trivial⟩ (fun g => ?_)
        refine CW_reg rfl ?_
        refine OW_ev (Ev_c (.inr rfl)) rfl ?_
        refine OW_nil ?_
        refine CW_ret ?_
        refine ⟨rfl, _, (.tmp rfl .nil), ?_⟩
        first | exact ⟨T, rfl⟩ | exact ⟨T, vb rfl (decide_eq_true rfl)⟩
      · have d3 := c3
        first | (with_reducible replace d3 := of_decide_eq_false d3) | (with_reducible replace d3 := bnf d3; try (with_reducible replace d3 := of_decide_eq_true d3)) | skip
        have hb1 : m.length ≤ 10000 := by omega
        have hb2 : c.length ≤ 10000 := by omega
        refine CW_skip ?_
        refine CW_seq ?_
        refine CW_re [(0, .int _ _), (1, .int _ _), (2, .int _ _), (3, .int _ _), (4, .int _ _), (5, .string _), (6, .int _ _), (7, .string _), (16, .bool _)] ⟨rfl, rfl, rfl, rfl, rfl, rfl, rfl, rfl, rfl, trivial⟩ (fun g => ?_)
        refine CW_reg rfl ?_
        refine OW_ev (Ev_mvi (.inl rfl) rfl) rfl ?_
        refine OW_ev (Ev_mvi (.inl rfl) rfl) rfl ?_
        refine OW_st rfl (Stp_call ent_8 rfl rfl rfl (snew_bad hbad) ?_)
        rintro _ w4 ⟨E4, rfl⟩
        have Z4 := E4.size
        have T := T.keep0 E4
        refine OW_ev (Ev_mvt (.inl rfl) rfl) rfl ?_
        refine OW_ev (Ev_extract (vs := _) rfl rfl rfl) rfl ?_
        refine OW_ev (Ev_extract (vs := _) rfl rfl rfl) rfl ?_
        refine OW_ev (Ev_mvp (.inr rfl) rfl) rfl ?_
        refine OW_ev (Ev_mvi (.inr rfl) rfl) rfl ?_
        refine OW_nil ?_
        refine CW_seq ?_
        refine CW_reg rfl ?_
        refine OW_ev (Ev_mvp (.inl rfl) rfl) rfl ?_
        refine OW_ev (Ev_mvi (.inl rfl) rfl) rfl ?_
        refine OW_ev (Ev_mvi (.inl rfl) rfl) rfl ?_
        refine OW_st rfl (Stp_call ent_9 rfl rfl rfl (anew_nil _ _ _) ?_)
        rintro _ w5 ⟨E5, rfl⟩
        have Z5 := E5.size
        have T := T.keep0 E5
        refine OW_ev (Ev_mvt (.inl rfl) rfl) rfl ?_
        refine OW_ev (Ev_extract (vs := _) rfl rfl rfl) rfl ?_
        refine OW_ev (Ev_extract (vs := _) rfl rfl rfl) rfl ?_
        refine OW_ev (Ev_mvp (.inr rfl) rfl) rfl ?_
        refine OW_ev (Ev_mvi (.inr rfl) rfl) rfl ?_
        refine OW_nil ?_
        refine CW_seq ?_
        refine CW_seq ?_
        refine CW_re [(1, .int _ _), (2, .int _ _), (4, .int _ _), (5, .string _), (6, .int _ _), (7, .string _), (16, .bool _), (17, .pointer _), (18, .int _ _), (19, .pointer _), (20, .int _ _)] ⟨rfl, rfl, rfl, rfl, rfl, rfl, rfl, rfl, rfl, rfl, rfl, trivial⟩ (fun g => ?_)
        refine CW_reg rfl ?_
        refine OW_ev (Ev_mvi (.inl rfl) rfl) rfl ?_
        refine OW_ev (Ev_neq rfl rfl rfl) rfl ?_
        refine OW_ev (Ev_mvb (.inl rfl) rfl) rfl ?_
        refine OW_split (d := .tmp 55) rfl (fun c6 => ?_) (fun c6 => ?_)
        · have d6 := c6
          first | (with_reducible replace d6 := of_decide_eq_true d6) | (with_reducible replace d6 := bnt d6; try (with_reducible replace d6 := of_decide_eq_false d6)) | skip
          refine OW_no rfl rfl rfl rfl c6 ?_
          refine OW_no rfl rfl rfl rfl c6 ?_
          refine OW_ev (Ev_pickb_t rfl rfl c6 rfl) rfl ?_
          refine OW_ev (Ev_mvb (.inl rfl) rfl) rfl ?_
          refine OW_no rfl rfl rfl rfl rfl ?_
          refine OW_no rfl rfl rfl rfl rfl ?_
          refine OW_ev (Ev_pickb_t rfl rfl rfl rfl) rfl ?_
          refine OW_nil ?_
          refine CW_cond_t rfl rfl ?_
          refine CW_seq ?_
          refine CW_re [(1, .int _ _), (2, .int _ _), (4, .int _ _), (5, .string _), (6, .int _ _), (7, .string _), (16, .bool _), (17, .pointer _), (19, .pointer _)] ⟨rfl, rfl, rfl, rfl, rfl, rfl, rfl, rfl, rfl, trivial⟩ (fun g => ?_)
          refine CW_reg rfl ?_
          refine OW_st rfl (Stp_call ent_10 rfl rfl rfl (placed_c _) ?_)
          rintro _ w7 ⟨E7, rfl⟩
          have Z7 := E7.size
          have T := T.keep0 E7
          refine OW_ev (Ev_mvb (.inr rfl) rfl) rfl ?_
          refine OW_nil ?_
          refine CW_ret ?_
          refine ⟨rfl, _, (.tmp rfl .nil), ?_⟩
          first | exact ⟨T, rfl⟩ | exact ⟨T, vb rfl (decide_eq_true rfl)⟩
        · have d6 := c6
          first | (with_reducible replace d6 := of_decide_eq_false d6) | (with_reducible replace d6 := bnf d6; try (with_reducible replace d6 := of_decide_eq_true d6)) | skip
          exact absurd (by decide) d6

set_option maxRecDepth 10000 in
set_option maxHeartbeats 2000000 in
theorem keeps_bad2 {w : World} {mn s : Nat} {fr wide at_ first : Int} {m c : List UInt8} (hok : newOk mn s) (hbad : ∀ bl bm, ¬ fit (DkM.new mn s bl bm) fr wide) : Calls Try.prog 3 #[.int .i64 (mn : Int), .int .i64 (s : Int), .int .i64 fr, .int .i64 wide, .int .i64 at_, St m, .int .i64 first, St c] w (Ret fun v w' => Kp0 w w' ∧ v = .bool (true)) := by
  have T : Kp0 w w := Kp.refl _ _
  refine calls_start Try.func3 rfl (n := 164) rfl rfl rfl ?_
  refine CW_seq ?_
  refine CW_reg rfl ?_
  refine OW_ev (Ev_c (.inr rfl)) rfl ?_
  refine OW_nil ?_
  refine CW_seq ?_
  refine CW_seq ?_
  refine CW_reg rfl ?_
  refine OW_ev (Ev_mvi (.inl rfl) rfl) rfl ?_
  refine OW_ev (Ev_gtr rfl rfl rfl) rfl ?_
  refine OW_ev (Ev_mvb (.inl rfl) rfl) rfl ?_
  refine OW_split (d := .tmp 30) rfl (fun c1 => ?_) (fun c1 => ?_)
  · have d1 := c1
    first | (with_reducible replace d1 := of_decide_eq_true d1) | (with_reducible replace d1 := bnt d1; try (with_reducible replace d1 := of_decide_eq_false d1)) | skip
    refine OW_no rfl rfl rfl rfl c1 ?_
    refine OW_no rfl rfl rfl rfl c1 ?_
    refine OW_no rfl rfl rfl rfl c1 ?_
    refine OW_ev (Ev_pickb_t rfl rfl c1 rfl) rfl ?_
    refine OW_ev (Ev_mvb (.inl rfl) rfl) rfl ?_
    refine OW_no rfl rfl rfl rfl rfl ?_
    refine OW_no rfl rfl rfl rfl rfl ?_
    refine OW_no rfl rfl rfl rfl rfl ?_
    refine OW_ev (Ev_pickb_t rfl rfl rfl rfl) rfl ?_
    refine OW_nil ?_
    refine CW_cond_t rfl rfl ?_
    refine CW_seq ?_
    refine CW_re [(0, .int _ _), (1, .int _ _), (2, .int _ _), (3, .int _ _), (4, .int _ _), (5, .string _), (6, .int _ _), (7, .string _), (16, .bool _)] ⟨rfl, rfl, rfl, rfl, rfl, rfl, rfl, rfl, rfl, trivial⟩ (fun g => ?_)
    refine CW_reg rfl ?_
    refine OW_ev (Ev_c (.inr rfl)) rfl ?_
    refine OW_nil ?_
    refine CW_ret ?_
    refine ⟨rfl, _, (.tmp rfl .nil), ?_⟩
    first | exact ⟨T, rfl⟩ | exact ⟨T, vb rfl (decide_eq_true rfl)⟩
  · have d1 := c1
    first | (with_reducible replace d1 := of_decide_eq_false d1) | (with_reducible replace d1 := bnf d1; try (with_reducible replace d1 := of_decide_eq_true d1)) | skip
    refine OW_yes rfl rfl rfl rfl c1 (Ev.stp (Ev_mvst (.inl rfl) rfl) ?_)
    refine OW_yes rfl rfl rfl rfl c1 (Ev.stp (Ev_lenSt und_9 rfl rfl) ?_)
    refine OW_yes rfl rfl rfl rfl c1 (Ev.stp (Ev_gtr rfl rfl rfl) ?_)
    refine OW_ev (Ev_pickb_f rfl rfl c1 rfl) rfl ?_
    refine OW_ev (Ev_mvb (.inl rfl) rfl) rfl ?_
    refine OW_split (d := .tmp 35) rfl (fun c2 => ?_) (fun c2 => ?_)
    · have d2 := c2
      first | (with_reducible replace d2 := of_decide_eq_true d2) | (with_reducible replace d2 := bnt d2; try (with_reducible replace d2 := of_decide_eq_false d2)) | skip
      refine OW_no rfl rfl rfl rfl c2 ?_
      refine OW_no rfl rfl rfl rfl c2 ?_
      refine OW_no rfl rfl rfl rfl c2 ?_
      refine OW_ev (Ev_pickb_t rfl rfl c2 rfl) rfl ?_
      refine OW_nil ?_
      refine CW_cond_t rfl rfl ?_
      refine CW_seq ?_
      refine CW_re [(0, .int _ _), (1, .int _ _), (2, .int _ _), (3, .int _ _), (4, .int _ _), (5, .string _), (6, .int _ _), (7, .string _), (16, .bool _)] ⟨rfl, rfl, rfl, rfl, rfl, rfl, rfl, rfl, rfl, trivial⟩ (fun g => ?_)
      refine CW_reg rfl ?_
      refine OW_ev (Ev_c (.inr rfl)) rfl ?_
      refine OW_nil ?_
      refine CW_ret ?_
      refine ⟨rfl, _, (.tmp rfl .nil), ?_⟩
      first | exact ⟨T, rfl⟩ | exact ⟨T, vb rfl (decide_eq_true rfl)⟩
    · have d2 := c2
      first | (with_reducible replace d2 := of_decide_eq_false d2) | (with_reducible replace d2 := bnf d2; try (with_reducible replace d2 := of_decide_eq_true d2)) | skip
      refine OW_yes rfl rfl rfl rfl c2 (Ev.stp (Ev_mvst (.inl rfl) rfl) ?_)
      refine OW_yes rfl rfl rfl rfl c2 (Ev.stp (Ev_lenSt und_9 rfl rfl) ?_)
      refine OW_yes rfl rfl rfl rfl c2 (Ev.stp (Ev_gtr rfl rfl rfl) ?_)
      refine OW_ev (Ev_pickb_f rfl rfl c2 rfl) rfl ?_
      refine OW_nil ?_
      refine CW_cond rfl (fun c3 => ?_) (fun c3 => ?_)
      · have d3 := c3
        first | (with_reducible replace d3 := of_decide_eq_true d3) | (with_reducible replace d3 := bnt d3; try (with_reducible replace d3 := of_decide_eq_false d3)) | skip
        refine CW_seq ?_
        refine CW_re [(0, .int _ _), (1, .int _ _), (2, .int _ _), (3, .int _ _), (4, .int _ _), (5, .string _), (6, .int _ _), (7, .string _), (16, .bool _)] ⟨rfl, rfl, rfl, rfl, rfl, rfl, rfl, rfl, rfl, trivial⟩ (fun g => ?_)
        refine CW_reg rfl ?_
        refine OW_ev (Ev_c (.inr rfl)) rfl ?_
        refine OW_nil ?_
        refine CW_ret ?_
        refine ⟨rfl, _, (.tmp rfl .nil), ?_⟩
        first | exact ⟨T, rfl⟩ | exact ⟨T, vb rfl (decide_eq_true rfl)⟩
      · have d3 := c3
        first | (with_reducible replace d3 := of_decide_eq_false d3) | (with_reducible replace d3 := bnf d3; try (with_reducible replace d3 := of_decide_eq_true d3)) | skip
        have hb1 : m.length ≤ 10000 := by omega
        have hb2 : c.length ≤ 10000 := by omega
        refine CW_skip ?_
        refine CW_seq ?_
        refine CW_re [(0, .int _ _), (1, .int _ _), (2, .int _ _), (3, .int _ _), (4, .int _ _), (5, .string _), (6, .int _ _), (7, .string _), (16, .bool _)] ⟨rfl, rfl, rfl, rfl, rfl, rfl, rfl, rfl, rfl, trivial⟩ (fun g => ?_)
        refine CW_reg rfl ?_
        refine OW_ev (Ev_mvi (.inl rfl) rfl) rfl ?_
        refine OW_ev (Ev_mvi (.inl rfl) rfl) rfl ?_
        refine OW_st rfl (Stp_call ent_8 rfl rfl rfl (snew_ok hok) ?_)
        rintro _ w4 ⟨E4, bd, bl, bm, rfl, hbd, HS0⟩
        have Z4 := E4.size
        have T := T.keep0 E4
        refine OW_ev (Ev_mvt (.inl rfl) rfl) rfl ?_
        refine OW_ev (Ev_extract (vs := _) rfl rfl rfl) rfl ?_
        refine OW_ev (Ev_extract (vs := _) rfl rfl rfl) rfl ?_
        refine OW_ev (Ev_mvp (.inr rfl) rfl) rfl ?_
        refine OW_ev (Ev_mvi (.inr rfl) rfl) rfl ?_
        refine OW_nil ?_
        refine CW_seq ?_
        refine CW_reg rfl ?_
        refine OW_ev (Ev_mvp (.inl rfl) rfl) rfl ?_
        refine OW_ev (Ev_mvi (.inl rfl) rfl) rfl ?_
        refine OW_ev (Ev_mvi (.inl rfl) rfl) rfl ?_
        refine OW_st rfl (Stp_call ent_9 rfl rfl rfl (anew_bad HS0 (hbad bl bm)) ?_)
        rintro _ w5 ⟨E5, rfl⟩
        have Z5 := E5.size
        have T := T.keep0 E5
        have HS0 := HS0.keep0 E5
        refine OW_ev (Ev_mvt (.inl rfl) rfl) rfl ?_
        refine OW_ev (Ev_extract (vs := _) rfl rfl rfl) rfl ?_
        refine OW_ev (Ev_extract (vs := _) rfl rfl rfl) rfl ?_
        refine OW_ev (Ev_mvp (.inr rfl) rfl) rfl ?_
        refine OW_ev (Ev_mvi (.inr rfl) rfl) rfl ?_
        refine OW_nil ?_
        refine CW_seq ?_
        refine CW_seq ?_
        refine CW_re [(1, .int _ _), (2, .int _ _), (4, .int _ _), (5, .string _), (6, .int _ _), (7, .string _), (16, .bool _), (17, .pointer _), (18, .int _ _), (19, .pointer _), (20, .int _ _)] ⟨rfl, rfl, rfl, rfl, rfl, rfl, rfl, rfl, rfl, rfl, rfl, trivial⟩ (fun g => ?_)
        refine CW_reg rfl ?_
        refine OW_ev (Ev_mvi (.inl rfl) rfl) rfl ?_
        refine OW_ev (Ev_neq rfl rfl rfl) rfl ?_
        refine OW_ev (Ev_mvb (.inl rfl) rfl) rfl ?_
        refine OW_split (d := .tmp 55) rfl (fun c6 => ?_) (fun c6 => ?_)
        · have d6 := c6
          first | (with_reducible replace d6 := of_decide_eq_true d6) | (with_reducible replace d6 := bnt d6; try (with_reducible replace d6 := of_decide_eq_false d6)) | skip
          exact absurd rfl d6
        · have d6 := c6
          first | (with_reducible replace d6 := of_decide_eq_false d6) | (with_reducible replace d6 := bnf d6; try (with_reducible replace d6 := of_decide_eq_true d6)) | skip
          refine OW_yes rfl rfl rfl rfl c6 (Ev.stp (Ev_mvi (.inl rfl) rfl) ?_)
          refine OW_yes rfl rfl rfl rfl c6 (Ev.stp (Ev_neq rfl rfl rfl) ?_)
          refine OW_ev (Ev_pickb_f rfl rfl c6 rfl) rfl ?_
          refine OW_ev (Ev_mvb (.inl rfl) rfl) rfl ?_
          refine OW_split (d := .tmp 59) rfl (fun c7 => ?_) (fun c7 => ?_)
          · have d7 := c7
            first | (with_reducible replace d7 := of_decide_eq_true d7) | (with_reducible replace d7 := bnt d7; try (with_reducible replace d7 := of_decide_eq_false d7)) | skip
            refine OW_no rfl rfl rfl rfl c7 ?_
            refine OW_no rfl rfl rfl rfl c7 ?_
            refine OW_ev (Ev_pickb_t rfl rfl c7 rfl) rfl ?_
            refine OW_nil ?_
            refine CW_cond_t rfl rfl ?_
            refine CW_seq ?_
            refine CW_re [(1, .int _ _), (2, .int _ _), (4, .int _ _), (5, .string _), (6, .int _ _), (7, .string _), (16, .bool _), (17, .pointer _), (19, .pointer _)] ⟨rfl, rfl, rfl, rfl, rfl, rfl, rfl, rfl, rfl, trivial⟩ (fun g => ?_)
            refine CW_reg rfl ?_
            refine OW_st rfl (Stp_call ent_10 rfl rfl rfl (placed_c _) ?_)
            rintro _ w8 ⟨E8, rfl⟩
            have Z8 := E8.size
            have T := T.keep0 E8
            have HS0 := HS0.keep0 E8
            refine OW_ev (Ev_mvb (.inr rfl) rfl) rfl ?_
            refine OW_nil ?_
            refine CW_ret ?_
            refine ⟨rfl, _, (.tmp rfl .nil), ?_⟩
            first | exact ⟨T, rfl⟩ | exact ⟨T, vb rfl (decide_eq_true rfl)⟩
          · have d7 := c7
            first | (with_reducible replace d7 := of_decide_eq_false d7) | (with_reducible replace d7 := bnf d7; try (with_reducible replace d7 := of_decide_eq_true d7)) | skip
            exact absurd (by decide) d7

set_option maxRecDepth 10000 in
set_option maxHeartbeats 2000000 in
theorem keeps_ok {w : World} {mn s f wd : Nat} {at_ first : Int} {m c : List UInt8} (hok : newOk mn s) (hfit : ∀ bl bm, fit (DkM.new mn s bl bm) f wd) : Calls Try.prog 3 #[.int .i64 (mn : Int), .int .i64 (s : Int), .int .i64 (f : Int), .int .i64 (wd : Int), .int .i64 at_, St m, .int .i64 first, St c] w (Ret fun v w' => Kp0 w w' ∧ v = .bool (true)) := by
  obtain ⟨NW, hNW⟩ : ∃ x, x = w.heap.size := ⟨_, rfl⟩
  have T : Kp0 w w := Kp.refl _ _
  refine calls_start Try.func3 rfl (n := 164) rfl rfl rfl ?_
  refine CW_seq ?_
  refine CW_reg rfl ?_
  refine OW_ev (Ev_c (.inr rfl)) rfl ?_
  refine OW_nil ?_
  refine CW_seq ?_
  refine CW_seq ?_
  refine CW_reg rfl ?_
  refine OW_ev (Ev_mvi (.inl rfl) rfl) rfl ?_
  refine OW_ev (Ev_gtr rfl rfl rfl) rfl ?_
  refine OW_ev (Ev_mvb (.inl rfl) rfl) rfl ?_
  refine OW_split (d := .tmp 30) rfl (fun c1 => ?_) (fun c1 => ?_)
  · have d1 := c1
    first | (with_reducible replace d1 := of_decide_eq_true d1) | (with_reducible replace d1 := bnt d1; try (with_reducible replace d1 := of_decide_eq_false d1)) | skip
    refine OW_no rfl rfl rfl rfl c1 ?_
    refine OW_no rfl rfl rfl rfl c1 ?_
    refine OW_no rfl rfl rfl rfl c1 ?_
    refine OW_ev (Ev_pickb_t rfl rfl c1 rfl) rfl ?_
    refine OW_ev (Ev_mvb (.inl rfl) rfl) rfl ?_
    refine OW_no rfl rfl rfl rfl rfl ?_
    refine OW_no rfl rfl rfl rfl rfl ?_
    refine OW_no rfl rfl rfl rfl rfl ?_
    refine OW_ev (Ev_pickb_t rfl rfl rfl rfl) rfl ?_
    refine OW_nil ?_
    refine CW_cond_t rfl rfl ?_
    refine CW_seq ?_
    refine CW_re [(0, .int _ _), (1, .int _ _), (2, .int _ _), (3, .int _ _), (4, .int _ _), (5, .string _), (6, .int _ _), (7, .string _), (16, .bool _)] ⟨rfl, rfl, rfl, rfl, rfl, rfl, rfl, rfl, rfl, trivial⟩ (fun g => ?_)
    refine CW_reg rfl ?_
    refine OW_ev (Ev_c (.inr rfl)) rfl ?_
    refine OW_nil ?_
    refine CW_ret ?_
    refine ⟨rfl, _, (.tmp rfl .nil), ?_⟩
    first | exact ⟨T, rfl⟩ | exact ⟨T, vb rfl (decide_eq_true (by rw [eV5, hV3, show f * s + a + m.length - (f * s + a) = m.length by omega]; exact putL_mid hq))⟩ | exact ⟨T, vb rfl (decide_eq_true (by rw [eV5, eV3, eV2]))⟩
  · have d1 := c1
    first | (with_reducible replace d1 := of_decide_eq_false d1) | (with_reducible replace d1 := bnf d1; try (with_reducible replace d1 := of_decide_eq_true d1)) | skip
    refine OW_yes rfl rfl rfl rfl c1 (Ev.stp (Ev_mvst (.inl rfl) rfl) ?_)
    refine OW_yes rfl rfl rfl rfl c1 (Ev.stp (Ev_lenSt und_9 rfl rfl) ?_)
    refine OW_yes rfl rfl rfl rfl c1 (Ev.stp (Ev_gtr rfl rfl rfl) ?_)
    refine OW_ev (Ev_pickb_f rfl rfl c1 rfl) rfl ?_
    refine OW_ev (Ev_mvb (.inl rfl) rfl) rfl ?_
    refine OW_split (d := .tmp 35) rfl (fun c2 => ?_) (fun c2 => ?_)
    · have d2 := c2
      first | (with_reducible replace d2 := of_decide_eq_true d2) | (with_reducible replace d2 := bnt d2; try (with_reducible replace d2 := of_decide_eq_false d2)) | skip
      refine OW_no rfl rfl rfl rfl c2 ?_
      refine OW_no rfl rfl rfl rfl c2 ?_
      refine OW_no rfl rfl rfl rfl c2 ?_
      refine OW_ev (Ev_pickb_t rfl rfl c2 rfl) rfl ?_
      refine OW_nil ?_
      refine CW_cond_t rfl rfl ?_
      refine CW_seq ?_
      refine CW_re [(0, .int _ _), (1, .int _ _), (2, .int _ _), (3, .int _ _), (4, .int _ _), (5, .string _), (6, .int _ _), (7, .string _), (16, .bool _)] ⟨rfl, rfl, rfl, rfl, rfl, rfl, rfl, rfl, rfl, trivial⟩ (fun g => ?_)
      refine CW_reg rfl ?_
      refine OW_ev (Ev_c (.inr rfl)) rfl ?_
      refine OW_nil ?_
      refine CW_ret ?_
      refine ⟨rfl, _, (.tmp rfl .nil), ?_⟩
      first | exact ⟨T, rfl⟩ | exact ⟨T, vb rfl (decide_eq_true (by rw [eV5, hV3, show f * s + a + m.length - (f * s + a) = m.length by omega]; exact putL_mid hq))⟩ | exact ⟨T, vb rfl (decide_eq_true (by rw [eV5, eV3, eV2]))⟩
    · have d2 := c2
      first | (with_reducible replace d2 := of_decide_eq_false d2) | (with_reducible replace d2 := bnf d2; try (with_reducible replace d2 := of_decide_eq_true d2)) | skip
      refine OW_yes rfl rfl rfl rfl c2 (Ev.stp (Ev_mvst (.inl rfl) rfl) ?_)
      refine OW_yes rfl rfl rfl rfl c2 (Ev.stp (Ev_lenSt und_9 rfl rfl) ?_)
      refine OW_yes rfl rfl rfl rfl c2 (Ev.stp (Ev_gtr rfl rfl rfl) ?_)
      refine OW_ev (Ev_pickb_f rfl rfl c2 rfl) rfl ?_
      refine OW_nil ?_
      refine CW_cond rfl (fun c3 => ?_) (fun c3 => ?_)
      · have d3 := c3
        first | (with_reducible replace d3 := of_decide_eq_true d3) | (with_reducible replace d3 := bnt d3; try (with_reducible replace d3 := of_decide_eq_false d3)) | skip
        refine CW_seq ?_
        refine CW_re [(0, .int _ _), (1, .int _ _), (2, .int _ _), (3, .int _ _), (4, .int _ _), (5, .string _), (6, .int _ _), (7, .string _), (16, .bool _)] ⟨rfl, rfl, rfl, rfl, rfl, rfl, rfl, rfl, rfl, trivial⟩ (fun g => ?_)
        refine CW_reg rfl ?_
        refine OW_ev (Ev_c (.inr rfl)) rfl ?_
        refine OW_nil ?_
        refine CW_ret ?_
        refine ⟨rfl, _, (.tmp rfl .nil), ?_⟩
        first | exact ⟨T, rfl⟩ | exact ⟨T, vb rfl (decide_eq_true (by rw [eV5, hV3, show f * s + a + m.length - (f * s + a) = m.length by omega]; exact putL_mid hq))⟩ | exact ⟨T, vb rfl (decide_eq_true (by rw [eV5, eV3, eV2]))⟩
      · have d3 := c3
        first | (with_reducible replace d3 := of_decide_eq_false d3) | (with_reducible replace d3 := bnf d3; try (with_reducible replace d3 := of_decide_eq_true d3)) | skip
        have hb1 : m.length ≤ 10000 := by omega
        have hb2 : c.length ≤ 10000 := by omega
        refine CW_skip ?_
        refine CW_seq ?_
        refine CW_re [(0, .int _ _), (1, .int _ _), (2, .int _ _), (3, .int _ _), (4, .int _ _), (5, .string _), (6, .int _ _), (7, .string _), (16, .bool _)] ⟨rfl, rfl, rfl, rfl, rfl, rfl, rfl, rfl, rfl, trivial⟩ (fun g => ?_)
        refine CW_reg rfl ?_
        refine OW_ev (Ev_mvi (.inl rfl) rfl) rfl ?_
        refine OW_ev (Ev_mvi (.inl rfl) rfl) rfl ?_
        refine OW_st rfl (Stp_call ent_8 rfl rfl rfl (snew_ok hok) ?_)
        rintro _ w4 ⟨E4, bd, bl, bm, rfl, hbd, HS0⟩
        have Z4 := E4.size
        have T := T.keep0 E4
        obtain ⟨d0, hd0⟩ : ∃ x, x = DkM.new mn s bl bm := ⟨_, rfl⟩
        rw [← hd0] at HS0
        have em : d0.many = mn := by rw [hd0]; rfl
        have es : d0.size = s := by rw [hd0]; rfl
        have ec : calm d0.g := by rw [hd0]; exact new_calm _ _ _ _
        have ep : d0.ps = [] := by rw [hd0]; rfl
        refine OW_ev (Ev_mvt (.inl rfl) rfl) rfl ?_
        refine OW_ev (Ev_extract (vs := _) rfl rfl rfl) rfl ?_
        refine OW_ev (Ev_extract (vs := _) rfl rfl rfl) rfl ?_
        refine OW_ev (Ev_mvp (.inr rfl) rfl) rfl ?_
        refine OW_ev (Ev_mvi (.inr rfl) rfl) rfl ?_
        refine OW_nil ?_
        refine CW_seq ?_
        refine CW_reg rfl ?_
        refine OW_ev (Ev_mvp (.inl rfl) rfl) rfl ?_
        refine OW_ev (Ev_mvi (.inl rfl) rfl) rfl ?_
        refine OW_ev (Ev_mvi (.inl rfl) rfl) rfl ?_
        have HB0 := HS0.bound
        refine OW_st rfl (Stp_call ent_9 rfl rfl rfl (anew_ok (f := f) (m := wd) HS0 (by rw [hd0]; exact hfit bl bm)) ?_)
        rintro _ w5 ⟨E5, ba, rfl, hba, hA⟩
        have Z5 := E5.size
        have T := T.keep0 E5
        have hS := (HB0.keep0 E5).mono (E := (fun b => NW ≤ b ∧ b ≠ ba)) (fun b h => ⟨by have := h.1; omega, by have := h.2; omega⟩)
        have hal := hA.lt
        rw [es] at hA
        have hfm : f + wd ≤ d0.many := by have := hfit bl bm; rw [← hd0] at this; unfold fit at this; omega
        refine OW_ev (Ev_mvt (.inl rfl) rfl) rfl ?_
        refine OW_ev (Ev_extract (vs := _) rfl rfl rfl) rfl ?_
        refine OW_ev (Ev_extract (vs := _) rfl rfl rfl) rfl ?_
        refine OW_ev (Ev_mvp (.inr rfl) rfl) rfl ?_
        refine OW_ev (Ev_mvi (.inr rfl) rfl) rfl ?_
        refine OW_nil ?_
        refine CW_seq ?_
        refine CW_seq ?_
        refine CW_re [(1, .int _ _), (2, .int _ _), (4, .int _ _), (5, .string _), (6, .int _ _), (7, .string _), (16, .bool _), (17, .pointer _), (18, .int _ _), (19, .pointer _), (20, .int _ _)] ⟨rfl, rfl, rfl, rfl, rfl, rfl, rfl, rfl, rfl, rfl, rfl, trivial⟩ (fun g => ?_)
        refine CW_reg rfl ?_
        refine OW_ev (Ev_mvi (.inl rfl) rfl) rfl ?_
        refine OW_ev (Ev_neq rfl rfl rfl) rfl ?_
        refine OW_ev (Ev_mvb (.inl rfl) rfl) rfl ?_
        refine OW_split (d := .tmp 55) rfl (fun c6 => ?_) (fun c6 => ?_)
        · have d6 := c6
          first | (with_reducible replace d6 := of_decide_eq_true d6) | (with_reducible replace d6 := bnt d6; try (with_reducible replace d6 := of_decide_eq_false d6)) | skip
          exact absurd rfl d6
        · have d6 := c6
          first | (with_reducible replace d6 := of_decide_eq_false d6) | (with_reducible replace d6 := bnf d6; try (with_reducible replace d6 := of_decide_eq_true d6)) | skip
          refine OW_yes rfl rfl rfl rfl c6 (Ev.stp (Ev_mvi (.inl rfl) rfl) ?_)
          refine OW_yes rfl rfl rfl rfl c6 (Ev.stp (Ev_neq rfl rfl rfl) ?_)
          refine OW_ev (Ev_pickb_f rfl rfl c6 rfl) rfl ?_
          refine OW_ev (Ev_mvb (.inl rfl) rfl) rfl ?_
          refine OW_split (d := .tmp 59) rfl (fun c7 => ?_) (fun c7 => ?_)
          · have d7 := c7
            first | (with_reducible replace d7 := of_decide_eq_true d7) | (with_reducible replace d7 := bnt d7; try (with_reducible replace d7 := of_decide_eq_false d7)) | skip
            exact absurd rfl d7
          · have d7 := c7
            first | (with_reducible replace d7 := of_decide_eq_false d7) | (with_reducible replace d7 := bnf d7; try (with_reducible replace d7 := of_decide_eq_true d7)) | skip
            refine OW_yes rfl rfl rfl rfl c7 (Ev.stp (Ev_mvp (.inl rfl) rfl) ?_)
            refine OW_yes rfl rfl rfl rfl c7 (Ev.stp (Ev_ptrNil und_26 rfl rfl) ?_)
            refine OW_ev (Ev_pickb_f rfl rfl c7 rfl) rfl ?_
            refine OW_nil ?_
            refine CW_cond_f rfl rfl ?_
            refine CW_skip ?_
            refine CW_seq ?_
            refine CW_re [(1, .int _ _), (2, .int _ _), (4, .int _ _), (5, .string _), (6, .int _ _), (7, .string _), (16, .bool _), (17, .pointer _), (19, .pointer _)] ⟨rfl, rfl, rfl, rfl, rfl, rfl, rfl, rfl, rfl, trivial⟩ (fun g => ?_)
            refine CW_reg rfl ?_
            refine OW_ev (Ev_mvp (.inl rfl) rfl) rfl ?_
            refine OW_ev (Ev_mvi (.inl rfl) rfl) rfl ?_
            refine OW_ev (Ev_mvst (.inl rfl) rfl) rfl ?_
            refine OW_st rfl (Stp_call ent_11 rfl rfl rfl (putC_c hS hA (fun h => h.2 rfl) es hfm ec first c (by omega) (by rw [ep]; exact Nat.zero_le _)) ?_)
            rintro _ w8 ⟨er8, d8, rfl, E8, HS2, HA2, P8⟩
            have Z8 := E8.size
            have T := T.trans' E8 (fun i hi h => by
              rcases h with h | h
              · have := h.1; omega
              · omega)
            have hS := HS2.mono (E := (fun b => NW ≤ b ∧ b ≠ ba)) (fun b h => h.elim id (fun h => ⟨by omega, by omega⟩))
            have hA := HA2
            have Z8 := E8.size
            obtain ⟨d1, rfl⟩ : ∃ x, x = d8 := ⟨_, rfl⟩
            have P1 := P8
            have ec1 : calm d1.g := by rw [P1.g]; exact ec
            have ep1 := P1.pl
            rw [ep] at ep1
            change d1.ps.length ≤ 0 + c.length at ep1
            refine OW_nil ?_
            refine CW_seq ?_
            refine CW_reg rfl ?_
            refine OW_ev (Ev_mvp (.inl rfl) rfl) rfl ?_
            refine OW_st rfl (Stp_call ent_12 rfl rfl rfl (sync_c hS hA (fun h => h.2 rfl) (by omega)) ?_)
            rintro _ w9 ⟨rfl, E9, HS2, HA2⟩
            have Z9 := E9.size
            have T := T.trans' E9 (fun i hi h => by have := h.1; omega)
            rw [if_neg (by simp [ec1.1])] at HS2
            have hS := HS2
            have hA := HA2
            obtain ⟨d2, hd2⟩ : ∃ x, x = d1.flushed := ⟨_, rfl⟩
            rw [← hd2] at hS
            have ec2 : calm d2.g := by rw [hd2, flushed_g ec1]; exact ec1
            have em2 : d2.many = d0.many := by rw [hd2]; exact P1.many
            have es2 : d2.size = s := by rw [hd2]; exact P1.size.trans es
            have ep2 : d2.ps = [] := by rw [hd2]; rfl
            have eV2 : d2.V = d2.last := by rw [hd2]; rfl
            have hlast2 : d2.last.length = d2.many * d2.size := hS.ok.last
            refine OW_nil ?_
            refine CW_seq ?_
            refine CW_reg rfl ?_
            refine OW_ev (Ev_mvp (.inl rfl) rfl) rfl ?_
            refine OW_st rfl (Stp_call ent_13 rfl rfl rfl (image_c hS) ?_)
            rintro _ w10 ⟨E10, rfl⟩
            have Z10 := E10.size
            have T := T.keep0 E10
            have hS := hS.keep0 E10
            have hA := hA.keep0 E10
            refine OW_ev (Ev_mvst (.inr rfl) rfl) rfl ?_
            refine OW_nil ?_
            refine CW_seq ?_
            refine CW_re [(1, .int _ _), (2, .int _ _), (4, .int _ _), (5, .string _), (16, .bool _), (17, .pointer _), (19, .pointer _), (21, .string _)] ⟨rfl, rfl, rfl, rfl, rfl, rfl, rfl, rfl, trivial⟩ (fun g => ?_)
            refine CW_reg rfl ?_
            refine OW_ev (Ev_mvp (.inl rfl) rfl) rfl ?_
            refine OW_ev (Ev_mvi (.inl rfl) rfl) rfl ?_
            refine OW_ev (Ev_mvst (.inl rfl) rfl) rfl ?_
            refine OW_st rfl (Stp_call ent_11 rfl rfl rfl (putC_c hS hA (fun h => h.2 rfl) es2 (by omega) ec2 at_ m (by omega) (by rw [ep2]; exact Nat.zero_le _)) ?_)
            rintro _ w11 ⟨er11, d11, rfl, E11, HS2, HA2, P11⟩
            have Z11 := E11.size
            have T := T.trans' E11 (fun i hi h => by
              rcases h with h | h
              · have := h.1; omega
              · omega)
            have hS := HS2.mono (E := (fun b => NW ≤ b ∧ b ≠ ba)) (fun b h => h.elim id (fun h => ⟨by omega, by omega⟩))
            have hA := HA2
            have Z11 := E11.size
            obtain ⟨d3, rfl⟩ : ∃ x, x = d11 := ⟨_, rfl⟩
            obtain ⟨er3, rfl⟩ : ∃ x, x = er11 := ⟨_, rfl⟩
            have P3 := P11
            have ec3 : calm d3.g := by rw [P3.g]; exact ec2
            have ep3 := P3.pl
            rw [ep2] at ep3
            change d3.ps.length ≤ 0 + m.length at ep3
            have em3 := P3.many
            have es3 := P3.size.trans es2
            refine OW_ev (Ev_mvi (.inr rfl) rfl) rfl ?_
            refine OW_nil ?_
            refine CW_seq ?_
            refine CW_reg rfl ?_
            refine OW_ev (Ev_mvp (.inl rfl) rfl) rfl ?_
            refine OW_ev (Ev_mvi (.inl rfl) rfl) rfl ?_
            refine OW_ev (Ev_mvst (.inl rfl) rfl) rfl ?_
            refine OW_ev (Ev_lenSt und_9 rfl rfl) rfl ?_
            refine OW_st rfl (Stp_call ent_14 rfl rfl rfl (get2_c hS hA (fun h => h.2 rfl) es3 (by omega) ec3 at_ (m.length : Int) (by omega) (fun q h => by omega)) ?_)
            rintro _ w12 ⟨l12, er12, rfl, E12, HS2, HA2, gy12, gn12⟩
            have Z12 := E12.size
            have T := T.trans' E12 (fun i hi h => by
              rcases h with h | h
              · have := h.1; omega
              · omega)
            have hS := HS2.mono (E := (fun b => NW ≤ b ∧ b ≠ ba)) (fun b h => h.elim id (fun h => ⟨by omega, by omega⟩))
            have hA := HA2
            have Z12 := E12.size
            obtain ⟨er4, rfl⟩ : ∃ x, x = er12 := ⟨_, rfl⟩
            obtain ⟨l4, rfl⟩ : ∃ x, x = l12 := ⟨_, rfl⟩
            have gy := gy12
            have gn := gn12
            refine OW_ev (Ev_mvt (.inl rfl) rfl) rfl ?_
            refine OW_ev (Ev_extract (vs := _) rfl rfl rfl) rfl ?_
            refine OW_ev (Ev_extract (vs := _) rfl rfl rfl) rfl ?_
            refine OW_ev (Ev_mvst (.inr rfl) rfl) rfl ?_
            refine OW_ev (Ev_mvi (.inr rfl) rfl) rfl ?_
            refine OW_nil ?_
            refine CW_seq ?_
            refine CW_re [(1, .int _ _), (2, .int _ _), (4, .int _ _), (5, .string _), (16, .bool _), (17, .pointer _), (19, .pointer _), (21, .string _), (22, .int _ _), (23, .string _), (24, .int _ _)] ⟨rfl, rfl, rfl, rfl, rfl, rfl, rfl, rfl, rfl, rfl, rfl, trivial⟩ (fun g => ?_)
            refine CW_reg rfl ?_
            refine OW_ev (Ev_mvp (.inl rfl) rfl) rfl ?_
            refine OW_st rfl (Stp_call ent_12 rfl rfl rfl (sync_c hS hA (fun h => h.2 rfl) (by omega)) ?_)
            rintro _ w13 ⟨rfl, E13, HS2, HA2⟩
            have Z13 := E13.size
            have T := T.trans' E13 (fun i hi h => by have := h.1; omega)
            rw [if_neg (by simp [ec3.1])] at HS2
            have hS := HS2
            have hA := HA2
            obtain ⟨d5, hd5⟩ : ∃ x, x = d3.flushed := ⟨_, rfl⟩
            rw [← hd5] at hS
            have eV5 : d5.last = d3.V := by rw [hd5]; rfl
            refine OW_nil ?_
            refine CW_seq ?_
            refine CW_reg rfl ?_
            refine OW_ev (Ev_mvp (.inl rfl) rfl) rfl ?_
            refine OW_st rfl (Stp_call ent_13 rfl rfl rfl (image_c hS) ?_)
            rintro _ w14 ⟨E14, rfl⟩
            have Z14 := E14.size
            have T := T.keep0 E14
            have hS := hS.keep0 E14
            have hA := hA.keep0 E14
            refine OW_ev (Ev_mvst (.inr rfl) rfl) rfl ?_
            refine OW_nil ?_
            refine CW_seq ?_
            refine CW_seq ?_
            refine CW_reg rfl ?_
            refine OW_ev (Ev_mvi (.inl rfl) rfl) rfl ?_
            refine OW_ev (Ev_neq rfl rfl rfl) rfl ?_
            refine OW_nil ?_
            refine CW_cond rfl (fun c15 => ?_) (fun c15 => ?_)
            · have d15 := c15
              first | (with_reducible replace d15 := of_decide_eq_true d15) | (with_reducible replace d15 := bnt d15; try (with_reducible replace d15 := of_decide_eq_false d15)) | skip
              have hni : ¬ inside wd s at_ m.length := fun h => by have := (P3.yes h).1; omega
              obtain ⟨e6, eV3⟩ := P3.no hni
              obtain ⟨e7, eL⟩ := gn hni
              subst e6; subst e7
              refine CW_seq ?_
              refine CW_re [(1, .int _ _), (2, .int _ _), (4, .int _ _), (5, .string _), (16, .bool _), (21, .string _), (22, .int _ _), (23, .string _), (24, .int _ _), (25, .string _)] ⟨rfl, rfl, rfl, rfl, rfl, rfl, rfl, rfl, rfl, rfl, trivial⟩ (fun g => ?_)
              refine CW_reg rfl ?_
              refine OW_st rfl (Stp_call ent_10 rfl rfl rfl (placed_c _) ?_)
              rintro _ w16 ⟨E16, rfl⟩
              have Z16 := E16.size
              have T := T.keep0 E16
              have hS := hS.keep0 E16
              have hA := hA.keep0 E16
              refine OW_ev (Ev_mvb (.inl rfl) rfl) rfl ?_
              refine OW_split (d := .tmp 91) rfl (fun c17 => ?_) (fun c17 => ?_)
              · have d17 := c17
                first | (with_reducible replace d17 := of_decide_eq_true d17) | (with_reducible replace d17 := bnt d17; try (with_reducible replace d17 := of_decide_eq_false d17)) | skip
                refine OW_yes rfl rfl rfl rfl c17 (Ev.stp (Ev_mvi (.inl rfl) rfl) ?_)
                refine OW_yes rfl rfl rfl rfl c17 (Ev.stp (Ev_eql rfl rfl rfl) ?_)
                refine OW_ev (Ev_pickb_t rfl rfl c17 rfl) rfl ?_
                refine OW_ev (Ev_mvb (.inl rfl) rfl) rfl ?_
                refine OW_split (d := .tmp 95) rfl (fun c18 => ?_) (fun c18 => ?_)
                · have d18 := c18
                  first | (with_reducible replace d18 := of_decide_eq_true d18) | (with_reducible replace d18 := bnt d18; try (with_reducible replace d18 := of_decide_eq_false d18)) | skip
                  refine OW_yes rfl rfl rfl rfl c18 (Ev.stp (Ev_mvi (.inl rfl) rfl) ?_)
                  refine OW_yes rfl rfl rfl rfl c18 (Ev.stp (Ev_eql rfl rfl rfl) ?_)
                  refine OW_ev (Ev_pickb_t rfl rfl c18 rfl) rfl ?_
                  refine OW_ev (Ev_mvb (.inl rfl) rfl) rfl ?_
                  refine OW_split (d := .tmp 99) rfl (fun c19 => ?_) (fun c19 => ?_)
                  · have d19 := c19
                    first | (with_reducible replace d19 := of_decide_eq_true d19) | (with_reducible replace d19 := bnt d19; try (with_reducible replace d19 := of_decide_eq_false d19)) | skip
                    refine OW_yes rfl rfl rfl rfl c19 (Ev.stp (Ev_mvst (.inl rfl) rfl) ?_)
                    refine OW_yes rfl rfl rfl rfl c19 (Ev.stp (Ev_mvst (.inl rfl) rfl) ?_)
                    refine OW_yes rfl rfl rfl rfl c19 (Ev.stp (Ev_strEql rfl rfl rfl) ?_)
                    refine OW_ev (Ev_pickb_t rfl rfl c19 rfl) rfl ?_
                    refine OW_ev (Ev_mvb (.inr rfl) rfl) rfl ?_
                    refine OW_nil ?_
                    refine CW_ret ?_
                    refine ⟨rfl, _, (.tmp rfl .nil), ?_⟩
                    first | exact ⟨T, rfl⟩ | exact ⟨T, vb rfl (decide_eq_true (by rw [eV5, hV3, show f * s + a + m.length - (f * s + a) = m.length by omega]; exact putL_mid hq))⟩ | exact ⟨T, vb rfl (decide_eq_true (by rw [eV5, eV3, eV2]))⟩
                  · have d19 := c19
                    first | (with_reducible replace d19 := of_decide_eq_false d19) | (with_reducible replace d19 := bnf d19; try (with_reducible replace d19 := of_decide_eq_true d19)) | skip
                    exact absurd rfl d19
                · have d18 := c18
                  first | (with_reducible replace d18 := of_decide_eq_false d18) | (with_reducible replace d18 := bnf d18; try (with_reducible replace d18 := of_decide_eq_true d18)) | skip
                  exact absurd rfl d18
              · have d17 := c17
                first | (with_reducible replace d17 := of_decide_eq_false d17) | (with_reducible replace d17 := bnf d17; try (with_reducible replace d17 := of_decide_eq_true d17)) | skip
                cases c17
            · have d15 := c15
              first | (with_reducible replace d15 := of_decide_eq_false d15) | (with_reducible replace d15 := bnf d15; try (with_reducible replace d15 := of_decide_eq_true d15)) | skip
              have hin : inside wd s at_ m.length := Classical.byContradiction fun h => by have := (P3.no h).1; omega
              obtain ⟨e6, eV3⟩ := P3.yes hin
              obtain ⟨e7, eL⟩ := gy hin
              subst e6; subst e7
              have hroom := inside_room (s := s) hin (show f + wd ≤ mn by omega)
              have hin2 := hin
              unfold inside at hin2
              obtain ⟨a, rfl⟩ : ∃ a : Nat, at_ = (a : Int) := ⟨at_.toNat, by omega⟩
              rw [Int.toNat_natCast] at hroom eV3 eL
              rw [Int.toNat_natCast] at eL
              have hok2 := hok
              unfold newOk at hok2
              have hb3 : mn * s ≤ 4096 * 1024 := Nat.mul_le_mul (by omega) (by omega)
              have hfs : ((f * s : Nat) : Int) = (f : Int) * (s : Int) := by push_cast; rfl
              have hfs0 : 0 ≤ (f : Int) * (s : Int) := Int.mul_nonneg (by omega) (by omega)
              have hl2 : d2.V.length = mn * s := by rw [eV2, ← es2, ← em, ← em2]; exact hlast2
              have hV3 : d3.V = putL d2.V (f * s + a) m := eV3
              have hq : f * s + a + m.length ≤ d2.V.length := by omega
              have hL5 : d5.last.length = mn * s := by rw [eV5, hV3, putL_length hq]; exact hl2
              refine CW_skip ?_
              refine CW_seq ?_
              refine CW_re [(1, .int _ _), (2, .int _ _), (4, .int _ _), (5, .string _), (16, .bool _), (21, .string _), (23, .string _), (24, .int _ _), (25, .string _)] ⟨rfl, rfl, rfl, rfl, rfl, rfl, rfl, rfl, rfl, trivial⟩ (fun g => ?_)
              refine CW_reg rfl ?_
              refine OW_ev (Ev_mvi (.inl rfl) rfl) rfl ?_
              refine OW_ev (Ev_mvi (.inl rfl) rfl) rfl ?_
              refine OW_ev (Ev_mul rfl rfl rfl (by apply IntWalk.i64_in; omega)) rfl ?_
              refine OW_ev (Ev_mvi (.inl rfl) rfl) rfl ?_
              refine OW_ev (Ev_add rfl rfl rfl (by apply IntWalk.i64_in; omega)) rfl ?_
              refine OW_ev (Ev_mvi (.inr rfl) rfl) rfl ?_
              refine OW_nil ?_
              refine CW_seq ?_
              refine CW_reg rfl ?_
              refine OW_ev (Ev_mvi (.inl rfl) rfl) rfl ?_
              refine OW_ev (Ev_mvst (.inl rfl) rfl) rfl ?_
              refine OW_ev (Ev_lenSt und_9 rfl rfl) rfl ?_
              refine OW_ev (Ev_add rfl rfl rfl (by apply IntWalk.i64_in; omega)) rfl ?_
              refine OW_ev (Ev_mvi (.inr rfl) rfl) rfl ?_
              refine OW_nil ?_
              refine CW_seq ?_
              refine CW_seq ?_
              refine CW_re [(5, .string _), (16, .bool _), (21, .string _), (23, .string _), (24, .int _ _), (25, .string _), (26, .int _ _), (27, .int _ _)] ⟨rfl, rfl, rfl, rfl, rfl, rfl, rfl, rfl, trivial⟩ (fun g => ?_)
              refine CW_reg rfl ?_
              refine OW_ev (Ev_mvi (.inl rfl) rfl) rfl ?_
              refine OW_ev (Ev_neq rfl rfl rfl) rfl ?_
              refine OW_ev (Ev_mvb (.inl rfl) rfl) rfl ?_
              refine OW_split (d := .tmp 115) rfl (fun c20 => ?_) (fun c20 => ?_)
              · have d20 := c20
                first | (with_reducible replace d20 := of_decide_eq_true d20) | (with_reducible replace d20 := bnt d20; try (with_reducible replace d20 := of_decide_eq_false d20)) | skip
                exact absurd rfl d20
              · have d20 := c20
                first | (with_reducible replace d20 := of_decide_eq_false d20) | (with_reducible replace d20 := bnf d20; try (with_reducible replace d20 := of_decide_eq_true d20)) | skip
                refine OW_yes rfl rfl rfl rfl c20 (Ev.stp (Ev_mvst (.inl rfl) rfl) ?_)
                refine OW_yes rfl rfl rfl rfl c20 (Ev.stp (Ev_mvst (.inl rfl) rfl) ?_)
                refine OW_yes rfl rfl rfl rfl c20 (Ev.stp (Ev_strNeq rfl rfl rfl) ?_)
                refine OW_ev (Ev_pickb_f rfl rfl c20 rfl) rfl ?_
                refine OW_ev (Ev_mvb (.inl rfl) rfl) rfl ?_
                refine OW_split (d := .tmp 120) rfl (fun c21 => ?_) (fun c21 => ?_)
                · have d21 := c21
                  first | (with_reducible replace d21 := of_decide_eq_true d21) | (with_reducible replace d21 := bnt d21; try (with_reducible replace d21 := of_decide_eq_false d21)) | skip
                  exact absurd (by rw [eL, hV3]; exact putL_mid hq) d21
                · have d21 := c21
                  first | (with_reducible replace d21 := of_decide_eq_false d21) | (with_reducible replace d21 := bnf d21; try (with_reducible replace d21 := of_decide_eq_true d21)) | skip
                  refine OW_yes rfl rfl rfl rfl c21 (Ev.stp (Ev_mvst (.inl rfl) rfl) ?_)
                  refine OW_yes rfl rfl rfl rfl c21 (Ev.stp (Ev_lenSt und_9 rfl rfl) ?_)
                  refine OW_yes rfl rfl rfl rfl c21 (Ev.stp (Ev_mvst (.inl rfl) rfl) ?_)
                  refine OW_yes rfl rfl rfl rfl c21 (Ev.stp (Ev_lenSt und_9 rfl rfl) ?_)
                  refine OW_yes rfl rfl rfl rfl c21 (Ev.stp (Ev_neq rfl rfl rfl) ?_)
                  refine OW_ev (Ev_pickb_f rfl rfl c21 rfl) rfl ?_
                  refine OW_ev (Ev_mvb (.inl rfl) rfl) rfl ?_
                  refine OW_split (d := .tmp 127) rfl (fun c22 => ?_) (fun c22 => ?_)
                  · have d22 := c22
                    first | (with_reducible replace d22 := of_decide_eq_true d22) | (with_reducible replace d22 := bnt d22; try (with_reducible replace d22 := of_decide_eq_false d22)) | skip
                    exact absurd (by rw [hL5, ← eV2, hl2]) d22
                  · have d22 := c22
                    first | (with_reducible replace d22 := of_decide_eq_false d22) | (with_reducible replace d22 := bnf d22; try (with_reducible replace d22 := of_decide_eq_true d22)) | skip
                    refine OW_yes rfl rfl rfl rfl c22 (Ev.stp (Ev_mvi (.inl rfl) rfl) ?_)
                    refine OW_yes rfl rfl rfl rfl c22 (Ev.stp (Ev_lss rfl rfl rfl) ?_)
                    refine OW_ev (Ev_pickb_f rfl rfl c22 rfl) rfl ?_
                    refine OW_ev (Ev_mvb (.inl rfl) rfl) rfl ?_
                    refine OW_split (d := .tmp 131) rfl (fun c23 => ?_) (fun c23 => ?_)
                    · have d23 := c23
                      first | (with_reducible replace d23 := of_decide_eq_true d23) | (with_reducible replace d23 := bnt d23; try (with_reducible replace d23 := of_decide_eq_false d23)) | skip
                      exfalso; omega
                    · have d23 := c23
                      first | (with_reducible replace d23 := of_decide_eq_false d23) | (with_reducible replace d23 := bnf d23; try (with_reducible replace d23 := of_decide_eq_true d23)) | skip
                      refine OW_yes rfl rfl rfl rfl c23 (Ev.stp (Ev_mvi (.inl rfl) rfl) ?_)
                      refine OW_yes rfl rfl rfl rfl c23 (Ev.stp (Ev_mvst (.inl rfl) rfl) ?_)
                      refine OW_yes rfl rfl rfl rfl c23 (Ev.stp (Ev_lenSt und_9 rfl rfl) ?_)
                      refine OW_yes rfl rfl rfl rfl c23 (Ev.stp (Ev_gtr rfl rfl rfl) ?_)
                      refine OW_ev (Ev_pickb_f rfl rfl c23 rfl) rfl ?_
                      refine OW_nil ?_
                      refine CW_cond rfl (fun c24 => ?_) (fun c24 => ?_)
                      · have d24 := c24
                        first | (with_reducible replace d24 := of_decide_eq_true d24) | (with_reducible replace d24 := bnt d24; try (with_reducible replace d24 := of_decide_eq_false d24)) | skip
                        exfalso; rw [hL5] at d24; omega
                      · have d24 := c24
                        first | (with_reducible replace d24 := of_decide_eq_false d24) | (with_reducible replace d24 := bnf d24; try (with_reducible replace d24 := of_decide_eq_true d24)) | skip
                        refine CW_skip ?_
                        refine CW_seq ?_
                        refine CW_re [(5, .string _), (16, .bool _), (21, .string _), (25, .string _), (26, .int _ _), (27, .int _ _)] ⟨rfl, rfl, rfl, rfl, rfl, rfl, trivial⟩ (fun g => ?_)
                        refine CW_draw (fun W => hS.here W ∧ hA.here W) mixed rfl (fun _ _ _ h => nomatch h.1) ?_
                        have E25 : Kp0 _ _ := Kp.drew w14 nob
                        have Z25 : (World.drew w14).heap.size = w14.heap.size := rfl
                        generalize World.drew w14 = w25 at E25 Z25 ⊢
                        have T := T.keep0 E25
                        have hS := hS.keep0 E25
                        have hA := hA.keep0 E25
                        refine AW_one 0 (by decide +kernel) (Next.mk rfl rfl ?_)
                        refine Stp_call ent_10 rfl rfl rfl (placed_c _) ?_
                        rintro _ w26 ⟨E26, rfl⟩
                        have Z26 := E26.size
                        have T := T.keep0 E26
                        have hS := hS.keep0 E26
                        have hA := hA.keep0 E26
                        refine ⟨⟨hS, hA⟩, ?_⟩
                        refine AW_take 1 rfl rfl (by decide +kernel) (by decide +kernel) (by decide +kernel) (fun w ⟨hS, hA⟩ => Ev_mvb (.inl rfl) rfl) ⟨hS, hA⟩ ?_
                        refine AW_split (d := .tmp 138) rfl (fun c27 => ?_) (fun c27 => ?_)
                        · have d27 := c27
                          first | (with_reducible replace d27 := of_decide_eq_true d27) | (with_reducible replace d27 := bnt d27; try (with_reducible replace d27 := of_decide_eq_false d27)) | skip
                          refine AW_take_yes 2 rfl rfl rfl rfl rfl c27 (by decide +kernel) (by decide +kernel) (by decide +kernel) (fun w ⟨hS, hA⟩ => Ev_mvst (.inl rfl) rfl) ⟨hS, hA⟩ ?_
                          refine AW_take_yes 3 rfl rfl rfl rfl rfl c27 (by decide +kernel) (by decide +kernel) (by decide +kernel) (fun w ⟨hS, hA⟩ => Ev_mvi (.inl rfl) rfl) ⟨hS, hA⟩ ?_
                          refine AW_take_yes 4 rfl rfl rfl rfl rfl c27 (by decide +kernel) (by decide +kernel) (by decide +kernel) (fun w ⟨hS, hA⟩ => Ev_strH (f * s + a) und_9 rfl rfl rfl (by omega) (by rw [hL5]; omega)) ⟨hS, hA⟩ ?_
                          refine AW_take_yes 5 rfl rfl rfl rfl rfl c27 (by decide +kernel) (by decide +kernel) (by decide +kernel) (fun w ⟨hS, hA⟩ => Ev_mvst (.inl rfl) rfl) ⟨hS, hA⟩ ?_
                          refine AW_take_yes 6 rfl rfl rfl rfl rfl c27 (by decide +kernel) (by decide +kernel) (by decide +kernel) (fun w ⟨hS, hA⟩ => Ev_mvi (.inl rfl) rfl) ⟨hS, hA⟩ ?_
                          refine AW_take_yes 7 rfl rfl rfl rfl rfl c27 (by decide +kernel) (by decide +kernel) (by decide +kernel) (fun w ⟨hS, hA⟩ => Ev_strH (f * s + a) und_9 rfl rfl rfl (by omega) (by rw [← eV2, hl2]; omega)) ⟨hS, hA⟩ ?_
                          refine AW_take_yes 8 rfl rfl rfl rfl rfl c27 (by decide +kernel) (by decide +kernel) (by decide +kernel) (fun w ⟨hS, hA⟩ => Ev_strEql rfl rfl rfl) ⟨hS, hA⟩ ?_
                          refine AW_take 9 rfl rfl (by decide +kernel) (by decide +kernel) (by decide +kernel) (fun w ⟨hS, hA⟩ => Ev_pickb_t rfl rfl c27 rfl) ⟨hS, hA⟩ ?_
                          refine AW_take 10 rfl rfl (by decide +kernel) (by decide +kernel) (by decide +kernel) (fun w ⟨hS, hA⟩ => Ev_mvb (.inl rfl) rfl) ⟨hS, hA⟩ ?_
                          refine AW_split (d := .tmp 147) rfl (fun c28 => ?_) (fun c28 => ?_)
                          · have d28 := c28
                            first | (with_reducible replace d28 := of_decide_eq_true d28) | (with_reducible replace d28 := bnt d28; try (with_reducible replace d28 := of_decide_eq_false d28)) | skip
                            refine AW_take_yes 11 rfl rfl rfl rfl rfl c28 (by decide +kernel) (by decide +kernel) (by decide +kernel) (fun w ⟨hS, hA⟩ => Ev_mvst (.inl rfl) rfl) ⟨hS, hA⟩ ?_
                            refine AW_take_yes 12 rfl rfl rfl rfl rfl c28 (by decide +kernel) (by decide +kernel) (by decide +kernel) (fun w ⟨hS, hA⟩ => Ev_mvi (.inl rfl) rfl) ⟨hS, hA⟩ ?_
                            refine AW_take_yes 13 rfl rfl rfl rfl rfl c28 (by decide +kernel) (by decide +kernel) (by decide +kernel) (fun w ⟨hS, hA⟩ => Ev_strL (f * s + a + m.length) und_9 rfl rfl rfl (by omega) (by rw [hL5]; omega)) ⟨hS, hA⟩ ?_
                            refine AW_take_yes 14 rfl rfl rfl rfl rfl c28 (by decide +kernel) (by decide +kernel) (by decide +kernel) (fun w ⟨hS, hA⟩ => Ev_mvst (.inl rfl) rfl) ⟨hS, hA⟩ ?_
                            refine AW_take_yes 15 rfl rfl rfl rfl rfl c28 (by decide +kernel) (by decide +kernel) (by decide +kernel) (fun w ⟨hS, hA⟩ => Ev_mvi (.inl rfl) rfl) ⟨hS, hA⟩ ?_
                            refine AW_take_yes 16 rfl rfl rfl rfl rfl c28 (by decide +kernel) (by decide +kernel) (by decide +kernel) (fun w ⟨hS, hA⟩ => Ev_strL (f * s + a + m.length) und_9 rfl rfl rfl (by omega) (by rw [← eV2, hl2]; omega)) ⟨hS, hA⟩ ?_
                            refine AW_take_yes 17 rfl rfl rfl rfl rfl c28 (by decide +kernel) (by decide +kernel) (by decide +kernel) (fun w ⟨hS, hA⟩ => Ev_strEql rfl rfl rfl) ⟨hS, hA⟩ ?_
                            refine AW_take 18 rfl rfl (by decide +kernel) (by decide +kernel) (by decide +kernel) (fun w ⟨hS, hA⟩ => Ev_pickb_t rfl rfl c28 rfl) ⟨hS, hA⟩ ?_
                            refine AW_take 19 rfl rfl (by decide +kernel) (by decide +kernel) (by decide +kernel) (fun w ⟨hS, hA⟩ => Ev_mvb (.inl rfl) rfl) ⟨hS, hA⟩ ?_
                            refine AW_split (d := .tmp 156) rfl (fun c29 => ?_) (fun c29 => ?_)
                            · have d29 := c29
                              first | (with_reducible replace d29 := of_decide_eq_true d29) | (with_reducible replace d29 := bnt d29; try (with_reducible replace d29 := of_decide_eq_false d29)) | skip
                              refine AW_take_yes 20 rfl rfl rfl rfl rfl c29 (by decide +kernel) (by decide +kernel) (by decide +kernel) (fun w ⟨hS, hA⟩ => Ev_mvst (.inl rfl) rfl) ⟨hS, hA⟩ ?_
                              refine AW_take_yes 21 rfl rfl rfl rfl rfl c29 (by decide +kernel) (by decide +kernel) (by decide +kernel) (fun w ⟨hS, hA⟩ => Ev_mvi (.inl rfl) rfl) ⟨hS, hA⟩ ?_
                              refine AW_take_yes 22 rfl rfl rfl rfl rfl c29 (by decide +kernel) (by decide +kernel) (by decide +kernel) (fun w ⟨hS, hA⟩ => Ev_mvi (.inl rfl) rfl) ⟨hS, hA⟩ ?_
                              refine AW_take_yes 23 rfl rfl rfl rfl rfl c29 (by decide +kernel) (by decide +kernel) (by decide +kernel) (fun w ⟨hS, hA⟩ => Ev_strLH (f * s + a) (f * s + a + m.length) und_9 rfl rfl rfl rfl (by omega) (by omega) (by omega) (by rw [hL5]; omega)) ⟨hS, hA⟩ ?_
                              refine AW_take_yes 24 rfl rfl rfl rfl rfl c29 (by decide +kernel) (by decide +kernel) (by decide +kernel) (fun w ⟨hS, hA⟩ => Ev_mvst (.inl rfl) rfl) ⟨hS, hA⟩ ?_
                              refine AW_take_yes 25 rfl rfl rfl rfl rfl c29 (by decide +kernel) (by decide +kernel) (by decide +kernel) (fun w ⟨hS, hA⟩ => Ev_strEql rfl rfl rfl) ⟨hS, hA⟩ ?_
                              refine AW_take 26 rfl rfl (by decide +kernel) (by decide +kernel) (by decide +kernel) (fun w ⟨hS, hA⟩ => Ev_pickb_t rfl rfl c29 rfl) ⟨hS, hA⟩ ?_
                              refine AW_take 27 rfl rfl (by decide +kernel) (by decide +kernel) (by decide +kernel) (fun w ⟨hS, hA⟩ => Ev_mvb (.inr rfl) rfl) ⟨hS, hA⟩ ?_
                              refine AW_done (by decide +kernel) ?_
                              refine CW_ret ?_
                              refine ⟨rfl, _, (.tmp rfl .nil), ?_⟩
                              first | exact ⟨T, rfl⟩ | exact ⟨T, vb rfl (decide_eq_true (by rw [eV5, hV3, show f * s + a + m.length - (f * s + a) = m.length by omega]; exact putL_mid hq))⟩ | exact ⟨T, vb rfl (decide_eq_true (by rw [eV5, eV3, eV2]))⟩
                            · have d29 := c29
                              first | (with_reducible replace d29 := of_decide_eq_false d29) | (with_reducible replace d29 := bnf d29; try (with_reducible replace d29 := of_decide_eq_true d29)) | skip
                              exact absurd (by rw [eV5, hV3, ← eV2]; exact putL_drop hq) d29
                          · have d28 := c28
                            first | (with_reducible replace d28 := of_decide_eq_false d28) | (with_reducible replace d28 := bnf d28; try (with_reducible replace d28 := of_decide_eq_true d28)) | skip
                            exact absurd (by rw [eV5, hV3, ← eV2]; exact putL_take hq) d28
                        · have d27 := c27
                          first | (with_reducible replace d27 := of_decide_eq_false d27) | (with_reducible replace d27 := bnf d27; try (with_reducible replace d27 := of_decide_eq_true d27)) | skip
                          cases c27

theorem keeps_c {w : World} {many size fr wide at_ first : Int} {m c : List UInt8} : Calls Try.prog 3 #[.int .i64 many, .int .i64 size, .int .i64 fr, .int .i64 wide, .int .i64 at_, St m, .int .i64 first, St c] w (Ret fun v w' => Kp0 w w' ∧ v = .bool true) := by
  by_cases h : newOk many size
  · obtain ⟨mn, rfl⟩ : ∃ n : Nat, many = (n : Int) := ⟨many.toNat, by unfold newOk at h; omega⟩
    obtain ⟨s, rfl⟩ : ∃ n : Nat, size = (n : Int) := ⟨size.toNat, by unfold newOk at h; omega⟩
    by_cases hf : 1 ≤ wide ∧ wide ≤ (mn : Int) ∧ 0 ≤ fr ∧ fr + wide ≤ (mn : Int)
    · obtain ⟨f, rfl⟩ : ∃ n : Nat, fr = (n : Int) := ⟨fr.toNat, by omega⟩
      obtain ⟨wd, rfl⟩ : ∃ n : Nat, wide = (n : Int) := ⟨wide.toNat, by omega⟩
      exact keeps_ok h (fun _ _ => hf)
    · exact keeps_bad2 h (fun _ _ => hf)
  · exact keeps_bad1 h

end Go.Proofs.Ythfelkjklnhdiaa