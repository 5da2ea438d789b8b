/- The law AreaJoins. -/
import Derived.Test.YthfelkjklnhdiaaArea7
namespace Go.Proofs.Ythfelkjklnhdiaa
open Go Go.RowKit Bx Go.Proofs

theorem two_next {P1 P2 : Nat → Prop} {w w' : World} {b1 b2 ba oa NW : Nat} {d1 d2 : DkM} (h1 : DkS (fun b => P1 b ∨ w.heap.size ≤ b) w' b1 d1) (h2 : DkS (fun b => P2 b ∧ b < w.heap.size) w' b2 d2) (dis : ∀ b, P1 b → ¬ P2 b)
    (q1 : ∀ b, P1 b → NW ≤ b ∧ b ≠ ba ∧ b ≠ oa) (q2 : ∀ b, P2 b → NW ≤ b ∧ b ≠ ba ∧ b ≠ oa) (hba : ba < w.heap.size) (hoa : oa < w.heap.size) (hN : NW ≤ w.heap.size) :
    ∃ Q1 Q2 : Nat → Prop, DkS Q1 w' b1 d1 ∧ DkS Q2 w' b2 d2 ∧ (∀ b, Q1 b → ¬ Q2 b) ∧ (∀ b, Q1 b → NW ≤ b ∧ b ≠ ba ∧ b ≠ oa) ∧ (∀ b, Q2 b → NW ≤ b ∧ b ≠ ba ∧ b ≠ oa) :=
  ⟨_, _, h1, h2, fun b hb hc => hb.elim (fun h => dis b h hc.1) (fun h => by have := hc.2; omega), fun b hb => hb.elim (q1 b) (fun h => ⟨by omega, by omega, by omega⟩), fun b hb => q2 b hb.1⟩
theorem join_take {V m c : List UInt8} {q : Nat} (h : q + (m ++ c).length ≤ V.length) : ((putL V q (m ++ c)).drop q).take m.length ++ ((putL V q (m ++ c)).drop (q + m.length)).take c.length = m ++ c := by
  have h1 := putL_mid h
  rw [List.length_append, List.take_add, List.drop_drop] at h1
  exact h1

set_option maxRecDepth 10000 in
set_option maxHeartbeats 2000000 in
theorem joins_bad1 {w : World} {many size wide at_ : Int} {m c : List UInt8} (hbad : ¬ newOk many size) : Calls Try.prog 4 #[.int .i64 many, .int .i64 size, .int .i64 wide, .int .i64 at_, St m, St c] w (Ret fun v w' => Kp0 w w' ∧ v = .bool (true)) := by
  have T : Kp0 w w := Kp.refl _ _
  refine calls_start Try.func4 rfl (n := 179) rfl rfl rfl ?_
  refine CW_seq ?_
  refine CW_reg rfl ?_
  refine OW_ev (Ev_c (.inr rfl)) rfl ?_
  refine OW_nil ?_
  refine CW_seq ?_
  refine CW_seq ?_
  refine CW_reg rfl ?_
  refine OW_ev (Ev_mvi (.inl rfl) rfl) rfl ?_
  refine OW_ev (Ev_gtr rfl rfl rfl) rfl ?_
  refine OW_ev (Ev_mvb (.inl rfl) rfl) rfl ?_
  refine OW_split (d := .tmp 30) rfl (fun c1 => ?_) (fun c1 => ?_)
  · have d1 := c1
    first | (with_reducible replace d1 := of_decide_eq_true d1) | (with_reducible replace d1 := bnt d1; try (with_reducible replace d1 := of_decide_eq_false d1)) | skip
    refine OW_no rfl rfl rfl rfl c1 ?_
    refine OW_no rfl rfl rfl rfl c1 ?_
    refine OW_no rfl rfl rfl rfl c1 ?_
    refine OW_ev (Ev_pickb_t rfl rfl c1 rfl) rfl ?_
    refine OW_ev (Ev_mvb (.inl rfl) rfl) rfl ?_
    refine OW_no rfl rfl rfl rfl rfl ?_
    refine OW_no rfl rfl rfl rfl rfl ?_
    refine OW_no rfl rfl rfl rfl rfl ?_
    refine OW_ev (Ev_pickb_t rfl rfl rfl rfl) rfl ?_
    refine OW_nil ?_
    refine CW_cond_t rfl rfl ?_
    refine CW_seq ?_
    refine CW_re [(0, .int _ _), (1, .int _ _), (2, .int _ _), (3, .int _ _), (4, .string _), (5, .string _), (12, .bool _)] ⟨rfl, rfl, rfl, rfl, rfl, rfl, rfl, trivial⟩ (fun g => ?_)
    refine CW_reg rfl ?_
    refine OW_ev (Ev_c (.inr rfl)) rfl ?_
    refine OW_nil ?_
    refine CW_ret ?_
    refine ⟨rfl, _, (.tmp rfl .nil), ?_⟩
    first | exact ⟨T, rfl⟩ | exact ⟨T, vb rfl (decide_eq_true rfl)⟩
  · have d1 := c1
    first | (with_reducible replace d1 := of_decide_eq_false d1) | (with_reducible replace d1 := bnf d1; try (with_reducible replace d1 := of_decide_eq_true d1)) | skip
    refine OW_yes rfl rfl rfl rfl c1 (Ev.stp (Ev_mvst (.inl rfl) rfl) ?_)
    refine OW_yes rfl rfl rfl rfl c1 (Ev.stp (Ev_lenSt und_9 rfl rfl) ?_)
    refine OW_yes rfl rfl rfl rfl c1 (Ev.stp (Ev_gtr rfl rfl rfl) ?_)
    refine OW_ev (Ev_pickb_f rfl rfl c1 rfl) rfl ?_
    refine OW_ev (Ev_mvb (.inl rfl) rfl) rfl ?_
    refine OW_split (d := .tmp 35) rfl (fun c2 => ?_) (fun c2 => ?_)
    · have d2 := c2
      first | (with_reducible replace d2 := of_decide_eq_true d2) | (with_reducible replace d2 := bnt d2; try (with_reducible replace d2 := of_decide_eq_false d2)) | skip
      refine OW_no rfl rfl rfl rfl c2 ?_
      refine OW_no rfl rfl rfl rfl c2 ?_
      refine OW_no rfl rfl rfl rfl c2 ?_
      refine OW_ev (Ev_pickb_t rfl rfl c2 rfl) rfl ?_
      refine OW_nil ?_
      refine CW_cond_t rfl rfl ?_
      refine CW_seq ?_
      refine CW_re [(0, .int _ _), (1, .int _ _), (2, .int _ _), (3, .int _ _), (4, .string _), (5, .string _), (12, .bool _)] ⟨rfl, rfl, rfl, rfl, rfl, rfl, rfl, trivial⟩ (fun g => ?_)
      refine CW_reg rfl ?_
      refine OW_ev (Ev_c (.inr rfl)) rfl ?_
      refine OW_nil ?_
      refine CW_ret ?_
      refine ⟨rfl, _, (.tmp rfl .nil), ?_⟩
      first | exact ⟨T, rfl⟩ | exact ⟨T, vb rfl (decide_eq_true rfl)⟩
    · have d2 := c2
      first | (with_reducible replace d2 := of_decide_eq_false d2) | (with_reducible replace d2 := bnf d2; try (with_reducible replace d2 := of_decide_eq_true d2)) | skip
      refine OW_yes rfl rfl rfl rfl c2 (Ev.stp (Ev_mvst (.inl rfl) rfl) ?_)
      refine OW_yes rfl rfl rfl rfl c2 (Ev.stp (Ev_lenSt und_9 rfl rfl) ?_)
      refine OW_yes rfl rfl rfl rfl c2 (Ev.stp (Ev_gtr rfl rfl rfl) ?_)
      refine OW_ev (Ev_pickb_f rfl rfl c2 rfl) rfl ?_
      refine OW_nil ?_
      refine CW_cond rfl (fun c3 => ?_) (fun c3 => ?_)
      · have d3 := c3
        first | (with_reducible replace d3 := of_decide_eq_true d3) | (with_reducible replace d3 := bnt d3; try (with_reducible replace d3 := of_decide_eq_false d3)) | skip
        refine CW_seq ?_
        refine CW_re [(0, .int _ _), (1, .int _ _), (2, .int _ _), (3, .int _ _), (4, .string _), (5, .string _), (12, .bool _)] ⟨rfl, rfl, rfl, rfl, rfl, rfl, rfl, trivial⟩ (fun g => ?_)
        refine CW_reg rfl ?_
        refine OW_ev (Ev_c (.inr rfl)) rfl ?_
        refine OW_nil ?_
        refine CW_ret ?_
        refine ⟨rfl, _, (.tmp rfl .nil), ?_⟩
        first | exact ⟨T, rfl⟩ | exact ⟨T, vb rfl (decide_eq_true rfl)⟩
      · have d3 := c3
        first | (with_reducible replace d3 := of_decide_eq_false d3) | (with_reducible replace d3 := bnf d3; try (with_reducible replace d3 := of_decide_eq_true d3)) | skip
        have hb1 : m.length ≤ 5000 := by omega
        have hb2 : c.length ≤ 5000 := by omega
        refine CW_skip ?_
        refine CW_seq ?_
        refine CW_re [(0, .int _ _), (1, .int _ _), (2, .int _ _), (3, .int _ _), (4, .string _), (5, .string _), (12, .bool _)] ⟨rfl, rfl, rfl, rfl, rfl, rfl, rfl, trivial⟩ (fun g => ?_)
        refine CW_reg rfl ?_
        refine OW_ev (Ev_mvi (.inl rfl) rfl) rfl ?_
        refine OW_ev (Ev_mvi (.inl rfl) rfl) rfl ?_
        refine OW_st rfl (Stp_call ent_8 rfl rfl rfl (snew_bad hbad) ?_)
        rintro _ w4 ⟨E4, rfl⟩
        have Z4 := E4.size
        have T := T.keep0 E4
        refine OW_ev (Ev_mvt (.inl rfl) rfl) rfl ?_
        refine OW_ev (Ev_extract (vs := _) rfl rfl rfl) rfl ?_
        refine OW_ev (Ev_extract (vs := _) rfl rfl rfl) rfl ?_
        refine OW_ev (Ev_mvp (.inr rfl) rfl) rfl ?_
        refine OW_ev (Ev_mvi (.inr rfl) rfl) rfl ?_
        refine OW_nil ?_
        refine CW_seq ?_
        refine CW_reg rfl ?_
        refine OW_ev (Ev_mvi (.inl rfl) rfl) rfl ?_
        refine OW_ev (Ev_mvi (.inl rfl) rfl) rfl ?_
        refine OW_st rfl (Stp_call ent_8 rfl rfl rfl (snew_bad hbad) ?_)
        rintro _ w5 ⟨E5, rfl⟩
        have Z5 := E5.size
        have T := T.keep0 E5
        refine OW_ev (Ev_mvt (.inl rfl) rfl) rfl ?_
        refine OW_ev (Ev_extract (vs := _) rfl rfl rfl) rfl ?_
        refine OW_ev (Ev_extract (vs := _) rfl rfl rfl) rfl ?_
        refine OW_ev (Ev_mvp (.inr rfl) rfl) rfl ?_
        refine OW_ev (Ev_mvi (.inr rfl) rfl) rfl ?_
        refine OW_nil ?_
        refine CW_seq ?_
        refine CW_re [(2, .int _ _), (3, .int _ _), (4, .string _), (5, .string _), (12, .bool _), (13, .pointer _), (14, .int _ _), (15, .pointer _), (16, .int _ _)] ⟨rfl, rfl, rfl, rfl, rfl, rfl, rfl, rfl, rfl, trivial⟩ (fun g => ?_)
        refine CW_reg rfl ?_
        refine OW_ev (Ev_mvp (.inl rfl) rfl) rfl ?_
        refine OW_ev (Ev_mvi (.inl rfl) rfl) rfl ?_
        refine OW_st rfl (Stp_call ent_9 rfl rfl rfl (anew_nil _ _ _) ?_)
        rintro _ w6 ⟨E6, rfl⟩
        have Z6 := E6.size
        have T := T.keep0 E6
        refine OW_ev (Ev_mvt (.inl rfl) rfl) rfl ?_
        refine OW_ev (Ev_extract (vs := _) rfl rfl rfl) rfl ?_
        refine OW_ev (Ev_extract (vs := _) rfl rfl rfl) rfl ?_
        refine OW_ev (Ev_mvp (.inr rfl) rfl) rfl ?_
        refine OW_ev (Ev_mvi (.inr rfl) rfl) rfl ?_
        refine OW_nil ?_
        refine CW_seq ?_
        refine CW_reg rfl ?_
        refine OW_ev (Ev_mvp (.inl rfl) rfl) rfl ?_
        refine OW_ev (Ev_mvi (.inl rfl) rfl) rfl ?_
        refine OW_st rfl (Stp_call ent_9 rfl rfl rfl (anew_nil _ _ _) ?_)
        rintro _ w7 ⟨E7, rfl⟩
        have Z7 := E7.size
        have T := T.keep0 E7
        refine OW_ev (Ev_mvt (.inl rfl) rfl) rfl ?_
        refine OW_ev (Ev_extract (vs := _) rfl rfl rfl) rfl ?_
        refine OW_ev (Ev_extract (vs := _) rfl rfl rfl) rfl ?_
        refine OW_ev (Ev_mvp (.inr rfl) rfl) rfl ?_
        refine OW_ev (Ev_mvi (.inr rfl) rfl) rfl ?_
        refine OW_nil ?_
        refine CW_seq ?_
        refine CW_seq ?_
        refine CW_re [(3, .int _ _), (4, .string _), (5, .string _), (12, .bool _), (13, .pointer _), (14, .int _ _), (15, .pointer _), (16, .int _ _), (17, .pointer _), (18, .int _ _), (19, .pointer _), (20, .int _ _)] ⟨rfl, rfl, rfl, rfl, rfl, rfl, rfl, rfl, rfl, rfl, rfl, rfl, trivial⟩ (fun g => ?_)
        refine CW_reg rfl ?_
        refine OW_ev (Ev_mvi (.inl rfl) rfl) rfl ?_
        refine OW_ev (Ev_neq rfl rfl rfl) rfl ?_
        refine OW_ev (Ev_mvb (.inl rfl) rfl) rfl ?_
        refine OW_split (d := .tmp 66) rfl (fun c8 => ?_) (fun c8 => ?_)
        · have d8 := c8
          first | (with_reducible replace d8 := of_decide_eq_true d8) | (with_reducible replace d8 := bnt d8; try (with_reducible replace d8 := of_decide_eq_false d8)) | skip
          refine OW_no rfl rfl rfl rfl c8 ?_
          refine OW_no rfl rfl rfl rfl c8 ?_
          refine OW_ev (Ev_pickb_t rfl rfl c8 rfl) rfl ?_
          refine OW_ev (Ev_mvb (.inl rfl) rfl) rfl ?_
          refine OW_no rfl rfl rfl rfl rfl ?_
          refine OW_no rfl rfl rfl rfl rfl ?_
          refine OW_ev (Ev_pickb_t rfl rfl rfl rfl) rfl ?_
          refine OW_ev (Ev_mvb (.inl rfl) rfl) rfl ?_
          refine OW_no rfl rfl rfl rfl rfl ?_
          refine OW_no rfl rfl rfl rfl rfl ?_
          refine OW_ev (Ev_pickb_t rfl rfl rfl rfl) rfl ?_
          refine OW_ev (Ev_mvb (.inl rfl) rfl) rfl ?_
          refine OW_no rfl rfl rfl rfl rfl ?_
          refine OW_no rfl rfl rfl rfl rfl ?_
          refine OW_ev (Ev_pickb_t rfl rfl rfl rfl) rfl ?_
          refine OW_ev (Ev_mvb (.inl rfl) rfl) rfl ?_
          refine OW_no rfl rfl rfl rfl rfl ?_
          refine OW_no rfl rfl rfl rfl rfl ?_
          refine OW_ev (Ev_pickb_t rfl rfl rfl rfl) rfl ?_
          refine OW_ev (Ev_mvb (.inl rfl) rfl) rfl ?_
          refine OW_no rfl rfl rfl rfl rfl ?_
          refine OW_no rfl rfl rfl rfl rfl ?_
          refine OW_ev (Ev_pickb_t rfl rfl rfl rfl) rfl ?_
          refine OW_ev (Ev_mvb (.inl rfl) rfl) rfl ?_
          refine OW_no rfl rfl rfl rfl rfl ?_
          refine OW_no rfl rfl rfl rfl rfl ?_
          refine OW_ev (Ev_pickb_t rfl rfl rfl rfl) rfl ?_
          refine OW_nil ?_
          refine CW_cond_t rfl rfl ?_
          refine CW_seq ?_
          refine CW_re [(3, .int _ _), (4, .string _), (5, .string _), (12, .bool _), (13, .pointer _), (15, .pointer _), (17, .pointer _), (19, .pointer _)] ⟨rfl, rfl, rfl, rfl, rfl, rfl, rfl, rfl, trivial⟩ (fun g => ?_)
          refine CW_reg rfl ?_
          refine OW_st rfl (Stp_call ent_10 rfl rfl rfl (placed_c _) ?_)
          rintro _ w9 ⟨E9, rfl⟩
          have Z9 := E9.size
          have T := T.keep0 E9
          refine OW_ev (Ev_mvb (.inr rfl) rfl) rfl ?_
          refine OW_nil ?_
          refine CW_ret ?_
          refine ⟨rfl, _, (.tmp rfl .nil), ?_⟩
          first | exact ⟨T, rfl⟩ | exact ⟨T, vb rfl (decide_eq_true rfl)⟩
        · have d8 := c8
          first | (with_reducible replace d8 := of_decide_eq_false d8) | (with_reducible replace d8 := bnf d8; try (with_reducible replace d8 := of_decide_eq_true d8)) | skip
          exact absurd (by decide) d8

set_option maxRecDepth 10000 in
set_option maxHeartbeats 2000000 in
theorem joins_bad2 {w : World} {mn s : Nat} {wide at_ : Int} {m c : List UInt8} (hok : newOk mn s) (hbad : ∀ bl bm, ¬ fit (DkM.new mn s bl bm) 0 wide) : Calls Try.prog 4 #[.int .i64 (mn : Int), .int .i64 (s : Int), .int .i64 wide, .int .i64 at_, St m, St c] w (Ret fun v w' => Kp0 w w' ∧ v = .bool (true)) := by
  have T : Kp0 w w := Kp.refl _ _
  refine calls_start Try.func4 rfl (n := 179) rfl rfl rfl ?_
  refine CW_seq ?_
  refine CW_reg rfl ?_
  refine OW_ev (Ev_c (.inr rfl)) rfl ?_
  refine OW_nil ?_
  refine CW_seq ?_
  refine CW_seq ?_
  refine CW_reg rfl ?_
  refine OW_ev (Ev_mvi (.inl rfl) rfl) rfl ?_
  refine OW_ev (Ev_gtr rfl rfl rfl) rfl ?_
  refine OW_ev (Ev_mvb (.inl rfl) rfl) rfl ?_
  refine OW_split (d := .tmp 30) rfl (fun c1 => ?_) (fun c1 => ?_)
  · have d1 := c1
    first | (with_reducible replace d1 := of_decide_eq_true d1) | (with_reducible replace d1 := bnt d1; try (with_reducible replace d1 := of_decide_eq_false d1)) | skip
    refine OW_no rfl rfl rfl rfl c1 ?_
    refine OW_no rfl rfl rfl rfl c1 ?_
    refine OW_no rfl rfl rfl rfl c1 ?_
    refine OW_ev (Ev_pickb_t rfl rfl c1 rfl) rfl ?_
    refine OW_ev (Ev_mvb (.inl rfl) rfl) rfl ?_
    refine OW_no rfl rfl rfl rfl rfl ?_
    refine OW_no rfl rfl rfl rfl rfl ?_
    refine OW_no rfl rfl rfl rfl rfl ?_
    refine OW_ev (Ev_pickb_t rfl rfl rfl rfl) rfl ?_
    refine OW_nil ?_
    refine CW_cond_t rfl rfl ?_
    refine CW_seq ?_
    refine CW_re [(0, .int _ _), (1, .int _ _), (2, .int _ _), (3, .int _ _), (4, .string _), (5, .string _), (12, .bool _)] ⟨rfl, rfl, rfl, rfl, rfl, rfl, rfl, trivial⟩ (fun g => ?_)
    refine CW_reg rfl ?_
    refine OW_ev (Ev_c (.inr rfl)) rfl ?_
    refine OW_nil ?_
    refine CW_ret ?_
    refine ⟨rfl, _, (.tmp rfl .nil), ?_⟩
    first | exact ⟨T, rfl⟩ | exact ⟨T, vb rfl (decide_eq_true rfl)⟩
  · have d1 := c1
    first | (with_reducible replace d1 := of_decide_eq_false d1) | (with_reducible replace d1 := bnf d1; try (with_reducible replace d1 := of_decide_eq_true d1)) | skip
    refine OW_yes rfl rfl rfl rfl c1 (Ev.stp (Ev_mvst (.inl rfl) rfl) ?_)
    refine OW_yes rfl rfl rfl rfl c1 (Ev.stp (Ev_lenSt und_9 rfl rfl) ?_)
    refine OW_yes rfl rfl rfl rfl c1 (Ev.stp (Ev_gtr rfl rfl rfl) ?_)
    refine OW_ev (Ev_pickb_f rfl rfl c1 rfl) rfl ?_
    refine OW_ev (Ev_mvb (.inl rfl) rfl) rfl ?_
    refine OW_split (d := .tmp 35) rfl (fun c2 => ?_) (fun c2 => ?_)
    · have d2 := c2
      first | (with_reducible replace d2 := of_decide_eq_true d2) | (with_reducible replace d2 := bnt d2; try (with_reducible replace d2 := of_decide_eq_false d2)) | skip
      refine OW_no rfl rfl rfl rfl c2 ?_
      refine OW_no rfl rfl rfl rfl c2 ?_
      refine OW_no rfl rfl rfl rfl c2 ?_
      refine OW_ev (Ev_pickb_t rfl rfl c2 rfl) rfl ?_
      refine OW_nil ?_
      refine CW_cond_t rfl rfl ?_
      refine CW_seq ?_
      refine CW_re [(0, .int _ _), (1, .int _ _), (2, .int _ _), (3, .int _ _), (4, .string _), (5, .string _), (12, .bool _)] ⟨rfl, rfl, rfl, rfl, rfl, rfl, rfl, trivial⟩ (fun g => ?_)
      refine CW_reg rfl ?_
      refine OW_ev (Ev_c (.inr rfl)) rfl ?_
      refine OW_nil ?_
      refine CW_ret ?_
      refine ⟨rfl, _, (.tmp rfl .nil), ?_⟩
      first | exact ⟨T, rfl⟩ | exact ⟨T, vb rfl (decide_eq_true rfl)⟩
    · have d2 := c2
      first | (with_reducible replace d2 := of_decide_eq_false d2) | (with_reducible replace d2 := bnf d2; try (with_reducible replace d2 := of_decide_eq_true d2)) | skip
      refine OW_yes rfl rfl rfl rfl c2 (Ev.stp (Ev_mvst (.inl rfl) rfl) ?_)
      refine OW_yes rfl rfl rfl rfl c2 (Ev.stp (Ev_lenSt und_9 rfl rfl) ?_)
      refine OW_yes rfl rfl rfl rfl c2 (Ev.stp (Ev_gtr rfl rfl rfl) ?_)
      refine OW_ev (Ev_pickb_f rfl rfl c2 rfl) rfl ?_
      refine OW_nil ?_
      refine CW_cond rfl (fun c3 => ?_) (fun c3 => ?_)
      · have d3 := c3
        first | (with_reducible replace d3 := of_decide_eq_true d3) | (with_reducible replace d3 := bnt d3; try (with_reducible replace d3 := of_decide_eq_false d3)) | skip
        refine CW_seq ?_
        refine CW_re [(0, .int _ _), (1, .int _ _), (2, .int _ _), (3, .int _ _), (4, .string _), (5, .string _), (12, .bool _)] ⟨rfl, rfl, rfl, rfl, rfl, rfl, rfl, trivial⟩ (fun g => ?_)
        refine CW_reg rfl ?_
        refine OW_ev (Ev_c (.inr rfl)) rfl ?_
        refine OW_nil ?_
        refine CW_ret ?_
        refine ⟨rfl, _, (.tmp rfl .nil), ?_⟩
        first | exact ⟨T, rfl⟩ | exact ⟨T, vb rfl (decide_eq_true rfl)⟩
      · have d3 := c3
        first | (with_reducible replace d3 := of_decide_eq_false d3) | (with_reducible replace d3 := bnf d3; try (with_reducible replace d3 := of_decide_eq_true d3)) | skip
        have hb1 : m.length ≤ 5000 := by omega
        have hb2 : c.length ≤ 5000 := by omega
        refine CW_skip ?_
        refine CW_seq ?_
        refine CW_re [(0, .int _ _), (1, .int _ _), (2, .int _ _), (3, .int _ _), (4, .string _), (5, .string _), (12, .bool _)] ⟨rfl, rfl, rfl, rfl, rfl, rfl, rfl, trivial⟩ (fun g => ?_)
        refine CW_reg rfl ?_
        refine OW_ev (Ev_mvi (.inl rfl) rfl) rfl ?_
        refine OW_ev (Ev_mvi (.inl rfl) rfl) rfl ?_
        refine OW_st rfl (Stp_call ent_8 rfl rfl rfl (snew_ok hok) ?_)
        rintro _ w4 ⟨E4, bd, bl, bm, rfl, hbd, HS1⟩
        have Z4 := E4.size
        have T := T.keep0 E4
        refine OW_ev (Ev_mvt (.inl rfl) rfl) rfl ?_
        refine OW_ev (Ev_extract (vs := _) rfl rfl rfl) rfl ?_
        refine OW_ev (Ev_extract (vs := _) rfl rfl rfl) rfl ?_
        refine OW_ev (Ev_mvp (.inr rfl) rfl) rfl ?_
        refine OW_ev (Ev_mvi (.inr rfl) rfl) rfl ?_
        refine OW_nil ?_
        refine CW_seq ?_
        refine CW_reg rfl ?_
        refine OW_ev (Ev_mvi (.inl rfl) rfl) rfl ?_
        refine OW_ev (Ev_mvi (.inl rfl) rfl) rfl ?_
        refine OW_st rfl (Stp_call ent_8 rfl rfl rfl (snew_ok hok) ?_)
        rintro _ w5 ⟨E5, bd2, bl2, bm2, rfl, hbd2, HS2⟩
        have Z5 := E5.size
        have T := T.keep0 E5
        have HS1 := HS1.keep0 E5
        refine OW_ev (Ev_mvt (.inl rfl) rfl) rfl ?_
        refine OW_ev (Ev_extract (vs := _) rfl rfl rfl) rfl ?_
        refine OW_ev (Ev_extract (vs := _) rfl rfl rfl) rfl ?_
        refine OW_ev (Ev_mvp (.inr rfl) rfl) rfl ?_
        refine OW_ev (Ev_mvi (.inr rfl) rfl) rfl ?_
        refine OW_nil ?_
        refine CW_seq ?_
        refine CW_re [(2, .int _ _), (3, .int _ _), (4, .string _), (5, .string _), (12, .bool _), (13, .pointer _), (14, .int _ _), (15, .pointer _), (16, .int _ _)] ⟨rfl, rfl, rfl, rfl, rfl, rfl, rfl, rfl, rfl, trivial⟩ (fun g => ?_)
        refine CW_reg rfl ?_
        refine OW_ev (Ev_mvp (.inl rfl) rfl) rfl ?_
        refine OW_ev (Ev_mvi (.inl rfl) rfl) rfl ?_
        refine OW_st rfl (Stp_call ent_9 rfl rfl rfl (anew_bad HS1 (hbad bl bm)) ?_)
        rintro _ w6 ⟨E6, rfl⟩
        have Z6 := E6.size
        have T := T.keep0 E6
        have HS1 := HS1.keep0 E6
        have HS2 := HS2.keep0 E6
        refine OW_ev (Ev_mvt (.inl rfl) rfl) rfl ?_
        refine OW_ev (Ev_extract (vs := _) rfl rfl rfl) rfl ?_
        refine OW_ev (Ev_extract (vs := _) rfl rfl rfl) rfl ?_
        refine OW_ev (Ev_mvp (.inr rfl) rfl) rfl ?_
        refine OW_ev (Ev_mvi (.inr rfl) rfl) rfl ?_
        refine OW_nil ?_
        refine CW_seq ?_
        refine CW_reg rfl ?_
        refine OW_ev (Ev_mvp (.inl rfl) rfl) rfl ?_
        refine OW_ev (Ev_mvi (.inl rfl) rfl) rfl ?_
        refine OW_st rfl (Stp_call ent_9 rfl rfl rfl (anew_bad HS2 (hbad bl2 bm2)) ?_)
        rintro _ w7 ⟨E7, rfl⟩
        have Z7 := E7.size
        have T := T.keep0 E7
        have HS1 := HS1.keep0 E7
        have HS2 := HS2.keep0 E7
        refine OW_ev (Ev_mvt (.inl rfl) rfl) rfl ?_
        refine OW_ev (Ev_extract (vs := _) rfl rfl rfl) rfl ?_
        refine OW_ev (Ev_extract (vs := _) rfl rfl rfl) rfl ?_
        refine OW_ev (Ev_mvp (.inr rfl) rfl) rfl ?_
        refine OW_ev (Ev_mvi (.inr rfl) rfl) rfl ?_
        refine OW_nil ?_
        refine CW_seq ?_
        refine CW_seq ?_
        refine CW_re [(3, .int _ _), (4, .string _), (5, .string _), (12, .bool _), (13, .pointer _), (14, .int _ _), (15, .pointer _), (16, .int _ _), (17, .pointer _), (18, .int _ _), (19, .pointer _), (20, .int _ _)] ⟨rfl, rfl, rfl, rfl, rfl, rfl, rfl, rfl, rfl, rfl, rfl, rfl, trivial⟩ (fun g => ?_)
        refine CW_reg rfl ?_
        refine OW_ev (Ev_mvi (.inl rfl) rfl) rfl ?_
        refine OW_ev (Ev_neq rfl rfl rfl) rfl ?_
        refine OW_ev (Ev_mvb (.inl rfl) rfl) rfl ?_
        refine OW_split (d := .tmp 66) rfl (fun c8 => ?_) (fun c8 => ?_)
        · have d8 := c8
          first | (with_reducible replace d8 := of_decide_eq_true d8) | (with_reducible replace d8 := bnt d8; try (with_reducible replace d8 := of_decide_eq_false d8)) | skip
          exact absurd rfl d8
        · have d8 := c8
          first | (with_reducible replace d8 := of_decide_eq_false d8) | (with_reducible replace d8 := bnf d8; try (with_reducible replace d8 := of_decide_eq_true d8)) | skip
          refine OW_yes rfl rfl rfl rfl c8 (Ev.stp (Ev_mvi (.inl rfl) rfl) ?_)
          refine OW_yes rfl rfl rfl rfl c8 (Ev.stp (Ev_neq rfl rfl rfl) ?_)
          refine OW_ev (Ev_pickb_f rfl rfl c8 rfl) rfl ?_
          refine OW_ev (Ev_mvb (.inl rfl) rfl) rfl ?_
          refine OW_split (d := .tmp 70) rfl (fun c9 => ?_) (fun c9 => ?_)
          · have d9 := c9
            first | (with_reducible replace d9 := of_decide_eq_true d9) | (with_reducible replace d9 := bnt d9; try (with_reducible replace d9 := of_decide_eq_false d9)) | skip
            exact absurd rfl d9
          · have d9 := c9
            first | (with_reducible replace d9 := of_decide_eq_false d9) | (with_reducible replace d9 := bnf d9; try (with_reducible replace d9 := of_decide_eq_true d9)) | skip
            refine OW_yes rfl rfl rfl rfl c9 (Ev.stp (Ev_mvi (.inl rfl) rfl) ?_)
            refine OW_yes rfl rfl rfl rfl c9 (Ev.stp (Ev_neq rfl rfl rfl) ?_)
            refine OW_ev (Ev_pickb_f rfl rfl c9 rfl) rfl ?_
            refine OW_ev (Ev_mvb (.inl rfl) rfl) rfl ?_
            refine OW_split (d := .tmp 74) rfl (fun c10 => ?_) (fun c10 => ?_)
            · have d10 := c10
              first | (with_reducible replace d10 := of_decide_eq_true d10) | (with_reducible replace d10 := bnt d10; try (with_reducible replace d10 := of_decide_eq_false d10)) | skip
              refine OW_no rfl rfl rfl rfl c10 ?_
              refine OW_no rfl rfl rfl rfl c10 ?_
              refine OW_ev (Ev_pickb_t rfl rfl c10 rfl) rfl ?_
              refine OW_ev (Ev_mvb (.inl rfl) rfl) rfl ?_
              refine OW_no rfl rfl rfl rfl rfl ?_
              refine OW_no rfl rfl rfl rfl rfl ?_
              refine OW_ev (Ev_pickb_t rfl rfl rfl rfl) rfl ?_
              refine OW_ev (Ev_mvb (.inl rfl) rfl) rfl ?_
              refine OW_no rfl rfl rfl rfl rfl ?_
              refine OW_no rfl rfl rfl rfl rfl ?_
              refine OW_ev (Ev_pickb_t rfl rfl rfl rfl) rfl ?_
              refine OW_ev (Ev_mvb (.inl rfl) rfl) rfl ?_
              refine OW_no rfl rfl rfl rfl rfl ?_
              refine OW_no rfl rfl rfl rfl rfl ?_
              refine OW_ev (Ev_pickb_t rfl rfl rfl rfl) rfl ?_
              refine OW_ev (Ev_mvb (.inl rfl) rfl) rfl ?_
              refine OW_no rfl rfl rfl rfl rfl ?_
              refine OW_no rfl rfl rfl rfl rfl ?_
              refine OW_ev (Ev_pickb_t rfl rfl rfl rfl) rfl ?_
              refine OW_nil ?_
              refine CW_cond_t rfl rfl ?_
              refine CW_seq ?_
              refine CW_re [(3, .int _ _), (4, .string _), (5, .string _), (12, .bool _), (13, .pointer _), (15, .pointer _), (17, .pointer _), (19, .pointer _)] ⟨rfl, rfl, rfl, rfl, rfl, rfl, rfl, rfl, trivial⟩ (fun g => ?_)
              refine CW_reg rfl ?_
              refine OW_st rfl (Stp_call ent_10 rfl rfl rfl (placed_c _) ?_)
              rintro _ w11 ⟨E11, rfl⟩
              have Z11 := E11.size
              have T := T.keep0 E11
              have HS1 := HS1.keep0 E11
              have HS2 := HS2.keep0 E11
              refine OW_ev (Ev_mvb (.inr rfl) rfl) rfl ?_
              refine OW_nil ?_
              refine CW_ret ?_
              refine ⟨rfl, _, (.tmp rfl .nil), ?_⟩
              first | exact ⟨T, rfl⟩ | exact ⟨T, vb rfl (decide_eq_true rfl)⟩
            · have d10 := c10
              first | (with_reducible replace d10 := of_decide_eq_false d10) | (with_reducible replace d10 := bnf d10; try (with_reducible replace d10 := of_decide_eq_true d10)) | skip
              exact absurd (by decide) d10

set_option maxRecDepth 10000 in
set_option maxHeartbeats 2000000 in
theorem joins_ok {w : World} {mn s wd : Nat} {at_ : Int} {m c : List UInt8} (hok : newOk mn s) (hfit : ∀ bl bm, fit (DkM.new mn s bl bm) 0 wd) : Calls Try.prog 4 #[.int .i64 (mn : Int), .int .i64 (s : Int), .int .i64 (wd : Int), .int .i64 at_, St m, St c] w (Ret fun v w' => Kp0 w w' ∧ v = .bool (true)) := by
  obtain ⟨NW, hNW⟩ : ∃ x, x = w.heap.size := ⟨_, rfl⟩
  have T : Kp0 w w := Kp.refl _ _
  refine calls_start Try.func4 rfl (n := 179) rfl rfl rfl ?_
  refine CW_seq ?_
  refine CW_reg rfl ?_
  refine OW_ev (Ev_c (.inr rfl)) rfl ?_
  refine OW_nil ?_
  refine CW_seq ?_
  refine CW_seq ?_
  refine CW_reg rfl ?_
  refine OW_ev (Ev_mvi (.inl rfl) rfl) rfl ?_
  refine OW_ev (Ev_gtr rfl rfl rfl) rfl ?_
  refine OW_ev (Ev_mvb (.inl rfl) rfl) rfl ?_
  refine OW_split (d := .tmp 30) rfl (fun c1 => ?_) (fun c1 => ?_)
  · have d1 := c1
    first | (with_reducible replace d1 := of_decide_eq_true d1) | (with_reducible replace d1 := bnt d1; try (with_reducible replace d1 := of_decide_eq_false d1)) | skip
    refine OW_no rfl rfl rfl rfl c1 ?_
    refine OW_no rfl rfl rfl rfl c1 ?_
    refine OW_no rfl rfl rfl rfl c1 ?_
    refine OW_ev (Ev_pickb_t rfl rfl c1 rfl) rfl ?_
    refine OW_ev (Ev_mvb (.inl rfl) rfl) rfl ?_
    refine OW_no rfl rfl rfl rfl rfl ?_
    refine OW_no rfl rfl rfl rfl rfl ?_
    refine OW_no rfl rfl rfl rfl rfl ?_
    refine OW_ev (Ev_pickb_t rfl rfl rfl rfl) rfl ?_
    refine OW_nil ?_
    refine CW_cond_t rfl rfl ?_
    refine CW_seq ?_
    refine CW_re [(0, .int _ _), (1, .int _ _), (2, .int _ _), (3, .int _ _), (4, .string _), (5, .string _), (12, .bool _)] ⟨rfl, rfl, rfl, rfl, rfl, rfl, rfl, trivial⟩ (fun g => ?_)
    refine CW_reg rfl ?_
    refine OW_ev (Ev_c (.inr rfl)) rfl ?_
    refine OW_nil ?_
    refine CW_ret ?_
    refine ⟨rfl, _, (.tmp rfl .nil), ?_⟩
    first | exact ⟨T, rfl⟩ | exact ⟨T, vb rfl (decide_eq_true hll)⟩ | exact ⟨T, vb rfl (decide_eq_true (by omega))⟩
  · have d1 := c1
    first | (with_reducible replace d1 := of_decide_eq_false d1) | (with_reducible replace d1 := bnf d1; try (with_reducible replace d1 := of_decide_eq_true d1)) | skip
    refine OW_yes rfl rfl rfl rfl c1 (Ev.stp (Ev_mvst (.inl rfl) rfl) ?_)
    refine OW_yes rfl rfl rfl rfl c1 (Ev.stp (Ev_lenSt und_9 rfl rfl) ?_)
    refine OW_yes rfl rfl rfl rfl c1 (Ev.stp (Ev_gtr rfl rfl rfl) ?_)
    refine OW_ev (Ev_pickb_f rfl rfl c1 rfl) rfl ?_
    refine OW_ev (Ev_mvb (.inl rfl) rfl) rfl ?_
    refine OW_split (d := .tmp 35) rfl (fun c2 => ?_) (fun c2 => ?_)
    · have d2 := c2
      first | (with_reducible replace d2 := of_decide_eq_true d2) | (with_reducible replace d2 := bnt d2; try (with_reducible replace d2 := of_decide_eq_false d2)) | skip
      refine OW_no rfl rfl rfl rfl c2 ?_
      refine OW_no rfl rfl rfl rfl c2 ?_
      refine OW_no rfl rfl rfl rfl c2 ?_
      refine OW_ev (Ev_pickb_t rfl rfl c2 rfl) rfl ?_
      refine OW_nil ?_
      refine CW_cond_t rfl rfl ?_
      refine CW_seq ?_
      refine CW_re [(0, .int _ _), (1, .int _ _), (2, .int _ _), (3, .int _ _), (4, .string _), (5, .string _), (12, .bool _)] ⟨rfl, rfl, rfl, rfl, rfl, rfl, rfl, trivial⟩ (fun g => ?_)
      refine CW_reg rfl ?_
      refine OW_ev (Ev_c (.inr rfl)) rfl ?_
      refine OW_nil ?_
      refine CW_ret ?_
      refine ⟨rfl, _, (.tmp rfl .nil), ?_⟩
      first | exact ⟨T, rfl⟩ | exact ⟨T, vb rfl (decide_eq_true hll)⟩ | exact ⟨T, vb rfl (decide_eq_true (by omega))⟩
    · have d2 := c2
      first | (with_reducible replace d2 := of_decide_eq_false d2) | (with_reducible replace d2 := bnf d2; try (with_reducible replace d2 := of_decide_eq_true d2)) | skip
      refine OW_yes rfl rfl rfl rfl c2 (Ev.stp (Ev_mvst (.inl rfl) rfl) ?_)
      refine OW_yes rfl rfl rfl rfl c2 (Ev.stp (Ev_lenSt und_9 rfl rfl) ?_)
      refine OW_yes rfl rfl rfl rfl c2 (Ev.stp (Ev_gtr rfl rfl rfl) ?_)
      refine OW_ev (Ev_pickb_f rfl rfl c2 rfl) rfl ?_
      refine OW_nil ?_
      refine CW_cond rfl (fun c3 => ?_) (fun c3 => ?_)
      · have d3 := c3
        first | (with_reducible replace d3 := of_decide_eq_true d3) | (with_reducible replace d3 := bnt d3; try (with_reducible replace d3 := of_decide_eq_false d3)) | skip
        refine CW_seq ?_
        refine CW_re [(0, .int _ _), (1, .int _ _), (2, .int _ _), (3, .int _ _), (4, .string _), (5, .string _), (12, .bool _)] ⟨rfl, rfl, rfl, rfl, rfl, rfl, rfl, trivial⟩ (fun g => ?_)
        refine CW_reg rfl ?_
        refine OW_ev (Ev_c (.inr rfl)) rfl ?_
        refine OW_nil ?_
        refine CW_ret ?_
        refine ⟨rfl, _, (.tmp rfl .nil), ?_⟩
        first | exact ⟨T, rfl⟩ | exact ⟨T, vb rfl (decide_eq_true hll)⟩ | exact ⟨T, vb rfl (decide_eq_true (by omega))⟩
      · have d3 := c3
        first | (with_reducible replace d3 := of_decide_eq_false d3) | (with_reducible replace d3 := bnf d3; try (with_reducible replace d3 := of_decide_eq_true d3)) | skip
        have hb1 : m.length ≤ 5000 := by omega
        have hb2 : c.length ≤ 5000 := by omega
        refine CW_skip ?_
        refine CW_seq ?_
        refine CW_re [(0, .int _ _), (1, .int _ _), (2, .int _ _), (3, .int _ _), (4, .string _), (5, .string _), (12, .bool _)] ⟨rfl, rfl, rfl, rfl, rfl, rfl, rfl, trivial⟩ (fun g => ?_)
        refine CW_reg rfl ?_
        refine OW_ev (Ev_mvi (.inl rfl) rfl) rfl ?_
        refine OW_ev (Ev_mvi (.inl rfl) rfl) rfl ?_
        refine OW_st rfl (Stp_call ent_8 rfl rfl rfl (snew_ok hok) ?_)
        rintro _ w4 ⟨E4, bd1, bl1, bm1, rfl, hbd1, HS1⟩
        have Z4 := E4.size
        have T := T.keep0 E4
        obtain ⟨dk10, hdk10⟩ : ∃ x, x = DkM.new mn s bl1 bm1 := ⟨_, rfl⟩
        rw [← hdk10] at HS1
        have em1 : dk10.many = mn := by rw [hdk10]; rfl
        have es1 : dk10.size = s := by rw [hdk10]; rfl
        have ec1 : calm dk10.g := by rw [hdk10]; exact new_calm _ _ _ _
        have ep1 : dk10.ps = [] := by rw [hdk10]; rfl
        have eV1 : dk10.V = List.replicate (mn * s) 0 := by rw [hdk10]; rfl
        obtain ⟨SZ1, hSZ1⟩ : ∃ x, x = w4.heap.size := ⟨_, rfl⟩
        have HS1 := HS1.bound
        refine OW_ev (Ev_mvt (.inl rfl) rfl) rfl ?_
        refine OW_ev (Ev_extract (vs := _) rfl rfl rfl) rfl ?_
        refine OW_ev (Ev_extract (vs := _) rfl rfl rfl) rfl ?_
        refine OW_ev (Ev_mvp (.inr rfl) rfl) rfl ?_
        refine OW_ev (Ev_mvi (.inr rfl) rfl) rfl ?_
        refine OW_nil ?_
        refine CW_seq ?_
        refine CW_reg rfl ?_
        refine OW_ev (Ev_mvi (.inl rfl) rfl) rfl ?_
        refine OW_ev (Ev_mvi (.inl rfl) rfl) rfl ?_
        refine OW_st rfl (Stp_call ent_8 rfl rfl rfl (snew_ok hok) ?_)
        rintro _ w5 ⟨E5, bd2, bl2, bm2, rfl, hbd2, HS2⟩
        have Z5 := E5.size
        have T := T.keep0 E5
        have HS1 := HS1.keep0 E5
        obtain ⟨dk20, hdk20⟩ : ∃ x, x = DkM.new mn s bl2 bm2 := ⟨_, rfl⟩
        rw [← hdk20] at HS2
        have em2 : dk20.many = mn := by rw [hdk20]; rfl
        have es2 : dk20.size = s := by rw [hdk20]; rfl
        have ec2 : calm dk20.g := by rw [hdk20]; exact new_calm _ _ _ _
        have ep2 : dk20.ps = [] := by rw [hdk20]; rfl
        have eV2 : dk20.V = List.replicate (mn * s) 0 := by rw [hdk20]; rfl
        obtain ⟨SZ2, hSZ2⟩ : ∃ x, x = w5.heap.size := ⟨_, rfl⟩
        have HS2 := HS2.bound
        refine OW_ev (Ev_mvt (.inl rfl) rfl) rfl ?_
        refine OW_ev (Ev_extract (vs := _) rfl rfl rfl) rfl ?_
        refine OW_ev (Ev_extract (vs := _) rfl rfl rfl) rfl ?_
        refine OW_ev (Ev_mvp (.inr rfl) rfl) rfl ?_
        refine OW_ev (Ev_mvi (.inr rfl) rfl) rfl ?_
        refine OW_nil ?_
        refine CW_seq ?_
        refine CW_re [(2, .int _ _), (3, .int _ _), (4, .string _), (5, .string _), (12, .bool _), (13, .pointer _), (14, .int _ _), (15, .pointer _), (16, .int _ _)] ⟨rfl, rfl, rfl, rfl, rfl, rfl, rfl, rfl, rfl, trivial⟩ (fun g => ?_)
        refine CW_reg rfl ?_
        refine OW_ev (Ev_mvp (.inl rfl) rfl) rfl ?_
        refine OW_ev (Ev_mvi (.inl rfl) rfl) rfl ?_
        refine OW_st rfl (Stp_call ent_9 rfl rfl rfl (anew_ok (f := 0) (m := wd) HS1 (by rw [hdk10]; exact hfit _ _)) ?_)
        rintro _ w6 ⟨E6, ba, rfl, hba, hA1⟩
        have Z6 := E6.size
        have T := T.keep0 E6
        have HS1 := HS1.keep0 E6
        have HS2 := HS2.keep0 E6
        rw [es1] at hA1
        have hal0 := hA1.lt
        refine OW_ev (Ev_mvt (.inl rfl) rfl) rfl ?_
        refine OW_ev (Ev_extract (vs := _) rfl rfl rfl) rfl ?_
        refine OW_ev (Ev_extract (vs := _) rfl rfl rfl) rfl ?_
        refine OW_ev (Ev_mvp (.inr rfl) rfl) rfl ?_
        refine OW_ev (Ev_mvi (.inr rfl) rfl) rfl ?_
        refine OW_nil ?_
        refine CW_seq ?_
        refine CW_reg rfl ?_
        refine OW_ev (Ev_mvp (.inl rfl) rfl) rfl ?_
        refine OW_ev (Ev_mvi (.inl rfl) rfl) rfl ?_
        refine OW_st rfl (Stp_call ent_9 rfl rfl rfl (anew_ok (f := 0) (m := wd) HS2 (by rw [hdk20]; exact hfit _ _)) ?_)
        rintro _ w7 ⟨E7, oa, rfl, hob, hA2⟩
        have Z7 := E7.size
        have T := T.keep0 E7
        have hA1 := hA1.keep0 E7
        rw [es2] at hA2
        have hal := hA1.lt
        have hol := hA2.lt
        have hoa : oa ≠ ba := by omega
        obtain ⟨P1, P2, hS1, hS2, dis, q1, q2⟩ : ∃ P1 P2 : Nat → Prop, DkS P1 w7 bd1 dk10 ∧ DkS P2 w7 bd2 dk20 ∧ (∀ b, P1 b → ¬ P2 b) ∧ (∀ b, P1 b → NW ≤ b ∧ b ≠ ba ∧ b ≠ oa) ∧ (∀ b, P2 b → NW ≤ b ∧ b ≠ ba ∧ b ≠ oa) := ⟨_, _, HS1.keep0 E7, HS2.keep0 E7, fun b h1 h2 => (by have a1 := h1.2; have a2 := h2.1; omega), fun b h => ⟨by have := h.1; omega, by have := h.2; omega, by have := h.2; omega⟩, fun b h => ⟨by have := h.1; omega, by have := h.2; omega, by have := h.2; omega⟩⟩
        have hbl : ba < (World.heap w7).size ∧ oa < (World.heap w7).size := ⟨by omega, by omega⟩
        have hbl0 : NW ≤ (World.heap w7).size := by omega
        clear HS1 HS2
        have hf0 := hfit bl1 bm1
        have hwd : 1 ≤ wd ∧ wd ≤ mn := by unfold fit at hf0; change (1 : Int) ≤ wd ∧ (wd : Int) ≤ mn ∧ _ at hf0; omega
        have hf1 : 0 + wd ≤ dk10.many := by omega
        have hf2 : 0 + wd ≤ dk20.many := by omega
        refine OW_ev (Ev_mvt (.inl rfl) rfl) rfl ?_
        refine OW_ev (Ev_extract (vs := _) rfl rfl rfl) rfl ?_
        refine OW_ev (Ev_extract (vs := _) rfl rfl rfl) rfl ?_
        refine OW_ev (Ev_mvp (.inr rfl) rfl) rfl ?_
        refine OW_ev (Ev_mvi (.inr rfl) rfl) rfl ?_
        refine OW_nil ?_
        refine CW_seq ?_
        refine CW_seq ?_
        refine CW_re [(3, .int _ _), (4, .string _), (5, .string _), (12, .bool _), (13, .pointer _), (14, .int _ _), (15, .pointer _), (16, .int _ _), (17, .pointer _), (18, .int _ _), (19, .pointer _), (20, .int _ _)] ⟨rfl, rfl, rfl, rfl, rfl, rfl, rfl, rfl, rfl, rfl, rfl, rfl, trivial⟩ (fun g => ?_)
        refine CW_reg rfl ?_
        refine OW_ev (Ev_mvi (.inl rfl) rfl) rfl ?_
        refine OW_ev (Ev_neq rfl rfl rfl) rfl ?_
        refine OW_ev (Ev_mvb (.inl rfl) rfl) rfl ?_
        refine OW_split (d := .tmp 66) rfl (fun c8 => ?_) (fun c8 => ?_)
        · have d8 := c8
          first | (with_reducible replace d8 := of_decide_eq_true d8) | (with_reducible replace d8 := bnt d8; try (with_reducible replace d8 := of_decide_eq_false d8)) | skip
          exact absurd rfl d8
        · have d8 := c8
          first | (with_reducible replace d8 := of_decide_eq_false d8) | (with_reducible replace d8 := bnf d8; try (with_reducible replace d8 := of_decide_eq_true d8)) | skip
          refine OW_yes rfl rfl rfl rfl c8 (Ev.stp (Ev_mvi (.inl rfl) rfl) ?_)
          refine OW_yes rfl rfl rfl rfl c8 (Ev.stp (Ev_neq rfl rfl rfl) ?_)
          refine OW_ev (Ev_pickb_f rfl rfl c8 rfl) rfl ?_
          refine OW_ev (Ev_mvb (.inl rfl) rfl) rfl ?_
          refine OW_split (d := .tmp 70) rfl (fun c9 => ?_) (fun c9 => ?_)
          · have d9 := c9
            first | (with_reducible replace d9 := of_decide_eq_true d9) | (with_reducible replace d9 := bnt d9; try (with_reducible replace d9 := of_decide_eq_false d9)) | skip
            exact absurd rfl d9
          · have d9 := c9
            first | (with_reducible replace d9 := of_decide_eq_false d9) | (with_reducible replace d9 := bnf d9; try (with_reducible replace d9 := of_decide_eq_true d9)) | skip
            refine OW_yes rfl rfl rfl rfl c9 (Ev.stp (Ev_mvi (.inl rfl) rfl) ?_)
            refine OW_yes rfl rfl rfl rfl c9 (Ev.stp (Ev_neq rfl rfl rfl) ?_)
            refine OW_ev (Ev_pickb_f rfl rfl c9 rfl) rfl ?_
            refine OW_ev (Ev_mvb (.inl rfl) rfl) rfl ?_
            refine OW_split (d := .tmp 74) rfl (fun c10 => ?_) (fun c10 => ?_)
            · have d10 := c10
              first | (with_reducible replace d10 := of_decide_eq_true d10) | (with_reducible replace d10 := bnt d10; try (with_reducible replace d10 := of_decide_eq_false d10)) | skip
              exact absurd rfl d10
            · have d10 := c10
              first | (with_reducible replace d10 := of_decide_eq_false d10) | (with_reducible replace d10 := bnf d10; try (with_reducible replace d10 := of_decide_eq_true d10)) | skip
              refine OW_yes rfl rfl rfl rfl c10 (Ev.stp (Ev_mvi (.inl rfl) rfl) ?_)
              refine OW_yes rfl rfl rfl rfl c10 (Ev.stp (Ev_neq rfl rfl rfl) ?_)
              refine OW_ev (Ev_pickb_f rfl rfl c10 rfl) rfl ?_
              refine OW_ev (Ev_mvb (.inl rfl) rfl) rfl ?_
              refine OW_split (d := .tmp 78) rfl (fun c11 => ?_) (fun c11 => ?_)
              · have d11 := c11
                first | (with_reducible replace d11 := of_decide_eq_true d11) | (with_reducible replace d11 := bnt d11; try (with_reducible replace d11 := of_decide_eq_false d11)) | skip
                exact absurd rfl d11
              · have d11 := c11
                first | (with_reducible replace d11 := of_decide_eq_false d11) | (with_reducible replace d11 := bnf d11; try (with_reducible replace d11 := of_decide_eq_true d11)) | skip
                refine OW_yes rfl rfl rfl rfl c11 (Ev.stp (Ev_mvp (.inl rfl) rfl) ?_)
                refine OW_yes rfl rfl rfl rfl c11 (Ev.stp (Ev_ptrNil und_26 rfl rfl) ?_)
                refine OW_ev (Ev_pickb_f rfl rfl c11 rfl) rfl ?_
                refine OW_ev (Ev_mvb (.inl rfl) rfl) rfl ?_
                refine OW_split (d := .tmp 82) rfl (fun c12 => ?_) (fun c12 => ?_)
                · have d12 := c12
                  first | (with_reducible replace d12 := of_decide_eq_true d12) | (with_reducible replace d12 := bnt d12; try (with_reducible replace d12 := of_decide_eq_false d12)) | skip
                  cases c12
                · have d12 := c12
                  first | (with_reducible replace d12 := of_decide_eq_false d12) | (with_reducible replace d12 := bnf d12; try (with_reducible replace d12 := of_decide_eq_true d12)) | skip
                  refine OW_yes rfl rfl rfl rfl c12 (Ev.stp (Ev_mvp (.inl rfl) rfl) ?_)
                  refine OW_yes rfl rfl rfl rfl c12 (Ev.stp (Ev_ptrNil und_26 rfl rfl) ?_)
                  refine OW_ev (Ev_pickb_f rfl rfl c12 rfl) rfl ?_
                  refine OW_ev (Ev_mvb (.inl rfl) rfl) rfl ?_
                  refine OW_split (d := .tmp 86) rfl (fun c13 => ?_) (fun c13 => ?_)
                  · have d13 := c13
                    first | (with_reducible replace d13 := of_decide_eq_true d13) | (with_reducible replace d13 := bnt d13; try (with_reducible replace d13 := of_decide_eq_false d13)) | skip
                    cases c13
                  · have d13 := c13
                    first | (with_reducible replace d13 := of_decide_eq_false d13) | (with_reducible replace d13 := bnf d13; try (with_reducible replace d13 := of_decide_eq_true d13)) | skip
                    refine OW_yes rfl rfl rfl rfl c13 (Ev.stp (Ev_mvi (.inl rfl) rfl) ?_)
                    refine OW_yes rfl rfl rfl rfl c13 (Ev.stp (Ev_lss rfl rfl rfl) ?_)
                    refine OW_ev (Ev_pickb_f rfl rfl c13 rfl) rfl ?_
                    refine OW_ev (Ev_mvb (.inl rfl) rfl) rfl ?_
                    refine OW_split (d := .tmp 90) rfl (fun c14 => ?_) (fun c14 => ?_)
                    · have d14 := c14
                      first | (with_reducible replace d14 := of_decide_eq_true d14) | (with_reducible replace d14 := bnt d14; try (with_reducible replace d14 := of_decide_eq_false d14)) | skip
                      refine OW_no rfl rfl rfl rfl c14 ?_
                      refine OW_no rfl rfl rfl rfl c14 ?_
                      refine OW_ev (Ev_pickb_t rfl rfl c14 rfl) rfl ?_
                      refine OW_nil ?_
                      refine CW_cond_t rfl rfl ?_
                      refine CW_seq ?_
                      refine CW_re [(3, .int _ _), (4, .string _), (5, .string _), (12, .bool _), (13, .pointer _), (15, .pointer _), (17, .pointer _), (19, .pointer _)] ⟨rfl, rfl, rfl, rfl, rfl, rfl, rfl, rfl, trivial⟩ (fun g => ?_)
                      refine CW_reg rfl ?_
                      refine OW_st rfl (Stp_call ent_10 rfl rfl rfl (placed_c _) ?_)
                      rintro _ w15 ⟨E15, rfl⟩
                      have Z15 := E15.size
                      have T := T.keep0 E15
                      have hA1 := hA1.keep0 E15
                      have hA2 := hA2.keep0 E15
                      have hS1 := hS1.keep0 E15
                      have hS2 := hS2.keep0 E15
                      refine OW_ev (Ev_mvb (.inr rfl) rfl) rfl ?_
                      refine OW_nil ?_
                      refine CW_ret ?_
                      refine ⟨rfl, _, (.tmp rfl .nil), ?_⟩
                      first | exact ⟨T, rfl⟩ | exact ⟨T, vb rfl (decide_eq_true hll)⟩ | exact ⟨T, vb rfl (decide_eq_true (by omega))⟩
                    · have d14 := c14
                      first | (with_reducible replace d14 := of_decide_eq_false d14) | (with_reducible replace d14 := bnf d14; try (with_reducible replace d14 := of_decide_eq_true d14)) | skip
                      obtain ⟨a, rfl⟩ : ∃ a : Nat, at_ = (a : Int) := ⟨at_.toNat, by omega⟩
                      refine OW_yes rfl rfl rfl rfl c14 (Ev.stp (Ev_mvi (.inl rfl) rfl) ?_)
                      refine OW_yes rfl rfl rfl rfl c14 (Ev.stp (Ev_gtr rfl rfl rfl) ?_)
                      refine OW_ev (Ev_pickb_f rfl rfl c14 rfl) rfl ?_
                      refine OW_nil ?_
                      refine CW_cond rfl (fun c16 => ?_) (fun c16 => ?_)
                      · have d16 := c16
                        first | (with_reducible replace d16 := of_decide_eq_true d16) | (with_reducible replace d16 := bnt d16; try (with_reducible replace d16 := of_decide_eq_false d16)) | skip
                        refine CW_seq ?_
                        refine CW_re [(3, .int _ _), (4, .string _), (5, .string _), (12, .bool _), (13, .pointer _), (15, .pointer _), (17, .pointer _), (19, .pointer _)] ⟨rfl, rfl, rfl, rfl, rfl, rfl, rfl, rfl, trivial⟩ (fun g => ?_)
                        refine CW_reg rfl ?_
                        refine OW_st rfl (Stp_call ent_10 rfl rfl rfl (placed_c _) ?_)
                        rintro _ w17 ⟨E17, rfl⟩
                        have Z17 := E17.size
                        have T := T.keep0 E17
                        have hA1 := hA1.keep0 E17
                        have hA2 := hA2.keep0 E17
                        have hS1 := hS1.keep0 E17
                        have hS2 := hS2.keep0 E17
                        refine OW_ev (Ev_mvb (.inr rfl) rfl) rfl ?_
                        refine OW_nil ?_
                        refine CW_ret ?_
                        refine ⟨rfl, _, (.tmp rfl .nil), ?_⟩
                        first | exact ⟨T, rfl⟩ | exact ⟨T, vb rfl (decide_eq_true hll)⟩ | exact ⟨T, vb rfl (decide_eq_true (by omega))⟩
                      · have d16 := c16
                        first | (with_reducible replace d16 := of_decide_eq_false d16) | (with_reducible replace d16 := bnf d16; try (with_reducible replace d16 := of_decide_eq_true d16)) | skip
                        have ha : a ≤ 100000 := by omega
                        refine CW_skip ?_
                        refine CW_seq ?_
                        refine CW_re [(3, .int _ _), (4, .string _), (5, .string _), (12, .bool _), (13, .pointer _), (15, .pointer _), (17, .pointer _), (19, .pointer _)] ⟨rfl, rfl, rfl, rfl, rfl, rfl, rfl, rfl, trivial⟩ (fun g => ?_)
                        refine CW_reg rfl ?_
                        refine OW_ev (Ev_mvp (.inl rfl) rfl) rfl ?_
                        refine OW_ev (Ev_mvi (.inl rfl) rfl) rfl ?_
                        refine OW_ev (Ev_mvst (.inl rfl) rfl) rfl ?_
                        refine OW_ev (Ev_mvst (.inl rfl) rfl) rfl ?_
                        refine OW_ev (Ev_strAdd rfl rfl rfl (by omega)) rfl ?_
                        refine OW_st rfl (Stp_call ent_11 rfl rfl rfl (putC_c hS1 hA1 (fun h => (q1 _ h).2.1 rfl) es1 hf1 ec1 (a : Int) (m ++ c) (by rw [List.length_append]; omega) (by rw [ep1]; exact Nat.zero_le _)) ?_)
                        rintro _ w18 ⟨er18, d18, rfl, E18, HS_, HA_, P18⟩
                        have Z18 := E18.size
                        have T := T.trans' E18 (fun i hi h => h.elim (fun h => by have := (q1 i h).1; omega) (fun h => by omega))
                        have hA2 := hA2.keep E18 (fun h => h.elim (fun h => (q1 _ h).2.2 rfl) (fun h => hoa h))
                        have hS2 := hS2.bound.keep E18 (fun b hb h => h.elim (fun h => dis b h hb.1) (fun h => (q2 b hb.1).2.1 h))
                        obtain ⟨P1, P2, hS1, hS2, dis, q1, q2⟩ := two_next HS_ hS2 dis q1 q2 hbl.1 hbl.2 hbl0
                        have Z18 := E18.size
                        have hbl : ba < (World.heap w18).size ∧ oa < (World.heap w18).size := ⟨by omega, by omega⟩
                        have hbl0 : NW ≤ (World.heap w18).size := by omega
                        have hA1 := HA_
                        obtain ⟨dk11, rfl⟩ : ∃ x, x = d18 := ⟨_, rfl⟩
                        obtain ⟨e1, rfl⟩ : ∃ x, x = er18 := ⟨_, rfl⟩
                        have Pa := P18
                        have ec11 : calm dk11.g := by rw [Pa.g]; exact ec1
                        have hp11 := Pa.pl
                        rw [ep1, List.length_append] at hp11
                        change dk11.ps.length ≤ 0 + _ at hp11
                        refine OW_ev (Ev_mvi (.inr rfl) rfl) rfl ?_
                        refine OW_nil ?_
                        refine CW_seq ?_
                        refine CW_reg rfl ?_
                        refine OW_ev (Ev_mvp (.inl rfl) rfl) rfl ?_
                        refine OW_ev (Ev_mvi (.inl rfl) rfl) rfl ?_
                        refine OW_ev (Ev_mvst (.inl rfl) rfl) rfl ?_
                        refine OW_st rfl (Stp_call ent_11 rfl rfl rfl (putC_c hS2 hA2 (fun h => (q2 _ h).2.2 rfl) es2 hf2 ec2 (a : Int) m (by omega) (by rw [ep2]; exact Nat.zero_le _)) ?_)
                        rintro _ w19 ⟨er19, d19, rfl, E19, HS_, HA_, P19⟩
                        have Z19 := E19.size
                        have T := T.trans' E19 (fun i hi h => h.elim (fun h => by have := (q2 i h).1; omega) (fun h => by omega))
                        have hS1 := hS1.bound.keep E19 (fun b hb h => h.elim (fun h => dis b hb.1 h) (fun h => (q1 b hb.1).2.2 h))
                        have hA1 := hA1.keep E19 (fun h => h.elim (fun h => (q2 _ h).2.1 rfl) (fun h => hoa h.symm))
                        obtain ⟨P2, P1, hS2, hS1, dis2, q2, q1⟩ := two_next (ba := ba) (oa := oa) HS_ hS1 (fun b h h2 => dis b h2 h) q2 q1 hbl.1 hbl.2 hbl0
                        have dis : ∀ b, P1 b → ¬ P2 b := fun b h h2 => dis2 b h2 h
                        have Z19 := E19.size
                        have hbl : ba < (World.heap w19).size ∧ oa < (World.heap w19).size := ⟨by omega, by omega⟩
                        have hbl0 : NW ≤ (World.heap w19).size := by omega
                        have hA2 := HA_
                        obtain ⟨dk21, rfl⟩ : ∃ x, x = d19 := ⟨_, rfl⟩
                        obtain ⟨e2, rfl⟩ : ∃ x, x = er19 := ⟨_, rfl⟩
                        have Pb := P19
                        have ec21 : calm dk21.g := by rw [Pb.g]; exact ec2
                        have hp21 := Pb.pl
                        rw [ep2] at hp21
                        change dk21.ps.length ≤ 0 + _ at hp21
                        refine OW_ev (Ev_mvi (.inr rfl) rfl) rfl ?_
                        refine OW_nil ?_
                        refine CW_seq ?_
                        refine CW_re [(3, .int _ _), (4, .string _), (5, .string _), (12, .bool _), (13, .pointer _), (15, .pointer _), (17, .pointer _), (19, .pointer _), (21, .int _ _), (22, .int _ _)] ⟨rfl, rfl, rfl, rfl, rfl, rfl, rfl, rfl, rfl, rfl, trivial⟩ (fun g => ?_)
                        refine CW_reg rfl ?_
                        refine OW_ev (Ev_mvp (.inl rfl) rfl) rfl ?_
                        refine OW_ev (Ev_mvi (.inl rfl) rfl) rfl ?_
                        refine OW_ev (Ev_mvst (.inl rfl) rfl) rfl ?_
                        refine OW_ev (Ev_lenSt und_9 rfl rfl) rfl ?_
                        refine OW_ev (Ev_add rfl rfl rfl (by apply IntWalk.i64_in; omega)) rfl ?_
                        refine OW_ev (Ev_mvst (.inl rfl) rfl) rfl ?_
                        refine OW_st rfl (Stp_call ent_11 rfl rfl rfl (putC_c hS2 hA2 (fun h => (q2 _ h).2.2 rfl) (Pb.size.trans es2) (by rw [Pb.many]; exact hf2) ec21 ((a : Int) + (m.length : Int)) c (by omega) (by omega)) ?_)
                        rintro _ w20 ⟨er20, d20, rfl, E20, HS_, HA_, P20⟩
                        have Z20 := E20.size
                        have T := T.trans' E20 (fun i hi h => h.elim (fun h => by have := (q2 i h).1; omega) (fun h => by omega))
                        have hS1 := hS1.bound.keep E20 (fun b hb h => h.elim (fun h => dis b hb.1 h) (fun h => (q1 b hb.1).2.2 h))
                        have hA1 := hA1.keep E20 (fun h => h.elim (fun h => (q2 _ h).2.1 rfl) (fun h => hoa h.symm))
                        obtain ⟨P2, P1, hS2, hS1, dis2, q2, q1⟩ := two_next (ba := ba) (oa := oa) HS_ hS1 (fun b h h2 => dis b h2 h) q2 q1 hbl.1 hbl.2 hbl0
                        have dis : ∀ b, P1 b → ¬ P2 b := fun b h h2 => dis2 b h2 h
                        have Z20 := E20.size
                        have hbl : ba < (World.heap w20).size ∧ oa < (World.heap w20).size := ⟨by omega, by omega⟩
                        have hbl0 : NW ≤ (World.heap w20).size := by omega
                        have hA2 := HA_
                        obtain ⟨dk22, rfl⟩ : ∃ x, x = d20 := ⟨_, rfl⟩
                        obtain ⟨e3, rfl⟩ : ∃ x, x = er20 := ⟨_, rfl⟩
                        have Pc := P20
                        have ec22 : calm dk22.g := by rw [Pc.g]; exact ec21
                        have hp22 := Pc.pl
                        refine OW_ev (Ev_mvi (.inr rfl) rfl) rfl ?_
                        refine OW_nil ?_
                        refine CW_seq ?_
                        refine CW_re [(3, .int _ _), (4, .string _), (5, .string _), (12, .bool _), (13, .pointer _), (15, .pointer _), (17, .pointer _), (19, .pointer _), (21, .int _ _), (22, .int _ _), (23, .int _ _)] ⟨rfl, rfl, rfl, rfl, rfl, rfl, rfl, rfl, rfl, rfl, rfl, trivial⟩ (fun g => ?_)
                        refine CW_reg rfl ?_
                        refine OW_ev (Ev_mvp (.inl rfl) rfl) rfl ?_
                        refine OW_st rfl (Stp_call ent_12 rfl rfl rfl (sync_c hS1 hA1 (fun h => (q1 _ h).2.1 rfl) (by omega)) ?_)
                        rintro _ w21 ⟨rfl, E21, HS_, HA_⟩
                        have Z21 := E21.size
                        have T := T.trans' E21 (fun i hi h => by have := (q1 i h).1; omega)
                        have hS2 := hS2.keep E21 (fun b hb h => dis b h hb)
                        have hA2 := hA2.keep E21 (fun h => (q1 _ h).2.2 rfl)
                        rw [if_neg (by simp [ec11.1])] at HS_
                        have hS1 := HS_
                        have hA1 := HA_
                        have Z21 := E21.size
                        have hbl : ba < (World.heap w21).size ∧ oa < (World.heap w21).size := ⟨by omega, by omega⟩
                        have hbl0 : NW ≤ (World.heap w21).size := by omega
                        obtain ⟨dk12, hdk12⟩ : ∃ x, x = dk11.flushed := ⟨_, rfl⟩
                        rw [← hdk12] at hS1
                        have ec12 : calm dk12.g := by rw [hdk12, flushed_g ec11]; exact ec11
                        have em12 : dk12.many = dk10.many := by rw [hdk12]; exact Pa.many
                        have es12 : dk12.size = s := by rw [hdk12]; exact Pa.size.trans es1
                        have eV12 : dk12.V = dk11.V := by rw [hdk12]; rfl
                        have el12 : dk12.last = dk11.V := by rw [hdk12]; rfl
                        refine OW_nil ?_
                        refine CW_seq ?_
                        refine CW_reg rfl ?_
                        refine OW_ev (Ev_mvp (.inl rfl) rfl) rfl ?_
                        refine OW_st rfl (Stp_call ent_12 rfl rfl rfl (sync_c hS2 hA2 (fun h => (q2 _ h).2.2 rfl) (by omega)) ?_)
                        rintro _ w22 ⟨rfl, E22, HS_, HA_⟩
                        have Z22 := E22.size
                        have T := T.trans' E22 (fun i hi h => by have := (q2 i h).1; omega)
                        have hS1 := hS1.keep E22 (fun b hb h => dis b hb h)
                        have hA1 := hA1.keep E22 (fun h => (q2 _ h).2.1 rfl)
                        rw [if_neg (by simp [ec22.1])] at HS_
                        have hS2 := HS_
                        have hA2 := HA_
                        have Z22 := E22.size
                        have hbl : ba < (World.heap w22).size ∧ oa < (World.heap w22).size := ⟨by omega, by omega⟩
                        have hbl0 : NW ≤ (World.heap w22).size := by omega
                        obtain ⟨dk23, hdk23⟩ : ∃ x, x = dk22.flushed := ⟨_, rfl⟩
                        rw [← hdk23] at hS2
                        have el23 : dk23.last = dk22.V := by rw [hdk23]; rfl
                        refine OW_nil ?_
                        refine CW_seq ?_
                        refine CW_seq ?_
                        refine CW_reg rfl ?_
                        refine OW_ev (Ev_mvi (.inl rfl) rfl) rfl ?_
                        refine OW_ev (Ev_neq rfl rfl rfl) rfl ?_
                        refine OW_nil ?_
                        refine CW_cond rfl (fun c23 => ?_) (fun c23 => ?_)
                        · have d23 := c23
                          first | (with_reducible replace d23 := of_decide_eq_true d23) | (with_reducible replace d23 := bnt d23; try (with_reducible replace d23 := of_decide_eq_false d23)) | skip
                          have hni : ¬ inside wd s (a : Int) ((m ++ c).length : Nat) := fun h => by have := (Pa.yes h).1; omega
                          refine CW_seq ?_
                          refine CW_reg rfl ?_
                          refine OW_st rfl (Stp_call ent_10 rfl rfl rfl (placed_c _) ?_)
                          rintro _ w24 ⟨E24, rfl⟩
                          have Z24 := E24.size
                          have T := T.keep0 E24
                          have hS1 := hS1.keep0 E24
                          have hA1 := hA1.keep0 E24
                          have hS2 := hS2.keep0 E24
                          have hA2 := hA2.keep0 E24
                          refine OW_ev (Ev_mvb (.inl rfl) rfl) rfl ?_
                          refine OW_split (d := .tmp 119) rfl (fun c25 => ?_) (fun c25 => ?_)
                          · have d25 := c25
                            first | (with_reducible replace d25 := of_decide_eq_true d25) | (with_reducible replace d25 := bnt d25; try (with_reducible replace d25 := of_decide_eq_false d25)) | skip
                            refine OW_yes rfl rfl rfl rfl c25 (Ev.stp (Ev_mvi (.inl rfl) rfl) ?_)
                            refine OW_yes rfl rfl rfl rfl c25 (Ev.stp (Ev_neq rfl rfl rfl) ?_)
                            refine OW_yes rfl rfl rfl rfl c25 (Ev.stp (Ev_mvb (.inl rfl) rfl) ?_)
                            refine OW_split (d := .tmp 122) rfl (fun c26 => ?_) (fun c26 => ?_)
                            · have d26 := c26
                              first | (with_reducible replace d26 := of_decide_eq_true d26) | (with_reducible replace d26 := bnt d26; try (with_reducible replace d26 := of_decide_eq_false d26)) | skip
                              refine OW_no rfl rfl rfl rfl c26 ?_
                              refine OW_no rfl rfl rfl rfl c26 ?_
                              refine OW_yes rfl rfl rfl rfl c25 (Ev.stp (Ev_pickb_t rfl rfl c26 rfl) ?_)
                              refine OW_ev (Ev_pickb_t rfl rfl c25 rfl) rfl ?_
                              refine OW_ev (Ev_mvb (.inr rfl) rfl) rfl ?_
                              refine OW_nil ?_
                              refine CW_ret ?_
                              refine ⟨rfl, _, (.tmp rfl .nil), ?_⟩
                              first | exact ⟨T, rfl⟩ | exact ⟨T, vb rfl (decide_eq_true hll)⟩ | exact ⟨T, vb rfl (decide_eq_true (by omega))⟩
                            · have d26 := c26
                              first | (with_reducible replace d26 := of_decide_eq_false d26) | (with_reducible replace d26 := bnf d26; try (with_reducible replace d26 := of_decide_eq_true d26)) | skip
                              have hz : e2 = 0 := by omega
                              have hin2 : inside wd s (a : Int) (m.length : Nat) := Classical.byContradiction fun h => by have := (Pb.no h).1; omega
                              have hni3 : ¬ inside wd s ((a : Int) + (m.length : Int)) (c.length : Nat) := fun h => hni (by unfold inside at h hin2 ⊢; rw [List.length_append]; omega)
                              have h6 := (Pc.no hni3).1
                              refine OW_yes rfl rfl rfl rfl c26 (Ev.stp (Ev_mvi (.inl rfl) rfl) ?_)
                              refine OW_yes rfl rfl rfl rfl c26 (Ev.stp (Ev_neq rfl rfl rfl) ?_)
                              refine OW_yes rfl rfl rfl rfl c25 (Ev.stp (Ev_pickb_f rfl rfl c26 rfl) ?_)
                              refine OW_ev (Ev_pickb_t rfl rfl c25 rfl) rfl ?_
                              refine OW_ev (Ev_mvb (.inr rfl) rfl) rfl ?_
                              refine OW_nil ?_
                              refine CW_ret ?_
                              refine ⟨rfl, _, (.tmp rfl .nil), ?_⟩
                              first | exact ⟨T, rfl⟩ | exact ⟨T, vb rfl (decide_eq_true hll)⟩ | exact ⟨T, vb rfl (decide_eq_true (by omega))⟩
                          · have d25 := c25
                            first | (with_reducible replace d25 := of_decide_eq_false d25) | (with_reducible replace d25 := bnf d25; try (with_reducible replace d25 := of_decide_eq_true d25)) | skip
                            cases c25
                        · have d23 := c23
                          first | (with_reducible replace d23 := of_decide_eq_false d23) | (with_reducible replace d23 := bnf d23; try (with_reducible replace d23 := of_decide_eq_true d23)) | skip
                          have hin : inside wd s (a : Int) ((m ++ c).length : Nat) := Classical.byContradiction fun h => by have := (Pa.no h).1; omega
                          obtain ⟨f1, eVa⟩ := Pa.yes hin
                          have hroom := inside_room (f := 0) (s := s) hin (show 0 + wd ≤ mn by omega)
                          unfold inside at hin
                          rw [List.length_append] at hin hroom
                          have hin2 : inside wd s (a : Int) (m.length : Nat) := by unfold inside; omega
                          have hin3 : inside wd s ((a : Int) + (m.length : Int)) (c.length : Nat) := by unfold inside; omega
                          obtain ⟨f2, eVb⟩ := Pb.yes hin2
                          obtain ⟨f3, eVc⟩ := Pc.yes hin3
                          subst f1; subst f2; subst f3
                          rw [Int.toNat_natCast] at eVa eVb hroom
                          rw [show ((a : Int) + (m.length : Int)).toNat = a + m.length by omega] at eVc
                          have hl0 : dk10.V.length = mn * s := by rw [eV1]; exact List.length_replicate
                          have hq : 0 * s + a + (m ++ c).length ≤ dk10.V.length := by rw [List.length_append, hl0]; omega
                          have hVV : dk22.V = dk11.V := by
                            rw [eVc, eVb, eVa, ← Nat.add_assoc, eV2, ← eV1]
                            exact putL_nextto (by rw [List.length_append] at hq; omega)
                          refine CW_skip ?_
                          refine CW_seq ?_
                          refine CW_reg rfl ?_
                          refine OW_ev (Ev_mvp (.inl rfl) rfl) rfl ?_
                          refine OW_ev (Ev_mvi (.inl rfl) rfl) rfl ?_
                          refine OW_ev (Ev_mvst (.inl rfl) rfl) rfl ?_
                          refine OW_ev (Ev_lenSt und_9 rfl rfl) rfl ?_
                          refine OW_st rfl (Stp_call ent_14 rfl rfl rfl (get2_c hS1 hA1 (fun h => (q1 _ h).2.1 rfl) es12 (by omega) ec12 (a : Int) (m.length : Int) (by omega) (fun q h => by omega)) ?_)
                          rintro _ w27 ⟨l27, er27, rfl, E27, HS_, HA_, gy27, gn27⟩
                          have Z27 := E27.size
                          have T := T.trans' E27 (fun i hi h => h.elim (fun h => by have := (q1 i h).1; omega) (fun h => by omega))
                          have hS2 := hS2.bound.keep E27 (fun b hb h => h.elim (fun h => dis b h hb.1) (fun h => (q2 b hb.1).2.1 h))
                          have hA2 := hA2.keep E27 (fun h => h.elim (fun h => (q1 _ h).2.2 rfl) (fun h => hoa h))
                          obtain ⟨P1, P2, hS1, hS2, dis, q1, q2⟩ := two_next HS_ hS2 dis q1 q2 hbl.1 hbl.2 hbl0
                          have Z27 := E27.size
                          have hbl : ba < (World.heap w27).size ∧ oa < (World.heap w27).size := ⟨by omega, by omega⟩
                          have hbl0 : NW ≤ (World.heap w27).size := by omega
                          have hA1 := HA_
                          obtain ⟨l1, rfl⟩ : ∃ x, x = l27 := ⟨_, rfl⟩
                          obtain ⟨g1, eL1⟩ := gy27 hin2
                          subst g1
                          rw [Int.toNat_natCast, Int.toNat_natCast, eV12, eVa] at eL1
                          refine OW_ev (Ev_mvt (.inl rfl) rfl) rfl ?_
                          refine OW_ev (Ev_extract (vs := _) rfl rfl rfl) rfl ?_
                          refine OW_ev (Ev_extract (vs := _) rfl rfl rfl) rfl ?_
                          refine OW_ev (Ev_mvst (.inr rfl) rfl) rfl ?_
                          refine OW_ev (Ev_mvi (.inr rfl) rfl) rfl ?_
                          refine OW_nil ?_
                          refine CW_seq ?_
                          refine CW_re [(3, .int _ _), (4, .string _), (5, .string _), (12, .bool _), (13, .pointer _), (15, .pointer _), (17, .pointer _), (22, .int _ _), (23, .int _ _), (24, .string _), (25, .int _ _)] ⟨rfl, rfl, rfl, rfl, rfl, rfl, rfl, rfl, rfl, rfl, rfl, trivial⟩ (fun g => ?_)
                          refine CW_reg rfl ?_
                          refine OW_ev (Ev_mvp (.inl rfl) rfl) rfl ?_
                          refine OW_ev (Ev_mvi (.inl rfl) rfl) rfl ?_
                          refine OW_ev (Ev_mvst (.inl rfl) rfl) rfl ?_
                          refine OW_ev (Ev_lenSt und_9 rfl rfl) rfl ?_
                          refine OW_ev (Ev_add rfl rfl rfl (by apply IntWalk.i64_in; omega)) rfl ?_
                          refine OW_ev (Ev_mvst (.inl rfl) rfl) rfl ?_
                          refine OW_ev (Ev_lenSt und_9 rfl rfl) rfl ?_
                          refine OW_st rfl (Stp_call ent_14 rfl rfl rfl (get2_c hS1 hA1 (fun h => (q1 _ h).2.1 rfl) es12 (by omega) ec12 ((a : Int) + (m.length : Int)) (c.length : Int) (by omega) (fun q h => by omega)) ?_)
                          rintro _ w28 ⟨l28, er28, rfl, E28, HS_, HA_, gy28, gn28⟩
                          have Z28 := E28.size
                          have T := T.trans' E28 (fun i hi h => h.elim (fun h => by have := (q1 i h).1; omega) (fun h => by omega))
                          have hS2 := hS2.bound.keep E28 (fun b hb h => h.elim (fun h => dis b h hb.1) (fun h => (q2 b hb.1).2.1 h))
                          have hA2 := hA2.keep E28 (fun h => h.elim (fun h => (q1 _ h).2.2 rfl) (fun h => hoa h))
                          obtain ⟨P1, P2, hS1, hS2, dis, q1, q2⟩ := two_next HS_ hS2 dis q1 q2 hbl.1 hbl.2 hbl0
                          have Z28 := E28.size
                          have hbl : ba < (World.heap w28).size ∧ oa < (World.heap w28).size := ⟨by omega, by omega⟩
                          have hbl0 : NW ≤ (World.heap w28).size := by omega
                          have hA1 := HA_
                          obtain ⟨l2, rfl⟩ : ∃ x, x = l28 := ⟨_, rfl⟩
                          obtain ⟨g2, eL2⟩ := gy28 hin3
                          subst g2
                          rw [show ((a : Int) + (m.length : Int)).toNat = a + m.length by omega, Int.toNat_natCast, eV12, eVa] at eL2
                          have hll : l1 ++ l2 = m ++ c := by rw [eL1, eL2, ← Nat.add_assoc]; exact join_take hq
                          refine OW_ev (Ev_mvt (.inl rfl) rfl) rfl ?_
                          refine OW_ev (Ev_extract (vs := _) rfl rfl rfl) rfl ?_
                          refine OW_ev (Ev_extract (vs := _) rfl rfl rfl) rfl ?_
                          refine OW_ev (Ev_mvst (.inr rfl) rfl) rfl ?_
                          refine OW_ev (Ev_mvi (.inr rfl) rfl) rfl ?_
                          refine OW_nil ?_
                          refine CW_seq ?_
                          refine CW_re [(4, .string _), (5, .string _), (12, .bool _), (13, .pointer _), (15, .pointer _), (22, .int _ _), (23, .int _ _), (24, .string _), (25, .int _ _), (26, .string _), (27, .int _ _)] ⟨rfl, rfl, rfl, rfl, rfl, rfl, rfl, rfl, rfl, rfl, rfl, trivial⟩ (fun g => ?_)
                          refine CW_reg rfl ?_
                          refine OW_st rfl (Stp_call ent_10 rfl rfl rfl (placed_c _) ?_)
                          rintro _ w29 ⟨E29, rfl⟩
                          have Z29 := E29.size
                          have T := T.keep0 E29
                          have hS2 := hS2.keep0 E29
                          have hA2 := hA2.keep0 E29
                          have hS1 := hS1.keep0 E29
                          have hA1 := hA1.keep0 E29
                          refine OW_ev (Ev_mvb (.inl rfl) rfl) rfl ?_
                          refine OW_split (d := .tmp 147) rfl (fun c30 => ?_) (fun c30 => ?_)
                          · have d30 := c30
                            first | (with_reducible replace d30 := of_decide_eq_true d30) | (with_reducible replace d30 := bnt d30; try (with_reducible replace d30 := of_decide_eq_false d30)) | skip
                            refine OW_yes rfl rfl rfl rfl c30 (Ev.stp (Ev_mvi (.inl rfl) rfl) ?_)
                            refine OW_yes rfl rfl rfl rfl c30 (Ev.stp (Ev_eql rfl rfl rfl) ?_)
                            refine OW_ev (Ev_pickb_t rfl rfl c30 rfl) rfl ?_
                            refine OW_ev (Ev_mvb (.inl rfl) rfl) rfl ?_
                            refine OW_split (d := .tmp 151) rfl (fun c31 => ?_) (fun c31 => ?_)
                            · have d31 := c31
                              first | (with_reducible replace d31 := of_decide_eq_true d31) | (with_reducible replace d31 := bnt d31; try (with_reducible replace d31 := of_decide_eq_false d31)) | skip
                              refine OW_yes rfl rfl rfl rfl c31 (Ev.stp (Ev_mvi (.inl rfl) rfl) ?_)
                              refine OW_yes rfl rfl rfl rfl c31 (Ev.stp (Ev_eql rfl rfl rfl) ?_)
                              refine OW_ev (Ev_pickb_t rfl rfl c31 rfl) rfl ?_
                              refine OW_ev (Ev_mvb (.inl rfl) rfl) rfl ?_
                              refine OW_split (d := .tmp 155) rfl (fun c32 => ?_) (fun c32 => ?_)
                              · have d32 := c32
                                first | (with_reducible replace d32 := of_decide_eq_true d32) | (with_reducible replace d32 := bnt d32; try (with_reducible replace d32 := of_decide_eq_false d32)) | skip
                                refine OW_yes rfl rfl rfl rfl c32 (Ev.stp (Ev_mvp (.inl rfl) rfl) ?_)
                                refine OW_yes rfl rfl rfl rfl c32 (Stp_call ent_13 rfl rfl rfl (image_c hS1) ?_)
                                rintro _ w33 ⟨E33, rfl⟩
                                have Z33 := E33.size
                                have T := T.keep0 E33
                                have hS2 := hS2.keep0 E33
                                have hA2 := hA2.keep0 E33
                                have hS1 := hS1.keep0 E33
                                have hA1 := hA1.keep0 E33
                                refine OW_yes rfl rfl rfl rfl c32 (Ev.stp (Ev_mvp (.inl rfl) rfl) ?_)
                                refine OW_yes rfl rfl rfl rfl c32 (Stp_call ent_13 rfl rfl rfl (image_c hS2) ?_)
                                rintro _ w34 ⟨E34, rfl⟩
                                have Z34 := E34.size
                                have T := T.keep0 E34
                                have hS2 := hS2.keep0 E34
                                have hA2 := hA2.keep0 E34
                                have hS1 := hS1.keep0 E34
                                have hA1 := hA1.keep0 E34
                                refine OW_yes rfl rfl rfl rfl c32 (Ev.stp (Ev_strEql rfl rfl rfl) ?_)
                                refine OW_ev (Ev_pickb_t rfl rfl c32 rfl) rfl ?_
                                refine OW_ev (Ev_mvb (.inl rfl) rfl) rfl ?_
                                refine OW_split (d := .tmp 162) rfl (fun c35 => ?_) (fun c35 => ?_)
                                · have d35 := c35
                                  first | (with_reducible replace d35 := of_decide_eq_true d35) | (with_reducible replace d35 := bnt d35; try (with_reducible replace d35 := of_decide_eq_false d35)) | skip
                                  refine OW_yes rfl rfl rfl rfl c35 (Ev.stp (Ev_mvi (.inl rfl) rfl) ?_)
                                  refine OW_yes rfl rfl rfl rfl c35 (Ev.stp (Ev_eql rfl rfl rfl) ?_)
                                  refine OW_ev (Ev_pickb_t rfl rfl c35 rfl) rfl ?_
                                  refine OW_ev (Ev_mvb (.inl rfl) rfl) rfl ?_
                                  refine OW_split (d := .tmp 166) rfl (fun c36 => ?_) (fun c36 => ?_)
                                  · have d36 := c36
                                    first | (with_reducible replace d36 := of_decide_eq_true d36) | (with_reducible replace d36 := bnt d36; try (with_reducible replace d36 := of_decide_eq_false d36)) | skip
                                    refine OW_yes rfl rfl rfl rfl c36 (Ev.stp (Ev_mvi (.inl rfl) rfl) ?_)
                                    refine OW_yes rfl rfl rfl rfl c36 (Ev.stp (Ev_eql rfl rfl rfl) ?_)
                                    refine OW_ev (Ev_pickb_t rfl rfl c36 rfl) rfl ?_
                                    refine OW_ev (Ev_mvb (.inl rfl) rfl) rfl ?_
                                    refine OW_split (d := .tmp 170) rfl (fun c37 => ?_) (fun c37 => ?_)
                                    · have d37 := c37
                                      first | (with_reducible replace d37 := of_decide_eq_true d37) | (with_reducible replace d37 := bnt d37; try (with_reducible replace d37 := of_decide_eq_false d37)) | skip
                                      refine OW_yes rfl rfl rfl rfl c37 (Ev.stp (Ev_mvst (.inl rfl) rfl) ?_)
                                      refine OW_yes rfl rfl rfl rfl c37 (Ev.stp (Ev_mvst (.inl rfl) rfl) ?_)
                                      refine OW_yes rfl rfl rfl rfl c37 (Ev.stp (Ev_strAdd rfl rfl rfl (by have := congrArg List.length hll; simp only [List.length_append] at this; omega)) ?_)
                                      refine OW_yes rfl rfl rfl rfl c37 (Ev.stp (Ev_mvst (.inl rfl) rfl) ?_)
                                      refine OW_yes rfl rfl rfl rfl c37 (Ev.stp (Ev_mvst (.inl rfl) rfl) ?_)
                                      refine OW_yes rfl rfl rfl rfl c37 (Ev.stp (Ev_strAdd rfl rfl rfl (by omega)) ?_)
                                      refine OW_yes rfl rfl rfl rfl c37 (Ev.stp (Ev_strEql rfl rfl rfl) ?_)
                                      refine OW_ev (Ev_pickb_t rfl rfl c37 rfl) rfl ?_
                                      refine OW_ev (Ev_mvb (.inr rfl) rfl) rfl ?_
                                      refine OW_nil ?_
                                      refine CW_ret ?_
                                      refine ⟨rfl, _, (.tmp rfl .nil), ?_⟩
                                      first | exact ⟨T, rfl⟩ | exact ⟨T, vb rfl (decide_eq_true hll)⟩ | exact ⟨T, vb rfl (decide_eq_true (by omega))⟩
                                    · have d37 := c37
                                      first | (with_reducible replace d37 := of_decide_eq_false d37) | (with_reducible replace d37 := bnf d37; try (with_reducible replace d37 := of_decide_eq_true d37)) | skip
                                      exact absurd rfl d37
                                  · have d36 := c36
                                    first | (with_reducible replace d36 := of_decide_eq_false d36) | (with_reducible replace d36 := bnf d36; try (with_reducible replace d36 := of_decide_eq_true d36)) | skip
                                    exact absurd rfl d36
                                · have d35 := c35
                                  first | (with_reducible replace d35 := of_decide_eq_false d35) | (with_reducible replace d35 := bnf d35; try (with_reducible replace d35 := of_decide_eq_true d35)) | skip
                                  exact absurd (by rw [el12, el23, hVV]) d35
                              · have d32 := c32
                                first | (with_reducible replace d32 := of_decide_eq_false d32) | (with_reducible replace d32 := bnf d32; try (with_reducible replace d32 := of_decide_eq_true d32)) | skip
                                exact absurd rfl d32
                            · have d31 := c31
                              first | (with_reducible replace d31 := of_decide_eq_false d31) | (with_reducible replace d31 := bnf d31; try (with_reducible replace d31 := of_decide_eq_true d31)) | skip
                              exact absurd rfl d31
                          · have d30 := c30
                            first | (with_reducible replace d30 := of_decide_eq_false d30) | (with_reducible replace d30 := bnf d30; try (with_reducible replace d30 := of_decide_eq_true d30)) | skip
                            cases c30

theorem joins_c {w : World} {many size wide at_ : Int} {m c : List UInt8} : Calls Try.prog 4 #[.int .i64 many, .int .i64 size, .int .i64 wide, .int .i64 at_, St m, St c] w (Ret fun v w' => Kp0 w w' ∧ v = .bool true) := by
  by_cases h : newOk many size
  · obtain ⟨mn, rfl⟩ : ∃ n : Nat, many = (n : Int) := ⟨many.toNat, by unfold newOk at h; omega⟩
    obtain ⟨s, rfl⟩ : ∃ n : Nat, size = (n : Int) := ⟨size.toNat, by unfold newOk at h; omega⟩
    by_cases hf : 1 ≤ wide ∧ wide ≤ (mn : Int) ∧ (0 : Int) ≤ 0 ∧ 0 + wide ≤ (mn : Int)
    · obtain ⟨wd, rfl⟩ : ∃ n : Nat, wide = (n : Int) := ⟨wide.toNat, by omega⟩
      exact joins_ok h (fun _ _ => hf)
    · exact joins_bad2 h (fun _ _ => hf)
  · exact joins_bad1 h

end Go.Proofs.Ythfelkjklnhdiaa